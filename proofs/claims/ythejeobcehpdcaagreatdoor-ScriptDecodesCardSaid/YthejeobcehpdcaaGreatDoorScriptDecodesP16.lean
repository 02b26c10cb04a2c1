/- A part of a proof: what functions of the program compute, and plain facts on that. -/
import Derived.Test.YthejeobcehpdcaaGreatDoorScriptDecodesP15
import Derived.KernelRfl
import Derived.Test.YthejeobcehpdcaaGreatDoorProg
set_option linter.unusedVariables false
set_option linter.unusedSectionVars false
set_option linter.unusedSimpArgs false
namespace Go.Proofs
open Go Go.Vx Go.RowKit
namespace Tt
set_option maxRecDepth 20000 in
theorem EL_26 : El Tryz.prog 26 39 47 208 := ⟨Tryz.underlying26, _, _, Tryz.type39, rfl, rfl, rfl, rfl, by decide⟩
theorem EN_18 : En Tryz.prog 18 := Tryz.call18
theorem EN_19 : En Tryz.prog 19 := Tryz.call19
theorem UD_26 : Ud Tryz.prog 26 (.slice 39) := Tryz.runUnderlying26
end Tt
end Go.Proofs
namespace Go.Proofs
open Go Go.Vx Go.RowKit
namespace Tt
theorem EN_11 : En Tryz.prog 11 := Tryz.call11
theorem EN_9 : En Tryz.prog 9 := Tryz.call9
end Tt
end Go.Proofs
namespace Go.Proofs
open Go Go.Vx Go.RowKit
namespace Tt
set_option maxRecDepth 20000 in
set_option maxHeartbeats 4000000 in
theorem ours23_ok (w : World) (x : Stp) : Calls Tryz.prog 13 #[.agg (stp x).toArray] w (fun e w' => e = .returned (.agg (stp x).toArray) ∧ Own w no w' []) := by
  refine calls_of_Wn (n := 4) Tryz.func13 rfl Tryz.ntmps13 rfl ?_
  have hs := Own.start w
  refine W_seq ?_
  refine W_region ?_
  refine RW_op (L_box (V := .agg (stp x).toArray) (cs := stp x) rfl rfl hs fun b1 w2 hs => ?_)
  refine RW_op (L_alloc (cs := stp stpz) ZV_39 rfl hs fun b3 w4 hs => ?_)
  refine RW_nil ?_
  refine W_seq ?_
  refine W_region ?_
  refine RW_op (L_ldW (cs := stp x) SA_41 hs 0 rfl rfl rfl ?_)
  refine RW_op (L_st (V := .agg (stp x).toArray) (vs := stp x) (cs' := stp x) SA_39.1 hs 1 rfl rfl rfl rfl rfl (Nat.le_of_ble_eq_true rfl) (stp_one _) (spl_whole rfl) fun w5 hs => ?_)
  refine RW_nil ?_
  refine W_ret ?_
  refine ⟨_, res_cell (cs := stp x) Tryz.results13 SA_39 hs 1 rfl rfl rfl, ?_⟩
  refine Zr hs ?_
  rfl
set_option maxRecDepth 20000 in
set_option maxHeartbeats 4000000 in
theorem same23_ok (w : World) (x y : Stp) (hx : RdX w (.slice x.a x.c.cuts.length x.n) 1 (x.c.cuts.map (ic .u8))) (hy : RdX w (.slice y.a y.c.cuts.length y.n) 1 (y.c.cuts.map (ic .u8))) : Calls Tryz.prog 12 #[.agg (stp x).toArray, .agg (stp y).toArray] w (fun e w' => e = .returned (.bool (sameC x.c y.c)) ∧ Own w no w' []) := by
  refine calls_of_Wn (n := 75) Tryz.func12 rfl Tryz.ntmps12 rfl ?_
  have hs := Own.start w
  refine W_seq ?_
  refine W_region ?_
  refine RW_op (L_box (V := .agg (stp x).toArray) (cs := stp x) rfl rfl hs fun b1 w2 hs => ?_)
  refine RW_op (L_box (V := .agg (stp y).toArray) (cs := stp y) rfl rfl hs fun b3 w4 hs => ?_)
  refine RW_op (L_as (.bool false) ?_)
  refine RW_nil ?_
  refine W_seq ?_
  refine W_regO (so 5 70 ++ [some 4]) [] [0, 1, 0, 4, 15, 31, 63, 127, 63, 319, 1023, 2047, 4095, 8191, 16383, 8191, 40959, 131071, 262143, 524287, 1048575, 2097151, 1048575, 5242879, 16777215, 33554431, 67108863, 134217727, 268435455, 134217727, 671088639, 2147483647, 4294967295, 8589934591, 17179869183, 34359738367, 17179869183, 85899345919, 274877906943, 549755813887, 1099511627775, 2199023255551, 4398046511103, 2199023255551, 10995116277759, 35184372088831, 70368744177663, 140737488355327, 281474976710655, 562949953421311, 281474976710655, 1407374883553279, 4503599627370495, 9007199254740991, 18014398509481983, 36028797018963967, 72057594037927935, 36028797018963967, 180143985094819839, 576460752303423487, 1152921504606846975, 2305843009213693951, 4611686018427387903, 9223372036854775807, 18446744073709551615, 4611686018427387903, 41505174165846491135, 115292150460684697599, 295147905179352825855, 590295810358705651711, 1180591620717411303423] [pv (.pointer (some ⟨b1, 0 + 0, none⟩)), pv (.int .i64 x.c.what), pv (.pointer (some ⟨b3, 0 + 0, none⟩)), pv (.int .i64 y.c.what), pv (.bool (decide (x.c.what = y.c.what))), pv (.bool (decide (x.c.what = y.c.what))), pg ((decide (x.c.what = y.c.what)) == true) (.pointer (some ⟨b1, 0 + 1, none⟩)), pg ((decide (x.c.what = y.c.what)) == true) (.int .u8 x.c.a), pg ((decide (x.c.what = y.c.what)) == true) (.pointer (some ⟨b3, 0 + 1, none⟩)), pg ((decide (x.c.what = y.c.what)) == true) (.int .u8 y.c.a), pg ((decide (x.c.what = y.c.what)) == true) (.bool (decide (x.c.a = y.c.a))), pv (.bool ((decide (x.c.what = y.c.what)) && (decide (x.c.a = y.c.a)))), pv (.bool ((decide (x.c.what = y.c.what)) && (decide (x.c.a = y.c.a)))), pg (((decide (x.c.what = y.c.what)) && (decide (x.c.a = y.c.a))) == true) (.pointer (some ⟨b1, 0 + 2, none⟩)), pg (((decide (x.c.what = y.c.what)) && (decide (x.c.a = y.c.a))) == true) (.int .u8 x.c.b), pg (((decide (x.c.what = y.c.what)) && (decide (x.c.a = y.c.a))) == true) (.pointer (some ⟨b3, 0 + 2, none⟩)), pg (((decide (x.c.what = y.c.what)) && (decide (x.c.a = y.c.a))) == true) (.int .u8 y.c.b), pg (((decide (x.c.what = y.c.what)) && (decide (x.c.a = y.c.a))) == true) (.bool (decide (x.c.b = y.c.b))), pv (.bool (((decide (x.c.what = y.c.what)) && (decide (x.c.a = y.c.a))) && (decide (x.c.b = y.c.b)))), pv (.bool (((decide (x.c.what = y.c.what)) && (decide (x.c.a = y.c.a))) && (decide (x.c.b = y.c.b)))), pg ((((decide (x.c.what = y.c.what)) && (decide (x.c.a = y.c.a))) && (decide (x.c.b = y.c.b))) == true) (.pointer (some ⟨b1, 0 + 3, none⟩)), pg ((((decide (x.c.what = y.c.what)) && (decide (x.c.a = y.c.a))) && (decide (x.c.b = y.c.b))) == true) (.int .i64 x.c.n), pg ((((decide (x.c.what = y.c.what)) && (decide (x.c.a = y.c.a))) && (decide (x.c.b = y.c.b))) == true) (.pointer (some ⟨b3, 0 + 3, none⟩)), pg ((((decide (x.c.what = y.c.what)) && (decide (x.c.a = y.c.a))) && (decide (x.c.b = y.c.b))) == true) (.int .i64 y.c.n), pg ((((decide (x.c.what = y.c.what)) && (decide (x.c.a = y.c.a))) && (decide (x.c.b = y.c.b))) == true) (.bool (decide (x.c.n = y.c.n))), pv (.bool ((((decide (x.c.what = y.c.what)) && (decide (x.c.a = y.c.a))) && (decide (x.c.b = y.c.b))) && (decide (x.c.n = y.c.n)))), pv (.bool ((((decide (x.c.what = y.c.what)) && (decide (x.c.a = y.c.a))) && (decide (x.c.b = y.c.b))) && (decide (x.c.n = y.c.n)))), pg (((((decide (x.c.what = y.c.what)) && (decide (x.c.a = y.c.a))) && (decide (x.c.b = y.c.b))) && (decide (x.c.n = y.c.n))) == true) (.pointer (some ⟨b1, 0 + 4, none⟩)), pg (((((decide (x.c.what = y.c.what)) && (decide (x.c.a = y.c.a))) && (decide (x.c.b = y.c.b))) && (decide (x.c.n = y.c.n))) == true) (.int .i64 x.c.kind), pg (((((decide (x.c.what = y.c.what)) && (decide (x.c.a = y.c.a))) && (decide (x.c.b = y.c.b))) && (decide (x.c.n = y.c.n))) == true) (.pointer (some ⟨b3, 0 + 4, none⟩)), pg (((((decide (x.c.what = y.c.what)) && (decide (x.c.a = y.c.a))) && (decide (x.c.b = y.c.b))) && (decide (x.c.n = y.c.n))) == true) (.int .i64 y.c.kind), pg (((((decide (x.c.what = y.c.what)) && (decide (x.c.a = y.c.a))) && (decide (x.c.b = y.c.b))) && (decide (x.c.n = y.c.n))) == true) (.bool (decide (x.c.kind = y.c.kind))), pv (.bool (((((decide (x.c.what = y.c.what)) && (decide (x.c.a = y.c.a))) && (decide (x.c.b = y.c.b))) && (decide (x.c.n = y.c.n))) && (decide (x.c.kind = y.c.kind)))), pv (.bool (((((decide (x.c.what = y.c.what)) && (decide (x.c.a = y.c.a))) && (decide (x.c.b = y.c.b))) && (decide (x.c.n = y.c.n))) && (decide (x.c.kind = y.c.kind)))), pg ((((((decide (x.c.what = y.c.what)) && (decide (x.c.a = y.c.a))) && (decide (x.c.b = y.c.b))) && (decide (x.c.n = y.c.n))) && (decide (x.c.kind = y.c.kind))) == true) (.pointer (some ⟨b1, 0 + 5, none⟩)), pg ((((((decide (x.c.what = y.c.what)) && (decide (x.c.a = y.c.a))) && (decide (x.c.b = y.c.b))) && (decide (x.c.n = y.c.n))) && (decide (x.c.kind = y.c.kind))) == true) (.int .u16 x.c.at_), pg ((((((decide (x.c.what = y.c.what)) && (decide (x.c.a = y.c.a))) && (decide (x.c.b = y.c.b))) && (decide (x.c.n = y.c.n))) && (decide (x.c.kind = y.c.kind))) == true) (.pointer (some ⟨b3, 0 + 5, none⟩)), pg ((((((decide (x.c.what = y.c.what)) && (decide (x.c.a = y.c.a))) && (decide (x.c.b = y.c.b))) && (decide (x.c.n = y.c.n))) && (decide (x.c.kind = y.c.kind))) == true) (.int .u16 y.c.at_), pg ((((((decide (x.c.what = y.c.what)) && (decide (x.c.a = y.c.a))) && (decide (x.c.b = y.c.b))) && (decide (x.c.n = y.c.n))) && (decide (x.c.kind = y.c.kind))) == true) (.bool (decide (x.c.at_ = y.c.at_))), pv (.bool ((((((decide (x.c.what = y.c.what)) && (decide (x.c.a = y.c.a))) && (decide (x.c.b = y.c.b))) && (decide (x.c.n = y.c.n))) && (decide (x.c.kind = y.c.kind))) && (decide (x.c.at_ = y.c.at_)))), pv (.bool ((((((decide (x.c.what = y.c.what)) && (decide (x.c.a = y.c.a))) && (decide (x.c.b = y.c.b))) && (decide (x.c.n = y.c.n))) && (decide (x.c.kind = y.c.kind))) && (decide (x.c.at_ = y.c.at_)))), pg (((((((decide (x.c.what = y.c.what)) && (decide (x.c.a = y.c.a))) && (decide (x.c.b = y.c.b))) && (decide (x.c.n = y.c.n))) && (decide (x.c.kind = y.c.kind))) && (decide (x.c.at_ = y.c.at_))) == true) (.pointer (some ⟨b1, 0 + 6, none⟩)), pg (((((((decide (x.c.what = y.c.what)) && (decide (x.c.a = y.c.a))) && (decide (x.c.b = y.c.b))) && (decide (x.c.n = y.c.n))) && (decide (x.c.kind = y.c.kind))) && (decide (x.c.at_ = y.c.at_))) == true) (.int .u8 x.c.by_), pg (((((((decide (x.c.what = y.c.what)) && (decide (x.c.a = y.c.a))) && (decide (x.c.b = y.c.b))) && (decide (x.c.n = y.c.n))) && (decide (x.c.kind = y.c.kind))) && (decide (x.c.at_ = y.c.at_))) == true) (.pointer (some ⟨b3, 0 + 6, none⟩)), pg (((((((decide (x.c.what = y.c.what)) && (decide (x.c.a = y.c.a))) && (decide (x.c.b = y.c.b))) && (decide (x.c.n = y.c.n))) && (decide (x.c.kind = y.c.kind))) && (decide (x.c.at_ = y.c.at_))) == true) (.int .u8 y.c.by_), pg (((((((decide (x.c.what = y.c.what)) && (decide (x.c.a = y.c.a))) && (decide (x.c.b = y.c.b))) && (decide (x.c.n = y.c.n))) && (decide (x.c.kind = y.c.kind))) && (decide (x.c.at_ = y.c.at_))) == true) (.bool (decide (x.c.by_ = y.c.by_))), pv (.bool (((((((decide (x.c.what = y.c.what)) && (decide (x.c.a = y.c.a))) && (decide (x.c.b = y.c.b))) && (decide (x.c.n = y.c.n))) && (decide (x.c.kind = y.c.kind))) && (decide (x.c.at_ = y.c.at_))) && (decide (x.c.by_ = y.c.by_)))), pv (.bool (((((((decide (x.c.what = y.c.what)) && (decide (x.c.a = y.c.a))) && (decide (x.c.b = y.c.b))) && (decide (x.c.n = y.c.n))) && (decide (x.c.kind = y.c.kind))) && (decide (x.c.at_ = y.c.at_))) && (decide (x.c.by_ = y.c.by_)))), pg ((((((((decide (x.c.what = y.c.what)) && (decide (x.c.a = y.c.a))) && (decide (x.c.b = y.c.b))) && (decide (x.c.n = y.c.n))) && (decide (x.c.kind = y.c.kind))) && (decide (x.c.at_ = y.c.at_))) && (decide (x.c.by_ = y.c.by_))) == true) (.pointer (some ⟨b1, 0 + 7, none⟩)), pg ((((((((decide (x.c.what = y.c.what)) && (decide (x.c.a = y.c.a))) && (decide (x.c.b = y.c.b))) && (decide (x.c.n = y.c.n))) && (decide (x.c.kind = y.c.kind))) && (decide (x.c.at_ = y.c.at_))) && (decide (x.c.by_ = y.c.by_))) == true) (.agg (oc x.c.op).toArray), pg ((((((((decide (x.c.what = y.c.what)) && (decide (x.c.a = y.c.a))) && (decide (x.c.b = y.c.b))) && (decide (x.c.n = y.c.n))) && (decide (x.c.kind = y.c.kind))) && (decide (x.c.at_ = y.c.at_))) && (decide (x.c.by_ = y.c.by_))) == true) (.pointer (some ⟨b3, 0 + 7, none⟩)), pg ((((((((decide (x.c.what = y.c.what)) && (decide (x.c.a = y.c.a))) && (decide (x.c.b = y.c.b))) && (decide (x.c.n = y.c.n))) && (decide (x.c.kind = y.c.kind))) && (decide (x.c.at_ = y.c.at_))) && (decide (x.c.by_ = y.c.by_))) == true) (.agg (oc y.c.op).toArray), pg ((((((((decide (x.c.what = y.c.what)) && (decide (x.c.a = y.c.a))) && (decide (x.c.b = y.c.b))) && (decide (x.c.n = y.c.n))) && (decide (x.c.kind = y.c.kind))) && (decide (x.c.at_ = y.c.at_))) && (decide (x.c.by_ = y.c.by_))) == true) (.bool (decide (x.c.op = y.c.op))), pv (.bool ((((((((decide (x.c.what = y.c.what)) && (decide (x.c.a = y.c.a))) && (decide (x.c.b = y.c.b))) && (decide (x.c.n = y.c.n))) && (decide (x.c.kind = y.c.kind))) && (decide (x.c.at_ = y.c.at_))) && (decide (x.c.by_ = y.c.by_))) && (decide (x.c.op = y.c.op)))), pv (.bool ((((((((decide (x.c.what = y.c.what)) && (decide (x.c.a = y.c.a))) && (decide (x.c.b = y.c.b))) && (decide (x.c.n = y.c.n))) && (decide (x.c.kind = y.c.kind))) && (decide (x.c.at_ = y.c.at_))) && (decide (x.c.by_ = y.c.by_))) && (decide (x.c.op = y.c.op)))), pg (((((((((decide (x.c.what = y.c.what)) && (decide (x.c.a = y.c.a))) && (decide (x.c.b = y.c.b))) && (decide (x.c.n = y.c.n))) && (decide (x.c.kind = y.c.kind))) && (decide (x.c.at_ = y.c.at_))) && (decide (x.c.by_ = y.c.by_))) && (decide (x.c.op = y.c.op))) == true) (.pointer (some ⟨b1, 0 + 30, none⟩)), pg (((((((((decide (x.c.what = y.c.what)) && (decide (x.c.a = y.c.a))) && (decide (x.c.b = y.c.b))) && (decide (x.c.n = y.c.n))) && (decide (x.c.kind = y.c.kind))) && (decide (x.c.at_ = y.c.at_))) && (decide (x.c.by_ = y.c.by_))) && (decide (x.c.op = y.c.op))) == true) (.agg (vc x.c.vec).toArray), pg (((((((((decide (x.c.what = y.c.what)) && (decide (x.c.a = y.c.a))) && (decide (x.c.b = y.c.b))) && (decide (x.c.n = y.c.n))) && (decide (x.c.kind = y.c.kind))) && (decide (x.c.at_ = y.c.at_))) && (decide (x.c.by_ = y.c.by_))) && (decide (x.c.op = y.c.op))) == true) (.pointer (some ⟨b3, 0 + 30, none⟩)), pg (((((((((decide (x.c.what = y.c.what)) && (decide (x.c.a = y.c.a))) && (decide (x.c.b = y.c.b))) && (decide (x.c.n = y.c.n))) && (decide (x.c.kind = y.c.kind))) && (decide (x.c.at_ = y.c.at_))) && (decide (x.c.by_ = y.c.by_))) && (decide (x.c.op = y.c.op))) == true) (.agg (vc y.c.vec).toArray), pg (((((((((decide (x.c.what = y.c.what)) && (decide (x.c.a = y.c.a))) && (decide (x.c.b = y.c.b))) && (decide (x.c.n = y.c.n))) && (decide (x.c.kind = y.c.kind))) && (decide (x.c.at_ = y.c.at_))) && (decide (x.c.by_ = y.c.by_))) && (decide (x.c.op = y.c.op))) == true) (.bool (decide (x.c.vec = y.c.vec))), pv (.bool (((((((((decide (x.c.what = y.c.what)) && (decide (x.c.a = y.c.a))) && (decide (x.c.b = y.c.b))) && (decide (x.c.n = y.c.n))) && (decide (x.c.kind = y.c.kind))) && (decide (x.c.at_ = y.c.at_))) && (decide (x.c.by_ = y.c.by_))) && (decide (x.c.op = y.c.op))) && (decide (x.c.vec = y.c.vec)))), pv (.bool (((((((((decide (x.c.what = y.c.what)) && (decide (x.c.a = y.c.a))) && (decide (x.c.b = y.c.b))) && (decide (x.c.n = y.c.n))) && (decide (x.c.kind = y.c.kind))) && (decide (x.c.at_ = y.c.at_))) && (decide (x.c.by_ = y.c.by_))) && (decide (x.c.op = y.c.op))) && (decide (x.c.vec = y.c.vec)))), pg ((((((((((decide (x.c.what = y.c.what)) && (decide (x.c.a = y.c.a))) && (decide (x.c.b = y.c.b))) && (decide (x.c.n = y.c.n))) && (decide (x.c.kind = y.c.kind))) && (decide (x.c.at_ = y.c.at_))) && (decide (x.c.by_ = y.c.by_))) && (decide (x.c.op = y.c.op))) && (decide (x.c.vec = y.c.vec))) == true) (.pointer (some ⟨b1, 0 + 46, none⟩)), pg ((((((((((decide (x.c.what = y.c.what)) && (decide (x.c.a = y.c.a))) && (decide (x.c.b = y.c.b))) && (decide (x.c.n = y.c.n))) && (decide (x.c.kind = y.c.kind))) && (decide (x.c.at_ = y.c.at_))) && (decide (x.c.by_ = y.c.by_))) && (decide (x.c.op = y.c.op))) && (decide (x.c.vec = y.c.vec))) == true) (.slice x.a x.c.cuts.length x.n), pg ((((((((((decide (x.c.what = y.c.what)) && (decide (x.c.a = y.c.a))) && (decide (x.c.b = y.c.b))) && (decide (x.c.n = y.c.n))) && (decide (x.c.kind = y.c.kind))) && (decide (x.c.at_ = y.c.at_))) && (decide (x.c.by_ = y.c.by_))) && (decide (x.c.op = y.c.op))) && (decide (x.c.vec = y.c.vec))) == true) (sv (sOf x.c.cuts)), pg ((((((((((decide (x.c.what = y.c.what)) && (decide (x.c.a = y.c.a))) && (decide (x.c.b = y.c.b))) && (decide (x.c.n = y.c.n))) && (decide (x.c.kind = y.c.kind))) && (decide (x.c.at_ = y.c.at_))) && (decide (x.c.by_ = y.c.by_))) && (decide (x.c.op = y.c.op))) && (decide (x.c.vec = y.c.vec))) == true) (.pointer (some ⟨b3, 0 + 46, none⟩)), pg ((((((((((decide (x.c.what = y.c.what)) && (decide (x.c.a = y.c.a))) && (decide (x.c.b = y.c.b))) && (decide (x.c.n = y.c.n))) && (decide (x.c.kind = y.c.kind))) && (decide (x.c.at_ = y.c.at_))) && (decide (x.c.by_ = y.c.by_))) && (decide (x.c.op = y.c.op))) && (decide (x.c.vec = y.c.vec))) == true) (.slice y.a y.c.cuts.length y.n), pg ((((((((((decide (x.c.what = y.c.what)) && (decide (x.c.a = y.c.a))) && (decide (x.c.b = y.c.b))) && (decide (x.c.n = y.c.n))) && (decide (x.c.kind = y.c.kind))) && (decide (x.c.at_ = y.c.at_))) && (decide (x.c.by_ = y.c.by_))) && (decide (x.c.op = y.c.op))) && (decide (x.c.vec = y.c.vec))) == true) (sv (sOf y.c.cuts)), pg ((((((((((decide (x.c.what = y.c.what)) && (decide (x.c.a = y.c.a))) && (decide (x.c.b = y.c.b))) && (decide (x.c.n = y.c.n))) && (decide (x.c.kind = y.c.kind))) && (decide (x.c.at_ = y.c.at_))) && (decide (x.c.by_ = y.c.by_))) && (decide (x.c.op = y.c.op))) && (decide (x.c.vec = y.c.vec))) == true) (.bool (decide (sOf x.c.cuts = sOf y.c.cuts))), pv (.bool ((((((((((decide (x.c.what = y.c.what)) && (decide (x.c.a = y.c.a))) && (decide (x.c.b = y.c.b))) && (decide (x.c.n = y.c.n))) && (decide (x.c.kind = y.c.kind))) && (decide (x.c.at_ = y.c.at_))) && (decide (x.c.by_ = y.c.by_))) && (decide (x.c.op = y.c.op))) && (decide (x.c.vec = y.c.vec))) && (decide (sOf x.c.cuts = sOf y.c.cuts)))), pv (.bool ((((((((((decide (x.c.what = y.c.what)) && (decide (x.c.a = y.c.a))) && (decide (x.c.b = y.c.b))) && (decide (x.c.n = y.c.n))) && (decide (x.c.kind = y.c.kind))) && (decide (x.c.at_ = y.c.at_))) && (decide (x.c.by_ = y.c.by_))) && (decide (x.c.op = y.c.op))) && (decide (x.c.vec = y.c.vec))) && (decide (sOf x.c.cuts = sOf y.c.cuts))))] (fun _ _ => _) [70] (by kernel_rfl) hs ⟨?_, ?_, ?_, ?_, ?_, ?_, ?_, ?_, ?_, ?_, ?_, ?_, ?_, ?_, ?_, ?_, ?_, ?_, ?_, ?_, ?_, ?_, ?_, ?_, ?_, ?_, ?_, ?_, ?_, ?_, ?_, ?_, ?_, ?_, ?_, ?_, ?_, ?_, ?_, ?_, ?_, ?_, ?_, ?_, ?_, ?_, ?_, ?_, ?_, ?_, ?_, ?_, ?_, ?_, ?_, ?_, ?_, ?_, ?_, ?_, ?_, ?_, ?_, ?_, ?_, ?_, ?_, ?_, ?_, ?_, ?_, trivial⟩ ?_
  · exact oi [] fun hs => L_fieldAddr FA_39_0 rfl (Zz hs)
  · exact oi [0] fun hs => L_lz (.int .i64 x.c.what) S1_3 hs 0 (Zz hs)
  · exact oi [] fun hs => L_fieldAddr FA_39_0 rfl (Zz hs)
  · exact oi [2] fun hs => L_lz (.int .i64 y.c.what) S1_3 hs 1 (Zz hs)
  · exact oi [1, 3] fun hs => L_eql rfl rfl (Zz hs)
  · exact oi [4] fun hs => L_mv (.bool (decide (x.c.what = y.c.what))) (Zz hs)
  · exact ogi [5] fun hG hs => L_fieldAddr FA_39_1 rfl (Zz hs)
  · exact oyi [5, 6] [6] fun hG hs => L_lz (.int .u8 x.c.a) S1_5 hs 0 (Zz hs)
  · exact ogi [5] fun hG hs => L_fieldAddr FA_39_1 rfl (Zz hs)
  · exact oyi [5, 8] [8] fun hG hs => L_lz (.int .u8 y.c.a) S1_5 hs 1 (Zz hs)
  · exact oyi [5, 7, 9] [7, 9] fun hG hs => L_eql rfl rfl (Zz hs)
  · exact oi [5, 10] fun hs => L_andC (h' := decide (x.c.a = y.c.a)) rfl rfl rfl (Zz hs)
  · exact oi [11] fun hs => L_mv (.bool ((decide (x.c.what = y.c.what)) && (decide (x.c.a = y.c.a)))) (Zz hs)
  · exact ogi [12] fun hG hs => L_fieldAddr FA_39_2 rfl (Zz hs)
  · exact oyi [12, 13] [13] fun hG hs => L_lz (.int .u8 x.c.b) S1_5 hs 0 (Zz hs)
  · exact ogi [12] fun hG hs => L_fieldAddr FA_39_2 rfl (Zz hs)
  · exact oyi [12, 15] [15] fun hG hs => L_lz (.int .u8 y.c.b) S1_5 hs 1 (Zz hs)
  · exact oyi [12, 14, 16] [14, 16] fun hG hs => L_eql rfl rfl (Zz hs)
  · exact oi [12, 17] fun hs => L_andC (h' := decide (x.c.b = y.c.b)) rfl rfl rfl (Zz hs)
  · exact oi [18] fun hs => L_mv (.bool (((decide (x.c.what = y.c.what)) && (decide (x.c.a = y.c.a))) && (decide (x.c.b = y.c.b)))) (Zz hs)
  · exact ogi [19] fun hG hs => L_fieldAddr FA_39_3 rfl (Zz hs)
  · exact oyi [19, 20] [20] fun hG hs => L_lz (.int .i64 x.c.n) S1_3 hs 0 (Zz hs)
  · exact ogi [19] fun hG hs => L_fieldAddr FA_39_3 rfl (Zz hs)
  · exact oyi [19, 22] [22] fun hG hs => L_lz (.int .i64 y.c.n) S1_3 hs 1 (Zz hs)
  · exact oyi [19, 21, 23] [21, 23] fun hG hs => L_eql rfl rfl (Zz hs)
  · exact oi [19, 24] fun hs => L_andC (h' := decide (x.c.n = y.c.n)) rfl rfl rfl (Zz hs)
  · exact oi [25] fun hs => L_mv (.bool ((((decide (x.c.what = y.c.what)) && (decide (x.c.a = y.c.a))) && (decide (x.c.b = y.c.b))) && (decide (x.c.n = y.c.n)))) (Zz hs)
  · exact ogi [26] fun hG hs => L_fieldAddr FA_39_4 rfl (Zz hs)
  · exact oyi [26, 27] [27] fun hG hs => L_lz (.int .i64 x.c.kind) S1_3 hs 0 (Zz hs)
  · exact ogi [26] fun hG hs => L_fieldAddr FA_39_4 rfl (Zz hs)
  · exact oyi [26, 29] [29] fun hG hs => L_lz (.int .i64 y.c.kind) S1_3 hs 1 (Zz hs)
  · exact oyi [26, 28, 30] [28, 30] fun hG hs => L_eql rfl rfl (Zz hs)
  · exact oi [26, 31] fun hs => L_andC (h' := decide (x.c.kind = y.c.kind)) rfl rfl rfl (Zz hs)
  · exact oi [32] fun hs => L_mv (.bool (((((decide (x.c.what = y.c.what)) && (decide (x.c.a = y.c.a))) && (decide (x.c.b = y.c.b))) && (decide (x.c.n = y.c.n))) && (decide (x.c.kind = y.c.kind)))) (Zz hs)
  · exact ogi [33] fun hG hs => L_fieldAddr FA_39_5 rfl (Zz hs)
  · exact oyi [33, 34] [34] fun hG hs => L_lz (.int .u16 x.c.at_) S1_30 hs 0 (Zz hs)
  · exact ogi [33] fun hG hs => L_fieldAddr FA_39_5 rfl (Zz hs)
  · exact oyi [33, 36] [36] fun hG hs => L_lz (.int .u16 y.c.at_) S1_30 hs 1 (Zz hs)
  · exact oyi [33, 35, 37] [35, 37] fun hG hs => L_eql rfl rfl (Zz hs)
  · exact oi [33, 38] fun hs => L_andC (h' := decide (x.c.at_ = y.c.at_)) rfl rfl rfl (Zz hs)
  · exact oi [39] fun hs => L_mv (.bool ((((((decide (x.c.what = y.c.what)) && (decide (x.c.a = y.c.a))) && (decide (x.c.b = y.c.b))) && (decide (x.c.n = y.c.n))) && (decide (x.c.kind = y.c.kind))) && (decide (x.c.at_ = y.c.at_)))) (Zz hs)
  · exact ogi [40] fun hG hs => L_fieldAddr FA_39_6 rfl (Zz hs)
  · exact oyi [40, 41] [41] fun hG hs => L_lz (.int .u8 x.c.by_) S1_5 hs 0 (Zz hs)
  · exact ogi [40] fun hG hs => L_fieldAddr FA_39_6 rfl (Zz hs)
  · exact oyi [40, 43] [43] fun hG hs => L_lz (.int .u8 y.c.by_) S1_5 hs 1 (Zz hs)
  · exact oyi [40, 42, 44] [42, 44] fun hG hs => L_eql rfl rfl (Zz hs)
  · exact oi [40, 45] fun hs => L_andC (h' := decide (x.c.by_ = y.c.by_)) rfl rfl rfl (Zz hs)
  · exact oi [46] fun hs => L_mv (.bool (((((((decide (x.c.what = y.c.what)) && (decide (x.c.a = y.c.a))) && (decide (x.c.b = y.c.b))) && (decide (x.c.n = y.c.n))) && (decide (x.c.kind = y.c.kind))) && (decide (x.c.at_ = y.c.at_))) && (decide (x.c.by_ = y.c.by_)))) (Zz hs)
  · exact ogi [47] fun hG hs => L_fieldAddr FA_39_7 rfl (Zz hs)
  · exact oyi [47, 48] [48] fun hG hs => L_ldA (vs := oc x.c.op) SA_37 hs 0 rfl rfl rfl rfl (Zz hs)
  · exact ogi [47] fun hG hs => L_fieldAddr FA_39_7 rfl (Zz hs)
  · exact oyi [47, 50] [50] fun hG hs => L_ldA (vs := oc y.c.op) SA_37 hs 1 rfl rfl rfl rfl (Zz hs)
  · exact oyi [47, 49, 51] [49, 51] fun hG hs => L_eqA (xs := oc x.c.op) (ys := oc y.c.op) Tryz.eqGuardType37 (EQ_37 x.c.op y.c.op) rfl rfl rfl (Zz hs)
  · exact oi [47, 52] fun hs => L_andC (h' := decide (x.c.op = y.c.op)) rfl rfl rfl (Zz hs)
  · exact oi [53] fun hs => L_mv (.bool ((((((((decide (x.c.what = y.c.what)) && (decide (x.c.a = y.c.a))) && (decide (x.c.b = y.c.b))) && (decide (x.c.n = y.c.n))) && (decide (x.c.kind = y.c.kind))) && (decide (x.c.at_ = y.c.at_))) && (decide (x.c.by_ = y.c.by_))) && (decide (x.c.op = y.c.op)))) (Zz hs)
  · exact ogi [54] fun hG hs => L_fieldAddr FA_39_8 rfl (Zz hs)
  · exact oyi [54, 55] [55] fun hG hs => L_ldA (vs := vc x.c.vec) SA_35 hs 0 rfl rfl rfl rfl (Zz hs)
  · exact ogi [54] fun hG hs => L_fieldAddr FA_39_8 rfl (Zz hs)
  · exact oyi [54, 57] [57] fun hG hs => L_ldA (vs := vc y.c.vec) SA_35 hs 1 rfl rfl rfl rfl (Zz hs)
  · exact oyi [54, 56, 58] [56, 58] fun hG hs => L_eqA (xs := vc x.c.vec) (ys := vc y.c.vec) Tryz.eqGuardType35 (EQ_35 x.c.vec y.c.vec) rfl rfl rfl (Zz hs)
  · exact oi [54, 59] fun hs => L_andC (h' := decide (x.c.vec = y.c.vec)) rfl rfl rfl (Zz hs)
  · exact oi [60] fun hs => L_mv (.bool (((((((((decide (x.c.what = y.c.what)) && (decide (x.c.a = y.c.a))) && (decide (x.c.b = y.c.b))) && (decide (x.c.n = y.c.n))) && (decide (x.c.kind = y.c.kind))) && (decide (x.c.at_ = y.c.at_))) && (decide (x.c.by_ = y.c.by_))) && (decide (x.c.op = y.c.op))) && (decide (x.c.vec = y.c.vec)))) (Zz hs)
  · exact ogi [61] fun hG hs => L_fieldAddr FA_39_9 rfl (Zz hs)
  · exact oyi [61, 62] [62] fun hG hs => L_lz (.slice x.a x.c.cuts.length x.n) S1_22 hs 0 (Zz hs)
  · exact oyi [61, 63] [63] fun hG hs => L_convX UDR_22 UDR_5 UDR_9 (RdX.own' hx hs) rfl (Zz hs)
  · exact ogi [61] fun hG hs => L_fieldAddr FA_39_9 rfl (Zz hs)
  · exact oyi [61, 65] [65] fun hG hs => L_lz (.slice y.a y.c.cuts.length y.n) S1_22 hs 1 (Zz hs)
  · exact oyi [61, 66] [66] fun hG hs => L_convX UDR_22 UDR_5 UDR_9 (RdX.own' hy hs) rfl (Zz hs)
  · exact oyi [61, 64, 67] [64, 67] fun hG hs => L_eqS rfl rfl (Zz hs)
  · exact oi [61, 68] fun hs => L_andC (h' := decide (sOf x.c.cuts = sOf y.c.cuts)) rfl rfl rfl (Zz hs)
  · exact oi [69] fun hs => L_as (.bool ((((((((((decide (x.c.what = y.c.what)) && (decide (x.c.a = y.c.a))) && (decide (x.c.b = y.c.b))) && (decide (x.c.n = y.c.n))) && (decide (x.c.kind = y.c.kind))) && (decide (x.c.at_ = y.c.at_))) && (decide (x.c.by_ = y.c.by_))) && (decide (x.c.op = y.c.op))) && (decide (x.c.vec = y.c.vec))) && (decide (sOf x.c.cuts = sOf y.c.cuts)))) (Zz hs)
  rintro ρ1 w5 ρ2 hρ hs
  replace hρ : ρ2 = upd (mix [5, 6, 7, 8, 9, 10, 11, 12, 13, 14, 15, 16, 17, 18, 19, 20, 21, 22, 23, 24, 25, 26, 27, 28, 29, 30, 31, 32, 33, 34, 35, 36, 37, 38, 39, 40, 41, 42, 43, 44, 45, 46, 47, 48, 49, 50, 51, 52, 53, 54, 55, 56, 57, 58, 59, 60, 61, 62, 63, 64, 65, 66, 67, 68, 69, 70, 71, 72, 73, 74, 4] ρ1 _) 4 (.bool ((((((((((decide (x.c.what = y.c.what)) && (decide (x.c.a = y.c.a))) && (decide (x.c.b = y.c.b))) && (decide (x.c.n = y.c.n))) && (decide (x.c.kind = y.c.kind))) && (decide (x.c.at_ = y.c.at_))) && (decide (x.c.by_ = y.c.by_))) && (decide (x.c.op = y.c.op))) && (decide (x.c.vec = y.c.vec))) && (decide (sOf x.c.cuts = sOf y.c.cuts)))) := hρ
  subst hρ
  refine W_ret ?_
  refine ⟨_, res_one (V := .bool ((((((((((decide (x.c.what = y.c.what)) && (decide (x.c.a = y.c.a))) && (decide (x.c.b = y.c.b))) && (decide (x.c.n = y.c.n))) && (decide (x.c.kind = y.c.kind))) && (decide (x.c.at_ = y.c.at_))) && (decide (x.c.by_ = y.c.by_))) && (decide (x.c.op = y.c.op))) && (decide (x.c.vec = y.c.vec))) && (decide (sOf x.c.cuts = sOf y.c.cuts)))) Tryz.results12 rfl, ?_⟩
  refine Zr hs ?_
  rfl
end Tt
end Go.Proofs
namespace Go.Proofs
open Go Go.Vx Go.RowKit
namespace Tt
set_option maxRecDepth 20000 in
set_option maxHeartbeats 4000000 in
theorem dec_ok (w : World) (p : Option Addr) (c : Nat) (b : Bs) (hby : ByOk b) (hr : Rd w (.slice p b.length c) 1 (b.map (ic .u8))) : Calls Tryz.prog 8 #[.slice p b.length c] w (fun e w' => ∃ x : Option Addr × Nat, e = .returned (.slice x.1 (decS b []).length x.2) ∧ Own w no w' [decR 41 x.1 x.2 (decS b [])] ∧ True) := by
  refine calls_of_Wn (n := 40) Tryz.func8 rfl Tryz.ntmps8 rfl ?_
  have hs := Own.start w
  have hn := hr.sml
  refine W_seq ?_
  refine W_region ?_
  refine RW_op (L_as (.slice none 0 0) ?_)
  refine RW_nil ?_
  refine W_seq ?_
  refine W_region ?_
  refine RW_op (L_as (.slice none 0 0) ?_)
  refine RW_nil ?_
  refine W_seq ?_
  refine W_block ?_
  replace hs := hs.more (row (.slice none 0 0) (List.map stp []) 41 47) (row_nil _ _ _ _)
  replace hs := hs.starNil
  refine W_loopI (fun ρ μ ρ' w' => ∃ (ρo : Env) (R : Bs) (p9 : Option Addr) (c8 : Nat) (Q : List Stp) (a9 : Option Addr) (c9 : Nat), ρ' = upd (upd (mix [0, 3, 4, 5, 6, 7, 8, 9, 10, 11, 12, 13, 14, 15, 16, 17, 18, 19, 20, 21, 22, 23, 24, 25, 26, 27, 28, 29, 30, 31, 32, 33, 34, 35, 36, 37, 38] ρo ρ) 0 (.slice p9 R.length c8)) 3 (.slice a9 Q.length c9) ∧ (Rd w (.slice p9 R.length c8) 1 (R.map (ic .u8))) ∧ (ByOk R) ∧ (decS b [] = decS R (Q.map (·.c))) ∧ (Q.length ≤ 100) ∧ μ = R.length ∧ Own w no w' [row (.slice a9 Q.length c9) (Q.map stp) 41 47, star (Q.map cutR)]) ?_ ?_
  · exact ⟨_, _, b, p, c, [], none, 0, upd_of (upd_of (mix_of (ds := [0, 3, 4, 5, 6, 7, 8, 9, 10, 11, 12, 13, 14, 15, 16, 17, 18, 19, 20, 21, 22, 23, 24, 25, 26, 27, 28, 29, 30, 31, 32, 33, 34, 35, 36, 37, 38]) (Agr.refl _ _)) rfl) rfl, hr, hby, rfl, (Nat.zero_le _), rfl, hs⟩
  · rintro μ ρ' w1 ⟨ρo, R, p9, c8, Q, a9, c9, rfl, hr9, hby9, hdec, hq, rfl, hs⟩
    refine W_seq ?_
    refine W_seq ?_
    refine W_regO (so 8 8) [] [0, 1, 3, 7, 15, 31, 63, 127] [pv (.slice p9 R.length c8), pv (.int .i64 ((R.length : Nat) : Int)), pv (.bool (decide (0 < ((R.length : Nat) : Int)))), pv (.bool (decide (0 < ((R.length : Nat) : Int)))), pg ((decide (0 < ((R.length : Nat) : Int))) == true) (.slice a9 Q.length c9), pg ((decide (0 < ((R.length : Nat) : Int))) == true) (.int .i64 ((Q.length : Nat) : Int)), pg ((decide (0 < ((R.length : Nat) : Int))) == true) (.bool (decide (((Q.length : Nat) : Int) < 100))), pv (.bool ((decide (0 < ((R.length : Nat) : Int))) && (decide (((Q.length : Nat) : Int) < 100))))] (fun _ _ => _) [7] (by kernel_rfl) hs ⟨?_, ?_, ?_, ?_, ?_, ?_, ?_, ?_, trivial⟩ ?_
    · exact oi [] fun hs => L_mv (.slice p9 R.length c8) (Zz hs)
    · exact oi [0] fun hs => L_lenR (n := R.length) UD_22 (Rd.own' hr9 hs) (by simp) rfl (Zz hs)
    · exact oi [1] fun hs => L_gtr rfl rfl (Zz hs)
    · exact oi [2] fun hs => L_mv (.bool (decide (0 < ((R.length : Nat) : Int)))) (Zz hs)
    · exact ogi [3] fun hG hs => L_mv (.slice a9 Q.length c9) (Zz hs)
    · exact oyi [3, 4] [4] fun hG hs => L_lenR (n := Q.length) UD_24 (hs.rd 0 rfl) (by simp) rfl (Zz hs)
    · exact oyi [3, 5] [5] fun hG hs => L_lss rfl rfl (Zz hs)
    · exact oi [3, 6] fun hs => L_andC (h' := decide (((Q.length : Nat) : Int) < 100)) rfl rfl rfl (Zz hs)
    rintro ρ1 w2 ρ2 hρ hs
    replace hρ : ρ2 = upd (mix [8, 9, 10, 11, 12, 13, 14, 15] ρ1 _) 15 (.bool ((decide (0 < ((R.length : Nat) : Int))) && (decide (((Q.length : Nat) : Int) < 100)))) := hρ
    subst hρ
    refine W_cond (t := (decide (0 < ((R.length : Nat) : Int))) && (decide (((Q.length : Nat) : Int) < 100))) rfl (fun c3 => ?_) (fun c3 => ?_)
    ·
      have c3r := and_r c3
      replace c3 := and_l c3
      replace c3 := of_decide_eq_true c3
      replace c3r := of_decide_eq_true c3r
      refine W_skip ?_
      refine W_block ?_
      refine W_seq ?_
      have hbt : 0 ≤ gd R 0 ∧ gd R 0 < 256 := hby9 _ (by unfold gd; rw [List.getD_eq_getElem?_getD, List.getElem?_eq_getElem (by omega)]; exact List.getElem_mem _)
      refine W_region ?_
      refine RW_op (L_mv (.slice p9 R.length c8) ?_)
      refine RW_op (L_ixR UD_22 S1_5.1 (Rd.own' hr9 hs) rfl rfl (by decide) (by rw [List.length_map]; omega) ?_)
      refine RW_op (L_ldR (j := 0) (V := .int .u8 (gd R 0)) 0 S1_5 (Rd.own' hr9 hs) (gd_at (by omega)) rfl rfl (by omega) ?_)
      refine RW_op (opW_to (V := .int .i64 (gd R 0)) (V' := .int .i64 (((bat R 0).toNat : Nat) : Int)) (L_conv UD_5 UD_3 rfl (wr_i64 (by omega) (by omega)) ⟨rfl, rfl⟩) (congrArg (Value.int .i64) (Int.toNat_of_nonneg hbt.1).symm) ?_)
      refine RW_op (opW_to (V := .int .i64 ((((bat R 0).toNat : Nat) : Int).tmod 9)) (V' := .int .i64 ((whatS R : Nat) : Int)) (L_rem rfl rfl (by omega) rfl ⟨rfl, rfl⟩) (congrArg (Value.int .i64) (Int.tmod_eq_emod_of_nonneg (by omega))) ?_)
      refine RW_op (L_as (.int .i64 ((whatS R : Nat) : Int)) ?_)
      refine RW_nil ?_
      refine W_seq ?_
      refine W_region ?_
      refine RW_op (L_mv (.slice p9 R.length c8) ?_)
      refine RW_op (L_sl (l := 1) (h := R.length) (m := c8) (n' := (R.drop 1).length) UDR_22 S1_5.1 (Rd.own' hr9 hs) rfl (.inr ⟨_, _, rfl, rfl⟩) (.inl ⟨rfl, rfl⟩) (.inl ⟨rfl, rfl⟩) (by omega) (by omega) (Nat.le_trans (show R.length ≤ R.length by omega) (Rd.roomM (Rd.own' hr9 hs))) (Nat.le_refl _) (by simp only [List.length_take, List.length_drop] <;> omega) ?_)
      refine RW_op (L_as (.slice (sla p9 1 c8 1) ((R.drop 1).length) (c8 - 1)) ?_)
      refine RW_nil ?_
      refine W_seq ?_
      refine W_seq ?_
      refine W_region ?_
      refine RW_op (L_mv (.int .i64 ((whatS R : Nat) : Int)) ?_)
      refine RW_op (L_eql rfl rfl ?_)
      refine RW_nil ?_
      refine W_cond (t := decide (((whatS R : Nat) : Int) = 0)) rfl (fun c4 => ?_) (fun c4 => ?_)
      ·
        replace c4 := of_decide_eq_true c4
        refine W_exit ?_
        refine ⟨_, ?_, _, (R.drop 1), _, _, Q, a9, c9, upd_of (upd_of (mix_of (ds := [0, 3, 4, 5, 6, 7, 8, 9, 10, 11, 12, 13, 14, 15, 16, 17, 18, 19, 20, 21, 22, 23, 24, 25, 26, 27, 28, 29, 30, 31, 32, 33, 34, 35, 36, 37, 38]) (by repeat (first | exact Agr.refl _ _ | refine Agr.upd ?_ rfl | refine Agr.mix ?_ rfl))) rfl) rfl, (dec_rd1 hr9 (by omega)), (hby9.drop 1), (hdec.trans (decS_skip (by rw [List.length_map]; omega) (by omega))), hq, rfl, hs.take 2⟩
        rw [List.length_drop]; omega
      ·
        replace c4 := of_decide_eq_false c4
        refine W_skip ?_
        refine W_seq ?_
        rcases Decidable.em (¬ R.length < lenS (whatS R) R) with hk6 | hk6
        ·
          have h0 : whatS R ≠ 0 := by omega
          refine W_region ?_
          refine RW_op (L_mv (.int .i64 ((whatS R : Nat) : Int)) ?_)
          refine RW_op (L_mv (.slice (sla p9 1 c8 1) ((R.drop 1).length) (c8 - 1)) ?_)
          refine RW_op (L_callX (vs := [.int .i64 ((whatS R : Nat) : Int), .slice (sla p9 1 c8 1) ((R.drop 1).length) (c8 - 1)]) (V := fun x9 : Option Addr × Nat => .tuple #[.agg (stp (Stp.mk (tellS R) x9.1 x9.2)).toArray, .slice (dA p9 c8 R) ((R.drop (lenS (whatS R) R)).length) (dC c8 R), .bool true]) EN_17 rfl rfl (dec_yes (Rd.dropM (Rd.own' hr9 hs) 1 (by omega) _ (by simp only [List.length_take, List.length_drop] <;> omega)) h0 hk6 hby9) hs fun x9 w5 hs _ => ?_)
          refine RW_op (L_mv (.tuple #[.agg (stp (Stp.mk (tellS R) x9.1 x9.2)).toArray, .slice (dA p9 c8 R) ((R.drop (lenS (whatS R) R)).length) (dC c8 R), .bool true]) ?_)
          refine RW_op (L_extract (V := .agg (stp (Stp.mk (tellS R) x9.1 x9.2)).toArray) rfl rfl ?_)
          refine RW_op (L_extract (V := .slice (dA p9 c8 R) ((R.drop (lenS (whatS R) R)).length) (dC c8 R)) rfl rfl ?_)
          refine RW_op (L_extract (V := .bool true) rfl rfl ?_)
          refine RW_op (L_alloc (cs := stp stpz) ZV_41 rfl hs fun b6 w7 hs => ?_)
          refine RW_op (L_st (V := .agg (stp (Stp.mk (tellS R) x9.1 x9.2)).toArray) (vs := stp (Stp.mk (tellS R) x9.1 x9.2)) (cs' := stp (Stp.mk (tellS R) x9.1 x9.2)) SA_41.1 hs 3 rfl rfl rfl rfl rfl (Nat.le_of_ble_eq_true rfl) (stp_one _) (spl_whole rfl) fun w8 hs => ?_)
          refine RW_op (L_as (.slice (dA p9 c8 R) ((R.drop (lenS (whatS R) R)).length) (dC c8 R)) ?_)
          refine RW_op (L_as (.bool true) ?_)
          refine RW_nil ?_
          refine W_seq ?_
          refine W_seq ?_
          refine W_region ?_
          refine RW_op (L_mv (.bool true) ?_)
          refine RW_op (L_not rfl ?_)
          refine RW_nil ?_
          refine W_condF rfl ?_
          refine W_skip ?_
          refine W_seq ?_
          refine W_region ?_
          refine RW_op (L_mv (.slice a9 Q.length c9) ?_)
          refine RW_op (L_ldW (cs := stp (Stp.mk (tellS R) x9.1 x9.2)) SA_41 hs 3 rfl rfl rfl ?_)
          refine RW_op (L_bs (vals := [.agg (stp (Stp.mk (tellS R) x9.1 x9.2)).toArray]) (ls := List.map stp ([(Stp.mk (tellS R) x9.1 x9.2)] : List Stp)) EL_24 rfl rfl rfl (len_map (enc := stp) (fun _ => rfl) _) (one_map stp_one _) (Nat.le_of_ble_eq_true rfl) hs fun b9 w10 hs => ?_)
          replace hs := Ow [row (.slice a9 Q.length c9) (Q.map stp) 41 47, star (Q.map cutR), cutR ⟨tellS R, x9.1, x9.2⟩, blk b6 (stp (Stp.mk (tellS R) x9.1 x9.2)) 41, row (.slice (some ⟨b9, 0, none⟩) 1 1) ([(Stp.mk (tellS R) x9.1 x9.2)].map stp) 41 47] hs
          refine RW_op (L_appN (ls' := (Q ++ [(Stp.mk (tellS R) x9.1 x9.2)]).map stp) (n := (Q ++ [(Stp.mk (tellS R) x9.1 x9.2)]).length) EL_24 hs 0 rfl rfl rfl (hs.rd 4 rfl) (one_map stp_one _) (by simp only [List.length_map, List.length_append, List.length_cons, List.length_nil]; omega) (by simp) (by simp) fun a11 c11 w12 hs => ?_)
          refine RW_op (L_as (.slice a11 ((Q ++ [(Stp.mk (tellS R) x9.1 x9.2)]).length) c11) ?_)
          refine RW_nil ?_
          refine W_region ?_
          refine RW_op (L_mv (.slice (dA p9 c8 R) ((R.drop (lenS (whatS R) R)).length) (dC c8 R)) ?_)
          refine RW_op (L_as (.slice (dA p9 c8 R) ((R.drop (lenS (whatS R) R)).length) (dC c8 R)) ?_)
          refine RW_nil ?_
          replace hs := cuts_snoc hs 1 2 (by decide) rfl rfl
          refine ⟨_, ?_, _, (R.drop (lenS (whatS R) R)), _, _, Q ++ [(Stp.mk (tellS R) x9.1 x9.2)], a11, c11, upd_of (upd_of (mix_of (ds := [0, 3, 4, 5, 6, 7, 8, 9, 10, 11, 12, 13, 14, 15, 16, 17, 18, 19, 20, 21, 22, 23, 24, 25, 26, 27, 28, 29, 30, 31, 32, 33, 34, 35, 36, 37, 38]) (by repeat (first | exact Agr.refl _ _ | refine Agr.upd ?_ rfl | refine Agr.mix ?_ rfl))) rfl) rfl, (dec_rd hr9 h0 hk6), (hby9.drop _), ((hdec.trans (decS_step (by rw [List.length_map]; omega) h0 hk6)).trans (by rw [List.map_append]; rfl)), (by rw [List.length_append, List.length_singleton]; omega), rfl, hs.take 2⟩
          rw [List.length_drop]; have := fixN_pos (whatS_lt R) h0; have := lenS_ge (whatS R) R; omega
        ·
          have h0 : whatS R ≠ 0 := by omega
          refine W_region ?_
          refine RW_op (L_mv (.int .i64 ((whatS R : Nat) : Int)) ?_)
          refine RW_op (L_mv (.slice (sla p9 1 c8 1) ((R.drop 1).length) (c8 - 1)) ?_)
          refine RW_op (L_callP (vs := [.int .i64 ((whatS R : Nat) : Int), .slice (sla p9 1 c8 1) ((R.drop 1).length) (c8 - 1)]) (V := .tuple #[.agg (stp stpz).toArray, .slice none 0 0, .bool false]) EN_17 rfl rfl ?hc hs fun w13 hs => ?_)
          case hc => exact (dec_no (Rd.dropM (Rd.own' hr9 hs) 1 (by omega) _ (by simp only [List.length_take, List.length_drop] <;> omega)) h0 (Decidable.of_not_not hk6) (by omega) hby9)
          refine RW_op (L_mv (.tuple #[.agg (stp stpz).toArray, .slice none 0 0, .bool false]) ?_)
          refine RW_op (L_extract (V := .agg (stp stpz).toArray) rfl rfl ?_)
          refine RW_op (L_extract (V := .slice none 0 0) rfl rfl ?_)
          refine RW_op (L_extract (V := .bool false) rfl rfl ?_)
          refine RW_op (L_alloc (cs := stp stpz) ZV_41 rfl hs fun b14 w15 hs => ?_)
          refine RW_op (L_st (V := .agg (stp stpz).toArray) (vs := stp stpz) (cs' := stp stpz) SA_41.1 hs 2 rfl rfl rfl rfl rfl (Nat.le_of_ble_eq_true rfl) (stp_one _) (spl_whole rfl) fun w16 hs => ?_)
          refine RW_op (L_as (.slice none 0 0) ?_)
          refine RW_op (L_as (.bool false) ?_)
          refine RW_nil ?_
          refine W_seq ?_
          refine W_seq ?_
          refine W_region ?_
          refine RW_op (L_mv (.bool false) ?_)
          refine RW_op (L_not rfl ?_)
          refine RW_nil ?_
          refine W_condT rfl ?_
          refine W_exit ?_
          refine W_seq ?_
          refine W_region ?_
          refine RW_op (L_mv (.slice a9 Q.length c9) ?_)
          refine RW_op (L_as (.slice a9 Q.length c9) ?_)
          refine RW_nil ?_
          refine W_ret ?_
          refine ⟨_, res_one (V := .slice a9 Q.length c9) Tryz.results8 rfl, ?_⟩
          have hX : decS b [] = Q.map (·.c) := hdec.trans (decS_short h0 (Decidable.of_not_not hk6))
          rw [hX]
          exact ⟨(a9, c9), by rw [List.length_map], dec_own (hs.take 2), trivial⟩
    ·
      refine W_exit ?_
      refine W_seq ?_
      refine W_region ?_
      refine RW_op (L_mv (.slice a9 Q.length c9) ?_)
      refine RW_op (L_as (.slice a9 Q.length c9) ?_)
      refine RW_nil ?_
      refine W_ret ?_
      refine ⟨_, res_one (V := .slice a9 Q.length c9) Tryz.results8 rfl, ?_⟩
      have hX : decS b [] = Q.map (·.c) := hdec.trans (decS_stop (by rw [List.length_map]; simp only [Bool.and_eq_false_iff, decide_eq_false_iff_not] at c3; omega))
      rw [hX]
      exact ⟨(a9, c9), by rw [List.length_map], dec_own (hs.take 2), trivial⟩
end Tt
end Go.Proofs
namespace Go.Proofs
open Go Go.Vx Go.RowKit
namespace Tt
theorem half_own {w0 w : World} {L : List Res} {o : Obj} (hs : Own w0 no w L) (h : w0.heap[0]? = some o) : w.heap[0]? = some o := by
  have hlt : 0 < w0.heap.size := (Array.getElem?_eq_some_iff.1 h).1
  rw [hs.old 0 hlt (fun h => h)]; exact h
theorem gd_pre {A B : List Stp} {i : Nat} {t : List Stc} (h : A.map (·.c) = B.map (·.c) ++ t) (hi : i < B.length) : (gd B i).c = (gd A i).c := by
  have hA : i < A.length := by
    have := congrArg List.length h
    simp only [List.length_map, List.length_append] at this
    omega
  rw [gd_core hi, gd_core hA]
  have : (A.map (·.c))[i]? = (B.map (·.c))[i]? := by rw [h, List.getElem?_append_left (by simpa using hi)]
  rw [List.getElem?_eq_getElem (by simpa using hA), List.getElem?_eq_getElem (by simpa using hi)] at this
  exact (Option.some.inj this).symm
theorem sum_le {Q : List Stp} {b : Bs} {i n : Nat} (h : Q.map (·.c) = decS (b.take n) []) : sumS ((Q.map (·.c)).take i) ≤ n := by
  have h1 : sumS ((Q.map (·.c)).take i) ≤ sumS (Q.map (·.c)) := by
    have : sumS (Q.map (·.c)) = sumS ((Q.map (·.c)).take i) + sumS ((Q.map (·.c)).drop i) := by
      unfold sumS
      rw [← List.sum_append, ← List.map_append, List.take_append_drop]
    omega
  have h2 := sumS_dec (b.take n) []
  rw [← h] at h2
  have : sumS [] = 0 := rfl
  rw [List.length_take] at h2
  omega
end Tt
end Go.Proofs
namespace Go.Proofs
open Go Go.Vx Go.RowKit
namespace Tt
theorem gd_same {A C : List Stp} {i : Nat} (h : C.map (·.c) = A.map (·.c)) (hi : i < C.length) : (gd C i).c = (gd A i).c := gd_pre (t := []) (by rw [List.append_nil]; exact h.symm) hi
theorem ByOk.append {a b : Bs} (ha : ByOk a) (hb : ByOk b) : ByOk (a ++ b) := fun c hc => (List.mem_append.1 hc).elim (ha c) (hb c)
end Tt
end Go.Proofs
namespace Go.Proofs
open Go Go.Vx Go.RowKit
namespace Tt
set_option maxRecDepth 20000 in
set_option maxHeartbeats 4000000 in
theorem fixed_ok (w : World) (k : Nat) (hk : k < 9) : Calls Tryz.prog 18 #[.int .i64 ((k : Nat) : Int)] w (fun e w' => e = .returned (.int .i64 ((fixN k : Nat) : Int)) ∧ Own w no w' []) := by
  refine calls_of_Wn (n := 18) Tryz.func18 rfl Tryz.ntmps18 rfl ?_
  have hs := Own.start w
  refine W_seq ?_
  refine W_region ?_
  refine RW_op (L_as (.int .i64 0) ?_)
  refine RW_nil ?_
  refine W_seq ?_
  refine W_seq ?_
  refine W_region ?_
  refine RW_op (L_mv (.int .i64 ((k : Nat) : Int)) ?_)
  refine RW_nil ?_
  refine W_block ?_
  refine W_seq ?_
  refine W_region ?_
  refine RW_op (L_eql rfl rfl ?_)
  refine RW_op (L_as (.bool (decide (((k : Nat) : Int) = 1))) ?_)
  refine RW_nil ?_
  refine W_cond (t := decide (((k : Nat) : Int) = 1)) rfl (fun c1 => ?_) (fun c1 => ?_)
  ·
    replace c1 := of_decide_eq_true c1
    refine W_seq ?_
    refine W_region ?_
    refine RW_op (L_as (.int .i64 7) ?_)
    refine RW_nil ?_
    refine W_ret ?_
    refine ⟨_, res_one (V := .int .i64 7) Tryz.results18 rfl, ?_⟩
    refine Zr hs ?_
    have hk' : k = 0 ∨ k = 1 ∨ k = 2 ∨ k = 3 ∨ k = 4 ∨ k = 5 ∨ k = 6 ∨ k = 7 ∨ k = 8 := by omega
    rcases hk' with rfl | rfl | rfl | rfl | rfl | rfl | rfl | rfl | rfl <;> first | rfl | omega
  ·
    replace c1 := of_decide_eq_false c1
    refine W_seq ?_
    refine W_seq ?_
    refine W_region ?_
    refine RW_op (L_eql rfl rfl ?_)
    refine RW_op (L_as (.bool (decide (((k : Nat) : Int) = 2))) ?_)
    refine RW_nil ?_
    refine W_cond (t := decide (((k : Nat) : Int) = 2)) rfl (fun c2 => ?_) (fun c2 => ?_)
    ·
      replace c2 := of_decide_eq_true c2
      refine W_skip ?_
      refine W_condT (congrArg Value.bool (decide_eq_true c2)) ?_
      refine W_seq ?_
      refine W_region ?_
      refine RW_op (L_as (.int .i64 3) ?_)
      refine RW_nil ?_
      refine W_ret ?_
      refine ⟨_, res_one (V := .int .i64 3) Tryz.results18 rfl, ?_⟩
      refine Zr hs ?_
      have hk' : k = 0 ∨ k = 1 ∨ k = 2 ∨ k = 3 ∨ k = 4 ∨ k = 5 ∨ k = 6 ∨ k = 7 ∨ k = 8 := by omega
      rcases hk' with rfl | rfl | rfl | rfl | rfl | rfl | rfl | rfl | rfl <;> first | rfl | omega
    ·
      replace c2 := of_decide_eq_false c2
      refine W_region ?_
      refine RW_op (L_eql rfl rfl ?_)
      refine RW_op (L_as (.bool (decide (((k : Nat) : Int) = 8))) ?_)
      refine RW_nil ?_
      refine W_cond (t := decide (((k : Nat) : Int) = 8)) rfl (fun c3 => ?_) (fun c3 => ?_)
      ·
        replace c3 := of_decide_eq_true c3
        refine W_seq ?_
        refine W_region ?_
        refine RW_op (L_as (.int .i64 3) ?_)
        refine RW_nil ?_
        refine W_ret ?_
        refine ⟨_, res_one (V := .int .i64 3) Tryz.results18 rfl, ?_⟩
        refine Zr hs ?_
        have hk' : k = 0 ∨ k = 1 ∨ k = 2 ∨ k = 3 ∨ k = 4 ∨ k = 5 ∨ k = 6 ∨ k = 7 ∨ k = 8 := by omega
        rcases hk' with rfl | rfl | rfl | rfl | rfl | rfl | rfl | rfl | rfl <;> first | rfl | omega
      ·
        replace c3 := of_decide_eq_false c3
        refine W_seq ?_
        refine W_seq ?_
        refine W_region ?_
        refine RW_op (L_eql rfl rfl ?_)
        refine RW_op (L_as (.bool (decide (((k : Nat) : Int) = 3))) ?_)
        refine RW_nil ?_
        refine W_cond (t := decide (((k : Nat) : Int) = 3)) rfl (fun c4 => ?_) (fun c4 => ?_)
        ·
          replace c4 := of_decide_eq_true c4
          refine W_skip ?_
          refine W_condT (congrArg Value.bool (decide_eq_true c4)) ?_
          refine W_seq ?_
          refine W_region ?_
          refine RW_op (L_as (.int .i64 4) ?_)
          refine RW_nil ?_
          refine W_ret ?_
          refine ⟨_, res_one (V := .int .i64 4) Tryz.results18 rfl, ?_⟩
          refine Zr hs ?_
          have hk' : k = 0 ∨ k = 1 ∨ k = 2 ∨ k = 3 ∨ k = 4 ∨ k = 5 ∨ k = 6 ∨ k = 7 ∨ k = 8 := by omega
          rcases hk' with rfl | rfl | rfl | rfl | rfl | rfl | rfl | rfl | rfl <;> first | rfl | omega
        ·
          replace c4 := of_decide_eq_false c4
          refine W_region ?_
          refine RW_op (L_eql rfl rfl ?_)
          refine RW_op (L_as (.bool (decide (((k : Nat) : Int) = 7))) ?_)
          refine RW_nil ?_
          refine W_cond (t := decide (((k : Nat) : Int) = 7)) rfl (fun c5 => ?_) (fun c5 => ?_)
          ·
            replace c5 := of_decide_eq_true c5
            refine W_seq ?_
            refine W_region ?_
            refine RW_op (L_as (.int .i64 4) ?_)
            refine RW_nil ?_
            refine W_ret ?_
            refine ⟨_, res_one (V := .int .i64 4) Tryz.results18 rfl, ?_⟩
            refine Zr hs ?_
            have hk' : k = 0 ∨ k = 1 ∨ k = 2 ∨ k = 3 ∨ k = 4 ∨ k = 5 ∨ k = 6 ∨ k = 7 ∨ k = 8 := by omega
            rcases hk' with rfl | rfl | rfl | rfl | rfl | rfl | rfl | rfl | rfl <;> first | rfl | omega
          ·
            replace c5 := of_decide_eq_false c5
            refine W_seq ?_
            refine W_region ?_
            refine RW_op (L_eql rfl rfl ?_)
            refine RW_op (L_as (.bool (decide (((k : Nat) : Int) = 4))) ?_)
            refine RW_nil ?_
            refine W_cond (t := decide (((k : Nat) : Int) = 4)) rfl (fun c6 => ?_) (fun c6 => ?_)
            ·
              replace c6 := of_decide_eq_true c6
              refine W_seq ?_
              refine W_region ?_
              refine RW_op (L_as (.int .i64 7) ?_)
              refine RW_nil ?_
              refine W_ret ?_
              refine ⟨_, res_one (V := .int .i64 7) Tryz.results18 rfl, ?_⟩
              refine Zr hs ?_
              have hk' : k = 0 ∨ k = 1 ∨ k = 2 ∨ k = 3 ∨ k = 4 ∨ k = 5 ∨ k = 6 ∨ k = 7 ∨ k = 8 := by omega
              rcases hk' with rfl | rfl | rfl | rfl | rfl | rfl | rfl | rfl | rfl <;> first | rfl | omega
            ·
              replace c6 := of_decide_eq_false c6
              refine W_seq ?_
              refine W_region ?_
              refine RW_op (L_eql rfl rfl ?_)
              refine RW_op (L_as (.bool (decide (((k : Nat) : Int) = 5))) ?_)
              refine RW_nil ?_
              refine W_cond (t := decide (((k : Nat) : Int) = 5)) rfl (fun c7 => ?_) (fun c7 => ?_)
              ·
                replace c7 := of_decide_eq_true c7
                refine W_seq ?_
                refine W_region ?_
                refine RW_op (L_as (.int .i64 2) ?_)
                refine RW_nil ?_
                refine W_ret ?_
                refine ⟨_, res_one (V := .int .i64 2) Tryz.results18 rfl, ?_⟩
                refine Zr hs ?_
                have hk' : k = 0 ∨ k = 1 ∨ k = 2 ∨ k = 3 ∨ k = 4 ∨ k = 5 ∨ k = 6 ∨ k = 7 ∨ k = 8 := by omega
                rcases hk' with rfl | rfl | rfl | rfl | rfl | rfl | rfl | rfl | rfl <;> first | rfl | omega
              ·
                replace c7 := of_decide_eq_false c7
                refine W_seq ?_
                refine W_region ?_
                refine RW_op (L_eql rfl rfl ?_)
                refine RW_op (L_as (.bool (decide (((k : Nat) : Int) = 6))) ?_)
                refine RW_nil ?_
                refine W_cond (t := decide (((k : Nat) : Int) = 6)) rfl (fun c8 => ?_) (fun c8 => ?_)
                ·
                  replace c8 := of_decide_eq_true c8
                  refine W_seq ?_
                  refine W_region ?_
                  refine RW_op (L_as (.int .i64 6) ?_)
                  refine RW_nil ?_
                  refine W_ret ?_
                  refine ⟨_, res_one (V := .int .i64 6) Tryz.results18 rfl, ?_⟩
                  refine Zr hs ?_
                  have hk' : k = 0 ∨ k = 1 ∨ k = 2 ∨ k = 3 ∨ k = 4 ∨ k = 5 ∨ k = 6 ∨ k = 7 ∨ k = 8 := by omega
                  rcases hk' with rfl | rfl | rfl | rfl | rfl | rfl | rfl | rfl | rfl <;> first | rfl | omega
                ·
                  replace c8 := of_decide_eq_false c8
                  refine W_skip ?_
                  refine W_seq ?_
                  refine W_region ?_
                  refine RW_op (L_as (.int .i64 0) ?_)
                  refine RW_nil ?_
                  refine W_ret ?_
                  refine ⟨_, res_one (V := .int .i64 0) Tryz.results18 rfl, ?_⟩
                  refine Zr hs ?_
                  have hk' : k = 0 ∨ k = 1 ∨ k = 2 ∨ k = 3 ∨ k = 4 ∨ k = 5 ∨ k = 6 ∨ k = 7 ∨ k = 8 := by omega
                  rcases hk' with rfl | rfl | rfl | rfl | rfl | rfl | rfl | rfl | rfl <;> first | rfl | omega
set_option maxRecDepth 20000 in
set_option maxHeartbeats 4000000 in
theorem rDec_ok (w : World) (p : Option Addr) (c : Nat) (b : Bs) (hby : ByOk b) (hr : Rd w (.slice p b.length c) 1 (b.map (ic .u8))) : Calls Tryz.prog 9 #[.slice p b.length c] w (fun e w' => ∃ x : (Option Addr × Nat) × List Stp, e = .returned (.slice x.1.1 x.2.length x.1.2) ∧ Own w no w' [row (.slice x.1.1 x.2.length x.1.2) (x.2.map stp) 39 47] ∧ (x.2.map (·.c) = decS b [] ∧ ∀ w9 : World, Rd w9 (.slice p b.length c) 1 (b.map (ic .u8)) → ∀ y ∈ x.2, Rd w9 (.slice y.a y.c.cuts.length y.n) 1 (y.c.cuts.map (ic .u8)))) := by
  refine calls_of_Wn (n := 55) Tryz.func9 rfl Tryz.ntmps9 rfl ?_
  have hs := Own.start w
  have hn := hr.sml
  refine W_seq ?_
  refine W_region ?_
  refine RW_op (L_as (.slice none 0 0) ?_)
  refine RW_nil ?_
  refine W_seq ?_
  refine W_region ?_
  refine RW_op (L_as (.slice none 0 0) ?_)
  refine RW_nil ?_
  refine W_seq ?_
  refine W_block ?_
  replace hs := hs.more (row (.slice none 0 0) (List.map stp []) 39 47) (row_nil _ _ _ _)
  refine W_loopI (fun ρ μ ρ' w' => ∃ (ρo : Env) (R : Bs) (p9 : Option Addr) (cR : Nat) (Q : List Stp) (a9 : Option Addr) (c9 : Nat), ρ' = upd (upd (mix [0, 2, 3, 4, 5, 6, 7, 8, 9, 10, 11, 12, 13, 14, 15, 16, 17, 18, 19, 20, 21, 22, 23, 24, 25, 26, 27, 28, 29, 30, 31, 32, 33, 34, 35, 36, 37, 38, 39, 40, 41, 42, 43, 44, 45, 46, 47, 48, 49, 50, 51, 52, 53] ρo ρ) 0 (.slice p9 R.length cR)) 3 (.slice a9 Q.length c9) ∧ (Rd w (.slice p9 R.length cR) 1 (R.map (ic .u8))) ∧ (ByOk R) ∧ (decS b [] = decS R (Q.map (·.c))) ∧ (Q.length ≤ 100) ∧ (∀ w9 : World, Rd w9 (.slice p b.length c) 1 (b.map (ic .u8)) → Rd w9 (.slice p9 R.length cR) 1 (R.map (ic .u8)) ∧ ∀ y ∈ Q, Rd w9 (.slice y.a y.c.cuts.length y.n) 1 (y.c.cuts.map (ic .u8))) ∧ μ = R.length ∧ Own w no w' [row (.slice a9 Q.length c9) (Q.map stp) 39 47]) ?_ ?_
  · exact ⟨_, _, b, p, c, [], none, 0, upd_of (upd_of (mix_of (ds := [0, 2, 3, 4, 5, 6, 7, 8, 9, 10, 11, 12, 13, 14, 15, 16, 17, 18, 19, 20, 21, 22, 23, 24, 25, 26, 27, 28, 29, 30, 31, 32, 33, 34, 35, 36, 37, 38, 39, 40, 41, 42, 43, 44, 45, 46, 47, 48, 49, 50, 51, 52, 53]) (Agr.refl _ _)) rfl) rfl, hr, hby, rfl, (Nat.zero_le _), (fun w9 h9 => ⟨h9, fun y hy => by cases hy⟩), rfl, hs⟩
  · rintro μ ρ' w1 ⟨ρo, R, p9, cR, Q, a9, c9, rfl, hr9, hby9, hdec, hq, hqc, rfl, hs⟩
    refine W_seq ?_
    refine W_seq ?_
    refine W_regO (so 6 8) [] [0, 1, 3, 7, 15, 31, 63, 127] [pv (.slice p9 R.length cR), pv (.int .i64 ((R.length : Nat) : Int)), pv (.bool (decide (0 < ((R.length : Nat) : Int)))), pv (.bool (decide (0 < ((R.length : Nat) : Int)))), pg ((decide (0 < ((R.length : Nat) : Int))) == true) (.slice a9 Q.length c9), pg ((decide (0 < ((R.length : Nat) : Int))) == true) (.int .i64 ((Q.length : Nat) : Int)), pg ((decide (0 < ((R.length : Nat) : Int))) == true) (.bool (decide (((Q.length : Nat) : Int) < 100))), pv (.bool ((decide (0 < ((R.length : Nat) : Int))) && (decide (((Q.length : Nat) : Int) < 100))))] (fun _ _ => _) [7] (by kernel_rfl) hs ⟨?_, ?_, ?_, ?_, ?_, ?_, ?_, ?_, trivial⟩ ?_
    · exact oi [] fun hs => L_mv (.slice p9 R.length cR) (Zz hs)
    · exact oi [0] fun hs => L_lenR (n := R.length) UD_22 (Rd.own' hr9 hs) (by simp) rfl (Zz hs)
    · exact oi [1] fun hs => L_gtr rfl rfl (Zz hs)
    · exact oi [2] fun hs => L_mv (.bool (decide (0 < ((R.length : Nat) : Int)))) (Zz hs)
    · exact ogi [3] fun hG hs => L_mv (.slice a9 Q.length c9) (Zz hs)
    · exact oyi [3, 4] [4] fun hG hs => L_lenR (n := Q.length) UD_26 (hs.rd 0 rfl) (by simp) rfl (Zz hs)
    · exact oyi [3, 5] [5] fun hG hs => L_lss rfl rfl (Zz hs)
    · exact oi [3, 6] fun hs => L_andC (h' := decide (((Q.length : Nat) : Int) < 100)) rfl rfl rfl (Zz hs)
    rintro ρ1 w2 ρ2 hρ hs
    replace hρ : ρ2 = upd (mix [6, 7, 8, 9, 10, 11, 12, 13] ρ1 _) 13 (.bool ((decide (0 < ((R.length : Nat) : Int))) && (decide (((Q.length : Nat) : Int) < 100)))) := hρ
    subst hρ
    refine W_cond (t := (decide (0 < ((R.length : Nat) : Int))) && (decide (((Q.length : Nat) : Int) < 100))) rfl (fun c3 => ?_) (fun c3 => ?_)
    ·
      have c3r := and_r c3
      replace c3 := and_l c3
      replace c3 := of_decide_eq_true c3
      replace c3r := of_decide_eq_true c3r
      refine W_skip ?_
      refine W_block ?_
      refine W_seq ?_
      have hbt : 0 ≤ gd R 0 ∧ gd R 0 < 256 := hby9 _ (by unfold gd; rw [List.getD_eq_getElem?_getD, List.getElem?_eq_getElem (by omega)]; exact List.getElem_mem _)
      refine W_region ?_
      refine RW_op (L_mv (.slice p9 R.length cR) ?_)
      refine RW_op (L_ixR UD_22 S1_5.1 (Rd.own' hr9 hs) rfl rfl (by decide) (by rw [List.length_map]; omega) ?_)
      refine RW_op (L_ldR (j := 0) (V := .int .u8 (gd R 0)) 0 S1_5 (Rd.own' hr9 hs) (gd_at (by omega)) rfl rfl (by omega) ?_)
      refine RW_op (opW_to (V := .int .i64 (gd R 0)) (V' := .int .i64 (((bat R 0).toNat : Nat) : Int)) (L_conv UD_5 UD_3 rfl (wr_i64 (by omega) (by omega)) ⟨rfl, rfl⟩) (congrArg (Value.int .i64) (Int.toNat_of_nonneg hbt.1).symm) ?_)
      refine RW_op (opW_to (V := .int .i64 ((((bat R 0).toNat : Nat) : Int).tmod 9)) (V' := .int .i64 ((whatS R : Nat) : Int)) (L_rem rfl rfl (by omega) rfl ⟨rfl, rfl⟩) (congrArg (Value.int .i64) (Int.tmod_eq_emod_of_nonneg (by omega))) ?_)
      refine RW_op (L_as (.int .i64 ((whatS R : Nat) : Int)) ?_)
      refine RW_nil ?_
      refine W_seq ?_
      refine W_seq ?_
      refine W_region ?_
      refine RW_op (L_mv (.int .i64 ((whatS R : Nat) : Int)) ?_)
      refine RW_op (L_eql rfl rfl ?_)
      refine RW_nil ?_
      refine W_cond (t := decide (((whatS R : Nat) : Int) = 0)) rfl (fun c4 => ?_) (fun c4 => ?_)
      ·
        replace c4 := of_decide_eq_true c4
        refine W_seq ?_
        refine W_region ?_
        refine RW_op (L_mv (.slice p9 R.length cR) ?_)
        refine RW_op (L_sl (l := 1) (h := R.length) (m := cR) (n' := (R.drop 1).length) UDR_22 S1_5.1 (Rd.own' hr9 hs) rfl (.inr ⟨_, _, rfl, rfl⟩) (.inl ⟨rfl, rfl⟩) (.inl ⟨rfl, rfl⟩) (by omega) (by omega) (Nat.le_trans (show R.length ≤ R.length by omega) (Rd.roomM (Rd.own' hr9 hs))) (Nat.le_refl _) (by simp only [List.length_take, List.length_drop] <;> omega) ?_)
        refine RW_op (L_as (.slice (sla p9 1 cR 1) ((R.drop 1).length) (cR - 1)) ?_)
        refine RW_nil ?_
        refine W_exit ?_
        refine ⟨_, ?_, _, (R.drop 1), _, _, Q, a9, c9, upd_of (upd_of (mix_of (ds := [0, 2, 3, 4, 5, 6, 7, 8, 9, 10, 11, 12, 13, 14, 15, 16, 17, 18, 19, 20, 21, 22, 23, 24, 25, 26, 27, 28, 29, 30, 31, 32, 33, 34, 35, 36, 37, 38, 39, 40, 41, 42, 43, 44, 45, 46, 47, 48, 49, 50, 51, 52, 53]) (by repeat (first | exact Agr.refl _ _ | refine Agr.upd ?_ rfl | refine Agr.mix ?_ rfl))) rfl) rfl, (dec_rd1 hr9 (by omega)), (ByOk.drop hby9 1), (hdec.trans (decS_skip (by rw [List.length_map]; omega) (by omega))), hq, (fun w9 h9 => ⟨dec_rd1 (hqc w9 h9).1 (by omega), (hqc w9 h9).2⟩), rfl, hs.take 1⟩
        rw [List.length_drop]; omega
      ·
        replace c4 := of_decide_eq_false c4
        refine W_skip ?_
        refine W_seq ?_
        have h0 : whatS R ≠ 0 := by omega
        have hfp := fixN_pos (whatS_lt R) h0
        refine W_region ?_
        refine RW_op (L_mv (.int .i64 ((whatS R : Nat) : Int)) ?_)
        refine RW_op (L_callP (vs := [.int .i64 ((whatS R : Nat) : Int)]) (V := .int .i64 ((fixN (whatS R) : Nat) : Int)) EN_18 rfl rfl ?hc hs fun w5 hs => ?_)
        case hc => exact (fixed_ok _ (whatS R) (whatS_lt _))
        refine RW_op (L_as (.int .i64 ((fixN (whatS R) : Nat) : Int)) ?_)
        refine RW_nil ?_
        refine W_seq ?_
        refine W_seq ?_
        refine W_region ?_
        refine RW_op (L_mv (.slice p9 R.length cR) ?_)
        refine RW_op (L_lenR (n := R.length) UD_22 (Rd.own' hr9 hs) (by simp) rfl ?_)
        refine RW_op (L_mv (.int .i64 ((fixN (whatS R) : Nat) : Int)) ?_)
        refine RW_op (L_lss rfl rfl ?_)
        refine RW_nil ?_
        refine W_cond (t := decide (((R.length : Nat) : Int) < ((fixN (whatS R) : Nat) : Int))) rfl (fun c6 => ?_) (fun c6 => ?_)
        ·
          replace c6 := of_decide_eq_true c6
          refine W_seq ?_
          refine W_region ?_
          refine RW_op (L_mv (.slice a9 Q.length c9) ?_)
          refine RW_op (L_as (.slice a9 Q.length c9) ?_)
          refine RW_nil ?_
          refine W_ret ?_
          refine ⟨_, res_one (V := .slice a9 Q.length c9) Tryz.results9 rfl, ?_⟩
          have hX : decS b [] = Q.map (·.c) := by
            first
            | exact hdec.trans (decS_short (by omega) (by have := lenS_ge (whatS R) R; omega))
            | exact hdec.trans (decS_stop (by rw [List.length_map]; simp only [Bool.and_eq_false_iff, decide_eq_false_iff_not] at c3; omega))
          exact ⟨((a9, c9), Q), rfl, hs.take 1, hX.symm, fun w9 h9 => (hqc w9 h9).2⟩
        ·
          replace c6 := of_decide_eq_false c6
          refine W_skip ?_
          refine W_seq ?_
          refine W_seq ?_
          refine W_region ?_
          refine RW_op (L_mv (.int .i64 ((whatS R : Nat) : Int)) ?_)
          refine RW_op (L_eql rfl rfl ?_)
          refine RW_nil ?_
          refine W_cond (t := decide (((whatS R : Nat) : Int) = 7)) rfl (fun c7 => ?_) (fun c7 => ?_)
          ·
            replace c7 := of_decide_eq_true c7
            have h74 : fixN (whatS R) = 4 := by rw [show whatS R = 7 by omega]; rfl
            have hb3 : 0 ≤ gd R 3 ∧ gd R 3 < 256 := hby9 _ (by unfold gd; rw [List.getD_eq_getElem?_getD, List.getElem?_eq_getElem (by omega)]; exact List.getElem_mem _)
            have h7L : lenS (whatS R) R = 4 + (gd R 3).toNat % 8 := by unfold lenS; rw [h74, if_pos (by omega)]; rfl
            refine W_region ?_
            refine RW_op (L_mv (.int .i64 ((fixN (whatS R) : Nat) : Int)) ?_)
            refine RW_op (L_mv (.slice p9 R.length cR) ?_)
            refine RW_op (L_ixR UD_22 S1_5.1 (Rd.own' hr9 hs) rfl rfl (by decide) (by rw [List.length_map]; omega) ?_)
            refine RW_op (L_ldR (j := 0) (V := .int .u8 (gd R 3)) 3 S1_5 (Rd.own' hr9 hs) (gd_at (by omega)) rfl rfl (by omega) ?_)
            refine RW_op (opW_to (V := .int .i64 (gd R 3)) (V' := .int .i64 (((gd R 3).toNat : Nat) : Int)) (L_conv UD_5 UD_3 rfl (wr_i64 (by omega) (by omega)) ⟨rfl, rfl⟩) (congrArg (Value.int .i64) (Int.toNat_of_nonneg hb3.1).symm) ?_)
            refine RW_op (opW_to (V := .int .i64 ((((gd R 3).toNat : Nat) : Int).tmod 8)) (V' := .int .i64 (((gd R 3).toNat % 8 : Nat) : Int)) (L_rem rfl rfl (by omega) rfl ⟨rfl, rfl⟩) (congrArg (Value.int .i64) (Int.tmod_eq_emod_of_nonneg (by omega))) ?_)
            refine RW_op (opW_to (V := .int .i64 (((fixN (whatS R)) + ((gd R 3).toNat % 8) : Nat) : Int)) (V' := .int .i64 ((lenS (whatS R) R : Nat) : Int)) (L_add (a := ((fixN (whatS R) : Nat) : Int)) (b := (((gd R 3).toNat % 8 : Nat) : Int)) (c := (((fixN (whatS R)) + ((gd R 3).toNat % 8) : Nat) : Int)) rfl rfl (nat_i64 (by omega) (by omega)) ⟨rfl, rfl⟩) (congrArg (Value.int .i64) (by omega)) ?_)
            refine RW_op (L_as (.int .i64 ((lenS (whatS R) R : Nat) : Int)) ?_)
            refine RW_nil ?_
            refine W_seq ?_
            refine W_seq ?_
            have hL : lenS (whatS R) R = lenS (whatS R) R := rfl
            refine W_region ?_
            refine RW_op (L_mv (.slice p9 R.length cR) ?_)
            refine RW_op (L_lenR (n := R.length) UD_22 (Rd.own' hr9 hs) (by simp) rfl ?_)
            refine RW_op (opW_to (V := .int .i64 ((lenS (whatS R) R : Nat) : Int)) (V' := .int .i64 ((lenS (whatS R) R : Nat) : Int)) (L_mv (.int .i64 ((lenS (whatS R) R : Nat) : Int)) ⟨rfl, rfl⟩) (congrArg (fun z : Nat => Value.int .i64 (z : Int)) hL) ?_)
            refine RW_op (L_lss rfl rfl ?_)
            refine RW_nil ?_
            refine W_cond (t := decide (((R.length : Nat) : Int) < ((lenS (whatS R) R : Nat) : Int))) rfl (fun c8 => ?_) (fun c8 => ?_)
            ·
              replace c8 := of_decide_eq_true c8
              refine W_seq ?_
              refine W_region ?_
              refine RW_op (L_mv (.slice a9 Q.length c9) ?_)
              refine RW_op (L_as (.slice a9 Q.length c9) ?_)
              refine RW_nil ?_
              refine W_ret ?_
              refine ⟨_, res_one (V := .slice a9 Q.length c9) Tryz.results9 rfl, ?_⟩
              have hX : decS b [] = Q.map (·.c) := by
                first
                | exact hdec.trans (decS_short (by omega) (by have := lenS_ge (whatS R) R; omega))
                | exact hdec.trans (decS_stop (by rw [List.length_map]; simp only [Bool.and_eq_false_iff, decide_eq_false_iff_not] at c3; omega))
              exact ⟨((a9, c9), Q), rfl, hs.take 1, hX.symm, fun w9 h9 => (hqc w9 h9).2⟩
            ·
              replace c8 := of_decide_eq_false c8
              refine W_skip ?_
              refine W_seq ?_
              have hk13 : ¬ R.length < lenS (whatS R) R := by omega
              refine W_region ?_
              refine RW_op (L_mv (.slice a9 Q.length c9) ?_)
              refine RW_op (L_mv (.slice p9 R.length cR) ?_)
              refine RW_op (opW_to (V := .int .i64 ((lenS (whatS R) R : Nat) : Int)) (V' := .int .i64 ((lenS (whatS R) R : Nat) : Int)) (L_mv (.int .i64 ((lenS (whatS R) R : Nat) : Int)) ⟨rfl, rfl⟩) (congrArg (fun z : Nat => Value.int .i64 (z : Int)) hL) ?_)
              refine RW_op (L_sl (l := 0) (h := lenS (whatS R) R) (m := cR) (n' := (R.take (lenS (whatS R) R)).length) UDR_22 S1_5.1 (Rd.own' hr9 hs) rfl (.inl ⟨rfl, rfl⟩) (.inr ⟨_, _, rfl, rfl⟩) (.inl ⟨rfl, rfl⟩) (by omega) (by omega) (Nat.le_trans (show (lenS (whatS R) R) ≤ R.length by omega) (Rd.roomM (Rd.own' hr9 hs))) (Nat.le_refl _) (by simp only [List.length_take, List.length_drop] <;> omega) ?_)
              refine RW_op (L_callP (vs := [.slice (sla p9 0 cR 1) ((R.take (lenS (whatS R) R)).length) (cR - 0)]) (V := .agg (stp (Stp.mk (tellS R) (tA p9 cR R) (tC cR R))).toArray) EN_19 rfl rfl ?hc hs fun w9 hs => ?_)
              case hc => exact (told_at (Rd.subM (Rd.own' hr9 hs) 0 (lenS (whatS R) R) cR (by omega) (by omega) (Nat.le_trans (show (lenS (whatS R) R) ≤ R.length by omega) (Rd.roomM (Rd.own' hr9 hs))) (Nat.le_refl _) _ (by simp only [List.length_take, List.length_drop] <;> omega)) hby9 h0 hk13)
              refine RW_op (L_bs (vals := [.agg (stp (Stp.mk (tellS R) (tA p9 cR R) (tC cR R))).toArray]) (ls := List.map stp ([(Stp.mk (tellS R) (tA p9 cR R) (tC cR R))] : List Stp)) EL_26 rfl rfl rfl (len_map (enc := stp) (fun _ => rfl) _) (one_map stp_one _) (Nat.le_of_ble_eq_true rfl) hs fun b10 w11 hs => ?_)
              refine RW_op (L_appN (ls' := (Q ++ [(Stp.mk (tellS R) (tA p9 cR R) (tC cR R))]).map stp) (n := (Q ++ [(Stp.mk (tellS R) (tA p9 cR R) (tC cR R))]).length) EL_26 hs 0 rfl rfl rfl (hs.rd 1 rfl) (one_map stp_one _) (by simp only [List.length_map, List.length_append, List.length_cons, List.length_nil]; omega) (by simp) (by simp) fun a12 c12 w13 hs => ?_)
              refine RW_op (L_as (.slice a12 ((Q ++ [(Stp.mk (tellS R) (tA p9 cR R) (tC cR R))]).length) c12) ?_)
              refine RW_nil ?_
              refine W_region ?_
              refine RW_op (L_mv (.slice p9 R.length cR) ?_)
              refine RW_op (opW_to (V := .int .i64 ((lenS (whatS R) R : Nat) : Int)) (V' := .int .i64 ((lenS (whatS R) R : Nat) : Int)) (L_mv (.int .i64 ((lenS (whatS R) R : Nat) : Int)) ⟨rfl, rfl⟩) (congrArg (fun z : Nat => Value.int .i64 (z : Int)) hL) ?_)
              refine RW_op (L_sl (l := lenS (whatS R) R) (h := R.length) (m := cR) (n' := (R.drop (lenS (whatS R) R)).length) UDR_22 S1_5.1 (Rd.own' hr9 hs) rfl (.inr ⟨_, _, rfl, rfl⟩) (.inl ⟨rfl, rfl⟩) (.inl ⟨rfl, rfl⟩) (by omega) (by omega) (Nat.le_trans (show R.length ≤ R.length by omega) (Rd.roomM (Rd.own' hr9 hs))) (Nat.le_refl _) (by simp only [List.length_take, List.length_drop] <;> omega) ?_)
              refine RW_op (L_as (.slice (sla p9 (lenS (whatS R) R) cR 1) ((R.drop (lenS (whatS R) R)).length) (cR - (lenS (whatS R) R))) ?_)
              refine RW_nil ?_
              refine ⟨_, ?_, _, (R.drop (lenS (whatS R) R)), _, _, Q ++ [(Stp.mk (tellS R) (tA p9 cR R) (tC cR R))], a12, c12, upd_of (upd_of (mix_of (ds := [0, 2, 3, 4, 5, 6, 7, 8, 9, 10, 11, 12, 13, 14, 15, 16, 17, 18, 19, 20, 21, 22, 23, 24, 25, 26, 27, 28, 29, 30, 31, 32, 33, 34, 35, 36, 37, 38, 39, 40, 41, 42, 43, 44, 45, 46, 47, 48, 49, 50, 51, 52, 53]) (by repeat (first | exact Agr.refl _ _ | refine Agr.upd ?_ rfl | refine Agr.mix ?_ rfl))) rfl) rfl, (Rd.dropM hr9 (lenS (whatS R) R) (by omega) _ (by rw [List.length_drop])), (ByOk.drop hby9 _), ((hdec.trans (decS_step (by rw [List.length_map]; omega) h0 hk13)).trans (by rw [List.map_append]; rfl)), (by rw [List.length_append, List.length_singleton]; omega), (fun w9 h9 => ⟨Rd.dropM (hqc w9 h9).1 (lenS (whatS R) R) (by omega) _ (by rw [List.length_drop]), fun y hy => (List.mem_append.1 hy).elim ((hqc w9 h9).2 y) (fun hy => by rw [List.mem_singleton.1 hy]; exact told_cut (hqc w9 h9).1 h0 hk13)⟩), rfl, hs.take 1⟩
              rw [List.length_drop]; have := fixN_pos (whatS_lt R) h0; have := lenS_ge (whatS R) R; omega
          ·
            replace c7 := of_decide_eq_false c7
            refine W_skip ?_
            refine W_seq ?_
            refine W_seq ?_
            have hL : fixN (whatS R) = lenS (whatS R) R := by unfold lenS; rw [if_neg (by omega)]; rfl
            refine W_region ?_
            refine RW_op (L_mv (.slice p9 R.length cR) ?_)
            refine RW_op (L_lenR (n := R.length) UD_22 (Rd.own' hr9 hs) (by simp) rfl ?_)
            refine RW_op (opW_to (V := .int .i64 ((fixN (whatS R) : Nat) : Int)) (V' := .int .i64 ((lenS (whatS R) R : Nat) : Int)) (L_mv (.int .i64 ((fixN (whatS R) : Nat) : Int)) ⟨rfl, rfl⟩) (congrArg (fun z : Nat => Value.int .i64 (z : Int)) hL) ?_)
            refine RW_op (L_lss rfl rfl ?_)
            refine RW_nil ?_
            refine W_cond (t := decide (((R.length : Nat) : Int) < ((lenS (whatS R) R : Nat) : Int))) rfl (fun c14 => ?_) (fun c14 => ?_)
            ·
              replace c14 := of_decide_eq_true c14
              refine W_seq ?_
              refine W_region ?_
              refine RW_op (L_mv (.slice a9 Q.length c9) ?_)
              refine RW_op (L_as (.slice a9 Q.length c9) ?_)
              refine RW_nil ?_
              refine W_ret ?_
              refine ⟨_, res_one (V := .slice a9 Q.length c9) Tryz.results9 rfl, ?_⟩
              have hX : decS b [] = Q.map (·.c) := by
                first
                | exact hdec.trans (decS_short (by omega) (by have := lenS_ge (whatS R) R; omega))
                | exact hdec.trans (decS_stop (by rw [List.length_map]; simp only [Bool.and_eq_false_iff, decide_eq_false_iff_not] at c3; omega))
              exact ⟨((a9, c9), Q), rfl, hs.take 1, hX.symm, fun w9 h9 => (hqc w9 h9).2⟩
            ·
              replace c14 := of_decide_eq_false c14
              refine W_skip ?_
              refine W_seq ?_
              have hk13 : ¬ R.length < lenS (whatS R) R := by omega
              refine W_region ?_
              refine RW_op (L_mv (.slice a9 Q.length c9) ?_)
              refine RW_op (L_mv (.slice p9 R.length cR) ?_)
              refine RW_op (opW_to (V := .int .i64 ((fixN (whatS R) : Nat) : Int)) (V' := .int .i64 ((lenS (whatS R) R : Nat) : Int)) (L_mv (.int .i64 ((fixN (whatS R) : Nat) : Int)) ⟨rfl, rfl⟩) (congrArg (fun z : Nat => Value.int .i64 (z : Int)) hL) ?_)
              refine RW_op (L_sl (l := 0) (h := lenS (whatS R) R) (m := cR) (n' := (R.take (lenS (whatS R) R)).length) UDR_22 S1_5.1 (Rd.own' hr9 hs) rfl (.inl ⟨rfl, rfl⟩) (.inr ⟨_, _, rfl, rfl⟩) (.inl ⟨rfl, rfl⟩) (by omega) (by omega) (Nat.le_trans (show (lenS (whatS R) R) ≤ R.length by omega) (Rd.roomM (Rd.own' hr9 hs))) (Nat.le_refl _) (by simp only [List.length_take, List.length_drop] <;> omega) ?_)
              refine RW_op (L_callP (vs := [.slice (sla p9 0 cR 1) ((R.take (lenS (whatS R) R)).length) (cR - 0)]) (V := .agg (stp (Stp.mk (tellS R) (tA p9 cR R) (tC cR R))).toArray) EN_19 rfl rfl ?hc hs fun w15 hs => ?_)
              case hc => exact (told_at (Rd.subM (Rd.own' hr9 hs) 0 (lenS (whatS R) R) cR (by omega) (by omega) (Nat.le_trans (show (lenS (whatS R) R) ≤ R.length by omega) (Rd.roomM (Rd.own' hr9 hs))) (Nat.le_refl _) _ (by simp only [List.length_take, List.length_drop] <;> omega)) hby9 h0 hk13)
              refine RW_op (L_bs (vals := [.agg (stp (Stp.mk (tellS R) (tA p9 cR R) (tC cR R))).toArray]) (ls := List.map stp ([(Stp.mk (tellS R) (tA p9 cR R) (tC cR R))] : List Stp)) EL_26 rfl rfl rfl (len_map (enc := stp) (fun _ => rfl) _) (one_map stp_one _) (Nat.le_of_ble_eq_true rfl) hs fun b16 w17 hs => ?_)
              refine RW_op (L_appN (ls' := (Q ++ [(Stp.mk (tellS R) (tA p9 cR R) (tC cR R))]).map stp) (n := (Q ++ [(Stp.mk (tellS R) (tA p9 cR R) (tC cR R))]).length) EL_26 hs 0 rfl rfl rfl (hs.rd 1 rfl) (one_map stp_one _) (by simp only [List.length_map, List.length_append, List.length_cons, List.length_nil]; omega) (by simp) (by simp) fun a18 c18 w19 hs => ?_)
              refine RW_op (L_as (.slice a18 ((Q ++ [(Stp.mk (tellS R) (tA p9 cR R) (tC cR R))]).length) c18) ?_)
              refine RW_nil ?_
              refine W_region ?_
              refine RW_op (L_mv (.slice p9 R.length cR) ?_)
              refine RW_op (opW_to (V := .int .i64 ((fixN (whatS R) : Nat) : Int)) (V' := .int .i64 ((lenS (whatS R) R : Nat) : Int)) (L_mv (.int .i64 ((fixN (whatS R) : Nat) : Int)) ⟨rfl, rfl⟩) (congrArg (fun z : Nat => Value.int .i64 (z : Int)) hL) ?_)
              refine RW_op (L_sl (l := lenS (whatS R) R) (h := R.length) (m := cR) (n' := (R.drop (lenS (whatS R) R)).length) UDR_22 S1_5.1 (Rd.own' hr9 hs) rfl (.inr ⟨_, _, rfl, rfl⟩) (.inl ⟨rfl, rfl⟩) (.inl ⟨rfl, rfl⟩) (by omega) (by omega) (Nat.le_trans (show R.length ≤ R.length by omega) (Rd.roomM (Rd.own' hr9 hs))) (Nat.le_refl _) (by simp only [List.length_take, List.length_drop] <;> omega) ?_)
              refine RW_op (L_as (.slice (sla p9 (lenS (whatS R) R) cR 1) ((R.drop (lenS (whatS R) R)).length) (cR - (lenS (whatS R) R))) ?_)
              refine RW_nil ?_
              refine ⟨_, ?_, _, (R.drop (lenS (whatS R) R)), _, _, Q ++ [(Stp.mk (tellS R) (tA p9 cR R) (tC cR R))], a18, c18, upd_of (upd_of (mix_of (ds := [0, 2, 3, 4, 5, 6, 7, 8, 9, 10, 11, 12, 13, 14, 15, 16, 17, 18, 19, 20, 21, 22, 23, 24, 25, 26, 27, 28, 29, 30, 31, 32, 33, 34, 35, 36, 37, 38, 39, 40, 41, 42, 43, 44, 45, 46, 47, 48, 49, 50, 51, 52, 53]) (by repeat (first | exact Agr.refl _ _ | refine Agr.upd ?_ rfl | refine Agr.mix ?_ rfl))) rfl) rfl, (Rd.dropM hr9 (lenS (whatS R) R) (by omega) _ (by rw [List.length_drop])), (ByOk.drop hby9 _), ((hdec.trans (decS_step (by rw [List.length_map]; omega) h0 hk13)).trans (by rw [List.map_append]; rfl)), (by rw [List.length_append, List.length_singleton]; omega), (fun w9 h9 => ⟨Rd.dropM (hqc w9 h9).1 (lenS (whatS R) R) (by omega) _ (by rw [List.length_drop]), fun y hy => (List.mem_append.1 hy).elim ((hqc w9 h9).2 y) (fun hy => by rw [List.mem_singleton.1 hy]; exact told_cut (hqc w9 h9).1 h0 hk13)⟩), rfl, hs.take 1⟩
              rw [List.length_drop]; have := fixN_pos (whatS_lt R) h0; have := lenS_ge (whatS R) R; omega
    ·
      refine W_exit ?_
      refine W_seq ?_
      refine W_region ?_
      refine RW_op (L_mv (.slice a9 Q.length c9) ?_)
      refine RW_op (L_as (.slice a9 Q.length c9) ?_)
      refine RW_nil ?_
      refine W_ret ?_
      refine ⟨_, res_one (V := .slice a9 Q.length c9) Tryz.results9 rfl, ?_⟩
      have hX : decS b [] = Q.map (·.c) := by
        first
        | exact hdec.trans (decS_short (by omega) (by have := lenS_ge (whatS R) R; omega))
        | exact hdec.trans (decS_stop (by rw [List.length_map]; simp only [Bool.and_eq_false_iff, decide_eq_false_iff_not] at c3; omega))
      exact ⟨((a9, c9), Q), rfl, hs.take 1, hX.symm, fun w9 h9 => (hqc w9 h9).2⟩
end Tt
end Go.Proofs
namespace Go.Proofs
open Go Go.Vx Go.RowKit
namespace Tt
set_option maxRecDepth 20000 in
set_option maxHeartbeats 4000000 in
theorem decodes_ok (w : World) (p : Option Addr) (c : Nat) (b : Bs) (what n : Int) (hby : ByOk b) (hr : Rd w (.slice p b.length c) 1 (b.map (ic .u8))) (T : TypeId) (hw : w.heap[0]? = some (.cells (Ce.numsV .u32 Ct.half).toArray T (0, 0))) : Calls Tryz.prog 3 #[.slice p b.length c, .int .i64 what, .int .i64 n] w (fun e w' => e = .returned (.bool true) ∧ Own w no w' []) := by
  refine calls_of_Wn (n := 50) Tryz.func3 rfl Tryz.ntmps3 rfl ?_
  have hs := Own.start w
  have hn := hr.sml
  refine W_seq ?_
  refine W_region ?_
  refine RW_op (L_as (.bool false) ?_)
  refine RW_nil ?_
  refine W_seq ?_
  refine W_seq ?_
  refine W_region ?_
  refine RW_op (L_callP (vs := []) (V := .bool true) EN_7 rfl rfl ?hc hs fun w1 hs => ?_)
  case hc => exact (Ct.run_f7 T (half_own hs hw))
  refine RW_op (L_not rfl ?_)
  refine RW_nil ?_
  refine W_condF rfl ?_
  refine W_skip ?_
  refine W_seq ?_
  refine W_seq ?_
  refine W_region ?_
  refine RW_op (L_mv (.slice p b.length c) ?_)
  refine RW_op (L_lenR (n := b.length) UD_22 (Rd.own' hr hs) (by simp) rfl ?_)
  refine RW_op (L_gtr rfl rfl ?_)
  refine RW_nil ?_
  refine W_cond (t := decide (2000 < ((b.length : Nat) : Int))) rfl (fun c2 => ?_) (fun c2 => ?_)
  ·
    replace c2 := of_decide_eq_true c2
    refine W_seq ?_
    refine W_region ?_
    refine RW_op (L_as (.bool true) ?_)
    refine RW_nil ?_
    refine W_ret ?_
    refine ⟨_, res_one (V := .bool true) Tryz.results3 rfl, ?_⟩
    refine Zr hs ?_
    rfl
  ·
    replace c2 := of_decide_eq_false c2
    refine W_skip ?_
    refine W_seq ?_
    refine W_region ?_
    refine RW_op (L_mv (.slice p b.length c) ?_)
    refine RW_op (L_callX (vs := [.slice p b.length c]) (V := fun x : Option Addr × Nat => .slice x.1 (decS b []).length x.2) EN_8 rfl rfl (dec_ok _ p c b hby (Rd.own' hr hs)) hs fun x3 w4 hs _ => ?_)
    refine RW_op (L_mv (.slice p b.length c) ?_)
    refine RW_op (L_callX (vs := [.slice p b.length c]) (V := fun x : (Option Addr × Nat) × List Stp => .slice x.1.1 x.2.length x.1.2) EN_9 rfl rfl (rDec_ok _ p c b hby (Rd.own' hr hs)) hs fun x5 w6 hs hF => ?_)
    refine RW_op (L_as (.slice x3.1 ((decS b []).length) x3.2) ?_)
    refine RW_op (L_as (.slice x5.1.1 x5.2.length x5.1.2) ?_)
    refine RW_nil ?_
    refine W_seq ?_
    refine W_seq ?_
    obtain ⟨⟨A, hA⟩, hs⟩ := hs.unex 0 rfl
    have eA : (decS b []).length = A.length := by rw [← hA, List.length_map]
    rw [eA] at hs ⊢
    replace hs := hs.split 0 rfl
    replace hs : Own w no _ [row (.slice x3.1 A.length x3.2) (A.map stp) 41 47, row (.slice x5.1.1 x5.2.length x5.1.2) (x5.2.map stp) 39 47, star (A.map cutR)] := hs
    obtain ⟨hB, hBc⟩ := hF
    have hAB : A.map (·.c) = (x5.2).map (·.c) := by rw [hA, hB]
    have hle : A.length = x5.2.length := by have := congrArg List.length hAB; simpa using this
    have hA9 : A.length ≤ 100 := by rw [← eA]; exact decS_len _ _ (Nat.zero_le _)
    refine W_regO (so 19 14) [] [0, 1, 0, 4, 15, 31, 63, 63, 255, 63, 63, 2047, 4095, 8191] [pv (.slice x3.1 A.length x3.2), pv (.int .i64 ((A.length : Nat) : Int)), pv (.slice x5.1.1 x5.2.length x5.1.2), pv (.int .i64 ((x5.2.length : Nat) : Int)), pv (.bool false), pv (.bool false), pv (.int .i64 what), pv (.int .i64 n), pv (.int .i64 ((Ct.sizG what n : Nat) : Int)), pv (.int .i64 what), pv (.int .i64 n), pv (.int .i64 ((Ct.sizG what n : Nat) : Int)), pv (.bool false), pv (.bool false)] (fun _ _ => _) [13] (by kernel_rfl) hs ⟨?_, ?_, ?_, ?_, ?_, ?_, ?_, ?_, ?_, ?_, ?_, ?_, ?_, ?_, trivial⟩ ?_
    · exact oi [] fun hs => L_mv (.slice x3.1 A.length x3.2) (Zz hs)
    · exact oi [0] fun hs => L_lenR (n := A.length) UD_24 (hs.rd 0 rfl) (by simp) rfl (Zz hs)
    · exact oi [] fun hs => L_mv (.slice x5.1.1 x5.2.length x5.1.2) (Zz hs)
    · exact oi [2] fun hs => L_lenR (n := x5.2.length) UD_26 (hs.rd 1 rfl) (by simp) rfl (Zz hs)
    · exact oi [1, 3] fun hs => opW_to (V := .bool (!decide (((A.length : Nat) : Int) = ((x5.2.length : Nat) : Int)))) (V' := .bool false) (L_neq rfl rfl ⟨rfl, rfl⟩) (congrArg Value.bool (by rw [decide_eq_true (by omega)]; rfl)) (Zz hs)
    · exact oi [4] fun hs => L_mv (.bool false) (Zz hs)
    · exact obg [5] [] false rfl (fun _ => rfl) rfl (fun _ _ _ h => nomatch h) fun D ρ w _ hs => L_mv (.int .i64 what) (Zz hs)
    · exact obg [5] [] false rfl (fun _ => rfl) rfl (fun _ _ _ h => nomatch h) fun D ρ w _ hs => L_mv (.int .i64 n) (Zz hs)
    · exact obg [5, 6, 7] [] false rfl (fun _ => rfl) rfl (fun _ _ _ h => nomatch h) fun D ρ w _ hs => L_callP (vs := [.int .i64 what, .int .i64 n]) (V := .int .i64 ((Ct.sizG what n : Nat) : Int)) EN_10 rfl rfl (Ct.siz10_ok (what := what) (n := n)) hs fun _ hs => Zz hs
    · exact obg [5] [] false rfl (fun _ => rfl) rfl (fun _ _ _ h => nomatch h) fun D ρ w _ hs => L_mv (.int .i64 what) (Zz hs)
    · exact obg [5] [] false rfl (fun _ => rfl) rfl (fun _ _ _ h => nomatch h) fun D ρ w _ hs => L_mv (.int .i64 n) (Zz hs)
    · exact obg [5, 9, 10] [] false rfl (fun _ => rfl) rfl (fun _ _ _ h => nomatch h) fun D ρ w _ hs => L_callP (vs := [.int .i64 what, .int .i64 n]) (V := .int .i64 ((Ct.sizG what n : Nat) : Int)) EN_11 rfl rfl (Ct.siz11_ok (what := what) (n := n)) hs fun _ hs => Zz hs
    · exact obg [5, 8, 11] [] false rfl (fun _ => rfl) rfl (fun _ _ _ h => nomatch h) fun D ρ w _ hs => opW_to (V := .bool (!decide (((Ct.sizG what n : Nat) : Int) = ((Ct.sizG what n : Nat) : Int)))) (V' := .bool false) (L_neq rfl rfl ⟨rfl, rfl⟩) (congrArg Value.bool (by rw [decide_eq_true (by omega)]; rfl)) (Zz hs)
    · exact oi [5, 12] fun hs => L_pick (V := .bool false) rfl rfl (Zz hs)
    rintro ρ1 w9 ρ2 hρ hs
    replace hρ : ρ2 = upd (mix [19, 20, 21, 22, 23, 24, 25, 26, 27, 28, 29, 30, 31, 32] ρ1 _) 32 (.bool false) := hρ
    subst hρ
    refine W_condF rfl ?_
    refine W_skip ?_
    refine W_seq ?_
    refine W_seq ?_
    refine W_region ?_
    refine RW_op (L_mv (.slice x3.1 A.length x3.2) ?_)
    refine RW_op (L_lenR (n := A.length) UD_24 (hs.rd 0 rfl) (by simp) rfl ?_)
    refine RW_op (L_mv (.int .i64 0) ?_)
    refine RW_nil ?_
    refine W_block ?_
    refine W_loopI (fun ρ μ ρ' w' => ∃ (ρo : Env) (i : Nat), ρ' = upd (mix [6, 9, 35, 36, 37, 38, 39, 40, 41, 42, 43, 44, 45, 46, 47, 48, 49] ρo ρ) 35 (.int .i64 ((i : Nat) : Int)) ∧ (i ≤ A.length) ∧ μ = A.length - i ∧ Own w no w' [row (.slice x3.1 A.length x3.2) (A.map stp) 41 47, row (.slice x5.1.1 x5.2.length x5.1.2) (x5.2.map stp) 39 47, star (A.map cutR)]) ?_ ?_
    · exact ⟨_, _, 0, upd_of (mix_of (ds := [6, 9, 35, 36, 37, 38, 39, 40, 41, 42, 43, 44, 45, 46, 47, 48, 49]) (Agr.refl _ _)) rfl, (Nat.zero_le _), rfl, hs⟩
    · rintro μ ρ' w10 ⟨ρo, i, rfl, hi, rfl, hs⟩
      refine W_seq ?_
      refine W_region ?_
      refine RW_op (L_lss rfl rfl ?_)
      refine RW_nil ?_
      refine W_seq ?_
      refine W_cond (t := decide (((i : Nat) : Int) < ((A.length : Nat) : Int))) rfl (fun c11 => ?_) (fun c11 => ?_)
      ·
        replace c11 := of_decide_eq_true c11
        refine W_skip ?_
        refine W_seq ?_
        refine W_block ?_
        refine W_seq ?_
        refine W_region ?_
        refine RW_op (L_mv (.int .i64 ((i : Nat) : Int)) ?_)
        refine RW_op (L_as (.int .i64 ((i : Nat) : Int)) ?_)
        refine RW_nil ?_
        refine W_seq ?_
        refine W_regD HM (so 38 11) [] [0, 0, 3, 7, 15, 0, 0, 96, 224, 511, 1023] [pv (.slice x3.1 A.length x3.2), pv (.int .i64 ((i : Nat) : Int)), pv (.pointer (some ⟨bkS (.slice x3.1 A.length x3.2), ofS (.slice x3.1 A.length x3.2) + ((i : Nat) : Int).toNat * 47, none⟩)), pv (.agg (stp (gd A i)).toArray), pv (.agg (stp (gd A i)).toArray), pv (.slice x5.1.1 x5.2.length x5.1.2), pv (.int .i64 ((i : Nat) : Int)), pv (.pointer (some ⟨bkS (.slice x5.1.1 x5.2.length x5.1.2), ofS (.slice x5.1.1 x5.2.length x5.1.2) + ((i : Nat) : Int).toNat * 47, none⟩)), pv (.agg (stp (gd x5.2 i)).toArray), pv (.bool true), pv (.bool false)] (fun _ _ => _) [10] (by kernel_rfl) hs ⟨?_, ?_, ?_, ?_, ?_, ?_, ?_, ?_, ?_, ?_, ?_, trivial⟩ ?_
        · exact oi [] fun hs => L_mv (.slice x3.1 A.length x3.2) (Zz hs)
        · exact oi [] fun hs => L_mv (.int .i64 ((i : Nat) : Int)) (Zz hs)
        · exact oi [0, 1] fun hs => L_ixR UD_24 SA_41.1 (hs.rd 0 rfl) rfl rfl (by omega) (by rw [List.length_map]; omega) (Zz hs)
        · exact oi [2] fun hs => L_ldRA (j := 0) (vs := stp (gd A i)) i SA_41 (hs.rd 0 rfl) (gd_at (by omega)) rfl rfl rfl (by omega) (Zz hs)
        · exact oi [3] fun hs => L_callP (vs := [.agg (stp (gd A i)).toArray]) (V := .agg (stp (gd A i)).toArray) EN_13 rfl rfl (ours23_ok _ (gd A i)) hs fun _ hs => Zz hs
        · exact oi [] fun hs => L_mv (.slice x5.1.1 x5.2.length x5.1.2) (Zz hs)
        · exact oi [] fun hs => L_mv (.int .i64 ((i : Nat) : Int)) (Zz hs)
        · exact oi [5, 6] fun hs => L_ixR UD_26 SA_39.1 (hs.rd 1 rfl) rfl rfl (by omega) (by rw [List.length_map]; omega) (Zz hs)
        · exact oi [7] fun hs => L_ldRA (j := 0) (vs := stp (gd x5.2 i)) i SA_39 (hs.rd 1 rfl) (gd_at (by omega)) rfl rfl rfl (by omega) (Zz hs)
        · exact oi [4, 8] fun hs => L_callPV (V' := .bool true) (by rw [gd_same hAB (by omega)]; exact congrArg Value.bool (sameC_self _)) (vs := [.agg (stp (gd A i)).toArray, .agg (stp (gd x5.2 i)).toArray]) (V := .bool (sameC (gd A i).c (gd x5.2 i).c)) EN_12 rfl rfl (same23_ok _ (gd A i) (gd x5.2 i) (.inl (cut_rd hs 2 rfl i (by omega))) (.inl (Rd.own' (hBc _ hr _ (gd_mem (by omega))) hs))) hs fun _ hs => Zz hs
        · exact oi [9] fun hs => L_not rfl (Zz hs)
        rintro ρ1 w14 ρ2 hρ hs
        replace hρ : ρ2 = upd (mix [38, 39, 40, 41, 42, 43, 44, 45, 46, 47, 48] ρ1 _) 48 (.bool false) := hρ
        subst hρ
        refine W_condF rfl ?_
        refine W_skip ?_
        refine W_region ?_
        refine RW_op (L_add (a := ((i : Nat) : Int)) (b := 1) (c := ((i + 1 : Nat) : Int)) rfl rfl (nat_i64 (by omega) (by omega)) ?_)
        refine RW_op (L_mv (.int .i64 ((i + 1 : Nat) : Int)) ?_)
        refine RW_nil ?_
        refine ⟨_, ?_, _, i + 1, upd_of (mix_of (ds := [6, 9, 35, 36, 37, 38, 39, 40, 41, 42, 43, 44, 45, 46, 47, 48, 49]) (by repeat (first | exact Agr.refl _ _ | refine Agr.upd ?_ rfl | refine Agr.mix ?_ rfl))) rfl, (by omega), rfl, hs.take 3⟩
        omega
      ·
        replace c11 := of_decide_eq_false c11
        refine W_exit ?_
        refine W_seq ?_
        refine W_region ?_
        refine RW_op (L_as (.bool true) ?_)
        refine RW_nil ?_
        refine W_ret ?_
        refine ⟨_, res_one (V := .bool true) Tryz.results3 rfl, ?_⟩
        refine Zr hs ?_
        rfl
end Tt
end Go.Proofs
