/- A part of a proof: what functions of the program compute, and plain facts on that. -/
import Derived.Test.YthejeobcehpdcaaGreatDoorScriptShortP12
import Derived.KernelRfl
import Derived.Test.YthejeobcehpdcaaGreatDoorProg
set_option linter.unusedVariables false
set_option linter.unusedSectionVars false
set_option linter.unusedSimpArgs false
namespace Go.Proofs
open Go Go.Vx Go.RowKit
namespace Tt
theorem EN_10 : En Tryz.prog 10 := Tryz.call10
theorem EN_12 : En Tryz.prog 12 := Tryz.call12
theorem EN_13 : En Tryz.prog 13 := Tryz.call13
theorem EN_7 : En Tryz.prog 7 := Tryz.call7
theorem EN_8 : En Tryz.prog 8 := Tryz.call8
theorem FA_41_0 : FA Tryz.prog 41 0 0 := fun b o w => by simp [Instr.fieldAt, Instr.sureAddr, fieldPlace, add_eq]
theorem FA_41_9 : FA Tryz.prog 41 9 46 := fun b o w => by simp [Instr.fieldAt, Instr.sureAddr, fieldPlace, add_eq]
theorem UD_30 : Ud Tryz.prog 30 (.int .u16) := Tryz.runUnderlying30
end Tt
end Go.Proofs
namespace Go.Proofs
open Go Go.Vx Go.RowKit
namespace Tt
set_option maxRecDepth 20000 in
set_option maxHeartbeats 4000000 in
theorem ours23_ok (w : World) (x : Stp) : Calls Tryz.prog 13 #[.agg (stp x).toArray] w (fun e w' => e = .returned (.agg (stp x).toArray) ∧ Own w no w' []) := by
  refine calls_of_Wn (n := 4) Tryz.func13 rfl Tryz.ntmps13 rfl ?_
  have hs := Own.start w
  refine W_seq ?_
  refine W_region ?_
  refine RW_op (L_box (V := .agg (stp x).toArray) (cs := stp x) rfl rfl hs fun b1 w2 hs => ?_)
  refine RW_op (L_alloc (cs := stp stpz) ZV_39 rfl hs fun b3 w4 hs => ?_)
  refine RW_nil ?_
  refine W_seq ?_
  refine W_region ?_
  refine RW_op (L_ldW (cs := stp x) SA_41 hs 0 rfl rfl rfl ?_)
  refine RW_op (L_st (V := .agg (stp x).toArray) (vs := stp x) (cs' := stp x) SA_39.1 hs 1 rfl rfl rfl rfl rfl (Nat.le_of_ble_eq_true rfl) (stp_one _) (spl_whole rfl) fun w5 hs => ?_)
  refine RW_nil ?_
  refine W_ret ?_
  refine ⟨_, res_cell (cs := stp x) Tryz.results13 SA_39 hs 1 rfl rfl rfl, ?_⟩
  refine Zr hs ?_
  rfl
set_option maxRecDepth 20000 in
set_option maxHeartbeats 4000000 in
theorem same23_ok (w : World) (x y : Stp) (hx : RdX w (.slice x.a x.c.cuts.length x.n) 1 (x.c.cuts.map (ic .u8))) (hy : RdX w (.slice y.a y.c.cuts.length y.n) 1 (y.c.cuts.map (ic .u8))) : Calls Tryz.prog 12 #[.agg (stp x).toArray, .agg (stp y).toArray] w (fun e w' => e = .returned (.bool (sameC x.c y.c)) ∧ Own w no w' []) := by
  refine calls_of_Wn (n := 75) Tryz.func12 rfl Tryz.ntmps12 rfl ?_
  have hs := Own.start w
  refine W_seq ?_
  refine W_region ?_
  refine RW_op (L_box (V := .agg (stp x).toArray) (cs := stp x) rfl rfl hs fun b1 w2 hs => ?_)
  refine RW_op (L_box (V := .agg (stp y).toArray) (cs := stp y) rfl rfl hs fun b3 w4 hs => ?_)
  refine RW_op (L_as (.bool false) ?_)
  refine RW_nil ?_
  refine W_seq ?_
  refine W_regO (so 5 70 ++ [some 4]) [] [0, 1, 0, 4, 15, 31, 63, 127, 63, 319, 1023, 2047, 4095, 8191, 16383, 8191, 40959, 131071, 262143, 524287, 1048575, 2097151, 1048575, 5242879, 16777215, 33554431, 67108863, 134217727, 268435455, 134217727, 671088639, 2147483647, 4294967295, 8589934591, 17179869183, 34359738367, 17179869183, 85899345919, 274877906943, 549755813887, 1099511627775, 2199023255551, 4398046511103, 2199023255551, 10995116277759, 35184372088831, 70368744177663, 140737488355327, 281474976710655, 562949953421311, 281474976710655, 1407374883553279, 4503599627370495, 9007199254740991, 18014398509481983, 36028797018963967, 72057594037927935, 36028797018963967, 180143985094819839, 576460752303423487, 1152921504606846975, 2305843009213693951, 4611686018427387903, 9223372036854775807, 18446744073709551615, 4611686018427387903, 41505174165846491135, 115292150460684697599, 295147905179352825855, 590295810358705651711, 1180591620717411303423] [pv (.pointer (some ⟨b1, 0 + 0, none⟩)), pv (.int .i64 x.c.what), pv (.pointer (some ⟨b3, 0 + 0, none⟩)), pv (.int .i64 y.c.what), pv (.bool (decide (x.c.what = y.c.what))), pv (.bool (decide (x.c.what = y.c.what))), pg ((decide (x.c.what = y.c.what)) == true) (.pointer (some ⟨b1, 0 + 1, none⟩)), pg ((decide (x.c.what = y.c.what)) == true) (.int .u8 x.c.a), pg ((decide (x.c.what = y.c.what)) == true) (.pointer (some ⟨b3, 0 + 1, none⟩)), pg ((decide (x.c.what = y.c.what)) == true) (.int .u8 y.c.a), pg ((decide (x.c.what = y.c.what)) == true) (.bool (decide (x.c.a = y.c.a))), pv (.bool ((decide (x.c.what = y.c.what)) && (decide (x.c.a = y.c.a)))), pv (.bool ((decide (x.c.what = y.c.what)) && (decide (x.c.a = y.c.a)))), pg (((decide (x.c.what = y.c.what)) && (decide (x.c.a = y.c.a))) == true) (.pointer (some ⟨b1, 0 + 2, none⟩)), pg (((decide (x.c.what = y.c.what)) && (decide (x.c.a = y.c.a))) == true) (.int .u8 x.c.b), pg (((decide (x.c.what = y.c.what)) && (decide (x.c.a = y.c.a))) == true) (.pointer (some ⟨b3, 0 + 2, none⟩)), pg (((decide (x.c.what = y.c.what)) && (decide (x.c.a = y.c.a))) == true) (.int .u8 y.c.b), pg (((decide (x.c.what = y.c.what)) && (decide (x.c.a = y.c.a))) == true) (.bool (decide (x.c.b = y.c.b))), pv (.bool (((decide (x.c.what = y.c.what)) && (decide (x.c.a = y.c.a))) && (decide (x.c.b = y.c.b)))), pv (.bool (((decide (x.c.what = y.c.what)) && (decide (x.c.a = y.c.a))) && (decide (x.c.b = y.c.b)))), pg ((((decide (x.c.what = y.c.what)) && (decide (x.c.a = y.c.a))) && (decide (x.c.b = y.c.b))) == true) (.pointer (some ⟨b1, 0 + 3, none⟩)), pg ((((decide (x.c.what = y.c.what)) && (decide (x.c.a = y.c.a))) && (decide (x.c.b = y.c.b))) == true) (.int .i64 x.c.n), pg ((((decide (x.c.what = y.c.what)) && (decide (x.c.a = y.c.a))) && (decide (x.c.b = y.c.b))) == true) (.pointer (some ⟨b3, 0 + 3, none⟩)), pg ((((decide (x.c.what = y.c.what)) && (decide (x.c.a = y.c.a))) && (decide (x.c.b = y.c.b))) == true) (.int .i64 y.c.n), pg ((((decide (x.c.what = y.c.what)) && (decide (x.c.a = y.c.a))) && (decide (x.c.b = y.c.b))) == true) (.bool (decide (x.c.n = y.c.n))), pv (.bool ((((decide (x.c.what = y.c.what)) && (decide (x.c.a = y.c.a))) && (decide (x.c.b = y.c.b))) && (decide (x.c.n = y.c.n)))), pv (.bool ((((decide (x.c.what = y.c.what)) && (decide (x.c.a = y.c.a))) && (decide (x.c.b = y.c.b))) && (decide (x.c.n = y.c.n)))), pg (((((decide (x.c.what = y.c.what)) && (decide (x.c.a = y.c.a))) && (decide (x.c.b = y.c.b))) && (decide (x.c.n = y.c.n))) == true) (.pointer (some ⟨b1, 0 + 4, none⟩)), pg (((((decide (x.c.what = y.c.what)) && (decide (x.c.a = y.c.a))) && (decide (x.c.b = y.c.b))) && (decide (x.c.n = y.c.n))) == true) (.int .i64 x.c.kind), pg (((((decide (x.c.what = y.c.what)) && (decide (x.c.a = y.c.a))) && (decide (x.c.b = y.c.b))) && (decide (x.c.n = y.c.n))) == true) (.pointer (some ⟨b3, 0 + 4, none⟩)), pg (((((decide (x.c.what = y.c.what)) && (decide (x.c.a = y.c.a))) && (decide (x.c.b = y.c.b))) && (decide (x.c.n = y.c.n))) == true) (.int .i64 y.c.kind), pg (((((decide (x.c.what = y.c.what)) && (decide (x.c.a = y.c.a))) && (decide (x.c.b = y.c.b))) && (decide (x.c.n = y.c.n))) == true) (.bool (decide (x.c.kind = y.c.kind))), pv (.bool (((((decide (x.c.what = y.c.what)) && (decide (x.c.a = y.c.a))) && (decide (x.c.b = y.c.b))) && (decide (x.c.n = y.c.n))) && (decide (x.c.kind = y.c.kind)))), pv (.bool (((((decide (x.c.what = y.c.what)) && (decide (x.c.a = y.c.a))) && (decide (x.c.b = y.c.b))) && (decide (x.c.n = y.c.n))) && (decide (x.c.kind = y.c.kind)))), pg ((((((decide (x.c.what = y.c.what)) && (decide (x.c.a = y.c.a))) && (decide (x.c.b = y.c.b))) && (decide (x.c.n = y.c.n))) && (decide (x.c.kind = y.c.kind))) == true) (.pointer (some ⟨b1, 0 + 5, none⟩)), pg ((((((decide (x.c.what = y.c.what)) && (decide (x.c.a = y.c.a))) && (decide (x.c.b = y.c.b))) && (decide (x.c.n = y.c.n))) && (decide (x.c.kind = y.c.kind))) == true) (.int .u16 x.c.at_), pg ((((((decide (x.c.what = y.c.what)) && (decide (x.c.a = y.c.a))) && (decide (x.c.b = y.c.b))) && (decide (x.c.n = y.c.n))) && (decide (x.c.kind = y.c.kind))) == true) (.pointer (some ⟨b3, 0 + 5, none⟩)), pg ((((((decide (x.c.what = y.c.what)) && (decide (x.c.a = y.c.a))) && (decide (x.c.b = y.c.b))) && (decide (x.c.n = y.c.n))) && (decide (x.c.kind = y.c.kind))) == true) (.int .u16 y.c.at_), pg ((((((decide (x.c.what = y.c.what)) && (decide (x.c.a = y.c.a))) && (decide (x.c.b = y.c.b))) && (decide (x.c.n = y.c.n))) && (decide (x.c.kind = y.c.kind))) == true) (.bool (decide (x.c.at_ = y.c.at_))), pv (.bool ((((((decide (x.c.what = y.c.what)) && (decide (x.c.a = y.c.a))) && (decide (x.c.b = y.c.b))) && (decide (x.c.n = y.c.n))) && (decide (x.c.kind = y.c.kind))) && (decide (x.c.at_ = y.c.at_)))), pv (.bool ((((((decide (x.c.what = y.c.what)) && (decide (x.c.a = y.c.a))) && (decide (x.c.b = y.c.b))) && (decide (x.c.n = y.c.n))) && (decide (x.c.kind = y.c.kind))) && (decide (x.c.at_ = y.c.at_)))), pg (((((((decide (x.c.what = y.c.what)) && (decide (x.c.a = y.c.a))) && (decide (x.c.b = y.c.b))) && (decide (x.c.n = y.c.n))) && (decide (x.c.kind = y.c.kind))) && (decide (x.c.at_ = y.c.at_))) == true) (.pointer (some ⟨b1, 0 + 6, none⟩)), pg (((((((decide (x.c.what = y.c.what)) && (decide (x.c.a = y.c.a))) && (decide (x.c.b = y.c.b))) && (decide (x.c.n = y.c.n))) && (decide (x.c.kind = y.c.kind))) && (decide (x.c.at_ = y.c.at_))) == true) (.int .u8 x.c.by_), pg (((((((decide (x.c.what = y.c.what)) && (decide (x.c.a = y.c.a))) && (decide (x.c.b = y.c.b))) && (decide (x.c.n = y.c.n))) && (decide (x.c.kind = y.c.kind))) && (decide (x.c.at_ = y.c.at_))) == true) (.pointer (some ⟨b3, 0 + 6, none⟩)), pg (((((((decide (x.c.what = y.c.what)) && (decide (x.c.a = y.c.a))) && (decide (x.c.b = y.c.b))) && (decide (x.c.n = y.c.n))) && (decide (x.c.kind = y.c.kind))) && (decide (x.c.at_ = y.c.at_))) == true) (.int .u8 y.c.by_), pg (((((((decide (x.c.what = y.c.what)) && (decide (x.c.a = y.c.a))) && (decide (x.c.b = y.c.b))) && (decide (x.c.n = y.c.n))) && (decide (x.c.kind = y.c.kind))) && (decide (x.c.at_ = y.c.at_))) == true) (.bool (decide (x.c.by_ = y.c.by_))), pv (.bool (((((((decide (x.c.what = y.c.what)) && (decide (x.c.a = y.c.a))) && (decide (x.c.b = y.c.b))) && (decide (x.c.n = y.c.n))) && (decide (x.c.kind = y.c.kind))) && (decide (x.c.at_ = y.c.at_))) && (decide (x.c.by_ = y.c.by_)))), pv (.bool (((((((decide (x.c.what = y.c.what)) && (decide (x.c.a = y.c.a))) && (decide (x.c.b = y.c.b))) && (decide (x.c.n = y.c.n))) && (decide (x.c.kind = y.c.kind))) && (decide (x.c.at_ = y.c.at_))) && (decide (x.c.by_ = y.c.by_)))), pg ((((((((decide (x.c.what = y.c.what)) && (decide (x.c.a = y.c.a))) && (decide (x.c.b = y.c.b))) && (decide (x.c.n = y.c.n))) && (decide (x.c.kind = y.c.kind))) && (decide (x.c.at_ = y.c.at_))) && (decide (x.c.by_ = y.c.by_))) == true) (.pointer (some ⟨b1, 0 + 7, none⟩)), pg ((((((((decide (x.c.what = y.c.what)) && (decide (x.c.a = y.c.a))) && (decide (x.c.b = y.c.b))) && (decide (x.c.n = y.c.n))) && (decide (x.c.kind = y.c.kind))) && (decide (x.c.at_ = y.c.at_))) && (decide (x.c.by_ = y.c.by_))) == true) (.agg (oc x.c.op).toArray), pg ((((((((decide (x.c.what = y.c.what)) && (decide (x.c.a = y.c.a))) && (decide (x.c.b = y.c.b))) && (decide (x.c.n = y.c.n))) && (decide (x.c.kind = y.c.kind))) && (decide (x.c.at_ = y.c.at_))) && (decide (x.c.by_ = y.c.by_))) == true) (.pointer (some ⟨b3, 0 + 7, none⟩)), pg ((((((((decide (x.c.what = y.c.what)) && (decide (x.c.a = y.c.a))) && (decide (x.c.b = y.c.b))) && (decide (x.c.n = y.c.n))) && (decide (x.c.kind = y.c.kind))) && (decide (x.c.at_ = y.c.at_))) && (decide (x.c.by_ = y.c.by_))) == true) (.agg (oc y.c.op).toArray), pg ((((((((decide (x.c.what = y.c.what)) && (decide (x.c.a = y.c.a))) && (decide (x.c.b = y.c.b))) && (decide (x.c.n = y.c.n))) && (decide (x.c.kind = y.c.kind))) && (decide (x.c.at_ = y.c.at_))) && (decide (x.c.by_ = y.c.by_))) == true) (.bool (decide (x.c.op = y.c.op))), pv (.bool ((((((((decide (x.c.what = y.c.what)) && (decide (x.c.a = y.c.a))) && (decide (x.c.b = y.c.b))) && (decide (x.c.n = y.c.n))) && (decide (x.c.kind = y.c.kind))) && (decide (x.c.at_ = y.c.at_))) && (decide (x.c.by_ = y.c.by_))) && (decide (x.c.op = y.c.op)))), pv (.bool ((((((((decide (x.c.what = y.c.what)) && (decide (x.c.a = y.c.a))) && (decide (x.c.b = y.c.b))) && (decide (x.c.n = y.c.n))) && (decide (x.c.kind = y.c.kind))) && (decide (x.c.at_ = y.c.at_))) && (decide (x.c.by_ = y.c.by_))) && (decide (x.c.op = y.c.op)))), pg (((((((((decide (x.c.what = y.c.what)) && (decide (x.c.a = y.c.a))) && (decide (x.c.b = y.c.b))) && (decide (x.c.n = y.c.n))) && (decide (x.c.kind = y.c.kind))) && (decide (x.c.at_ = y.c.at_))) && (decide (x.c.by_ = y.c.by_))) && (decide (x.c.op = y.c.op))) == true) (.pointer (some ⟨b1, 0 + 30, none⟩)), pg (((((((((decide (x.c.what = y.c.what)) && (decide (x.c.a = y.c.a))) && (decide (x.c.b = y.c.b))) && (decide (x.c.n = y.c.n))) && (decide (x.c.kind = y.c.kind))) && (decide (x.c.at_ = y.c.at_))) && (decide (x.c.by_ = y.c.by_))) && (decide (x.c.op = y.c.op))) == true) (.agg (vc x.c.vec).toArray), pg (((((((((decide (x.c.what = y.c.what)) && (decide (x.c.a = y.c.a))) && (decide (x.c.b = y.c.b))) && (decide (x.c.n = y.c.n))) && (decide (x.c.kind = y.c.kind))) && (decide (x.c.at_ = y.c.at_))) && (decide (x.c.by_ = y.c.by_))) && (decide (x.c.op = y.c.op))) == true) (.pointer (some ⟨b3, 0 + 30, none⟩)), pg (((((((((decide (x.c.what = y.c.what)) && (decide (x.c.a = y.c.a))) && (decide (x.c.b = y.c.b))) && (decide (x.c.n = y.c.n))) && (decide (x.c.kind = y.c.kind))) && (decide (x.c.at_ = y.c.at_))) && (decide (x.c.by_ = y.c.by_))) && (decide (x.c.op = y.c.op))) == true) (.agg (vc y.c.vec).toArray), pg (((((((((decide (x.c.what = y.c.what)) && (decide (x.c.a = y.c.a))) && (decide (x.c.b = y.c.b))) && (decide (x.c.n = y.c.n))) && (decide (x.c.kind = y.c.kind))) && (decide (x.c.at_ = y.c.at_))) && (decide (x.c.by_ = y.c.by_))) && (decide (x.c.op = y.c.op))) == true) (.bool (decide (x.c.vec = y.c.vec))), pv (.bool (((((((((decide (x.c.what = y.c.what)) && (decide (x.c.a = y.c.a))) && (decide (x.c.b = y.c.b))) && (decide (x.c.n = y.c.n))) && (decide (x.c.kind = y.c.kind))) && (decide (x.c.at_ = y.c.at_))) && (decide (x.c.by_ = y.c.by_))) && (decide (x.c.op = y.c.op))) && (decide (x.c.vec = y.c.vec)))), pv (.bool (((((((((decide (x.c.what = y.c.what)) && (decide (x.c.a = y.c.a))) && (decide (x.c.b = y.c.b))) && (decide (x.c.n = y.c.n))) && (decide (x.c.kind = y.c.kind))) && (decide (x.c.at_ = y.c.at_))) && (decide (x.c.by_ = y.c.by_))) && (decide (x.c.op = y.c.op))) && (decide (x.c.vec = y.c.vec)))), pg ((((((((((decide (x.c.what = y.c.what)) && (decide (x.c.a = y.c.a))) && (decide (x.c.b = y.c.b))) && (decide (x.c.n = y.c.n))) && (decide (x.c.kind = y.c.kind))) && (decide (x.c.at_ = y.c.at_))) && (decide (x.c.by_ = y.c.by_))) && (decide (x.c.op = y.c.op))) && (decide (x.c.vec = y.c.vec))) == true) (.pointer (some ⟨b1, 0 + 46, none⟩)), pg ((((((((((decide (x.c.what = y.c.what)) && (decide (x.c.a = y.c.a))) && (decide (x.c.b = y.c.b))) && (decide (x.c.n = y.c.n))) && (decide (x.c.kind = y.c.kind))) && (decide (x.c.at_ = y.c.at_))) && (decide (x.c.by_ = y.c.by_))) && (decide (x.c.op = y.c.op))) && (decide (x.c.vec = y.c.vec))) == true) (.slice x.a x.c.cuts.length x.n), pg ((((((((((decide (x.c.what = y.c.what)) && (decide (x.c.a = y.c.a))) && (decide (x.c.b = y.c.b))) && (decide (x.c.n = y.c.n))) && (decide (x.c.kind = y.c.kind))) && (decide (x.c.at_ = y.c.at_))) && (decide (x.c.by_ = y.c.by_))) && (decide (x.c.op = y.c.op))) && (decide (x.c.vec = y.c.vec))) == true) (sv (sOf x.c.cuts)), pg ((((((((((decide (x.c.what = y.c.what)) && (decide (x.c.a = y.c.a))) && (decide (x.c.b = y.c.b))) && (decide (x.c.n = y.c.n))) && (decide (x.c.kind = y.c.kind))) && (decide (x.c.at_ = y.c.at_))) && (decide (x.c.by_ = y.c.by_))) && (decide (x.c.op = y.c.op))) && (decide (x.c.vec = y.c.vec))) == true) (.pointer (some ⟨b3, 0 + 46, none⟩)), pg ((((((((((decide (x.c.what = y.c.what)) && (decide (x.c.a = y.c.a))) && (decide (x.c.b = y.c.b))) && (decide (x.c.n = y.c.n))) && (decide (x.c.kind = y.c.kind))) && (decide (x.c.at_ = y.c.at_))) && (decide (x.c.by_ = y.c.by_))) && (decide (x.c.op = y.c.op))) && (decide (x.c.vec = y.c.vec))) == true) (.slice y.a y.c.cuts.length y.n), pg ((((((((((decide (x.c.what = y.c.what)) && (decide (x.c.a = y.c.a))) && (decide (x.c.b = y.c.b))) && (decide (x.c.n = y.c.n))) && (decide (x.c.kind = y.c.kind))) && (decide (x.c.at_ = y.c.at_))) && (decide (x.c.by_ = y.c.by_))) && (decide (x.c.op = y.c.op))) && (decide (x.c.vec = y.c.vec))) == true) (sv (sOf y.c.cuts)), pg ((((((((((decide (x.c.what = y.c.what)) && (decide (x.c.a = y.c.a))) && (decide (x.c.b = y.c.b))) && (decide (x.c.n = y.c.n))) && (decide (x.c.kind = y.c.kind))) && (decide (x.c.at_ = y.c.at_))) && (decide (x.c.by_ = y.c.by_))) && (decide (x.c.op = y.c.op))) && (decide (x.c.vec = y.c.vec))) == true) (.bool (decide (sOf x.c.cuts = sOf y.c.cuts))), pv (.bool ((((((((((decide (x.c.what = y.c.what)) && (decide (x.c.a = y.c.a))) && (decide (x.c.b = y.c.b))) && (decide (x.c.n = y.c.n))) && (decide (x.c.kind = y.c.kind))) && (decide (x.c.at_ = y.c.at_))) && (decide (x.c.by_ = y.c.by_))) && (decide (x.c.op = y.c.op))) && (decide (x.c.vec = y.c.vec))) && (decide (sOf x.c.cuts = sOf y.c.cuts)))), pv (.bool ((((((((((decide (x.c.what = y.c.what)) && (decide (x.c.a = y.c.a))) && (decide (x.c.b = y.c.b))) && (decide (x.c.n = y.c.n))) && (decide (x.c.kind = y.c.kind))) && (decide (x.c.at_ = y.c.at_))) && (decide (x.c.by_ = y.c.by_))) && (decide (x.c.op = y.c.op))) && (decide (x.c.vec = y.c.vec))) && (decide (sOf x.c.cuts = sOf y.c.cuts))))] (fun _ _ => _) [70] (by kernel_rfl) hs ⟨?_, ?_, ?_, ?_, ?_, ?_, ?_, ?_, ?_, ?_, ?_, ?_, ?_, ?_, ?_, ?_, ?_, ?_, ?_, ?_, ?_, ?_, ?_, ?_, ?_, ?_, ?_, ?_, ?_, ?_, ?_, ?_, ?_, ?_, ?_, ?_, ?_, ?_, ?_, ?_, ?_, ?_, ?_, ?_, ?_, ?_, ?_, ?_, ?_, ?_, ?_, ?_, ?_, ?_, ?_, ?_, ?_, ?_, ?_, ?_, ?_, ?_, ?_, ?_, ?_, ?_, ?_, ?_, ?_, ?_, ?_, trivial⟩ ?_
  · exact oi [] fun hs => L_fieldAddr FA_39_0 rfl (Zz hs)
  · exact oi [0] fun hs => L_lz (.int .i64 x.c.what) S1_3 hs 0 (Zz hs)
  · exact oi [] fun hs => L_fieldAddr FA_39_0 rfl (Zz hs)
  · exact oi [2] fun hs => L_lz (.int .i64 y.c.what) S1_3 hs 1 (Zz hs)
  · exact oi [1, 3] fun hs => L_eql rfl rfl (Zz hs)
  · exact oi [4] fun hs => L_mv (.bool (decide (x.c.what = y.c.what))) (Zz hs)
  · exact ogi [5] fun hG hs => L_fieldAddr FA_39_1 rfl (Zz hs)
  · exact oyi [5, 6] [6] fun hG hs => L_lz (.int .u8 x.c.a) S1_5 hs 0 (Zz hs)
  · exact ogi [5] fun hG hs => L_fieldAddr FA_39_1 rfl (Zz hs)
  · exact oyi [5, 8] [8] fun hG hs => L_lz (.int .u8 y.c.a) S1_5 hs 1 (Zz hs)
  · exact oyi [5, 7, 9] [7, 9] fun hG hs => L_eql rfl rfl (Zz hs)
  · exact oi [5, 10] fun hs => L_andC (h' := decide (x.c.a = y.c.a)) rfl rfl rfl (Zz hs)
  · exact oi [11] fun hs => L_mv (.bool ((decide (x.c.what = y.c.what)) && (decide (x.c.a = y.c.a)))) (Zz hs)
  · exact ogi [12] fun hG hs => L_fieldAddr FA_39_2 rfl (Zz hs)
  · exact oyi [12, 13] [13] fun hG hs => L_lz (.int .u8 x.c.b) S1_5 hs 0 (Zz hs)
  · exact ogi [12] fun hG hs => L_fieldAddr FA_39_2 rfl (Zz hs)
  · exact oyi [12, 15] [15] fun hG hs => L_lz (.int .u8 y.c.b) S1_5 hs 1 (Zz hs)
  · exact oyi [12, 14, 16] [14, 16] fun hG hs => L_eql rfl rfl (Zz hs)
  · exact oi [12, 17] fun hs => L_andC (h' := decide (x.c.b = y.c.b)) rfl rfl rfl (Zz hs)
  · exact oi [18] fun hs => L_mv (.bool (((decide (x.c.what = y.c.what)) && (decide (x.c.a = y.c.a))) && (decide (x.c.b = y.c.b)))) (Zz hs)
  · exact ogi [19] fun hG hs => L_fieldAddr FA_39_3 rfl (Zz hs)
  · exact oyi [19, 20] [20] fun hG hs => L_lz (.int .i64 x.c.n) S1_3 hs 0 (Zz hs)
  · exact ogi [19] fun hG hs => L_fieldAddr FA_39_3 rfl (Zz hs)
  · exact oyi [19, 22] [22] fun hG hs => L_lz (.int .i64 y.c.n) S1_3 hs 1 (Zz hs)
  · exact oyi [19, 21, 23] [21, 23] fun hG hs => L_eql rfl rfl (Zz hs)
  · exact oi [19, 24] fun hs => L_andC (h' := decide (x.c.n = y.c.n)) rfl rfl rfl (Zz hs)
  · exact oi [25] fun hs => L_mv (.bool ((((decide (x.c.what = y.c.what)) && (decide (x.c.a = y.c.a))) && (decide (x.c.b = y.c.b))) && (decide (x.c.n = y.c.n)))) (Zz hs)
  · exact ogi [26] fun hG hs => L_fieldAddr FA_39_4 rfl (Zz hs)
  · exact oyi [26, 27] [27] fun hG hs => L_lz (.int .i64 x.c.kind) S1_3 hs 0 (Zz hs)
  · exact ogi [26] fun hG hs => L_fieldAddr FA_39_4 rfl (Zz hs)
  · exact oyi [26, 29] [29] fun hG hs => L_lz (.int .i64 y.c.kind) S1_3 hs 1 (Zz hs)
  · exact oyi [26, 28, 30] [28, 30] fun hG hs => L_eql rfl rfl (Zz hs)
  · exact oi [26, 31] fun hs => L_andC (h' := decide (x.c.kind = y.c.kind)) rfl rfl rfl (Zz hs)
  · exact oi [32] fun hs => L_mv (.bool (((((decide (x.c.what = y.c.what)) && (decide (x.c.a = y.c.a))) && (decide (x.c.b = y.c.b))) && (decide (x.c.n = y.c.n))) && (decide (x.c.kind = y.c.kind)))) (Zz hs)
  · exact ogi [33] fun hG hs => L_fieldAddr FA_39_5 rfl (Zz hs)
  · exact oyi [33, 34] [34] fun hG hs => L_lz (.int .u16 x.c.at_) S1_30 hs 0 (Zz hs)
  · exact ogi [33] fun hG hs => L_fieldAddr FA_39_5 rfl (Zz hs)
  · exact oyi [33, 36] [36] fun hG hs => L_lz (.int .u16 y.c.at_) S1_30 hs 1 (Zz hs)
  · exact oyi [33, 35, 37] [35, 37] fun hG hs => L_eql rfl rfl (Zz hs)
  · exact oi [33, 38] fun hs => L_andC (h' := decide (x.c.at_ = y.c.at_)) rfl rfl rfl (Zz hs)
  · exact oi [39] fun hs => L_mv (.bool ((((((decide (x.c.what = y.c.what)) && (decide (x.c.a = y.c.a))) && (decide (x.c.b = y.c.b))) && (decide (x.c.n = y.c.n))) && (decide (x.c.kind = y.c.kind))) && (decide (x.c.at_ = y.c.at_)))) (Zz hs)
  · exact ogi [40] fun hG hs => L_fieldAddr FA_39_6 rfl (Zz hs)
  · exact oyi [40, 41] [41] fun hG hs => L_lz (.int .u8 x.c.by_) S1_5 hs 0 (Zz hs)
  · exact ogi [40] fun hG hs => L_fieldAddr FA_39_6 rfl (Zz hs)
  · exact oyi [40, 43] [43] fun hG hs => L_lz (.int .u8 y.c.by_) S1_5 hs 1 (Zz hs)
  · exact oyi [40, 42, 44] [42, 44] fun hG hs => L_eql rfl rfl (Zz hs)
  · exact oi [40, 45] fun hs => L_andC (h' := decide (x.c.by_ = y.c.by_)) rfl rfl rfl (Zz hs)
  · exact oi [46] fun hs => L_mv (.bool (((((((decide (x.c.what = y.c.what)) && (decide (x.c.a = y.c.a))) && (decide (x.c.b = y.c.b))) && (decide (x.c.n = y.c.n))) && (decide (x.c.kind = y.c.kind))) && (decide (x.c.at_ = y.c.at_))) && (decide (x.c.by_ = y.c.by_)))) (Zz hs)
  · exact ogi [47] fun hG hs => L_fieldAddr FA_39_7 rfl (Zz hs)
  · exact oyi [47, 48] [48] fun hG hs => L_ldA (vs := oc x.c.op) SA_37 hs 0 rfl rfl rfl rfl (Zz hs)
  · exact ogi [47] fun hG hs => L_fieldAddr FA_39_7 rfl (Zz hs)
  · exact oyi [47, 50] [50] fun hG hs => L_ldA (vs := oc y.c.op) SA_37 hs 1 rfl rfl rfl rfl (Zz hs)
  · exact oyi [47, 49, 51] [49, 51] fun hG hs => L_eqA (xs := oc x.c.op) (ys := oc y.c.op) Tryz.eqGuardType37 (EQ_37 x.c.op y.c.op) rfl rfl rfl (Zz hs)
  · exact oi [47, 52] fun hs => L_andC (h' := decide (x.c.op = y.c.op)) rfl rfl rfl (Zz hs)
  · exact oi [53] fun hs => L_mv (.bool ((((((((decide (x.c.what = y.c.what)) && (decide (x.c.a = y.c.a))) && (decide (x.c.b = y.c.b))) && (decide (x.c.n = y.c.n))) && (decide (x.c.kind = y.c.kind))) && (decide (x.c.at_ = y.c.at_))) && (decide (x.c.by_ = y.c.by_))) && (decide (x.c.op = y.c.op)))) (Zz hs)
  · exact ogi [54] fun hG hs => L_fieldAddr FA_39_8 rfl (Zz hs)
  · exact oyi [54, 55] [55] fun hG hs => L_ldA (vs := vc x.c.vec) SA_35 hs 0 rfl rfl rfl rfl (Zz hs)
  · exact ogi [54] fun hG hs => L_fieldAddr FA_39_8 rfl (Zz hs)
  · exact oyi [54, 57] [57] fun hG hs => L_ldA (vs := vc y.c.vec) SA_35 hs 1 rfl rfl rfl rfl (Zz hs)
  · exact oyi [54, 56, 58] [56, 58] fun hG hs => L_eqA (xs := vc x.c.vec) (ys := vc y.c.vec) Tryz.eqGuardType35 (EQ_35 x.c.vec y.c.vec) rfl rfl rfl (Zz hs)
  · exact oi [54, 59] fun hs => L_andC (h' := decide (x.c.vec = y.c.vec)) rfl rfl rfl (Zz hs)
  · exact oi [60] fun hs => L_mv (.bool (((((((((decide (x.c.what = y.c.what)) && (decide (x.c.a = y.c.a))) && (decide (x.c.b = y.c.b))) && (decide (x.c.n = y.c.n))) && (decide (x.c.kind = y.c.kind))) && (decide (x.c.at_ = y.c.at_))) && (decide (x.c.by_ = y.c.by_))) && (decide (x.c.op = y.c.op))) && (decide (x.c.vec = y.c.vec)))) (Zz hs)
  · exact ogi [61] fun hG hs => L_fieldAddr FA_39_9 rfl (Zz hs)
  · exact oyi [61, 62] [62] fun hG hs => L_lz (.slice x.a x.c.cuts.length x.n) S1_22 hs 0 (Zz hs)
  · exact oyi [61, 63] [63] fun hG hs => L_convX UDR_22 UDR_5 UDR_9 (RdX.own' hx hs) rfl (Zz hs)
  · exact ogi [61] fun hG hs => L_fieldAddr FA_39_9 rfl (Zz hs)
  · exact oyi [61, 65] [65] fun hG hs => L_lz (.slice y.a y.c.cuts.length y.n) S1_22 hs 1 (Zz hs)
  · exact oyi [61, 66] [66] fun hG hs => L_convX UDR_22 UDR_5 UDR_9 (RdX.own' hy hs) rfl (Zz hs)
  · exact oyi [61, 64, 67] [64, 67] fun hG hs => L_eqS rfl rfl (Zz hs)
  · exact oi [61, 68] fun hs => L_andC (h' := decide (sOf x.c.cuts = sOf y.c.cuts)) rfl rfl rfl (Zz hs)
  · exact oi [69] fun hs => L_as (.bool ((((((((((decide (x.c.what = y.c.what)) && (decide (x.c.a = y.c.a))) && (decide (x.c.b = y.c.b))) && (decide (x.c.n = y.c.n))) && (decide (x.c.kind = y.c.kind))) && (decide (x.c.at_ = y.c.at_))) && (decide (x.c.by_ = y.c.by_))) && (decide (x.c.op = y.c.op))) && (decide (x.c.vec = y.c.vec))) && (decide (sOf x.c.cuts = sOf y.c.cuts)))) (Zz hs)
  rintro ρ1 w5 ρ2 hρ hs
  replace hρ : ρ2 = upd (mix [5, 6, 7, 8, 9, 10, 11, 12, 13, 14, 15, 16, 17, 18, 19, 20, 21, 22, 23, 24, 25, 26, 27, 28, 29, 30, 31, 32, 33, 34, 35, 36, 37, 38, 39, 40, 41, 42, 43, 44, 45, 46, 47, 48, 49, 50, 51, 52, 53, 54, 55, 56, 57, 58, 59, 60, 61, 62, 63, 64, 65, 66, 67, 68, 69, 70, 71, 72, 73, 74, 4] ρ1 _) 4 (.bool ((((((((((decide (x.c.what = y.c.what)) && (decide (x.c.a = y.c.a))) && (decide (x.c.b = y.c.b))) && (decide (x.c.n = y.c.n))) && (decide (x.c.kind = y.c.kind))) && (decide (x.c.at_ = y.c.at_))) && (decide (x.c.by_ = y.c.by_))) && (decide (x.c.op = y.c.op))) && (decide (x.c.vec = y.c.vec))) && (decide (sOf x.c.cuts = sOf y.c.cuts)))) := hρ
  subst hρ
  refine W_ret ?_
  refine ⟨_, res_one (V := .bool ((((((((((decide (x.c.what = y.c.what)) && (decide (x.c.a = y.c.a))) && (decide (x.c.b = y.c.b))) && (decide (x.c.n = y.c.n))) && (decide (x.c.kind = y.c.kind))) && (decide (x.c.at_ = y.c.at_))) && (decide (x.c.by_ = y.c.by_))) && (decide (x.c.op = y.c.op))) && (decide (x.c.vec = y.c.vec))) && (decide (sOf x.c.cuts = sOf y.c.cuts)))) Tryz.results12 rfl, ?_⟩
  refine Zr hs ?_
  rfl
end Tt
end Go.Proofs
namespace Go.Proofs
open Go Go.Vx Go.RowKit
namespace Tt
set_option maxRecDepth 20000 in
set_option maxHeartbeats 4000000 in
theorem dec_ok (w : World) (p : Option Addr) (c : Nat) (b : Bs) (hby : ByOk b) (hr : Rd w (.slice p b.length c) 1 (b.map (ic .u8))) : Calls Tryz.prog 8 #[.slice p b.length c] w (fun e w' => ∃ x : Option Addr × Nat, e = .returned (.slice x.1 (decS b []).length x.2) ∧ Own w no w' [decR 41 x.1 x.2 (decS b [])] ∧ True) := by
  refine calls_of_Wn (n := 40) Tryz.func8 rfl Tryz.ntmps8 rfl ?_
  have hs := Own.start w
  have hn := hr.sml
  refine W_seq ?_
  refine W_region ?_
  refine RW_op (L_as (.slice none 0 0) ?_)
  refine RW_nil ?_
  refine W_seq ?_
  refine W_region ?_
  refine RW_op (L_as (.slice none 0 0) ?_)
  refine RW_nil ?_
  refine W_seq ?_
  refine W_block ?_
  replace hs := hs.more (row (.slice none 0 0) (List.map stp []) 41 47) (row_nil _ _ _ _)
  replace hs := hs.starNil
  refine W_loopI (fun ρ μ ρ' w' => ∃ (ρo : Env) (R : Bs) (p9 : Option Addr) (c8 : Nat) (Q : List Stp) (a9 : Option Addr) (c9 : Nat), ρ' = upd (upd (mix [0, 3, 4, 5, 6, 7, 8, 9, 10, 11, 12, 13, 14, 15, 16, 17, 18, 19, 20, 21, 22, 23, 24, 25, 26, 27, 28, 29, 30, 31, 32, 33, 34, 35, 36, 37, 38] ρo ρ) 0 (.slice p9 R.length c8)) 3 (.slice a9 Q.length c9) ∧ (Rd w (.slice p9 R.length c8) 1 (R.map (ic .u8))) ∧ (ByOk R) ∧ (decS b [] = decS R (Q.map (·.c))) ∧ (Q.length ≤ 100) ∧ μ = R.length ∧ Own w no w' [row (.slice a9 Q.length c9) (Q.map stp) 41 47, star (Q.map cutR)]) ?_ ?_
  · exact ⟨_, _, b, p, c, [], none, 0, upd_of (upd_of (mix_of (ds := [0, 3, 4, 5, 6, 7, 8, 9, 10, 11, 12, 13, 14, 15, 16, 17, 18, 19, 20, 21, 22, 23, 24, 25, 26, 27, 28, 29, 30, 31, 32, 33, 34, 35, 36, 37, 38]) (Agr.refl _ _)) rfl) rfl, hr, hby, rfl, (Nat.zero_le _), rfl, hs⟩
  · rintro μ ρ' w1 ⟨ρo, R, p9, c8, Q, a9, c9, rfl, hr9, hby9, hdec, hq, rfl, hs⟩
    refine W_seq ?_
    refine W_seq ?_
    refine W_regO (so 8 8) [] [0, 1, 3, 7, 15, 31, 63, 127] [pv (.slice p9 R.length c8), pv (.int .i64 ((R.length : Nat) : Int)), pv (.bool (decide (0 < ((R.length : Nat) : Int)))), pv (.bool (decide (0 < ((R.length : Nat) : Int)))), pg ((decide (0 < ((R.length : Nat) : Int))) == true) (.slice a9 Q.length c9), pg ((decide (0 < ((R.length : Nat) : Int))) == true) (.int .i64 ((Q.length : Nat) : Int)), pg ((decide (0 < ((R.length : Nat) : Int))) == true) (.bool (decide (((Q.length : Nat) : Int) < 100))), pv (.bool ((decide (0 < ((R.length : Nat) : Int))) && (decide (((Q.length : Nat) : Int) < 100))))] (fun _ _ => _) [7] (by kernel_rfl) hs ⟨?_, ?_, ?_, ?_, ?_, ?_, ?_, ?_, trivial⟩ ?_
    · exact oi [] fun hs => L_mv (.slice p9 R.length c8) (Zz hs)
    · exact oi [0] fun hs => L_lenR (n := R.length) UD_22 (Rd.own' hr9 hs) (by simp) rfl (Zz hs)
    · exact oi [1] fun hs => L_gtr rfl rfl (Zz hs)
    · exact oi [2] fun hs => L_mv (.bool (decide (0 < ((R.length : Nat) : Int)))) (Zz hs)
    · exact ogi [3] fun hG hs => L_mv (.slice a9 Q.length c9) (Zz hs)
    · exact oyi [3, 4] [4] fun hG hs => L_lenR (n := Q.length) UD_24 (hs.rd 0 rfl) (by simp) rfl (Zz hs)
    · exact oyi [3, 5] [5] fun hG hs => L_lss rfl rfl (Zz hs)
    · exact oi [3, 6] fun hs => L_andC (h' := decide (((Q.length : Nat) : Int) < 100)) rfl rfl rfl (Zz hs)
    rintro ρ1 w2 ρ2 hρ hs
    replace hρ : ρ2 = upd (mix [8, 9, 10, 11, 12, 13, 14, 15] ρ1 _) 15 (.bool ((decide (0 < ((R.length : Nat) : Int))) && (decide (((Q.length : Nat) : Int) < 100)))) := hρ
    subst hρ
    refine W_cond (t := (decide (0 < ((R.length : Nat) : Int))) && (decide (((Q.length : Nat) : Int) < 100))) rfl (fun c3 => ?_) (fun c3 => ?_)
    ·
      have c3r := and_r c3
      replace c3 := and_l c3
      replace c3 := of_decide_eq_true c3
      replace c3r := of_decide_eq_true c3r
      refine W_skip ?_
      refine W_block ?_
      refine W_seq ?_
      have hbt : 0 ≤ gd R 0 ∧ gd R 0 < 256 := hby9 _ (by unfold gd; rw [List.getD_eq_getElem?_getD, List.getElem?_eq_getElem (by omega)]; exact List.getElem_mem _)
      refine W_region ?_
      refine RW_op (L_mv (.slice p9 R.length c8) ?_)
      refine RW_op (L_ixR UD_22 S1_5.1 (Rd.own' hr9 hs) rfl rfl (by decide) (by rw [List.length_map]; omega) ?_)
      refine RW_op (L_ldR (j := 0) (V := .int .u8 (gd R 0)) 0 S1_5 (Rd.own' hr9 hs) (gd_at (by omega)) rfl rfl (by omega) ?_)
      refine RW_op (opW_to (V := .int .i64 (gd R 0)) (V' := .int .i64 (((bat R 0).toNat : Nat) : Int)) (L_conv UD_5 UD_3 rfl (wr_i64 (by omega) (by omega)) ⟨rfl, rfl⟩) (congrArg (Value.int .i64) (Int.toNat_of_nonneg hbt.1).symm) ?_)
      refine RW_op (opW_to (V := .int .i64 ((((bat R 0).toNat : Nat) : Int).tmod 9)) (V' := .int .i64 ((whatS R : Nat) : Int)) (L_rem rfl rfl (by omega) rfl ⟨rfl, rfl⟩) (congrArg (Value.int .i64) (Int.tmod_eq_emod_of_nonneg (by omega))) ?_)
      refine RW_op (L_as (.int .i64 ((whatS R : Nat) : Int)) ?_)
      refine RW_nil ?_
      refine W_seq ?_
      refine W_region ?_
      refine RW_op (L_mv (.slice p9 R.length c8) ?_)
      refine RW_op (L_sl (l := 1) (h := R.length) (m := c8) (n' := (R.drop 1).length) UDR_22 S1_5.1 (Rd.own' hr9 hs) rfl (.inr ⟨_, _, rfl, rfl⟩) (.inl ⟨rfl, rfl⟩) (.inl ⟨rfl, rfl⟩) (by omega) (by omega) (Nat.le_trans (show R.length ≤ R.length by omega) (Rd.roomM (Rd.own' hr9 hs))) (Nat.le_refl _) (by simp only [List.length_take, List.length_drop] <;> omega) ?_)
      refine RW_op (L_as (.slice (sla p9 1 c8 1) ((R.drop 1).length) (c8 - 1)) ?_)
      refine RW_nil ?_
      refine W_seq ?_
      refine W_seq ?_
      refine W_region ?_
      refine RW_op (L_mv (.int .i64 ((whatS R : Nat) : Int)) ?_)
      refine RW_op (L_eql rfl rfl ?_)
      refine RW_nil ?_
      refine W_cond (t := decide (((whatS R : Nat) : Int) = 0)) rfl (fun c4 => ?_) (fun c4 => ?_)
      ·
        replace c4 := of_decide_eq_true c4
        refine W_exit ?_
        refine ⟨_, ?_, _, (R.drop 1), _, _, Q, a9, c9, upd_of (upd_of (mix_of (ds := [0, 3, 4, 5, 6, 7, 8, 9, 10, 11, 12, 13, 14, 15, 16, 17, 18, 19, 20, 21, 22, 23, 24, 25, 26, 27, 28, 29, 30, 31, 32, 33, 34, 35, 36, 37, 38]) (by repeat (first | exact Agr.refl _ _ | refine Agr.upd ?_ rfl | refine Agr.mix ?_ rfl))) rfl) rfl, (dec_rd1 hr9 (by omega)), (hby9.drop 1), (hdec.trans (decS_skip (by rw [List.length_map]; omega) (by omega))), hq, rfl, hs.take 2⟩
        rw [List.length_drop]; omega
      ·
        replace c4 := of_decide_eq_false c4
        refine W_skip ?_
        refine W_seq ?_
        rcases Decidable.em (¬ R.length < lenS (whatS R) R) with hk6 | hk6
        ·
          have h0 : whatS R ≠ 0 := by omega
          refine W_region ?_
          refine RW_op (L_mv (.int .i64 ((whatS R : Nat) : Int)) ?_)
          refine RW_op (L_mv (.slice (sla p9 1 c8 1) ((R.drop 1).length) (c8 - 1)) ?_)
          refine RW_op (L_callX (vs := [.int .i64 ((whatS R : Nat) : Int), .slice (sla p9 1 c8 1) ((R.drop 1).length) (c8 - 1)]) (V := fun x9 : Option Addr × Nat => .tuple #[.agg (stp (Stp.mk (tellS R) x9.1 x9.2)).toArray, .slice (dA p9 c8 R) ((R.drop (lenS (whatS R) R)).length) (dC c8 R), .bool true]) EN_17 rfl rfl (dec_yes (Rd.dropM (Rd.own' hr9 hs) 1 (by omega) _ (by simp only [List.length_take, List.length_drop] <;> omega)) h0 hk6 hby9) hs fun x9 w5 hs _ => ?_)
          refine RW_op (L_mv (.tuple #[.agg (stp (Stp.mk (tellS R) x9.1 x9.2)).toArray, .slice (dA p9 c8 R) ((R.drop (lenS (whatS R) R)).length) (dC c8 R), .bool true]) ?_)
          refine RW_op (L_extract (V := .agg (stp (Stp.mk (tellS R) x9.1 x9.2)).toArray) rfl rfl ?_)
          refine RW_op (L_extract (V := .slice (dA p9 c8 R) ((R.drop (lenS (whatS R) R)).length) (dC c8 R)) rfl rfl ?_)
          refine RW_op (L_extract (V := .bool true) rfl rfl ?_)
          refine RW_op (L_alloc (cs := stp stpz) ZV_41 rfl hs fun b6 w7 hs => ?_)
          refine RW_op (L_st (V := .agg (stp (Stp.mk (tellS R) x9.1 x9.2)).toArray) (vs := stp (Stp.mk (tellS R) x9.1 x9.2)) (cs' := stp (Stp.mk (tellS R) x9.1 x9.2)) SA_41.1 hs 3 rfl rfl rfl rfl rfl (Nat.le_of_ble_eq_true rfl) (stp_one _) (spl_whole rfl) fun w8 hs => ?_)
          refine RW_op (L_as (.slice (dA p9 c8 R) ((R.drop (lenS (whatS R) R)).length) (dC c8 R)) ?_)
          refine RW_op (L_as (.bool true) ?_)
          refine RW_nil ?_
          refine W_seq ?_
          refine W_seq ?_
          refine W_region ?_
          refine RW_op (L_mv (.bool true) ?_)
          refine RW_op (L_not rfl ?_)
          refine RW_nil ?_
          refine W_condF rfl ?_
          refine W_skip ?_
          refine W_seq ?_
          refine W_region ?_
          refine RW_op (L_mv (.slice a9 Q.length c9) ?_)
          refine RW_op (L_ldW (cs := stp (Stp.mk (tellS R) x9.1 x9.2)) SA_41 hs 3 rfl rfl rfl ?_)
          refine RW_op (L_bs (vals := [.agg (stp (Stp.mk (tellS R) x9.1 x9.2)).toArray]) (ls := List.map stp ([(Stp.mk (tellS R) x9.1 x9.2)] : List Stp)) EL_24 rfl rfl rfl (len_map (enc := stp) (fun _ => rfl) _) (one_map stp_one _) (Nat.le_of_ble_eq_true rfl) hs fun b9 w10 hs => ?_)
          replace hs := Ow [row (.slice a9 Q.length c9) (Q.map stp) 41 47, star (Q.map cutR), cutR ⟨tellS R, x9.1, x9.2⟩, blk b6 (stp (Stp.mk (tellS R) x9.1 x9.2)) 41, row (.slice (some ⟨b9, 0, none⟩) 1 1) ([(Stp.mk (tellS R) x9.1 x9.2)].map stp) 41 47] hs
          refine RW_op (L_appN (ls' := (Q ++ [(Stp.mk (tellS R) x9.1 x9.2)]).map stp) (n := (Q ++ [(Stp.mk (tellS R) x9.1 x9.2)]).length) EL_24 hs 0 rfl rfl rfl (hs.rd 4 rfl) (one_map stp_one _) (by simp only [List.length_map, List.length_append, List.length_cons, List.length_nil]; omega) (by simp) (by simp) fun a11 c11 w12 hs => ?_)
          refine RW_op (L_as (.slice a11 ((Q ++ [(Stp.mk (tellS R) x9.1 x9.2)]).length) c11) ?_)
          refine RW_nil ?_
          refine W_region ?_
          refine RW_op (L_mv (.slice (dA p9 c8 R) ((R.drop (lenS (whatS R) R)).length) (dC c8 R)) ?_)
          refine RW_op (L_as (.slice (dA p9 c8 R) ((R.drop (lenS (whatS R) R)).length) (dC c8 R)) ?_)
          refine RW_nil ?_
          replace hs := cuts_snoc hs 1 2 (by decide) rfl rfl
          refine ⟨_, ?_, _, (R.drop (lenS (whatS R) R)), _, _, Q ++ [(Stp.mk (tellS R) x9.1 x9.2)], a11, c11, upd_of (upd_of (mix_of (ds := [0, 3, 4, 5, 6, 7, 8, 9, 10, 11, 12, 13, 14, 15, 16, 17, 18, 19, 20, 21, 22, 23, 24, 25, 26, 27, 28, 29, 30, 31, 32, 33, 34, 35, 36, 37, 38]) (by repeat (first | exact Agr.refl _ _ | refine Agr.upd ?_ rfl | refine Agr.mix ?_ rfl))) rfl) rfl, (dec_rd hr9 h0 hk6), (hby9.drop _), ((hdec.trans (decS_step (by rw [List.length_map]; omega) h0 hk6)).trans (by rw [List.map_append]; rfl)), (by rw [List.length_append, List.length_singleton]; omega), rfl, hs.take 2⟩
          rw [List.length_drop]; have := fixN_pos (whatS_lt R) h0; have := lenS_ge (whatS R) R; omega
        ·
          have h0 : whatS R ≠ 0 := by omega
          refine W_region ?_
          refine RW_op (L_mv (.int .i64 ((whatS R : Nat) : Int)) ?_)
          refine RW_op (L_mv (.slice (sla p9 1 c8 1) ((R.drop 1).length) (c8 - 1)) ?_)
          refine RW_op (L_callP (vs := [.int .i64 ((whatS R : Nat) : Int), .slice (sla p9 1 c8 1) ((R.drop 1).length) (c8 - 1)]) (V := .tuple #[.agg (stp stpz).toArray, .slice none 0 0, .bool false]) EN_17 rfl rfl ?hc hs fun w13 hs => ?_)
          case hc => exact (dec_no (Rd.dropM (Rd.own' hr9 hs) 1 (by omega) _ (by simp only [List.length_take, List.length_drop] <;> omega)) h0 (Decidable.of_not_not hk6) (by omega) hby9)
          refine RW_op (L_mv (.tuple #[.agg (stp stpz).toArray, .slice none 0 0, .bool false]) ?_)
          refine RW_op (L_extract (V := .agg (stp stpz).toArray) rfl rfl ?_)
          refine RW_op (L_extract (V := .slice none 0 0) rfl rfl ?_)
          refine RW_op (L_extract (V := .bool false) rfl rfl ?_)
          refine RW_op (L_alloc (cs := stp stpz) ZV_41 rfl hs fun b14 w15 hs => ?_)
          refine RW_op (L_st (V := .agg (stp stpz).toArray) (vs := stp stpz) (cs' := stp stpz) SA_41.1 hs 2 rfl rfl rfl rfl rfl (Nat.le_of_ble_eq_true rfl) (stp_one _) (spl_whole rfl) fun w16 hs => ?_)
          refine RW_op (L_as (.slice none 0 0) ?_)
          refine RW_op (L_as (.bool false) ?_)
          refine RW_nil ?_
          refine W_seq ?_
          refine W_seq ?_
          refine W_region ?_
          refine RW_op (L_mv (.bool false) ?_)
          refine RW_op (L_not rfl ?_)
          refine RW_nil ?_
          refine W_condT rfl ?_
          refine W_exit ?_
          refine W_seq ?_
          refine W_region ?_
          refine RW_op (L_mv (.slice a9 Q.length c9) ?_)
          refine RW_op (L_as (.slice a9 Q.length c9) ?_)
          refine RW_nil ?_
          refine W_ret ?_
          refine ⟨_, res_one (V := .slice a9 Q.length c9) Tryz.results8 rfl, ?_⟩
          have hX : decS b [] = Q.map (·.c) := hdec.trans (decS_short h0 (Decidable.of_not_not hk6))
          rw [hX]
          exact ⟨(a9, c9), by rw [List.length_map], dec_own (hs.take 2), trivial⟩
    ·
      refine W_exit ?_
      refine W_seq ?_
      refine W_region ?_
      refine RW_op (L_mv (.slice a9 Q.length c9) ?_)
      refine RW_op (L_as (.slice a9 Q.length c9) ?_)
      refine RW_nil ?_
      refine W_ret ?_
      refine ⟨_, res_one (V := .slice a9 Q.length c9) Tryz.results8 rfl, ?_⟩
      have hX : decS b [] = Q.map (·.c) := hdec.trans (decS_stop (by rw [List.length_map]; simp only [Bool.and_eq_false_iff, decide_eq_false_iff_not] at c3; omega))
      rw [hX]
      exact ⟨(a9, c9), by rw [List.length_map], dec_own (hs.take 2), trivial⟩
end Tt
end Go.Proofs
namespace Go.Proofs
open Go Go.Vx Go.RowKit
namespace Tt
theorem half_own {w0 w : World} {L : List Res} {o : Obj} (hs : Own w0 no w L) (h : w0.heap[0]? = some o) : w.heap[0]? = some o := by
  have hlt : 0 < w0.heap.size := (Array.getElem?_eq_some_iff.1 h).1
  rw [hs.old 0 hlt (fun h => h)]; exact h
theorem gd_in {Q : List Stp} {i : Nat} {l : List Stc} (h : Q.map (·.c) = l) (hi : i < Q.length) : (gd Q i).c ∈ l := by
  rw [gd_core hi, ← h]; exact List.getElem_mem _
theorem gd_pre {A B : List Stp} {i : Nat} {t : List Stc} (h : A.map (·.c) = B.map (·.c) ++ t) (hi : i < B.length) : (gd B i).c = (gd A i).c := by
  have hA : i < A.length := by
    have := congrArg List.length h
    simp only [List.length_map, List.length_append] at this
    omega
  rw [gd_core hi, gd_core hA]
  have : (A.map (·.c))[i]? = (B.map (·.c))[i]? := by rw [h, List.getElem?_append_left (by simpa using hi)]
  rw [List.getElem?_eq_getElem (by simpa using hA), List.getElem?_eq_getElem (by simpa using hi)] at this
  exact (Option.some.inj this).symm
theorem sum_le {Q : List Stp} {b : Bs} {i n : Nat} (h : Q.map (·.c) = decS (b.take n) []) : sumS ((Q.map (·.c)).take i) ≤ n := by
  have h1 : sumS ((Q.map (·.c)).take i) ≤ sumS (Q.map (·.c)) := by
    have : sumS (Q.map (·.c)) = sumS ((Q.map (·.c)).take i) + sumS ((Q.map (·.c)).drop i) := by
      unfold sumS
      rw [← List.sum_append, ← List.map_append, List.take_append_drop]
    omega
  have h2 := sumS_dec (b.take n) []
  rw [← h] at h2
  have : sumS [] = 0 := rfl
  rw [List.length_take] at h2
  omega
theorem sum_step {Q : List Stp} {i : Nat} (hi : i < Q.length) : sumS ((Q.map (·.c)).take (i + 1)) = sumS ((Q.map (·.c)).take i) + sizS (gd Q i).c := by
  rw [List.take_add_one, List.getElem?_eq_getElem (by simpa using hi), gd_core hi]
  exact sumS_snoc _ _
set_option maxRecDepth 20000 in
set_option maxHeartbeats 4000000 in
theorem short_ok (w : World) (p : Option Addr) (c : Nat) (b : Bs) (n : Nat) (hn16 : n < 65536) (hby : ByOk b) (hr : Rd w (.slice p b.length c) 1 (b.map (ic .u8))) (T : TypeId) (hw : w.heap[0]? = some (.cells (Ce.numsV .u32 Ct.half).toArray T (0, 0))) : Calls Tryz.prog 4 #[.slice p b.length c, .int .u16 ((n : Nat) : Int)] w (fun e w' => e = .returned (.bool true) ∧ Own w no w' []) := by
  refine calls_of_Wn (n := 66) Tryz.func4 rfl Tryz.ntmps4 rfl ?_
  have hs := Own.start w
  have hn := hr.sml
  refine W_seq ?_
  refine W_region ?_
  refine RW_op (L_as (.bool false) ?_)
  refine RW_nil ?_
  refine W_seq ?_
  refine W_seq ?_
  refine W_region ?_
  refine RW_op (L_callP (vs := []) (V := .bool true) EN_7 rfl rfl ?hc hs fun w1 hs => ?_)
  case hc => exact (Ct.run_f7 T (half_own hs hw))
  refine RW_op (L_not rfl ?_)
  refine RW_nil ?_
  refine W_condF rfl ?_
  refine W_skip ?_
  refine W_seq ?_
  refine W_seq ?_
  refine W_region ?_
  refine RW_op (L_mv (.slice p b.length c) ?_)
  refine RW_op (L_lenR (n := b.length) UD_22 (Rd.own' hr hs) (by simp) rfl ?_)
  refine RW_op (L_gtr rfl rfl ?_)
  refine RW_nil ?_
  refine W_cond (t := decide (2000 < ((b.length : Nat) : Int))) rfl (fun c2 => ?_) (fun c2 => ?_)
  ·
    replace c2 := of_decide_eq_true c2
    refine W_seq ?_
    refine W_region ?_
    refine RW_op (L_as (.bool true) ?_)
    refine RW_nil ?_
    refine W_ret ?_
    refine ⟨_, res_one (V := .bool true) Tryz.results4 rfl, ?_⟩
    refine Zr hs ?_
    rfl
  ·
    replace c2 := of_decide_eq_false c2
    refine W_skip ?_
    refine W_seq ?_
    refine W_region ?_
    refine RW_op (L_mv (.int .u16 ((n : Nat) : Int)) ?_)
    refine RW_op (L_conv UD_30 UD_3 rfl (wr_i64 (by omega) (by omega)) ?_)
    refine RW_op (L_mv (.slice p b.length c) ?_)
    refine RW_op (L_lenR (n := b.length) UD_22 (Rd.own' hr hs) (by simp) rfl ?_)
    refine RW_op (opW_to (V := .int .i64 (min ((n : Nat) : Int) ((b.length : Nat) : Int))) (V' := .int .i64 (((min n b.length) : Nat) : Int)) (L_min rfl rfl ⟨rfl, rfl⟩) (congrArg (Value.int .i64) (by omega)) ?_)
    refine RW_op (L_as (.int .i64 (((min n b.length) : Nat) : Int)) ?_)
    refine RW_nil ?_
    refine W_seq ?_
    replace hs := hs.more emp trivial
    replace hs := hs.more emp trivial
    refine W_regD HM (so 20 6 ++ [some 6, some 7]) [[], [21], [], [], [], [25], [21], [25]] [0, 1, 0, 0, 12, 31, 63, 127] [pv (.slice p b.length c), (true, fun ρ => .slice (aOf (ρ 21)) ((decS b []).length) (cOf (ρ 21))), pv (.slice p b.length c), pv (.int .i64 (((min n b.length) : Nat) : Int)), pv (.slice (sla p 0 c 1) ((b.take (min n b.length)).length) (c - 0)), (true, fun ρ => .slice (aOf (ρ 25)) ((decS (b.take (min n b.length)) []).length) (cOf (ρ 25))), (true, fun ρ => .slice (aOf (ρ 21)) ((decS b []).length) (cOf (ρ 21))), (true, fun ρ => .slice (aOf (ρ 25)) ((decS (b.take (min n b.length)) []).length) (cOf (ρ 25)))] (fun D ρ => [cond (D 1) (decR 41 (aOf (ρ 21)) (cOf (ρ 21)) (decS b [])) (emp), cond (D 5) (decR 41 (aOf (ρ 25)) (cOf (ρ 25)) (decS (b.take (min n b.length)) [])) (emp)]) [7, 6] (by kernel_rfl) hs ⟨?_, ?_, ?_, ?_, ?_, ?_, ?_, ?_, trivial⟩ ?_
    · exact oi [] fun hs => L_mv (.slice p b.length c) (Zz hs)
    · exact oi [0] fun hs => L_callX (vs := [.slice p b.length c]) (V := fun x : Option Addr × Nat => .slice x.1 (decS b []).length x.2) EN_8 rfl rfl (dec_ok _ p c b hby (Rd.own' hr hs)) hs fun _ _ hs _ => ⟨rfl, hs.put 0 (Nat.le_of_ble_eq_true rfl)⟩
    · exact oi [] fun hs => L_mv (.slice p b.length c) (Zz hs)
    · exact oi [] fun hs => L_mv (.int .i64 (((min n b.length) : Nat) : Int)) (Zz hs)
    · exact oi [2, 3] fun hs => L_sl (l := 0) (h := (min n b.length)) (m := c) (n' := (b.take (min n b.length)).length) UDR_22 S1_5.1 (Rd.own' hr hs) rfl (.inl ⟨rfl, rfl⟩) (.inr ⟨_, _, rfl, rfl⟩) (.inl ⟨rfl, rfl⟩) (by omega) (by omega) (Nat.le_trans (show (min n b.length) ≤ b.length by omega) (Rd.roomM (Rd.own' hr hs))) (Nat.le_refl _) (by simp only [List.length_take, List.length_drop] <;> omega) (Zz hs)
    · exact oi [4] fun hs => L_callX (vs := [.slice (sla p 0 c 1) ((b.take (min n b.length)).length) (c - 0)]) (V := fun x : Option Addr × Nat => .slice x.1 (decS (b.take (min n b.length)) []).length x.2) EN_8 rfl rfl (dec_ok _ (sla p 0 c 1) (c - 0) (b.take (min n b.length)) (fun c hc => hby c (List.mem_of_mem_take hc)) (Rd.subM (Rd.own' hr hs) 0 (min n b.length) c (by omega) (by omega) (Nat.le_trans (show (min n b.length) ≤ b.length by omega) (Rd.roomM (Rd.own' hr hs))) (Nat.le_refl _) _ (by simp only [List.length_take, List.length_drop] <;> omega))) hs fun _ _ hs _ => ⟨rfl, hs.put 1 (Nat.le_of_ble_eq_true rfl)⟩
    · exact oa [1] fun D ρ w hs => L_as (.slice (aOf (ρ 21)) ((decS b []).length) (cOf (ρ 21))) (Zz hs)
    · exact oa [5] fun D ρ w hs => L_as (.slice (aOf (ρ 25)) ((decS (b.take (min n b.length)) []).length) (cOf (ρ 25))) (Zz hs)
    rintro ρ1 w5 ρ2 hρ hs
    replace hρ : ρ2 = upd (upd (mix [20, 21, 22, 23, 24, 25, 6, 7] ρ1 _) 6 (.slice (aOf (ρ1 21)) ((decS b []).length) (cOf (ρ1 21)))) 7 (.slice (aOf (ρ1 25)) ((decS (b.take (min n b.length)) []).length) (cOf (ρ1 25))) := hρ
    replace hs : Own w no w5 [decR 41 (aOf (ρ1 21)) (cOf (ρ1 21)) (decS b []), decR 41 (aOf (ρ1 25)) (cOf (ρ1 25)) (decS (b.take (min n b.length)) [])] := hs
    generalize (aOf (ρ1 21)) = a6 at hρ hs
    generalize (cOf (ρ1 21)) = c7 at hρ hs
    generalize (aOf (ρ1 25)) = a8 at hρ hs
    generalize (cOf (ρ1 25)) = c9 at hρ hs
    subst hρ
    refine W_seq ?_
    refine W_seq ?_
    obtain ⟨⟨A, hA⟩, hs⟩ := hs.unex 0 rfl
    have eA : (decS b []).length = A.length := by rw [← hA, List.length_map]
    rw [eA] at hs ⊢
    replace hs := hs.split 0 rfl
    obtain ⟨⟨B, hB⟩, hs⟩ := hs.unex 1 rfl
    have eB : (decS (b.take (min n b.length)) []).length = B.length := by rw [← hB, List.length_map]
    rw [eB] at hs ⊢
    replace hs := hs.split 1 rfl
    replace hs : Own w no _ [row (.slice a6 A.length c7) (A.map stp) 41 47, row (.slice a8 B.length c9) (B.map stp) 41 47, star (A.map cutR), star (B.map cutR)] := hs
    obtain ⟨tk, htk⟩ := decS_take b [] (min n b.length)
    have hAB : A.map (·.c) = B.map (·.c) ++ tk := by rw [hA, hB, htk]
    have hle : B.length ≤ A.length := by have := congrArg List.length hAB; simp only [List.length_map, List.length_append] at this; omega
    have hB9 : B.length ≤ 100 := by rw [← eB]; exact decS_len _ _ (Nat.zero_le _)
    refine W_region ?_
    refine RW_op (L_mv (.slice a8 B.length c9) ?_)
    refine RW_op (L_lenR (n := B.length) UD_24 (hs.rd 1 rfl) (by simp) rfl ?_)
    refine RW_op (L_mv (.slice a6 A.length c7) ?_)
    refine RW_op (L_lenR (n := A.length) UD_24 (hs.rd 0 rfl) (by simp) rfl ?_)
    refine RW_op (opW_to (V := .bool (decide (((A.length : Nat) : Int) < ((B.length : Nat) : Int)))) (V' := .bool false) (L_gtr rfl rfl ⟨rfl, rfl⟩) (congrArg Value.bool (decide_eq_false (by omega))) ?_)
    refine RW_nil ?_
    refine W_condF rfl ?_
    refine W_skip ?_
    refine W_seq ?_
    refine W_region ?_
    refine RW_op (L_as (.int .i64 0) ?_)
    refine RW_nil ?_
    refine W_seq ?_
    refine W_seq ?_
    refine W_region ?_
    refine RW_op (L_mv (.slice a8 B.length c9) ?_)
    refine RW_op (L_lenR (n := B.length) UD_24 (hs.rd 1 rfl) (by simp) rfl ?_)
    refine RW_op (L_mv (.int .i64 0) ?_)
    refine RW_nil ?_
    refine W_block ?_
    refine W_loopI (fun ρ μ ρ' w' => ∃ (ρo : Env) (i : Nat), ρ' = upd (upd (mix [4, 8, 9, 33, 34, 35, 36, 37, 38, 39, 40, 41, 42, 43, 44, 45, 46, 47, 48, 49, 50, 51, 52, 53, 54, 55, 56, 57, 58, 59, 60, 61, 62] ρo ρ) 33 (.int .i64 ((i : Nat) : Int))) 8 (.int .i64 ((sumS ((B.map (·.c)).take i) : Nat) : Int)) ∧ (i ≤ B.length) ∧ μ = B.length - i ∧ Own w no w' [row (.slice a6 A.length c7) (A.map stp) 41 47, row (.slice a8 B.length c9) (B.map stp) 41 47, star (A.map cutR), star (B.map cutR)]) ?_ ?_
    · exact ⟨_, _, 0, upd_of (upd_of (mix_of (ds := [4, 8, 9, 33, 34, 35, 36, 37, 38, 39, 40, 41, 42, 43, 44, 45, 46, 47, 48, 49, 50, 51, 52, 53, 54, 55, 56, 57, 58, 59, 60, 61, 62]) (Agr.refl _ _)) rfl) rfl, (Nat.zero_le _), rfl, hs⟩
    · rintro μ ρ' w10 ⟨ρo, i, rfl, hi, rfl, hs⟩
      refine W_seq ?_
      refine W_region ?_
      refine RW_op (L_lss rfl rfl ?_)
      refine RW_nil ?_
      refine W_seq ?_
      refine W_cond (t := decide (((i : Nat) : Int) < ((B.length : Nat) : Int))) rfl (fun c11 => ?_) (fun c11 => ?_)
      ·
        replace c11 := of_decide_eq_true c11
        refine W_skip ?_
        refine W_seq ?_
        refine W_block ?_
        refine W_seq ?_
        refine W_region ?_
        refine RW_op (L_mv (.int .i64 ((i : Nat) : Int)) ?_)
        refine RW_op (L_as (.int .i64 ((i : Nat) : Int)) ?_)
        refine RW_nil ?_
        refine W_seq ?_
        refine W_seq ?_
        refine W_regD HM (so 36 12) [] [0, 0, 3, 7, 15, 0, 0, 96, 224, 511, 1023, 2047] [pv (.slice a8 B.length c9), pv (.int .i64 ((i : Nat) : Int)), pv (.pointer (some ⟨bkS (.slice a8 B.length c9), ofS (.slice a8 B.length c9) + ((i : Nat) : Int).toNat * 47, none⟩)), pv (.agg (stp (gd B i)).toArray), pv (.agg (stp (gd B i)).toArray), pv (.slice a6 A.length c7), pv (.int .i64 ((i : Nat) : Int)), pv (.pointer (some ⟨bkS (.slice a6 A.length c7), ofS (.slice a6 A.length c7) + ((i : Nat) : Int).toNat * 47, none⟩)), pv (.agg (stp (gd A i)).toArray), pv (.agg (stp (gd A i)).toArray), pv (.bool true), pv (.bool false)] (fun _ _ => _) [11] (by kernel_rfl) hs ⟨?_, ?_, ?_, ?_, ?_, ?_, ?_, ?_, ?_, ?_, ?_, ?_, trivial⟩ ?_
        · exact oi [] fun hs => L_mv (.slice a8 B.length c9) (Zz hs)
        · exact oi [] fun hs => L_mv (.int .i64 ((i : Nat) : Int)) (Zz hs)
        · exact oi [0, 1] fun hs => L_ixR UD_24 SA_41.1 (hs.rd 1 rfl) rfl rfl (by omega) (by rw [List.length_map]; omega) (Zz hs)
        · exact oi [2] fun hs => L_ldRA (j := 0) (vs := stp (gd B i)) i SA_41 (hs.rd 1 rfl) (gd_at (by omega)) rfl rfl rfl (by omega) (Zz hs)
        · exact oi [3] fun hs => L_callP (vs := [.agg (stp (gd B i)).toArray]) (V := .agg (stp (gd B i)).toArray) EN_13 rfl rfl (ours23_ok _ (gd B i)) hs fun _ hs => Zz hs
        · exact oi [] fun hs => L_mv (.slice a6 A.length c7) (Zz hs)
        · exact oi [] fun hs => L_mv (.int .i64 ((i : Nat) : Int)) (Zz hs)
        · exact oi [5, 6] fun hs => L_ixR UD_24 SA_41.1 (hs.rd 0 rfl) rfl rfl (by omega) (by rw [List.length_map]; omega) (Zz hs)
        · exact oi [7] fun hs => L_ldRA (j := 0) (vs := stp (gd A i)) i SA_41 (hs.rd 0 rfl) (gd_at (by omega)) rfl rfl rfl (by omega) (Zz hs)
        · exact oi [8] fun hs => L_callP (vs := [.agg (stp (gd A i)).toArray]) (V := .agg (stp (gd A i)).toArray) EN_13 rfl rfl (ours23_ok _ (gd A i)) hs fun _ hs => Zz hs
        · exact oi [4, 9] fun hs => L_callPV (V' := .bool true) (by rw [gd_pre hAB (by omega)]; exact congrArg Value.bool (sameC_self _)) (vs := [.agg (stp (gd B i)).toArray, .agg (stp (gd A i)).toArray]) (V := .bool (sameC (gd B i).c (gd A i).c)) EN_12 rfl rfl (same23_ok _ (gd B i) (gd A i) (.inl (cut_rd hs 3 rfl i (by omega))) (.inl (cut_rd hs 2 rfl i (by omega)))) hs fun _ hs => Zz hs
        · exact oi [10] fun hs => L_not rfl (Zz hs)
        rintro ρ1 w15 ρ2 hρ hs
        replace hρ : ρ2 = upd (mix [36, 37, 38, 39, 40, 41, 42, 43, 44, 45, 46, 47] ρ1 _) 47 (.bool false) := hρ
        subst hρ
        refine W_condF rfl ?_
        refine W_skip ?_
        have hsl := sum_le (i := i + 1) hB
        rw [sum_step (by omega)] at hsl
        refine W_regD HM (so 48 14 ++ [some 8]) [] [0, 0, 0, 6, 14, 30, 0, 0, 192, 448, 960, 1984, 4094, 8191, 16383] [pv (.int .i64 ((sumS ((B.map (·.c)).take i) : Nat) : Int)), pv (.slice a8 B.length c9), pv (.int .i64 ((i : Nat) : Int)), pv (.pointer (some ⟨bkS (.slice a8 B.length c9), ofS (.slice a8 B.length c9) + ((i : Nat) : Int).toNat * 47, none⟩)), pv (.pointer (some ⟨bkS (.slice a8 B.length c9), ofS (.slice a8 B.length c9) + ((i : Nat) : Int).toNat * 47 + 0, none⟩)), pv (.int .i64 ((gd B i).c.what)), pv (.slice a8 B.length c9), pv (.int .i64 ((i : Nat) : Int)), pv (.pointer (some ⟨bkS (.slice a8 B.length c9), ofS (.slice a8 B.length c9) + ((i : Nat) : Int).toNat * 47, none⟩)), pv (.pointer (some ⟨bkS (.slice a8 B.length c9), ofS (.slice a8 B.length c9) + ((i : Nat) : Int).toNat * 47 + 46, none⟩)), pv (.slice ((gd B i).a) ((gd B i).c.cuts.length) ((gd B i).n)), pv (.int .i64 (((gd B i).c.cuts.length : Nat) : Int)), pv (.int .i64 ((sizS (gd B i).c : Nat) : Int)), pv (.int .i64 (((sumS ((B.map (·.c)).take i)) + (sizS (gd B i).c) : Nat) : Int)), pv (.int .i64 (((sumS ((B.map (·.c)).take i)) + (sizS (gd B i).c) : Nat) : Int))] (fun _ _ => _) [14] (by kernel_rfl) hs ⟨?_, ?_, ?_, ?_, ?_, ?_, ?_, ?_, ?_, ?_, ?_, ?_, ?_, ?_, ?_, trivial⟩ ?_
        · exact ob [] [14] rfl rfl fun D ρ w hs => L_mv (.int .i64 ((sumS ((B.map (·.c)).take i) : Nat) : Int)) (Zz hs)
        · exact oi [] fun hs => L_mv (.slice a8 B.length c9) (Zz hs)
        · exact oi [] fun hs => L_mv (.int .i64 ((i : Nat) : Int)) (Zz hs)
        · exact oi [1, 2] fun hs => L_ixR UD_24 SA_41.1 (hs.rd 1 rfl) rfl rfl (by omega) (by rw [List.length_map]; omega) (Zz hs)
        · exact oi [3] fun hs => L_fieldAddr FA_41_0 rfl (Zz hs)
        · exact oi [4] fun hs => L_ldR (j := 0) (V := .int .i64 ((gd B i).c.what)) i S1_3 (hs.rd 1 rfl) (gd_at (by omega)) rfl rfl (by omega) (Zz hs)
        · exact oi [] fun hs => L_mv (.slice a8 B.length c9) (Zz hs)
        · exact oi [] fun hs => L_mv (.int .i64 ((i : Nat) : Int)) (Zz hs)
        · exact oi [6, 7] fun hs => L_ixR UD_24 SA_41.1 (hs.rd 1 rfl) rfl rfl (by omega) (by rw [List.length_map]; omega) (Zz hs)
        · exact oi [8] fun hs => L_fieldAddr FA_41_9 rfl (Zz hs)
        · exact oi [9] fun hs => L_ldR (j := 46) (V := .slice ((gd B i).a) ((gd B i).c.cuts.length) ((gd B i).n)) i S1_22 (hs.rd 1 rfl) (gd_at (by omega)) rfl rfl (by omega) (Zz hs)
        · exact oi [10] fun hs => L_lenR (n := (gd B i).c.cuts.length) UD_22 (cut_rd hs 3 rfl i (by omega)) (by simp) rfl (Zz hs)
        · exact oi [5, 11] fun hs => L_callP (vs := [.int .i64 ((gd B i).c.what), .int .i64 (((gd B i).c.cuts.length : Nat) : Int)]) (V := .int .i64 ((sizS (gd B i).c : Nat) : Int)) EN_10 rfl rfl (Ct.siz_ok (s := (gd B i).c) ((Ct.dec_mem (gd_in hB (by omega))))) hs fun _ hs => Zz hs
        · exact oi [0, 12] fun hs => L_add (a := ((sumS ((B.map (·.c)).take i) : Nat) : Int)) (b := ((sizS (gd B i).c : Nat) : Int)) (c := (((sumS ((B.map (·.c)).take i)) + (sizS (gd B i).c) : Nat) : Int)) rfl rfl (nat_i64 (by omega) (by omega)) (Zz hs)
        · exact oi [13] fun hs => L_as (.int .i64 (((sumS ((B.map (·.c)).take i)) + (sizS (gd B i).c) : Nat) : Int)) (Zz hs)
        rintro ρ1 w17 ρ2 hρ hs
        replace hρ : ρ2 = upd (mix [48, 49, 50, 51, 52, 53, 54, 55, 56, 57, 58, 59, 60, 61, 8] ρ1 _) 8 (.int .i64 (((sumS ((B.map (·.c)).take i)) + (sizS (gd B i).c) : Nat) : Int)) := hρ
        subst hρ
        refine W_region ?_
        refine RW_op (L_add (a := ((i : Nat) : Int)) (b := 1) (c := ((i + 1 : Nat) : Int)) rfl rfl (nat_i64 (by omega) (by omega)) ?_)
        refine RW_op (L_mv (.int .i64 ((i + 1 : Nat) : Int)) ?_)
        refine RW_nil ?_
        refine ⟨_, ?_, _, i + 1, upd_of (upd_of (mix_of (ds := [4, 8, 9, 33, 34, 35, 36, 37, 38, 39, 40, 41, 42, 43, 44, 45, 46, 47, 48, 49, 50, 51, 52, 53, 54, 55, 56, 57, 58, 59, 60, 61, 62]) (by repeat (first | exact Agr.refl _ _ | refine Agr.upd ?_ rfl | refine Agr.mix ?_ rfl))) rfl) (congrArg (fun z : Nat => Value.int .i64 (z : Int)) (sum_step (by omega)).symm), (by omega), rfl, hs.take 4⟩
        omega
      ·
        replace c11 := of_decide_eq_false c11
        refine W_exit ?_
        refine W_seq ?_
        refine W_region ?_
        refine RW_op (L_mv (.int .i64 ((sumS ((B.map (·.c)).take i) : Nat) : Int)) ?_)
        refine RW_op (L_mv (.int .i64 (((min n b.length) : Nat) : Int)) ?_)
        refine RW_op (opW_to (V := .bool (decide (((sumS ((B.map (·.c)).take i) : Nat) : Int) ≤ (((min n b.length) : Nat) : Int)))) (V' := .bool true) (L_leq rfl rfl ⟨rfl, rfl⟩) (congrArg Value.bool (decide_eq_true (by have := sum_le (i := i) hB; omega))) ?_)
        refine RW_op (L_as (.bool true) ?_)
        refine RW_nil ?_
        refine W_ret ?_
        refine ⟨_, res_one (V := .bool true) Tryz.results4 rfl, ?_⟩
        refine Zr hs ?_
        rfl
end Tt
end Go.Proofs
