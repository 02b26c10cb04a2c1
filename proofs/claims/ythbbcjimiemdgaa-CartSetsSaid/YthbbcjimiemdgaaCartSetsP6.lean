/- A part of a proof: what functions of the program compute, and plain facts on that. -/
import Derived.Test.YthbbcjimiemdgaaCartSetsP5
import Derived.KernelRfl
import Derived.Test.YthbbcjimiemdgaaProg
import Derived.Shelf.SlSortCmp.WholeK
import Derived.Shelf.SlLaysF0
import Derived.Ground.SlsfProg
import Derived.Shelf.SlSortCmp.NoneTotal
set_option linter.unusedVariables false
set_option linter.unusedSimpArgs false
namespace Go.Proofs
open Go Go.Vx Go.RowKit
namespace Tt
set_option maxRecDepth 20000 in
set_option maxHeartbeats 4000000 in
theorem cCarts_ok (w : World) (s : Sta) (a1 : Option Addr) (c1 : Nat) (a2 : Option Addr) (c2 : Nat) (hok : StaOk s) (hle : s.ents.length ≤ 1000) (hlt : s.ticks.length ≤ 1000) (hr1 : Rd w (.slice a1 s.ents.length c1) 7 (s.ents.map cec)) (hr2 : Rd w (.slice a2 s.ticks.length c2) 2 (s.ticks.map lsc)) : Calls Try.prog 37 #[.agg ((vc s.known) ++ [(.slice a1 s.ents.length c1 : Value), (.slice a2 s.ticks.length c2 : Value) ]).toArray] w (fun e w' => ∃ x : Option Addr × Nat, e = .returned (.slice x.1 (cartsS s).length x.2) ∧ Own w no w' [row (.slice x.1 (cartsS s).length x.2) ((cartsS s).map (ic .u16)) 70 1] ∧ True) := by
  refine calls_of_Wn (n := 23) Try.func37 rfl Try.ntmps37 rfl ?_
  have hs := Own.start w
  have ⟨hv0, hE0, hT0⟩ := hok
  refine W_seq ?_
  refine W_region ?_
  refine RW_op (L_box (V := .agg ((vc s.known) ++ [(.slice a1 s.ents.length c1 : Value), (.slice a2 s.ticks.length c2 : Value) ]).toArray) (cs := (vc s.known) ++ [(.slice a1 s.ents.length c1 : Value), (.slice a2 s.ticks.length c2 : Value) ]) rfl rfl hs fun b1 w2 hs => ?_)
  refine RW_op (L_assign (V := .slice none 0 0) rfl ?_)
  refine RW_nil ?_
  refine W_seq ?_
  refine W_seq ?_
  refine W_region ?_
  refine RW_op (L_ldW (cs := (vc s.known) ++ [(.slice a1 s.ents.length c1 : Value), (.slice a2 s.ticks.length c2 : Value) ]) SA_62 hs 0 rfl rfl rfl ?_)
  refine RW_op (L_callP (vs := [.agg ((vc s.known) ++ [(.slice a1 s.ents.length c1 : Value), (.slice a2 s.ticks.length c2 : Value) ]).toArray]) (V := .bool (rightS s)) EN_58 rfl rfl ?hc hs fun w3 hs => ?_)
  case hc => exact (cRight_ok _ s a1 c1 a2 c2 hok (by omega) (by omega) (Rd.own' hr1 hs) (Rd.own' hr2 hs))
  refine RW_op (L_not rfl ?_)
  refine RW_nil ?_
  refine W_cond (t := !(rightS s)) rfl (fun c4 => ?_) (fun c4 => ?_)
  ·
    replace c4 := not_t c4
    refine W_seq ?_
    refine W_region ?_
    refine RW_op (L_assign (V := .slice none 0 0) rfl ?_)
    refine RW_nil ?_
    refine W_ret ?_
    refine ⟨_, res_one (V := .slice none 0 0) Try.results37 rfl, ?_⟩
    have hX : cartsS s = [] := by unfold cartsS; rw [if_neg (by rw [c4]; decide)]
    rw [hX]
    exact ⟨(none, 0), rfl, (hs.take 0).more _ (row_nil _ _ _ _), trivial⟩
  ·
    replace c4 := not_f c4
    refine W_skip ?_
    refine W_seq ?_
    refine W_region ?_
    refine RW_op (L_assign (V := .slice none 0 0) rfl ?_)
    refine RW_nil ?_
    refine W_seq ?_
    refine W_seq ?_
    refine W_region ?_
    refine RW_op (L_fieldAddr FA_62_2 rfl ?_)
    refine RW_op (L_ld (V := .slice a2 s.ticks.length c2) S1_60 hs 0 rfl rfl rfl ?_)
    refine RW_op (L_lenR (n := s.ticks.length) UD_60 (Rd.own' hr2 hs) (by simp) rfl ?_)
    refine RW_op (L_move (V := .int .i64 0) rfl ?_)
    refine RW_nil ?_
    refine W_block ?_
    replace hs := hs.more (row (.slice none 0 0) (List.map (ic .u16) []) 70 1) (row_nil _ _ _ _)
    refine W_loopI (fun ρ μ ρ' w' => ∃ (ρo : Env) (k : Nat) (a9 : Option Addr) (c9 : Nat) (L9 : List Int), ρ' = upd (upd (mix [3, 5, 12, 13, 14, 15, 16, 17, 18, 19, 20, 21] ρo ρ) 12 (.int .i64 ((k : Nat) : Int))) 3 (.slice a9 L9.length c9) ∧ (k ≤ s.ticks.length) ∧ (L9 = (s.ticks.take k).map (·.cart)) ∧ (L9.length ≤ k) ∧ μ = s.ticks.length - k ∧ Own w no w' [blk b1 ((vc s.known) ++ [(.slice a1 s.ents.length c1 : Value), (.slice a2 s.ticks.length c2 : Value) ]) 62, row (.slice a9 L9.length c9) (L9.map (ic .u16)) 70 1]) ?_ ?_
    · exact ⟨_, _, 0, none, 0, [], upd_of (upd_of (mix_of (ds := [3, 5, 12, 13, 14, 15, 16, 17, 18, 19, 20, 21]) (Agr.refl _ _)) rfl) rfl, (by omega), rfl, (Nat.le_refl _), rfl, hs⟩
    · rintro μ ρ' w5 ⟨ρo, k, a9, c9, L9, rfl, hk, hL9, hl9, rfl, hs⟩
      refine W_seq ?_
      refine W_region ?_
      refine RW_op (L_lss rfl rfl ?_)
      refine RW_nil ?_
      refine W_seq ?_
      refine W_cond (t := decide (((k : Nat) : Int) < ((s.ticks.length : Nat) : Int))) rfl (fun c6 => ?_) (fun c6 => ?_)
      ·
        replace c6 := of_decide_eq_true c6
        refine W_skip ?_
        refine W_seq ?_
        refine W_block ?_
        refine W_seq ?_
        refine W_region ?_
        refine RW_op (L_ixR UD_60 SA_126.1 (Rd.own' hr2 hs) rfl rfl (by omega) (by rw [List.length_map]; omega) ?_)
        refine RW_op (L_ldRA (j := 0) (vs := lsc (gd s.ticks k)) k SA_126 (Rd.own' hr2 hs) (gd_at (by omega)) rfl rfl rfl (by omega) ?_)
        refine RW_op (L_alloc (cs := lsc (⟨0, 0⟩ : Lst)) ZV_126 rfl hs fun b7 w8 hs => ?_)
        refine RW_op (L_st (V := .agg (lsc (gd s.ticks k)).toArray) (vs := lsc (gd s.ticks k)) (cs' := lsc (gd s.ticks k)) SA_126.1 hs 2 rfl rfl rfl rfl rfl (Nat.le_of_ble_eq_true rfl) (lsc_one _) (spl_whole rfl) fun w9 hs => ?_)
        refine RW_nil ?_
        refine W_region ?_
        refine RW_op (L_move (V := .slice a9 L9.length c9) rfl ?_)
        refine RW_op (L_fieldAddr FA_126_0 rfl ?_)
        refine RW_op (L_ld (V := .int .u16 ((gd s.ticks k).cart)) S1_70 hs 2 rfl rfl rfl ?_)
        refine RW_op (L_bs (vals := [.int .u16 ((gd s.ticks k).cart)]) (ls := List.map (ic .u16) ([(gd s.ticks k).cart] : List Int)) EL_78 rfl rfl rfl (len_map (enc := (ic .u16)) (fun _ => rfl) _) (one_map (ic_one .u16) _) (Nat.le_of_ble_eq_true rfl) hs fun b10 w11 hs => ?_)
        replace hs : Own w no w11 [blk b1 ((vc s.known) ++ [(.slice a1 s.ents.length c1 : Value), (.slice a2 s.ticks.length c2 : Value) ]) 62, row (.slice a9 L9.length c9) (L9.map (ic .u16)) 70 1, blk b7 (lsc (gd s.ticks k)) 126, row (.slice (some ⟨b10, 0, none⟩) 1 1) ([(gd s.ticks k).cart].map (ic .u16)) 70 1] := hs
        refine RW_op (L_appN (ls' := (L9 ++ [(gd s.ticks k).cart]).map (ic .u16)) (n := (L9 ++ [(gd s.ticks k).cart]).length) EL_78 hs 1 rfl rfl rfl (hs.rd 3 rfl) (one_map (ic_one .u16) _) (by simp only [List.length_map, List.length_append, List.length_cons, List.length_nil]; omega) (by simp) (by simp) fun a12 c12 w13 hs => ?_)
        refine RW_op (L_assign (V := .slice a12 ((L9 ++ [(gd s.ticks k).cart]).length) c12) rfl ?_)
        refine RW_nil ?_
        refine W_region ?_
        refine RW_op (L_add (a := ((k : Nat) : Int)) (b := 1) (c := ((k + 1 : Nat) : Int)) rfl rfl (nat_i64 (by omega) (by omega)) ?_)
        refine RW_op (L_move (V := .int .i64 ((k + 1 : Nat) : Int)) rfl ?_)
        refine RW_nil ?_
        refine ⟨_, ?_, _, k + 1, a12, c12, L9 ++ [(gd s.ticks k).cart], upd_of (upd_of (mix_of (ds := [3, 5, 12, 13, 14, 15, 16, 17, 18, 19, 20, 21]) (by repeat (first | exact Agr.refl _ _ | refine Agr.upd ?_ rfl | refine Agr.mix ?_ rfl))) rfl) rfl, (by omega), (map_next (f := fun x : Lst => x.cart) hL9 (by omega)), (by rw [List.length_append, List.length_singleton]; omega), rfl, hs.take 2⟩
        omega
      ·
        replace c6 := of_decide_eq_false c6
        refine W_exit ?_
        refine W_seq ?_
        refine W_region ?_
        refine RW_op (L_move (V := .slice a9 L9.length c9) rfl ?_)
        refine RW_op (L_assign (V := .slice a9 L9.length c9) rfl ?_)
        refine RW_nil ?_
        refine W_ret ?_
        refine ⟨_, res_one (V := .slice a9 L9.length c9) Try.results37 rfl, ?_⟩
        have hX : L9 = cartsS s := by unfold cartsS; rw [if_pos c4, hL9, take_all (by omega)]
        rw [hX] at hs ⊢
        exact ⟨(a9, c9), rfl, hs.only 1 rfl, trivial⟩
end Tt
end Go.Proofs
namespace Go.Proofs
open Go Go.Vx Go.RowKit
namespace Tt
theorem cViewE_ok (w : World) (s : Sta) (a1 : Option Addr) (c1 : Nat) (a2 : Option Addr) (c2 : Nat) (n : Int) (V : Vw) (hV : viewC s n (rightS s) = V) (hok : StaOk s) (hle : s.ents.length ≤ 1000) (hlt : s.ticks.length ≤ 1000) (hr1 : Rd w (.slice a1 s.ents.length c1) 7 (s.ents.map cec)) (hr2 : Rd w (.slice a2 s.ticks.length c2) 2 (s.ticks.map lsc)) : Calls Try.prog 34 #[.agg ((vc s.known) ++ [(.slice a1 s.ents.length c1 : Value), (.slice a2 s.ticks.length c2 : Value) ]).toArray, .int .u16 n] w (fun e w' => ∃ x : Option Addr × Nat, e = .returned (.agg [.int .u16 (V).cart, .slice x.1 (V).lines.length x.2, .bool (V).out, .int .u32 (V).tick].toArray) ∧ Own w no w' [row (.slice x.1 (V).lines.length x.2) ((V).lines.map lc) 102 2] ∧ True) := by
  subst hV; exact cView_ok w s a1 c1 a2 c2 n hok hle hlt hr1 hr2
set_option maxRecDepth 20000 in
set_option maxHeartbeats 4000000 in
theorem alive8_ok (w : World) (hsortE : SortC Try.prog 63 64 cec 128 7 srtE) : Calls Try.prog 26 #[] w (fun e w' => e = .returned (.bool true) ∧ Own w no w' []) := by
  refine calls_of_Wn (n := 95) Try.func26 rfl Try.ntmps26 rfl ?_
  have hs := Own.start w
  have haE := al3E
  refine W_seq ?_
  refine W_region ?_
  refine RW_op (L_assign (V := .bool false) rfl ?_)
  refine RW_nil ?_
  refine W_seq ?_
  refine W_region ?_
  refine RW_op (L_buildP (vs := []) (cs := (vc vzero) ++ [(.slice none 0 0 : Value), (.slice none 0 0 : Value) ]) [vc vzero, [(.slice none 0 0 : Value)], [(.slice none 0 0 : Value)]] [vc vzero, [(.slice none 0 0 : Value)], [(.slice none 0 0 : Value)]] BT_62 rfl (rfl) rfl rfl ?_)
  refine RW_op (L_build (vs := [(1, .int .u32 1)]) (cs := dc (⟨0, 1⟩ : Dot)) BT_96 (rfl) rfl ?_)
  refine RW_op (opW_to (V := .agg (oc (⟨(⟨0, 1⟩ : Dot), 1, 3, 4, 2, 5, vzero⟩ : Opn)).toArray) (V' := .agg (oc alO1).toArray) (L_buildP (vs := [(0, .agg (dc (⟨0, 1⟩ : Dot)).toArray), (1, .int .u8 1), (2, .int .u16 3), (3, .int .u16 4), (4, .int .u16 2), (5, .int .u32 5)]) (cs := oc (⟨(⟨0, 1⟩ : Dot), 1, 3, 4, 2, 5, vzero⟩ : Opn)) [dc (⟨0, 0⟩ : Dot), [(.int .u8 0 : Value)], [(.int .u16 0 : Value)], [(.int .u16 0 : Value)], [(.int .u16 0 : Value)], [(.int .u32 0 : Value)], vc vzero] [dc (⟨0, 1⟩ : Dot), [(.int .u8 1 : Value)], [(.int .u16 3 : Value)], [(.int .u16 4 : Value)], [(.int .u16 2 : Value)], [(.int .u32 5 : Value)], vc vzero] BT_98 rfl (rfl) rfl rfl ⟨rfl, rfl⟩) rfl ?_)
  refine RW_op (L_callX (α := (Option Addr × Nat) × (Option Addr × Nat)) (vs := [.agg ((vc vzero) ++ [(.slice none 0 0 : Value), (.slice none 0 0 : Value) ]).toArray, .agg (oc alO1).toArray]) (V := fun x : (Option Addr × Nat) × (Option Addr × Nat) => .tuple #[.agg (vc alS1.known ++ [(.slice x.1.1 (alS1.ents).length x.1.2 : Value), (.slice x.2.1 (alS1.ticks).length x.2.2 : Value)]).toArray, .int .i64 0]) (Lo := fun x => [row (.slice x.1.1 (alS1.ents).length x.1.2) ((alS1.ents).map cec) 128 7, row (.slice x.2.1 (alS1.ticks).length x.2.2) ((alS1.ticks).map lsc) 126 2]) (F := fun _ _ => True) EN_45 rfl rfl ?hc hs fun x2 w1 hs _ => ?_)
  case hc => exact (cApply_okE alS1 0 _ (⟨vzero, [], []⟩ : Sta) none 0 none 0 alO1 alO1_ok szero_ok (by decide +kernel) (by decide +kernel) (Rd.nil _ 7) (Rd.nil _ 2) al1R al1I)
  refine RW_op (L_move (V := .tuple #[.agg ((vc alS1.known) ++ [(.slice x2.1.1 ((alS1.ents).length) x2.1.2 : Value), (.slice x2.2.1 ((alS1.ticks).length) x2.2.2 : Value) ]).toArray, .int .i64 0]) rfl ?_)
  refine RW_op (L_extract (V := .agg ((vc alS1.known) ++ [(.slice x2.1.1 ((alS1.ents).length) x2.1.2 : Value), (.slice x2.2.1 ((alS1.ticks).length) x2.2.2 : Value) ]).toArray) rfl rfl ?_)
  refine RW_op (L_extract (V := .int .i64 0) rfl rfl ?_)
  refine RW_op (L_alloc (cs := (vc vzero) ++ [(.slice none 0 0 : Value), (.slice none 0 0 : Value) ]) ZV_62 rfl hs fun b3 w4 hs => ?_)
  refine RW_op (L_st (V := .agg ((vc alS1.known) ++ [(.slice x2.1.1 ((alS1.ents).length) x2.1.2 : Value), (.slice x2.2.1 ((alS1.ticks).length) x2.2.2 : Value) ]).toArray) (vs := (vc alS1.known) ++ [(.slice x2.1.1 ((alS1.ents).length) x2.1.2 : Value), (.slice x2.2.1 ((alS1.ticks).length) x2.2.2 : Value) ]) (cs' := (vc alS1.known) ++ [(.slice x2.1.1 ((alS1.ents).length) x2.1.2 : Value), (.slice x2.2.1 ((alS1.ticks).length) x2.2.2 : Value) ]) SA_62.1 hs 2 rfl rfl rfl rfl rfl (Nat.le_of_ble_eq_true rfl) (one_app (vc_one _) (one_cons rfl (one_cons rfl one_nil))) (spl_whole rfl) fun w5 hs => ?_)
  replace hs : Own w no w5 [row (.slice x2.1.1 ((alS1.ents).length) x2.1.2) (alS1.ents.map cec) 128 7, row (.slice x2.2.1 ((alS1.ticks).length) x2.2.2) (alS1.ticks.map lsc) 126 2, blk b3 ((vc alS1.known) ++ [(.slice x2.1.1 ((alS1.ents).length) x2.1.2 : Value), (.slice x2.2.1 ((alS1.ticks).length) x2.2.2 : Value) ]) 62] := hs
  refine RW_op (L_assign (V := .int .i64 0) rfl ?_)
  refine RW_nil ?_
  refine W_seq ?_
  refine W_region ?_
  refine RW_op (L_ldW (cs := (vc alS1.known) ++ [(.slice x2.1.1 ((alS1.ents).length) x2.1.2 : Value), (.slice x2.2.1 ((alS1.ticks).length) x2.2.2 : Value) ]) SA_62 hs 2 rfl rfl rfl ?_)
  refine RW_op (L_build (vs := [(1, .int .u32 2)]) (cs := dc (⟨0, 2⟩ : Dot)) BT_96 (rfl) rfl ?_)
  refine RW_op (L_build (vs := [(0, .int .u32 1)]) (cs := vc (vset vzero 0 1)) BT_53 (rfl) rfl ?_)
  refine RW_op (opW_to (V := .agg (oc (⟨(⟨0, 2⟩ : Dot), 3, 3, 4, 0, 6, vset vzero 0 1⟩ : Opn)).toArray) (V' := .agg (oc alO2).toArray) (L_buildP (vs := [(0, .agg (dc (⟨0, 2⟩ : Dot)).toArray), (1, .int .u8 3), (2, .int .u16 3), (3, .int .u16 4), (5, .int .u32 6), (6, .agg (vc (vset vzero 0 1)).toArray)]) (cs := oc (⟨(⟨0, 2⟩ : Dot), 3, 3, 4, 0, 6, vset vzero 0 1⟩ : Opn)) [dc (⟨0, 0⟩ : Dot), [(.int .u8 0 : Value)], [(.int .u16 0 : Value)], [(.int .u16 0 : Value)], [(.int .u16 0 : Value)], [(.int .u32 0 : Value)], vc vzero] [dc (⟨0, 2⟩ : Dot), [(.int .u8 3 : Value)], [(.int .u16 3 : Value)], [(.int .u16 4 : Value)], [(.int .u16 0 : Value)], [(.int .u32 6 : Value)], vc (vset vzero 0 1)] BT_98 rfl (rfl) rfl rfl ⟨rfl, rfl⟩) rfl ?_)
  refine RW_op (L_callX (α := (Option Addr × Nat) × (Option Addr × Nat)) (vs := [.agg ((vc alS1.known) ++ [(.slice x2.1.1 ((alS1.ents).length) x2.1.2 : Value), (.slice x2.2.1 ((alS1.ticks).length) x2.2.2 : Value) ]).toArray, .agg (oc alO2).toArray]) (V := fun x : (Option Addr × Nat) × (Option Addr × Nat) => .tuple #[.agg (vc alS2.known ++ [(.slice x.1.1 (alS2.ents).length x.1.2 : Value), (.slice x.2.1 (alS2.ticks).length x.2.2 : Value)]).toArray, .int .i64 0]) (Lo := fun x => [row (.slice x.1.1 (alS2.ents).length x.1.2) ((alS2.ents).map cec) 128 7, row (.slice x.2.1 (alS2.ticks).length x.2.2) ((alS2.ticks).map lsc) 126 2]) (F := fun _ _ => True) EN_45 rfl rfl ?hc hs fun x7 w6 hs _ => ?_)
  case hc => exact (cApply_okE alS2 0 _ alS1 x2.1.1 x2.1.2 x2.2.1 x2.2.2 alO2 alO2_ok alS1_ok (by decide +kernel) (by decide +kernel) (hs.rd 0 rfl) (hs.rd 1 rfl) al2R al2I)
  refine RW_op (L_move (V := .tuple #[.agg ((vc alS2.known) ++ [(.slice x7.1.1 ((alS2.ents).length) x7.1.2 : Value), (.slice x7.2.1 ((alS2.ticks).length) x7.2.2 : Value) ]).toArray, .int .i64 0]) rfl ?_)
  refine RW_op (L_extract (V := .agg ((vc alS2.known) ++ [(.slice x7.1.1 ((alS2.ents).length) x7.1.2 : Value), (.slice x7.2.1 ((alS2.ticks).length) x7.2.2 : Value) ]).toArray) rfl rfl ?_)
  refine RW_op (L_extract (V := .int .i64 0) rfl rfl ?_)
  refine RW_op (L_alloc (cs := (vc vzero) ++ [(.slice none 0 0 : Value), (.slice none 0 0 : Value) ]) ZV_62 rfl hs fun b8 w9 hs => ?_)
  refine RW_op (L_st (V := .agg ((vc alS2.known) ++ [(.slice x7.1.1 ((alS2.ents).length) x7.1.2 : Value), (.slice x7.2.1 ((alS2.ticks).length) x7.2.2 : Value) ]).toArray) (vs := (vc alS2.known) ++ [(.slice x7.1.1 ((alS2.ents).length) x7.1.2 : Value), (.slice x7.2.1 ((alS2.ticks).length) x7.2.2 : Value) ]) (cs' := (vc alS2.known) ++ [(.slice x7.1.1 ((alS2.ents).length) x7.1.2 : Value), (.slice x7.2.1 ((alS2.ticks).length) x7.2.2 : Value) ]) SA_62.1 hs 5 rfl rfl rfl rfl rfl (Nat.le_of_ble_eq_true rfl) (one_app (vc_one _) (one_cons rfl (one_cons rfl one_nil))) (spl_whole rfl) fun w10 hs => ?_)
  replace hs : Own w no w10 [row (.slice x2.1.1 ((alS1.ents).length) x2.1.2) (alS1.ents.map cec) 128 7, row (.slice x2.2.1 ((alS1.ticks).length) x2.2.2) (alS1.ticks.map lsc) 126 2, blk b3 ((vc alS1.known) ++ [(.slice x2.1.1 ((alS1.ents).length) x2.1.2 : Value), (.slice x2.2.1 ((alS1.ticks).length) x2.2.2 : Value) ]) 62, row (.slice x7.1.1 ((alS2.ents).length) x7.1.2) (alS2.ents.map cec) 128 7, row (.slice x7.2.1 ((alS2.ticks).length) x7.2.2) (alS2.ticks.map lsc) 126 2, blk b8 ((vc alS2.known) ++ [(.slice x7.1.1 ((alS2.ents).length) x7.1.2 : Value), (.slice x7.2.1 ((alS2.ticks).length) x7.2.2 : Value) ]) 62] := hs
  refine RW_op (L_assign (V := .int .i64 0) rfl ?_)
  refine RW_nil ?_
  refine W_seq ?_
  refine W_region ?_
  refine RW_op (L_ldW (cs := (vc alS1.known) ++ [(.slice x2.1.1 ((alS1.ents).length) x2.1.2 : Value), (.slice x2.2.1 ((alS1.ticks).length) x2.2.2 : Value) ]) SA_62 hs 2 rfl rfl rfl ?_)
  refine RW_op (L_ldW (cs := (vc alS2.known) ++ [(.slice x7.1.1 ((alS2.ents).length) x7.1.2 : Value), (.slice x7.2.1 ((alS2.ticks).length) x7.2.2 : Value) ]) SA_62 hs 5 rfl rfl rfl ?_)
  refine RW_op (L_callX (α := (Option Addr × Nat) × (Option Addr × Nat)) (vs := [.agg ((vc alS1.known) ++ [(.slice x2.1.1 ((alS1.ents).length) x2.1.2 : Value), (.slice x2.2.1 ((alS1.ticks).length) x2.2.2 : Value) ]).toArray, .agg ((vc alS2.known) ++ [(.slice x7.1.1 ((alS2.ents).length) x7.1.2 : Value), (.slice x7.2.1 ((alS2.ticks).length) x7.2.2 : Value) ]).toArray]) (V := fun x : (Option Addr × Nat) × (Option Addr × Nat) => .tuple #[.agg (vc (mergeR alS1 alS2).known ++ [(.slice x.1.1 ((mergeR alS1 alS2).ents).length x.1.2 : Value), (.slice x.2.1 ((mergeR alS1 alS2).ticks).length x.2.2 : Value)]).toArray, .int .i64 0]) (Lo := fun x => [row (.slice x.1.1 ((mergeR alS1 alS2).ents).length x.1.2) (((mergeR alS1 alS2).ents).map cec) 128 7, row (.slice x.2.1 ((mergeR alS1 alS2).ticks).length x.2.2) (((mergeR alS1 alS2).ticks).map lsc) 126 2]) (F := fun _ _ => True) EN_28 rfl rfl ?hc hs fun x12 w11 hs _ => ?_)
  case hc => exact (cMerge_okE (mergeR alS1 alS2) 0 _ alS1 x2.1.1 x2.1.2 x2.2.1 x2.2.2 alS2 x7.1.1 x7.1.2 x7.2.1 x7.2.2 hsortE alS1_ok (by decide +kernel) (by decide +kernel) alS2_ok (by decide +kernel) (by decide +kernel) (hs.rd 0 rfl) (hs.rd 1 rfl) (hs.rd 3 rfl) (hs.rd 4 rfl) rfl al3I)
  refine RW_op (L_move (V := .tuple #[.agg ((vc ((mergeR alS1 alS2).known)) ++ [(.slice x12.1.1 (((mergeR alS1 alS2).ents).length) x12.1.2 : Value), (.slice x12.2.1 (((mergeR alS1 alS2).ticks).length) x12.2.2 : Value) ]).toArray, .int .i64 0]) rfl ?_)
  refine RW_op (L_extract (V := .agg ((vc ((mergeR alS1 alS2).known)) ++ [(.slice x12.1.1 (((mergeR alS1 alS2).ents).length) x12.1.2 : Value), (.slice x12.2.1 (((mergeR alS1 alS2).ticks).length) x12.2.2 : Value) ]).toArray) rfl rfl ?_)
  refine RW_op (L_extract (V := .int .i64 0) rfl rfl ?_)
  refine RW_op (L_alloc (cs := (vc vzero) ++ [(.slice none 0 0 : Value), (.slice none 0 0 : Value) ]) ZV_62 rfl hs fun b13 w14 hs => ?_)
  refine RW_op (L_st (V := .agg ((vc ((mergeR alS1 alS2).known)) ++ [(.slice x12.1.1 (((mergeR alS1 alS2).ents).length) x12.1.2 : Value), (.slice x12.2.1 (((mergeR alS1 alS2).ticks).length) x12.2.2 : Value) ]).toArray) (vs := (vc ((mergeR alS1 alS2).known)) ++ [(.slice x12.1.1 (((mergeR alS1 alS2).ents).length) x12.1.2 : Value), (.slice x12.2.1 (((mergeR alS1 alS2).ticks).length) x12.2.2 : Value) ]) (cs' := (vc ((mergeR alS1 alS2).known)) ++ [(.slice x12.1.1 (((mergeR alS1 alS2).ents).length) x12.1.2 : Value), (.slice x12.2.1 (((mergeR alS1 alS2).ticks).length) x12.2.2 : Value) ]) SA_62.1 hs 8 rfl rfl rfl rfl rfl (Nat.le_of_ble_eq_true rfl) (one_app (vc_one _) (one_cons rfl (one_cons rfl one_nil))) (spl_whole rfl) fun w15 hs => ?_)
  replace hs : Own w no w15 [row (.slice x2.1.1 ((alS1.ents).length) x2.1.2) (alS1.ents.map cec) 128 7, row (.slice x2.2.1 ((alS1.ticks).length) x2.2.2) (alS1.ticks.map lsc) 126 2, blk b3 ((vc alS1.known) ++ [(.slice x2.1.1 ((alS1.ents).length) x2.1.2 : Value), (.slice x2.2.1 ((alS1.ticks).length) x2.2.2 : Value) ]) 62, row (.slice x7.1.1 ((alS2.ents).length) x7.1.2) (alS2.ents.map cec) 128 7, row (.slice x7.2.1 ((alS2.ticks).length) x7.2.2) (alS2.ticks.map lsc) 126 2, blk b8 ((vc alS2.known) ++ [(.slice x7.1.1 ((alS2.ents).length) x7.1.2 : Value), (.slice x7.2.1 ((alS2.ticks).length) x7.2.2 : Value) ]) 62, row (.slice x12.1.1 (((mergeR alS1 alS2).ents).length) x12.1.2) (((mergeR alS1 alS2).ents).map cec) 128 7, row (.slice x12.2.1 (((mergeR alS1 alS2).ticks).length) x12.2.2) (((mergeR alS1 alS2).ticks).map lsc) 126 2, blk b13 ((vc ((mergeR alS1 alS2).known)) ++ [(.slice x12.1.1 (((mergeR alS1 alS2).ents).length) x12.1.2 : Value), (.slice x12.2.1 (((mergeR alS1 alS2).ticks).length) x12.2.2 : Value) ]) 62] := hs
  refine RW_op (L_assign (V := .int .i64 0) rfl ?_)
  refine RW_nil ?_
  refine W_seq ?_
  refine W_region ?_
  refine RW_op (L_ldW (cs := (vc alS1.known) ++ [(.slice x2.1.1 ((alS1.ents).length) x2.1.2 : Value), (.slice x2.2.1 ((alS1.ticks).length) x2.2.2 : Value) ]) SA_62 hs 2 rfl rfl rfl ?_)
  refine RW_op (L_callX (α := Option Addr × Nat) (vs := [.agg ((vc alS1.known) ++ [(.slice x2.1.1 ((alS1.ents).length) x2.1.2 : Value), (.slice x2.2.1 ((alS1.ticks).length) x2.2.2 : Value) ]).toArray, .int .u16 3]) (V := fun x => .agg #[.int .u16 3, .slice x.1 ([(⟨4, 2⟩ : Line)].length) x.2, .bool false, .int .u32 5]) (Lo := fun x => [row (.slice x.1 [(⟨4, 2⟩ : Line)].length x.2) ([(⟨4, 2⟩ : Line)].map lc) 102 2]) (F := fun _ _ => True) EN_34 rfl rfl ?hc hs fun x17 w16 hs _ => ?_)
  case hc => exact (cViewE_ok _ alS1 x2.1.1 x2.1.2 x2.2.1 x2.2.2 3 (⟨3, [(⟨4, 2⟩ : Line)], false, 5⟩ : Vw) (alV1) alS1_ok (by decide +kernel) (by decide +kernel) (hs.rd 0 rfl) (hs.rd 1 rfl))
  refine RW_op (L_alloc (cs := [.int .u16 0, .slice none 0 0, .bool false, .int .u32 0]) ZV_74 rfl hs fun b18 w19 hs => ?_)
  refine RW_op (L_st (V := .agg #[.int .u16 3, .slice x17.1 ([(⟨4, 2⟩ : Line)].length) x17.2, .bool false, .int .u32 5]) (vs := [.int .u16 3, .slice x17.1 ([(⟨4, 2⟩ : Line)].length) x17.2, .bool false, .int .u32 5]) (cs' := [.int .u16 3, .slice x17.1 ([(⟨4, 2⟩ : Line)].length) x17.2, .bool false, .int .u32 5]) SA_74.1 hs 10 rfl rfl rfl rfl rfl (Nat.le_of_ble_eq_true rfl) (one_cons rfl (one_cons rfl (one_cons rfl (one_cons rfl one_nil)))) (spl_whole rfl) fun w20 hs => ?_)
  replace hs : Own w no w20 [row (.slice x2.1.1 ((alS1.ents).length) x2.1.2) (alS1.ents.map cec) 128 7, row (.slice x2.2.1 ((alS1.ticks).length) x2.2.2) (alS1.ticks.map lsc) 126 2, blk b3 ((vc alS1.known) ++ [(.slice x2.1.1 ((alS1.ents).length) x2.1.2 : Value), (.slice x2.2.1 ((alS1.ticks).length) x2.2.2 : Value) ]) 62, row (.slice x7.1.1 ((alS2.ents).length) x7.1.2) (alS2.ents.map cec) 128 7, row (.slice x7.2.1 ((alS2.ticks).length) x7.2.2) (alS2.ticks.map lsc) 126 2, blk b8 ((vc alS2.known) ++ [(.slice x7.1.1 ((alS2.ents).length) x7.1.2 : Value), (.slice x7.2.1 ((alS2.ticks).length) x7.2.2 : Value) ]) 62, row (.slice x12.1.1 (((mergeR alS1 alS2).ents).length) x12.1.2) (((mergeR alS1 alS2).ents).map cec) 128 7, row (.slice x12.2.1 (((mergeR alS1 alS2).ticks).length) x12.2.2) (((mergeR alS1 alS2).ticks).map lsc) 126 2, blk b13 ((vc ((mergeR alS1 alS2).known)) ++ [(.slice x12.1.1 (((mergeR alS1 alS2).ents).length) x12.1.2 : Value), (.slice x12.2.1 (((mergeR alS1 alS2).ticks).length) x12.2.2 : Value) ]) 62, row (.slice x17.1 ([(⟨4, 2⟩ : Line)].length) x17.2) ([(⟨4, 2⟩ : Line)].map lc) 102 2, blk b18 [.int .u16 3, .slice x17.1 ([(⟨4, 2⟩ : Line)].length) x17.2, .bool false, .int .u32 5] 74] := hs
  refine RW_nil ?_
  refine W_seq ?_
  refine W_region ?_
  refine RW_op (L_move (V := .int .i64 0) rfl ?_)
  refine RW_op (opW_to (V := .bool (decide ((0 : Int) = 0))) (V' := .bool true) (L_eql rfl rfl ⟨rfl, rfl⟩) (congrArg Value.bool (by decide)) ?_)
  refine RW_op (L_move (V := .bool true) rfl ?_)
  refine RW_gy rfl (L_move (V := .int .i64 0) rfl ?_)
  refine RW_gy rfl (opW_to (V := .bool (decide ((0 : Int) = 0))) (V' := .bool true) (L_eql rfl rfl ⟨rfl, rfl⟩) (congrArg Value.bool (by decide)) ?_)
  refine RW_op (L_pick (V := .bool true) rfl rfl ?_)
  refine RW_op (L_move (V := .bool true) rfl ?_)
  refine RW_gy rfl (L_move (V := .int .i64 0) rfl ?_)
  refine RW_gy rfl (opW_to (V := .bool (decide ((0 : Int) = 0))) (V' := .bool true) (L_eql rfl rfl ⟨rfl, rfl⟩) (congrArg Value.bool (by decide)) ?_)
  refine RW_op (L_pick (V := .bool true) rfl rfl ?_)
  refine RW_op (L_move (V := .bool true) rfl ?_)
  refine RW_gy rfl (L_fieldAddr FA_62_1 rfl ?_)
  refine RW_gy rfl (L_ld (V := .slice x2.1.1 ((alS1.ents).length) x2.1.2) S1_59 hs 2 rfl rfl rfl ?_)
  refine RW_gy rfl (L_lenR (n := (alS1.ents).length) UD_59 (hs.rd 0 rfl) (by simp) rfl ?_)
  refine RW_gy rfl (opW_to (V := .bool (decide ((((alS1.ents).length : Nat) : Int) = 1))) (V' := .bool true) (L_eql rfl rfl ⟨rfl, rfl⟩) (congrArg Value.bool (by decide +kernel)) ?_)
  refine RW_op (L_pick (V := .bool true) rfl rfl ?_)
  refine RW_op (L_move (V := .bool true) rfl ?_)
  refine RW_gy rfl (L_fieldAddr FA_62_1 rfl ?_)
  refine RW_gy rfl (L_ld (V := .slice x7.1.1 ((alS2.ents).length) x7.1.2) S1_59 hs 5 rfl rfl rfl ?_)
  refine RW_gy rfl (L_lenR (n := (alS2.ents).length) UD_59 (hs.rd 3 rfl) (by simp) rfl ?_)
  refine RW_gy rfl (opW_to (V := .bool (decide ((((alS2.ents).length : Nat) : Int) = 0))) (V' := .bool true) (L_eql rfl rfl ⟨rfl, rfl⟩) (congrArg Value.bool (by decide +kernel)) ?_)
  refine RW_op (L_pick (V := .bool true) rfl rfl ?_)
  refine RW_op (L_move (V := .bool true) rfl ?_)
  refine RW_gy rfl (L_fieldAddr FA_62_0 rfl ?_)
  refine RW_gy rfl (L_ldA (vs := vc alS2.known) SA_53 hs 5 rfl rfl rfl rfl ?_)
  refine RW_gy rfl (L_build (vs := [(0, .int .u32 2)]) (cs := vc (vset vzero 0 2)) BT_53 (rfl) rfl ?_)
  refine RW_gy rfl (opW_to (V := .bool (decide (alS2.known = vset vzero 0 2))) (V' := .bool true) (L_eqA (xs := vc alS2.known) (ys := vc (vset vzero 0 2)) Try.eqGuardType53 (EQ_53 alS2.known (vset vzero 0 2)) rfl rfl rfl ⟨rfl, rfl⟩) (congrArg Value.bool (by decide +kernel)) ?_)
  refine RW_op (L_pick (V := .bool true) rfl rfl ?_)
  refine RW_op (L_move (V := .bool true) rfl ?_)
  refine RW_gy rfl (L_fieldAddr FA_62_1 rfl ?_)
  refine RW_gy rfl (L_ld (V := .slice x12.1.1 (((mergeR alS1 alS2).ents).length) x12.1.2) S1_59 hs 8 rfl rfl rfl ?_)
  refine RW_gy rfl (L_lenR (n := ((mergeR alS1 alS2).ents).length) UD_59 (hs.rd 6 rfl) (by simp) rfl ?_)
  refine RW_gy rfl (opW_to (V := .bool (decide (((((mergeR alS1 alS2).ents).length : Nat) : Int) = 0))) (V' := .bool true) (L_eql rfl rfl ⟨rfl, rfl⟩) (congrArg Value.bool (by rw [haE]; decide)) ?_)
  refine RW_op (L_pick (V := .bool true) rfl rfl ?_)
  refine RW_op (L_move (V := .bool true) rfl ?_)
  refine RW_gy rfl (L_fieldAddr FA_74_1 rfl ?_)
  refine RW_gy rfl (L_ld (V := .slice x17.1 ([(⟨4, 2⟩ : Line)].length) x17.2) S1_72 hs 10 rfl rfl rfl ?_)
  refine RW_gy rfl (L_lenR (n := [(⟨4, 2⟩ : Line)].length) UD_72 (hs.rd 9 rfl) (by simp) rfl ?_)
  refine RW_gy rfl (opW_to (V := .bool (decide ((([(⟨4, 2⟩ : Line)].length : Nat) : Int) = 1))) (V' := .bool true) (L_eql rfl rfl ⟨rfl, rfl⟩) (congrArg Value.bool (by decide +kernel)) ?_)
  refine RW_op (L_pick (V := .bool true) rfl rfl ?_)
  refine RW_op (L_move (V := .bool true) rfl ?_)
  refine RW_gy rfl (L_fieldAddr FA_74_1 rfl ?_)
  refine RW_gy rfl (L_ld (V := .slice x17.1 ([(⟨4, 2⟩ : Line)].length) x17.2) S1_72 hs 10 rfl rfl rfl ?_)
  refine RW_gy rfl (L_ixR UD_72 SA_102.1 (hs.rd 9 rfl) rfl rfl (by decide) (by simp only [List.length_map, List.length_cons, List.length_nil]; omega) ?_)
  refine RW_gy rfl (L_fieldAddr FA_102_1 rfl ?_)
  refine RW_gy rfl (L_ldR (j := 1) (V := .int .u32 ((gd [(⟨4, 2⟩ : Line)] 0).qty)) 0 S1_51 (hs.rd 9 rfl) (gd_at (by simp only [List.length_cons, List.length_nil]; omega)) rfl rfl (by omega) ?_)
  refine RW_gy rfl (opW_to (V := .bool (decide ((gd [(⟨4, 2⟩ : Line)] 0).qty = 2))) (V' := .bool true) (L_eql rfl rfl ⟨rfl, rfl⟩) (congrArg Value.bool (by decide +kernel)) ?_)
  refine RW_op (L_pick (V := .bool true) rfl rfl ?_)
  refine RW_op (L_move (V := .bool true) rfl ?_)
  refine RW_gy rfl (L_ldW (cs := (vc alS2.known) ++ [(.slice x7.1.1 ((alS2.ents).length) x7.1.2 : Value), (.slice x7.2.1 ((alS2.ticks).length) x7.2.2 : Value) ]) SA_62 hs 5 rfl rfl rfl ?_)
  refine RW_gy rfl (L_callX (α := Option Addr × Nat) (vs := [.agg ((vc alS2.known) ++ [(.slice x7.1.1 ((alS2.ents).length) x7.1.2 : Value), (.slice x7.2.1 ((alS2.ticks).length) x7.2.2 : Value) ]).toArray, .int .u16 3]) (V := fun x => .agg #[.int .u16 3, .slice x.1 (([] : List Line).length) x.2, .bool false, .int .u32 6]) (Lo := fun x => [row (.slice x.1 ([] : List Line).length x.2) (([] : List Line).map lc) 102 2]) (F := fun _ _ => True) EN_34 rfl rfl ?hc hs fun x22 w21 hs _ => ?_)
  case hc => exact (cViewE_ok _ alS2 x7.1.1 x7.1.2 x7.2.1 x7.2.2 3 (⟨3, ([] : List Line), false, 6⟩ : Vw) (alV2) alS2_ok (by decide +kernel) (by decide +kernel) (hs.rd 3 rfl) (hs.rd 4 rfl))
  refine RW_gy rfl (L_fieldV (V := .int .u32 6) (fun w => by simp [Instr.field, part, asAgg]) rfl ?_)
  refine RW_gy rfl (opW_to (V := .bool (decide ((6 : Int) = 6))) (V' := .bool true) (L_eql rfl rfl ⟨rfl, rfl⟩) (congrArg Value.bool (by decide)) ?_)
  refine RW_op (L_pick (V := .bool true) rfl rfl ?_)
  refine RW_op (L_move (V := .bool true) rfl ?_)
  refine RW_gy rfl (L_ldW (cs := (vc alS1.known) ++ [(.slice x2.1.1 ((alS1.ents).length) x2.1.2 : Value), (.slice x2.2.1 ((alS1.ticks).length) x2.2.2 : Value) ]) SA_62 hs 2 rfl rfl rfl ?_)
  refine RW_gy rfl (L_callPV (V' := .bool true) (congrArg Value.bool (by decide +kernel)) (vs := [.agg ((vc alS1.known) ++ [(.slice x2.1.1 ((alS1.ents).length) x2.1.2 : Value), (.slice x2.2.1 ((alS1.ticks).length) x2.2.2 : Value) ]).toArray]) (V := .bool (rightS alS1)) EN_58 rfl rfl ?hc hs fun w23 hs => ?_)
  case hc => exact (cRight_ok _ alS1 x2.1.1 x2.1.2 x2.2.1 x2.2.2 alS1_ok (by decide +kernel) (by decide +kernel) (hs.rd 0 rfl) (hs.rd 1 rfl))
  refine RW_op (L_pick (V := .bool true) rfl rfl ?_)
  refine RW_op (L_move (V := .bool true) rfl ?_)
  refine RW_gy rfl (L_ldW (cs := (vc alS2.known) ++ [(.slice x7.1.1 ((alS2.ents).length) x7.1.2 : Value), (.slice x7.2.1 ((alS2.ticks).length) x7.2.2 : Value) ]) SA_62 hs 5 rfl rfl rfl ?_)
  refine RW_gy rfl (L_callX (vs := [.agg ((vc alS2.known) ++ [(.slice x7.1.1 ((alS2.ents).length) x7.1.2 : Value), (.slice x7.2.1 ((alS2.ticks).length) x7.2.2 : Value) ]).toArray]) (V := fun x : Option Addr × Nat => .slice x.1 (cartsS alS2).length x.2) EN_37 rfl rfl (cCarts_ok _ alS2 x7.1.1 x7.1.2 x7.2.1 x7.2.2 alS2_ok (by decide +kernel) (by decide +kernel) (hs.rd 3 rfl) (hs.rd 4 rfl)) hs fun x24 w25 hs _ => ?_)
  refine RW_gy rfl (L_lenR (n := (cartsS alS2).length) UD_78 (hs.rd 12 rfl) (by simp) rfl ?_)
  refine RW_gy rfl (opW_to (V := .bool (decide ((((cartsS alS2).length : Nat) : Int) = 1))) (V' := .bool true) (L_eql rfl rfl ⟨rfl, rfl⟩) (congrArg Value.bool (by decide +kernel)) ?_)
  refine RW_op (L_pick (V := .bool true) rfl rfl ?_)
  refine RW_op (L_assign (V := .bool true) rfl ?_)
  refine RW_nil ?_
  refine W_ret ?_
  refine ⟨_, res_one (V := .bool true) Try.results26 rfl, ?_⟩
  refine ⟨congrArg Ending.returned ?_, hs.take 0⟩
  rfl
end Tt
end Go.Proofs
namespace Go.Proofs
open Go Go.Vx Go.RowKit
namespace Tt
set_option maxRecDepth 20000 in
set_option maxHeartbeats 4000000 in
theorem cartSets_ok (w : World) (a : Option Addr) (c : Nat) (l : List Opn) (hl : ∀ o ∈ l, OpnOk o) (hr : Rd w (.slice a l.length c) 23 (l.map oc)) (hsortE : SortC Try.prog 63 64 cec 128 7 srtE) (n it q : Int) (hnn : 0 ≤ n ∧ n < 65536) (hi : 0 ≤ it ∧ it < 65536) (hqt : 0 ≤ q ∧ q < 65536) : Calls Try.prog 11 #[.slice a l.length c, .agg #[.int .u16 n, .int .u16 it, .int .u16 q]] w (fun e w' => e = .returned (.bool true) ∧ Own w no w' []) := by
  refine calls_of_Wn (n := 122) Try.func11 rfl Try.ntmps11 rfl ?_
  have hs := Own.start w
  have hn := hr.sml
  have ⟨hq1, hq2⟩ := hqt
  refine W_seq ?_
  refine W_region ?_
  refine RW_op (L_box (V := .agg #[.int .u16 n, .int .u16 it, .int .u16 q]) (cs := [.int .u16 n, .int .u16 it, .int .u16 q]) rfl rfl hs fun b1 w2 hs => ?_)
  refine RW_op (L_assign (V := .bool false) rfl ?_)
  refine RW_nil ?_
  refine W_seq ?_
  refine W_seq ?_
  refine W_region ?_
  refine RW_op (L_callP (vs := []) (V := .bool true) EN_26 rfl rfl ?hc hs fun w3 hs => ?_)
  case hc => exact (alive8_ok _ hsortE)
  refine RW_op (L_not rfl ?_)
  refine RW_nil ?_
  refine W_condF rfl ?_
  refine W_skip ?_
  refine W_seq ?_
  refine W_seq ?_
  refine W_region ?_
  refine RW_op (L_move (V := .slice a l.length c) rfl ?_)
  refine RW_op (L_callP (vs := [.slice a l.length c]) (V := .bool (histB l)) EN_39 rfl rfl ?hc hs fun w4 hs => ?_)
  case hc => exact (hist_ok _ a c l hl (Rd.own' hr hs))
  refine RW_op (L_not rfl ?_)
  refine RW_nil ?_
  refine W_cond (t := !(histB l)) rfl (fun c5 => ?_) (fun c5 => ?_)
  ·
    replace c5 := not_t c5
    refine W_seq ?_
    refine W_region ?_
    refine RW_op (L_assign (V := .bool true) rfl ?_)
    refine RW_nil ?_
    refine W_ret ?_
    refine ⟨_, res_one (V := .bool true) Try.results11 rfl, ?_⟩
    refine ⟨congrArg Ending.returned ?_, hs.take 0⟩
    rfl
  ·
    replace c5 := not_f c5
    refine W_skip ?_
    refine W_seq ?_
    obtain ⟨hlen, hcl, hq⟩ := hist_seq hl c5
    have hln := allE_len l
    refine W_region ?_
    refine RW_op (L_move (V := .slice a l.length c) rfl ?_)
    refine RW_op (L_callX (α := (Option Addr × Nat) × (Option Addr × Nat)) (vs := [.slice a l.length c]) (V := fun x : (Option Addr × Nat) × (Option Addr × Nat) => .tuple #[.agg (vc (allE l).known ++ [(.slice x.1.1 ((allE l).ents).length x.1.2 : Value), (.slice x.2.1 ((allE l).ticks).length x.2.2 : Value)]).toArray, .bool true]) (Lo := fun x => [row (.slice x.1.1 ((allE l).ents).length x.1.2) (((allE l).ents).map cec) 128 7, row (.slice x.2.1 ((allE l).ticks).length x.2.2) (((allE l).ticks).map lsc) 126 2]) (F := fun _ _ => True) EN_42 rfl rfl ?hc hs fun x7 w6 hs _ => ?_)
    case hc => exact (all_ok8 _ a c l hl hlen hq (Rd.own' hr hs))
    refine RW_op (L_move (V := .tuple #[.agg ((vc ((allE l).known)) ++ [(.slice x7.1.1 (((allE l).ents).length) x7.1.2 : Value), (.slice x7.2.1 (((allE l).ticks).length) x7.2.2 : Value) ]).toArray, .bool true]) rfl ?_)
    refine RW_op (L_extract (V := .agg ((vc ((allE l).known)) ++ [(.slice x7.1.1 (((allE l).ents).length) x7.1.2 : Value), (.slice x7.2.1 (((allE l).ticks).length) x7.2.2 : Value) ]).toArray) rfl rfl ?_)
    refine RW_op (L_extract (V := .bool true) rfl rfl ?_)
    refine RW_op (L_alloc (cs := (vc vzero) ++ [(.slice none 0 0 : Value), (.slice none 0 0 : Value) ]) ZV_62 rfl hs fun b8 w9 hs => ?_)
    refine RW_op (L_st (V := .agg ((vc ((allE l).known)) ++ [(.slice x7.1.1 (((allE l).ents).length) x7.1.2 : Value), (.slice x7.2.1 (((allE l).ticks).length) x7.2.2 : Value) ]).toArray) (vs := (vc ((allE l).known)) ++ [(.slice x7.1.1 (((allE l).ents).length) x7.1.2 : Value), (.slice x7.2.1 (((allE l).ticks).length) x7.2.2 : Value) ]) (cs' := (vc ((allE l).known)) ++ [(.slice x7.1.1 (((allE l).ents).length) x7.1.2 : Value), (.slice x7.2.1 (((allE l).ticks).length) x7.2.2 : Value) ]) SA_62.1 hs 3 rfl rfl rfl rfl rfl (Nat.le_of_ble_eq_true rfl) (one_app (vc_one _) (one_cons rfl (one_cons rfl one_nil))) (spl_whole rfl) fun w10 hs => ?_)
    replace hs : Own w no w10 [blk b1 [.int .u16 n, .int .u16 it, .int .u16 q] 100, row (.slice x7.1.1 (((allE l).ents).length) x7.1.2) (((allE l).ents).map cec) 128 7, row (.slice x7.2.1 (((allE l).ticks).length) x7.2.2) (((allE l).ticks).map lsc) 126 2, blk b8 ((vc ((allE l).known)) ++ [(.slice x7.1.1 (((allE l).ents).length) x7.1.2 : Value), (.slice x7.2.1 (((allE l).ticks).length) x7.2.2 : Value) ]) 62] := hs
    refine RW_op (L_assign (V := .bool true) rfl ?_)
    refine RW_nil ?_
    refine W_seq ?_
    refine W_seq ?_
    refine W_region ?_
    refine RW_op (L_move (V := .bool true) rfl ?_)
    refine RW_op (L_not rfl ?_)
    refine RW_nil ?_
    refine W_condF rfl ?_
    refine W_skip ?_
    refine W_seq ?_
    refine W_regD HM [some 29, some 30, some 31, some 32, some 33, some 34, some 7, some 8, some 9] [] [0, 1, 0, 4, 0, 16, 3, 79, 255] [pv (.pointer (some ⟨b1, 0 + (0 : Int).toNat, none⟩)), pv (.int .u16 n), pv (.pointer (some ⟨b1, 0 + (1 : Int).toNat, none⟩)), pv (.int .u16 it), pv (.pointer (some ⟨b1, 0 + (2 : Int).toNat, none⟩)), pv (.int .u16 q), pv (.int .u16 n), pv (.int .u16 it), pv (.int .u16 q)] (fun _ _ => _) [8, 7, 6] (by kernel_rfl) hs ⟨?_, ?_, ?_, ?_, ?_, ?_, ?_, ?_, ?_, trivial⟩ ?_
    · exact ob [] [] rfl rfl fun D ρ w hs => L_ixArr1 UD_100 S1_70.1 rfl rfl (by decide) (by decide) ⟨rfl, hs⟩
    · exact ob [0] [] rfl rfl fun D ρ w hs => L_ld (V := .int .u16 n) S1_70 hs 0 rfl rfl rfl ⟨rfl, hs⟩
    · exact ob [] [] rfl rfl fun D ρ w hs => L_ixArr1 UD_100 S1_70.1 rfl rfl (by decide) (by decide) ⟨rfl, hs⟩
    · exact ob [2] [] rfl rfl fun D ρ w hs => L_ld (V := .int .u16 it) S1_70 hs 0 rfl rfl rfl ⟨rfl, hs⟩
    · exact ob [] [] rfl rfl fun D ρ w hs => L_ixArr1 UD_100 S1_70.1 rfl rfl (by decide) (by decide) ⟨rfl, hs⟩
    · exact ob [4] [] rfl rfl fun D ρ w hs => L_ld (V := .int .u16 q) S1_70 hs 0 rfl rfl rfl ⟨rfl, hs⟩
    · exact ob [1] [] rfl rfl fun D ρ w hs => L_assign (V := .int .u16 n) rfl ⟨rfl, hs⟩
    · exact ob [3] [] rfl rfl fun D ρ w hs => L_assign (V := .int .u16 it) rfl ⟨rfl, hs⟩
    · exact ob [5] [] rfl rfl fun D ρ w hs => L_assign (V := .int .u16 q) rfl ⟨rfl, hs⟩
    rintro ρ1 w11 ρ2 hρ hs
    replace hρ : ρ2 = upd (upd (upd (mix [29, 30, 31, 32, 33, 34, 7, 8, 9] ρ1 _) 7 (.int .u16 n)) 8 (.int .u16 it)) 9 (.int .u16 q) := hρ
    subst hρ
    refine W_seq ?_
    have hva : 0 ≤ vat (allE l).known 2 ∧ vat (allE l).known 2 ≤ 40 := by
      rw [allE_known]; have h1 := hq.at_le 2; have h2 := (hq.known.1 2).1; omega
    have hvk := hq.ok.1
    obtain ⟨o, ho⟩ : ∃ o, nextO l 2 2 n it q 0 = o := ⟨_, rfl⟩
    obtain ⟨l2, hl2⟩ : ∃ l2, l ++ [o] = l2 := ⟨_, rfl⟩
    have hqx : Seq (l ++ [o]) := by rw [← ho]; exact hq.nextO (by decide) (by decide) (by omega) (by decide) hnn hi hqt (by decide) rfl
    have hql2 : Seq l2 := by rw [← hl2]; exact hqx
    have hap := applyR_all hqx
    rw [hl2] at hap
    have hln2 := allE_len l2
    have hll2 : l2.length = l.length + 1 := by rw [← hl2]; simp
    have hoo : OpnOk o := (hqx.dots o (by simp)).2.1
    have hall : ∀ x ∈ l, hasB o.ctx x.dot = true := by rw [← ho]; exact knew_all hq
    have hsl := set_law hqx (by rw [← ho]; rfl) hall
    rw [hl2] at hsl
    have hoc : o.cart = n ∧ o.item = it ∧ o.qty = q := by rw [← ho]; exact ⟨rfl, rfl, rfl⟩
    rw [hoc.1, hoc.2.1, hoc.2.2] at hsl
    have hvl := view_len l n
    have hvl2 := view_len l2 n
    refine W_region ?_
    refine RW_op (L_ldW (cs := (vc ((allE l).known)) ++ [(.slice x7.1.1 (((allE l).ents).length) x7.1.2 : Value), (.slice x7.2.1 (((allE l).ticks).length) x7.2.2 : Value) ]) SA_62 hs 3 rfl rfl rfl ?_)
    refine RW_op (L_fieldAddr FA_62_0 rfl ?_)
    refine RW_op (L_ixArr1 UD_53 S1_51.1 rfl rfl (by decide) (by decide) ?_)
    refine RW_op (L_ld (V := .int .u32 (vat ((allE l).known) 2)) S1_51 hs 3 rfl rfl (vc_atA (by omega) (by omega)) ?_)
    refine RW_op (L_add (a := vat ((allE l).known) 2) (b := 1) (c := (vat ((allE l).known) 2) + 1) rfl rfl (wr_u32 (by omega) (by omega)) ?_)
    refine RW_op (L_build (vs := [(0, .int .u8 2), (1, .int .u32 ((vat ((allE l).known) 2) + 1))]) (cs := dc (⟨2, (vat ((allE l).known) 2) + 1⟩ : Dot)) BT_96 (rfl) rfl ?_)
    refine RW_op (L_move (V := .int .u16 n) rfl ?_)
    refine RW_op (L_move (V := .int .u16 it) rfl ?_)
    refine RW_op (L_move (V := .int .u16 q) rfl ?_)
    refine RW_op (L_fieldAddr FA_62_0 rfl ?_)
    refine RW_op (L_ldA (vs := vc ((allE l).known)) SA_53 hs 3 rfl rfl rfl rfl ?_)
    refine RW_op (opW_to (V := .agg (oc (⟨(⟨2, (vat ((allE l).known) 2) + 1⟩ : Dot), 2, n, it, q, 0, (allE l).known⟩ : Opn)).toArray) (V' := .agg (oc o).toArray) (L_buildP (vs := [(0, .agg (dc (⟨2, (vat ((allE l).known) 2) + 1⟩ : Dot)).toArray), (1, .int .u8 2), (2, .int .u16 n), (3, .int .u16 it), (4, .int .u16 q), (6, .agg (vc ((allE l).known)).toArray)]) (cs := oc (⟨(⟨2, (vat ((allE l).known) 2) + 1⟩ : Dot), 2, n, it, q, 0, (allE l).known⟩ : Opn)) [dc (⟨0, 0⟩ : Dot), [(.int .u8 0 : Value)], [(.int .u16 0 : Value)], [(.int .u16 0 : Value)], [(.int .u16 0 : Value)], [(.int .u32 0 : Value)], vc vzero] [dc (⟨2, (vat ((allE l).known) 2) + 1⟩ : Dot), [(.int .u8 2 : Value)], [(.int .u16 n : Value)], [(.int .u16 it : Value)], [(.int .u16 q : Value)], [(.int .u32 0 : Value)], vc ((allE l).known)] BT_98 rfl (rfl) rfl rfl ⟨rfl, rfl⟩) (by rw [← ho, allE_known]; rfl) ?_)
    refine RW_op (L_callX (α := (Option Addr × Nat) × (Option Addr × Nat)) (vs := [.agg ((vc ((allE l).known)) ++ [(.slice x7.1.1 (((allE l).ents).length) x7.1.2 : Value), (.slice x7.2.1 (((allE l).ticks).length) x7.2.2 : Value) ]).toArray, .agg (oc o).toArray]) (V := fun x : (Option Addr × Nat) × (Option Addr × Nat) => .tuple #[.agg (vc (allE l2).known ++ [(.slice x.1.1 ((allE l2).ents).length x.1.2 : Value), (.slice x.2.1 ((allE l2).ticks).length x.2.2 : Value)]).toArray, .int .i64 0]) (Lo := fun x => [row (.slice x.1.1 ((allE l2).ents).length x.1.2) (((allE l2).ents).map cec) 128 7, row (.slice x.2.1 ((allE l2).ticks).length x.2.2) (((allE l2).ticks).map lsc) 126 2]) (F := fun _ _ => True) EN_45 rfl rfl ?hc hs fun x13 w12 hs _ => ?_)
    case hc => exact (cApply_okE (allE l2) 0 _ (allE l) x7.1.1 x7.1.2 x7.2.1 x7.2.2 o hoo hq.ok (by omega) (by omega) (hs.rd 1 rfl) (hs.rd 2 rfl) hap.2 hap.1)
    refine RW_op (L_move (V := .tuple #[.agg ((vc ((allE l2).known)) ++ [(.slice x13.1.1 (((allE l2).ents).length) x13.1.2 : Value), (.slice x13.2.1 (((allE l2).ticks).length) x13.2.2 : Value) ]).toArray, .int .i64 0]) rfl ?_)
    refine RW_op (L_extract (V := .agg ((vc ((allE l2).known)) ++ [(.slice x13.1.1 (((allE l2).ents).length) x13.1.2 : Value), (.slice x13.2.1 (((allE l2).ticks).length) x13.2.2 : Value) ]).toArray) rfl rfl ?_)
    refine RW_op (L_extract (V := .int .i64 0) rfl rfl ?_)
    refine RW_op (L_alloc (cs := (vc vzero) ++ [(.slice none 0 0 : Value), (.slice none 0 0 : Value) ]) ZV_62 rfl hs fun b14 w15 hs => ?_)
    refine RW_op (L_st (V := .agg ((vc ((allE l2).known)) ++ [(.slice x13.1.1 (((allE l2).ents).length) x13.1.2 : Value), (.slice x13.2.1 (((allE l2).ticks).length) x13.2.2 : Value) ]).toArray) (vs := (vc ((allE l2).known)) ++ [(.slice x13.1.1 (((allE l2).ents).length) x13.1.2 : Value), (.slice x13.2.1 (((allE l2).ticks).length) x13.2.2 : Value) ]) (cs' := (vc ((allE l2).known)) ++ [(.slice x13.1.1 (((allE l2).ents).length) x13.1.2 : Value), (.slice x13.2.1 (((allE l2).ticks).length) x13.2.2 : Value) ]) SA_62.1 hs 6 rfl rfl rfl rfl rfl (Nat.le_of_ble_eq_true rfl) (one_app (vc_one _) (one_cons rfl (one_cons rfl one_nil))) (spl_whole rfl) fun w16 hs => ?_)
    refine RW_op (L_assign (V := .int .i64 0) rfl ?_)
    refine RW_nil ?_
    refine W_seq ?_
    refine W_seq ?_
    refine W_region ?_
    refine RW_op (L_move (V := .int .i64 0) rfl ?_)
    refine RW_op (opW_to (V := .bool (!decide ((0 : Int) = 0))) (V' := .bool false) (L_neq rfl rfl ⟨rfl, rfl⟩) (congrArg Value.bool (by decide)) ?_)
    refine RW_nil ?_
    refine W_condF rfl ?_
    refine W_skip ?_
    refine W_seq ?_
    refine W_region ?_
    refine RW_op (L_assign (V := .slice none 0 0) rfl ?_)
    refine RW_nil ?_
    refine W_seq ?_
    refine W_seq ?_
    refine W_region ?_
    refine RW_op (L_ldW (cs := (vc ((allE l2).known)) ++ [(.slice x13.1.1 (((allE l2).ents).length) x13.1.2 : Value), (.slice x13.2.1 (((allE l2).ticks).length) x13.2.2 : Value) ]) SA_62 hs 6 rfl rfl rfl ?_)
    refine RW_op (L_move (V := .int .u16 n) rfl ?_)
    refine RW_op (L_callX (α := Option Addr × Nat) (vs := [.agg ((vc ((allE l2).known)) ++ [(.slice x13.1.1 (((allE l2).ents).length) x13.1.2 : Value), (.slice x13.2.1 (((allE l2).ticks).length) x13.2.2 : Value) ]).toArray, .int .u16 n]) (V := fun x => .agg #[.int .u16 ((viewP l2 n).cart), .slice x.1 (((viewP l2 n).lines).length) x.2, .bool ((viewP l2 n).out), .int .u32 ((viewP l2 n).tick)]) (Lo := fun x => [row (.slice x.1 ((viewP l2 n).lines).length x.2) (((viewP l2 n).lines).map lc) 102 2]) (F := fun _ _ => True) EN_34 rfl rfl ?hc hs fun x18 w17 hs _ => ?_)
    case hc => exact (cViewE_ok _ (allE l2) x13.1.1 x13.1.2 x13.2.1 x13.2.2 n (viewP l2 n : Vw) (view_all hql2 n) hql2.ok (by omega) (by omega) (hs.rd 4 rfl) (hs.rd 5 rfl))
    replace hs : Own w no w17 [blk b1 [.int .u16 n, .int .u16 it, .int .u16 q] 100, row (.slice x7.1.1 (((allE l).ents).length) x7.1.2) (((allE l).ents).map cec) 128 7, row (.slice x7.2.1 (((allE l).ticks).length) x7.2.2) (((allE l).ticks).map lsc) 126 2, blk b8 ((vc ((allE l).known)) ++ [(.slice x7.1.1 (((allE l).ents).length) x7.1.2 : Value), (.slice x7.2.1 (((allE l).ticks).length) x7.2.2 : Value) ]) 62, row (.slice x13.1.1 (((allE l2).ents).length) x13.1.2) (((allE l2).ents).map cec) 128 7, row (.slice x13.2.1 (((allE l2).ticks).length) x13.2.2) (((allE l2).ticks).map lsc) 126 2, blk b14 ((vc ((allE l2).known)) ++ [(.slice x13.1.1 (((allE l2).ents).length) x13.1.2 : Value), (.slice x13.2.1 (((allE l2).ticks).length) x13.2.2 : Value) ]) 62, row (.slice x18.1 (((viewP l2 n).lines).length) x18.2) (((viewP l2 n).lines).map lc) 102 2] := hs
    refine RW_op (L_fieldV (V := .slice x18.1 (((viewP l2 n).lines).length) x18.2) (fun w => by simp [Instr.field, part, asAgg]) rfl ?_)
    refine RW_op (L_lenR (n := ((viewP l2 n).lines).length) UD_72 (hs.rd 7 rfl) (by simp) rfl ?_)
    refine RW_op (L_move (V := .int .i64 0) rfl ?_)
    refine RW_nil ?_
    refine W_block ?_
    replace hs := hs.more (row (.slice none 0 0) (List.map lc []) 102 2) (row_nil _ _ _ _)
    refine W_loopI (fun ρ μ ρ' w' => ∃ (ρo : Env) (k : Nat) (an : Option Addr) (cn : Nat) (out : List Line), ρ' = upd (upd (mix [4, 12, 14, 58, 59, 60, 61, 62, 63, 64, 65, 66, 67, 68, 69, 70, 71, 72, 73, 74, 75, 76, 77, 78, 79, 80, 81] ρo ρ) 58 (.int .i64 ((k : Nat) : Int))) 12 (.slice an out.length cn) ∧ (k ≤ (viewP l2 n).lines.length) ∧ (out.length ≤ k) ∧ (out = ((viewP l2 n).lines.take k).filter (notI it)) ∧ μ = (viewP l2 n).lines.length - k ∧ Own w no w' [blk b1 [.int .u16 n, .int .u16 it, .int .u16 q] 100, row (.slice x7.1.1 (((allE l).ents).length) x7.1.2) (((allE l).ents).map cec) 128 7, row (.slice x7.2.1 (((allE l).ticks).length) x7.2.2) (((allE l).ticks).map lsc) 126 2, blk b8 ((vc ((allE l).known)) ++ [(.slice x7.1.1 (((allE l).ents).length) x7.1.2 : Value), (.slice x7.2.1 (((allE l).ticks).length) x7.2.2 : Value) ]) 62, row (.slice x13.1.1 (((allE l2).ents).length) x13.1.2) (((allE l2).ents).map cec) 128 7, row (.slice x13.2.1 (((allE l2).ticks).length) x13.2.2) (((allE l2).ticks).map lsc) 126 2, blk b14 ((vc ((allE l2).known)) ++ [(.slice x13.1.1 (((allE l2).ents).length) x13.1.2 : Value), (.slice x13.2.1 (((allE l2).ticks).length) x13.2.2 : Value) ]) 62, row (.slice x18.1 (((viewP l2 n).lines).length) x18.2) (((viewP l2 n).lines).map lc) 102 2, row (.slice an out.length cn) (out.map lc) 102 2]) ?_ ?_
    · exact ⟨_, _, 0, none, 0, [], upd_of (upd_of (mix_of (ds := [4, 12, 14, 58, 59, 60, 61, 62, 63, 64, 65, 66, 67, 68, 69, 70, 71, 72, 73, 74, 75, 76, 77, 78, 79, 80, 81]) (Agr.refl _ _)) rfl) rfl, (by omega), (Nat.le_refl _), rfl, rfl, hs⟩
    · rintro μ ρ' w19 ⟨ρo, k, an, cn, out, rfl, hk, hol, hout, rfl, hs⟩
      refine W_seq ?_
      refine W_region ?_
      refine RW_op (L_lss rfl rfl ?_)
      refine RW_nil ?_
      refine W_seq ?_
      refine W_cond (t := decide (((k : Nat) : Int) < ((((viewP l2 n).lines).length : Nat) : Int))) rfl (fun c20 => ?_) (fun c20 => ?_)
      ·
        replace c20 := of_decide_eq_true c20
        refine W_skip ?_
        refine W_seq ?_
        refine W_block ?_
        refine W_seq ?_
        refine W_region ?_
        refine RW_op (L_ixR UD_72 SA_102.1 (hs.rd 7 rfl) rfl rfl (by omega) (by rw [List.length_map]; omega) ?_)
        refine RW_op (L_ldRA (j := 0) (vs := lc (gd ((viewP l2 n).lines) k)) k SA_102 (hs.rd 7 rfl) (gd_at (by omega)) rfl rfl rfl (by omega) ?_)
        refine RW_op (L_alloc (cs := lc (⟨0, 0⟩ : Line)) ZV_102 rfl hs fun b21 w22 hs => ?_)
        refine RW_op (L_st (V := .agg (lc (gd ((viewP l2 n).lines) k)).toArray) (vs := lc (gd ((viewP l2 n).lines) k)) (cs' := lc (gd ((viewP l2 n).lines) k)) SA_102.1 hs 9 rfl rfl rfl rfl rfl (Nat.le_of_ble_eq_true rfl) (lc_one _) (spl_whole rfl) fun w23 hs => ?_)
        refine RW_nil ?_
        refine W_seq ?_
        refine W_seq ?_
        refine W_regO [some 62, some 63, some 64, some 65, some 66, some 67, some 68, some 69, some 70, some 71, some 72] [] [0, 1, 0, 7, 15, 31, 63, 31, 159, 511, 1023] [pv (.pointer (some ⟨b21, 0 + 0, none⟩)), pv (.int .u16 ((gd ((viewP l2 n).lines) k).item)), pv (.int .u16 it), pv (.bool (decide ((gd ((viewP l2 n).lines) k).item = it))), pv (.bool (decide ((gd ((viewP l2 n).lines) k).item = it))), pg ((decide ((gd ((viewP l2 n).lines) k).item = it)) == true) (.pointer (some ⟨b21, 0 + 1, none⟩)), pg ((decide ((gd ((viewP l2 n).lines) k).item = it)) == true) (.int .u32 ((gd ((viewP l2 n).lines) k).qty)), pg ((decide ((gd ((viewP l2 n).lines) k).item = it)) == true) (.int .u16 q), pg ((decide ((gd ((viewP l2 n).lines) k).item = it)) == true) (.int .u32 q), pg ((decide ((gd ((viewP l2 n).lines) k).item = it)) == true) (.bool (!decide ((gd ((viewP l2 n).lines) k).qty = q))), pv (.bool false)] (fun _ _ => _) [10] (by kernel_rfl) hs ⟨?_, ?_, ?_, ?_, ?_, ?_, ?_, ?_, ?_, ?_, ?_, trivial⟩ ?_
        · exact ob [] [] rfl rfl fun D ρ w hs => L_fieldAddr FA_102_0 rfl ⟨rfl, hs⟩
        · exact ob [0] [] rfl rfl fun D ρ w hs => L_ld (V := .int .u16 ((gd ((viewP l2 n).lines) k).item)) S1_70 hs 9 rfl rfl rfl ⟨rfl, hs⟩
        · exact ob [] [] rfl rfl fun D ρ w hs => L_move (V := .int .u16 it) rfl ⟨rfl, hs⟩
        · exact ob [1, 2] [] rfl rfl fun D ρ w hs => L_eql rfl rfl ⟨rfl, hs⟩
        · exact ob [3] [] rfl rfl fun D ρ w hs => L_move (V := .bool (decide ((gd ((viewP l2 n).lines) k).item = it))) rfl ⟨rfl, hs⟩
        · refine obg [4] [] (decide ((gd ((viewP l2 n).lines) k).item = it)) rfl (fun _ => rfl) rfl (fun _ _ _ _ h => h) fun D ρ w hG hs => ?_
          have hgd := of_decide_eq_true (eq_of_beq hG)
          exact L_fieldAddr FA_102_1 rfl ⟨rfl, hs⟩
        · refine obgy [4, 5] [] [5] (decide ((gd ((viewP l2 n).lines) k).item = it)) rfl (fun _ => rfl) rfl (fun _ _ _ _ h => h) (fun hG => ⟨hG, trivial⟩) fun D ρ w hG hs => ?_
          have hgd := of_decide_eq_true (eq_of_beq hG)
          exact L_ld (V := .int .u32 ((gd ((viewP l2 n).lines) k).qty)) S1_51 hs 9 rfl rfl rfl ⟨rfl, hs⟩
        · refine obg [4] [] (decide ((gd ((viewP l2 n).lines) k).item = it)) rfl (fun _ => rfl) rfl (fun _ _ _ _ h => h) fun D ρ w hG hs => ?_
          have hgd := of_decide_eq_true (eq_of_beq hG)
          exact L_move (V := .int .u16 q) rfl ⟨rfl, hs⟩
        · refine obgy [4, 7] [] [7] (decide ((gd ((viewP l2 n).lines) k).item = it)) rfl (fun _ => rfl) rfl (fun _ _ _ _ h => h) (fun hG => ⟨hG, trivial⟩) fun D ρ w hG hs => ?_
          have hgd := of_decide_eq_true (eq_of_beq hG)
          exact L_conv UD_70 UD_51 rfl (wr_u32 (by omega) (by omega)) ⟨rfl, hs⟩
        · refine obgy [4, 6, 8] [] [6, 8] (decide ((gd ((viewP l2 n).lines) k).item = it)) rfl (fun _ => rfl) rfl (fun _ _ _ _ h => h) (fun hG => ⟨hG, hG, trivial⟩) fun D ρ w hG hs => ?_
          have hgd := of_decide_eq_true (eq_of_beq hG)
          exact L_neq rfl rfl ⟨rfl, hs⟩
        · exact ob [4, 9] [] rfl rfl fun D ρ w hs => opW_to (V := .bool ((decide ((gd ((viewP l2 n).lines) k).item = it)) && (!decide ((gd ((viewP l2 n).lines) k).qty = q)))) (V' := .bool false) (L_andC (h' := !decide ((gd ((viewP l2 n).lines) k).qty = q)) rfl rfl rfl ⟨rfl, rfl⟩) (congrArg Value.bool (by
      rcases Decidable.em ((gd (viewP l2 n).lines k).item = it) with q9 | q9
      · rw [hsl.1 _ (gd_mem (by omega)) q9]; simp
      · rw [decide_eq_false q9]; rfl)) ⟨rfl, hs⟩
        rintro ρ1 w24 ρ2 hρ hs
        replace hρ : ρ2 = upd (mix [62, 63, 64, 65, 66, 67, 68, 69, 70, 71, 72] ρ1 _) 72 (.bool false) := hρ
        subst hρ
        refine W_condF rfl ?_
        refine W_skip ?_
        refine W_seq ?_
        refine W_region ?_
        refine RW_op (L_fieldAddr FA_102_0 rfl ?_)
        refine RW_op (L_ld (V := .int .u16 ((gd ((viewP l2 n).lines) k).item)) S1_70 hs 9 rfl rfl rfl ?_)
        refine RW_op (L_move (V := .int .u16 it) rfl ?_)
        refine RW_op (L_neq rfl rfl ?_)
        refine RW_nil ?_
        refine W_cond (t := !decide ((gd ((viewP l2 n).lines) k).item = it)) rfl (fun c25 => ?_) (fun c25 => ?_)
        ·
          replace c25 := not_t c25
          replace c25 := of_decide_eq_false c25
          refine W_region ?_
          refine RW_op (L_move (V := .slice an out.length cn) rfl ?_)
          refine RW_op (L_ldW (cs := lc (gd ((viewP l2 n).lines) k)) SA_102 hs 9 rfl rfl rfl ?_)
          refine RW_op (L_bs (vals := [.agg (lc (gd ((viewP l2 n).lines) k)).toArray]) (ls := List.map lc ([gd ((viewP l2 n).lines) k] : List Line)) EL_72 rfl rfl rfl (len_map (enc := lc) (fun _ => rfl) _) (one_map lc_one _) (Nat.le_of_ble_eq_true rfl) hs fun b26 w27 hs => ?_)
          refine RW_op (L_appN (ls' := (out ++ [gd ((viewP l2 n).lines) k]).map lc) (n := (out ++ [gd ((viewP l2 n).lines) k]).length) EL_72 hs 8 rfl rfl rfl (hs.rd 10 rfl) (one_map lc_one _) (by simp only [List.length_map, List.length_append, List.length_cons, List.length_nil]; omega) (by simp) (by simp) fun a28 c28 w29 hs => ?_)
          replace hs : Own w no w29 [blk b1 [.int .u16 n, .int .u16 it, .int .u16 q] 100, row (.slice x7.1.1 (((allE l).ents).length) x7.1.2) (((allE l).ents).map cec) 128 7, row (.slice x7.2.1 (((allE l).ticks).length) x7.2.2) (((allE l).ticks).map lsc) 126 2, blk b8 ((vc ((allE l).known)) ++ [(.slice x7.1.1 (((allE l).ents).length) x7.1.2 : Value), (.slice x7.2.1 (((allE l).ticks).length) x7.2.2 : Value) ]) 62, row (.slice x13.1.1 (((allE l2).ents).length) x13.1.2) (((allE l2).ents).map cec) 128 7, row (.slice x13.2.1 (((allE l2).ticks).length) x13.2.2) (((allE l2).ticks).map lsc) 126 2, blk b14 ((vc ((allE l2).known)) ++ [(.slice x13.1.1 (((allE l2).ents).length) x13.1.2 : Value), (.slice x13.2.1 (((allE l2).ticks).length) x13.2.2 : Value) ]) 62, row (.slice x18.1 (((viewP l2 n).lines).length) x18.2) (((viewP l2 n).lines).map lc) 102 2, row (.slice a28 ((out ++ [gd ((viewP l2 n).lines) k]).length) c28) ((out ++ [gd ((viewP l2 n).lines) k]).map lc) 102 2, blk b21 (lc (gd ((viewP l2 n).lines) k)) 102, row (.slice (some ⟨b26, 0, none⟩) 1 1) ([gd ((viewP l2 n).lines) k].map lc) 102 2] := hs
          refine RW_op (L_assign (V := .slice a28 ((out ++ [gd ((viewP l2 n).lines) k]).length) c28) rfl ?_)
          refine RW_nil ?_
          refine W_region ?_
          refine RW_op (L_add (a := ((k : Nat) : Int)) (b := 1) (c := ((k + 1 : Nat) : Int)) rfl rfl (nat_i64 (by omega) (by omega)) ?_)
          refine RW_op (L_move (V := .int .i64 ((k + 1 : Nat) : Int)) rfl ?_)
          refine RW_nil ?_
          refine ⟨_, ?_, _, k + 1, a28, c28, out ++ [gd ((viewP l2 n).lines) k], upd_of (upd_of (mix_of (ds := [4, 12, 14, 58, 59, 60, 61, 62, 63, 64, 65, 66, 67, 68, 69, 70, 71, 72, 73, 74, 75, 76, 77, 78, 79, 80, 81]) (by repeat (first | exact Agr.refl _ _ | refine Agr.upd ?_ rfl | refine Agr.mix ?_ rfl))) rfl) rfl, (by omega), (by first | omega | (rw [List.length_append, List.length_singleton]; omega)), (filt_next_yes (p := notI it) hout (by omega) (by unfold notI; rw [decide_eq_false c25]; rfl)), rfl, hs.take 9⟩
          omega
        ·
          replace c25 := not_f c25
          replace c25 := of_decide_eq_true c25
          refine W_skip ?_
          refine W_region ?_
          refine RW_op (L_add (a := ((k : Nat) : Int)) (b := 1) (c := ((k + 1 : Nat) : Int)) rfl rfl (nat_i64 (by omega) (by omega)) ?_)
          refine RW_op (L_move (V := .int .i64 ((k + 1 : Nat) : Int)) rfl ?_)
          refine RW_nil ?_
          refine ⟨_, ?_, _, k + 1, an, cn, out, upd_of (upd_of (mix_of (ds := [4, 12, 14, 58, 59, 60, 61, 62, 63, 64, 65, 66, 67, 68, 69, 70, 71, 72, 73, 74, 75, 76, 77, 78, 79, 80, 81]) (by repeat (first | exact Agr.refl _ _ | refine Agr.upd ?_ rfl | refine Agr.mix ?_ rfl))) rfl) rfl, (by omega), (by first | omega | (rw [List.length_append, List.length_singleton]; omega)), (filt_next_no (p := notI it) hout (by omega) (by unfold notI; rw [decide_eq_true c25]; rfl)), rfl, hs.take 9⟩
          omega
      ·
        replace c20 := of_decide_eq_false c20
        refine W_exit ?_
        refine W_seq ?_
        refine W_seq ?_
        have hout2 : out = (viewP l2 n).lines.filter (notI it) := by rw [hout, take_all (by omega)]
        refine W_region ?_
        refine RW_op (L_ldW (cs := (vc ((allE l).known)) ++ [(.slice x7.1.1 (((allE l).ents).length) x7.1.2 : Value), (.slice x7.2.1 (((allE l).ticks).length) x7.2.2 : Value) ]) SA_62 hs 3 rfl rfl rfl ?_)
        refine RW_op (L_move (V := .int .u16 n) rfl ?_)
        refine RW_op (L_callX (α := Option Addr × Nat) (vs := [.agg ((vc ((allE l).known)) ++ [(.slice x7.1.1 (((allE l).ents).length) x7.1.2 : Value), (.slice x7.2.1 (((allE l).ticks).length) x7.2.2 : Value) ]).toArray, .int .u16 n]) (V := fun x => .agg #[.int .u16 ((viewP l n).cart), .slice x.1 (((viewP l n).lines).length) x.2, .bool ((viewP l n).out), .int .u32 ((viewP l n).tick)]) (Lo := fun x => [row (.slice x.1 ((viewP l n).lines).length x.2) (((viewP l n).lines).map lc) 102 2]) (F := fun _ _ => True) EN_34 rfl rfl ?hc hs fun x31 w30 hs _ => ?_)
        case hc => exact (cViewE_ok _ (allE l) x7.1.1 x7.1.2 x7.2.1 x7.2.2 n (viewP l n : Vw) (view_all hq n) hq.ok (by omega) (by omega) (hs.rd 1 rfl) (hs.rd 2 rfl))
        refine RW_op (L_fieldV (V := .slice x31.1 (((viewP l n).lines).length) x31.2) (fun w => by simp [Instr.field, part, asAgg]) rfl ?_)
        refine RW_op (L_lenR (n := ((viewP l n).lines).length) UD_72 (hs.rd 9 rfl) (by simp) rfl ?_)
        refine RW_op (L_move (V := .int .i64 0) rfl ?_)
        refine RW_nil ?_
        refine W_block ?_
        refine W_loopI (fun ρ μ ρ' w' => ∃ (ρo : Env) (j3 : Nat) (an3 : Option Addr) (cn3 : Nat) (R : List Line), ρ' = upd (upd (mix [4, 12, 16, 87, 88, 89, 90, 91, 92, 93, 94, 95, 96, 97, 98, 99, 100, 101, 102, 103, 104, 105, 106, 107] ρo ρ) 87 (.int .i64 ((j3 : Nat) : Int))) 12 (.slice an3 R.length cn3) ∧ (j3 ≤ (viewP l n).lines.length) ∧ (((viewP l n).lines.take j3).filter (notI it) ++ R = (viewP l2 n).lines.filter (notI it)) ∧ (∀ w' : World, Rd w' (.slice an out.length cn) 2 (out.map lc) → Rd w' (.slice an3 R.length cn3) 2 (R.map lc)) ∧ μ = (viewP l n).lines.length - j3 ∧ Own w no w' [blk b1 [.int .u16 n, .int .u16 it, .int .u16 q] 100, row (.slice x7.1.1 (((allE l).ents).length) x7.1.2) (((allE l).ents).map cec) 128 7, row (.slice x7.2.1 (((allE l).ticks).length) x7.2.2) (((allE l).ticks).map lsc) 126 2, blk b8 ((vc ((allE l).known)) ++ [(.slice x7.1.1 (((allE l).ents).length) x7.1.2 : Value), (.slice x7.2.1 (((allE l).ticks).length) x7.2.2 : Value) ]) 62, row (.slice x13.1.1 (((allE l2).ents).length) x13.1.2) (((allE l2).ents).map cec) 128 7, row (.slice x13.2.1 (((allE l2).ticks).length) x13.2.2) (((allE l2).ticks).map lsc) 126 2, blk b14 ((vc ((allE l2).known)) ++ [(.slice x13.1.1 (((allE l2).ents).length) x13.1.2 : Value), (.slice x13.2.1 (((allE l2).ticks).length) x13.2.2 : Value) ]) 62, row (.slice x18.1 (((viewP l2 n).lines).length) x18.2) (((viewP l2 n).lines).map lc) 102 2, row (.slice an out.length cn) (out.map lc) 102 2, row (.slice x31.1 (((viewP l n).lines).length) x31.2) (((viewP l n).lines).map lc) 102 2]) ?_ ?_
        · exact ⟨_, _, 0, an, cn, out, upd_of (upd_of (mix_of (ds := [4, 12, 16, 87, 88, 89, 90, 91, 92, 93, 94, 95, 96, 97, 98, 99, 100, 101, 102, 103, 104, 105, 106, 107]) (Agr.refl _ _)) rfl) rfl, (by omega), (by rw [hout2]; rfl), (fun _ h => h), rfl, hs⟩
        · rintro μ ρ' w32 ⟨ρo, j3, an3, cn3, R, rfl, hj3, hR, hvia, rfl, hs⟩
          refine W_seq ?_
          refine W_region ?_
          refine RW_op (L_lss rfl rfl ?_)
          refine RW_nil ?_
          refine W_seq ?_
          refine W_cond (t := decide (((j3 : Nat) : Int) < ((((viewP l n).lines).length : Nat) : Int))) rfl (fun c33 => ?_) (fun c33 => ?_)
          ·
            replace c33 := of_decide_eq_true c33
            refine W_skip ?_
            refine W_seq ?_
            refine W_block ?_
            refine W_seq ?_
            refine W_region ?_
            refine RW_op (L_ixR UD_72 SA_102.1 (hs.rd 9 rfl) rfl rfl (by omega) (by rw [List.length_map]; omega) ?_)
            refine RW_op (L_ldRA (j := 0) (vs := lc (gd ((viewP l n).lines) j3)) j3 SA_102 (hs.rd 9 rfl) (gd_at (by omega)) rfl rfl rfl (by omega) ?_)
            refine RW_op (L_alloc (cs := lc (⟨0, 0⟩ : Line)) ZV_102 rfl hs fun b34 w35 hs => ?_)
            refine RW_op (L_st (V := .agg (lc (gd ((viewP l n).lines) j3)).toArray) (vs := lc (gd ((viewP l n).lines) j3)) (cs' := lc (gd ((viewP l n).lines) j3)) SA_102.1 hs 10 rfl rfl rfl rfl rfl (Nat.le_of_ble_eq_true rfl) (lc_one _) (spl_whole rfl) fun w36 hs => ?_)
            refine RW_nil ?_
            refine W_seq ?_
            refine W_seq ?_
            refine W_region ?_
            refine RW_op (L_fieldAddr FA_102_0 rfl ?_)
            refine RW_op (L_ld (V := .int .u16 ((gd ((viewP l n).lines) j3).item)) S1_70 hs 10 rfl rfl rfl ?_)
            refine RW_op (L_move (V := .int .u16 it) rfl ?_)
            refine RW_op (L_eql rfl rfl ?_)
            refine RW_nil ?_
            refine W_cond (t := decide ((gd ((viewP l n).lines) j3).item = it)) rfl (fun c37 => ?_) (fun c37 => ?_)
            ·
              replace c37 := of_decide_eq_true c37
              refine W_exit ?_
              refine W_region ?_
              refine RW_op (L_add (a := ((j3 : Nat) : Int)) (b := 1) (c := ((j3 + 1 : Nat) : Int)) rfl rfl (nat_i64 (by omega) (by omega)) ?_)
              refine RW_op (L_move (V := .int .i64 ((j3 + 1 : Nat) : Int)) rfl ?_)
              refine RW_nil ?_
              refine ⟨_, ?_, _, j3 + 1, an3, cn3, R, upd_of (upd_of (mix_of (ds := [4, 12, 16, 87, 88, 89, 90, 91, 92, 93, 94, 95, 96, 97, 98, 99, 100, 101, 102, 103, 104, 105, 106, 107]) (by repeat (first | exact Agr.refl _ _ | refine Agr.upd ?_ rfl | refine Agr.mix ?_ rfl))) rfl) rfl, (by omega), (rest_skip hR (by omega) c37), hvia, rfl, hs.take 10⟩
              omega
            ·
              replace c37 := of_decide_eq_false c37
              refine W_skip ?_
              refine W_seq ?_
              refine W_seq ?_
              have ⟨hR1, hR2, hR4⟩ := rest_at hR hsl.2.1.symm (by omega) c37
              refine W_regD HM [some 95, some 96, some 97, some 98, some 99, some 100, some 101, some 102, some 103, some 104] [] [0, 1, 3, 7, 15, 31, 63, 15, 255, 511] [pv (.slice an3 R.length cn3), pv (.int .i64 ((R.length : Nat) : Int)), pv (.bool false), pv (.bool false), pv (.slice an3 R.length cn3), pv (.pointer (some ⟨bkS (.slice an3 R.length cn3), ofS (.slice an3 R.length cn3) + (0 : Int).toNat * 2, none⟩)), pv (.agg (lc (gd R 0)).toArray), pv (.agg (lc (gd ((viewP l n).lines) j3)).toArray), pv (.bool false), pv (.bool false)] (fun _ _ => _) [9] (by kernel_rfl) hs ⟨?_, ?_, ?_, ?_, ?_, ?_, ?_, ?_, ?_, ?_, trivial⟩ ?_
              · exact ob [] [] rfl rfl fun D ρ w hs => L_move (V := .slice an3 R.length cn3) rfl ⟨rfl, hs⟩
              · exact ob [0] [] rfl rfl fun D ρ w hs => L_lenR (n := R.length) UD_72 (hvia _ (hs.rd 8 rfl)) (by simp) rfl ⟨rfl, hs⟩
              · exact ob [1] [] rfl rfl fun D ρ w hs => opW_to (V := .bool (decide (((R.length : Nat) : Int) = 0))) (V' := .bool false) (L_eql rfl rfl ⟨rfl, rfl⟩) (congrArg Value.bool (decide_eq_false (by omega))) ⟨rfl, hs⟩
              · exact ob [2] [] rfl rfl fun D ρ w hs => L_move (V := .bool false) rfl ⟨rfl, hs⟩
              · exact obg [3] [] false rfl (fun _ => rfl) rfl (fun _ _ _ h => nomatch h) fun D ρ w _ hs => L_move (V := .slice an3 R.length cn3) rfl ⟨rfl, hs⟩
              · exact obg [3, 4] [] false rfl (fun _ => rfl) rfl (fun _ _ _ h => nomatch h) fun D ρ w _ hs => L_ixR UD_72 SA_102.1 (hvia _ (hs.rd 8 rfl)) rfl rfl (by decide) (by rw [List.length_map]; omega) ⟨rfl, hs⟩
              · exact obg [3, 5] [] false rfl (fun _ => rfl) rfl (fun _ _ _ h => nomatch h) fun D ρ w _ hs => L_ldRA (j := 0) (vs := lc (gd R 0)) 0 SA_102 (hvia _ (hs.rd 8 rfl)) (gd_at (by omega)) rfl rfl rfl (by omega) ⟨rfl, hs⟩
              · exact obg [3] [] false rfl (fun _ => rfl) rfl (fun _ _ _ h => nomatch h) fun D ρ w _ hs => L_ldW (cs := lc (gd ((viewP l n).lines) j3)) SA_102 hs 10 rfl rfl rfl ⟨rfl, hs⟩
              · exact obg [3, 6, 7] [] false rfl (fun _ => rfl) rfl (fun _ _ _ h => nomatch h) fun D ρ w _ hs => opW_to (V := .bool (!decide (gd R 0 = gd ((viewP l n).lines) j3))) (V' := .bool false) (L_neA (xs := lc (gd R 0)) (ys := lc (gd ((viewP l n).lines) j3)) Try.eqGuardType102 (EQ_102 (gd R 0) (gd ((viewP l n).lines) j3)) rfl rfl rfl ⟨rfl, rfl⟩) (congrArg Value.bool (by rw [decide_eq_true hR2.symm]; rfl)) ⟨rfl, hs⟩
              · exact ob [3, 8] [] rfl rfl fun D ρ w hs => L_pick (V := .bool false) rfl rfl ⟨rfl, hs⟩
              rintro ρ1 w38 ρ2 hρ hs
              replace hρ : ρ2 = upd (mix [95, 96, 97, 98, 99, 100, 101, 102, 103, 104] ρ1 _) 104 (.bool false) := hρ
              subst hρ
              refine W_condF rfl ?_
              refine W_skip ?_
              refine W_region ?_
              refine RW_op (L_move (V := .slice an3 R.length cn3) rfl ?_)
              refine RW_op (L_sl (l := 1) (h := R.length) (m := cn3) (n' := (R.drop 1).length) UDR_72 SA_102.1 (hvia _ (hs.rd 8 rfl)) rfl (.inr ⟨_, _, rfl, rfl⟩) (.inl ⟨rfl, rfl⟩) (.inl ⟨rfl, rfl⟩) (by omega) (by omega) (Nat.le_trans (show R.length ≤ R.length by omega) (Rd.roomM (hvia _ (hs.rd 8 rfl)))) (Nat.le_refl _) (by simp only [List.length_take, List.length_drop] <;> omega) ?_)
              refine RW_op (L_assign (V := .slice (sla an3 1 cn3 2) ((R.drop 1).length) (cn3 - 1)) rfl ?_)
              refine RW_nil ?_
              refine W_region ?_
              refine RW_op (L_add (a := ((j3 : Nat) : Int)) (b := 1) (c := ((j3 + 1 : Nat) : Int)) rfl rfl (nat_i64 (by omega) (by omega)) ?_)
              refine RW_op (L_move (V := .int .i64 ((j3 + 1 : Nat) : Int)) rfl ?_)
              refine RW_nil ?_
              refine ⟨_, ?_, _, j3 + 1, (sla an3 1 cn3 2), cn3 - 1, (R.drop 1), upd_of (upd_of (mix_of (ds := [4, 12, 16, 87, 88, 89, 90, 91, 92, 93, 94, 95, 96, 97, 98, 99, 100, 101, 102, 103, 104, 105, 106, 107]) (by repeat (first | exact Agr.refl _ _ | refine Agr.upd ?_ rfl | refine Agr.mix ?_ rfl))) rfl) rfl, (by omega), hR4, (fun w' h => Rd.dropM (hvia w' h) 1 (by omega) _ (by rw [List.length_drop])), rfl, hs.take 10⟩
              omega
          ·
            replace c33 := of_decide_eq_false c33
            refine W_exit ?_
            refine W_seq ?_
            have hR0 := rest_end hR hsl.2.1.symm (by omega)
            replace hs := hs.more emp trivial
            replace hs := hs.more emp trivial
            refine W_regD HM [some 108, some 109, some 110, some 111, some 112, some 113, some 114, some 115, some 116, some 117, some 118, some 119, some 120, some 121, some 4] [[], [], [], [], [], [], [114], [], [], [], [118]] [0, 1, 3, 7, 15, 15, 63, 127, 15, 15, 895, 1919, 4095, 8191, 16383] [pv (.slice an3 R.length cn3), pv (.int .i64 ((R.length : Nat) : Int)), pv (.bool true), pv (.bool true), pv (.agg ((vc ((allE l2).known)) ++ [(.slice x13.1.1 (((allE l2).ents).length) x13.1.2 : Value), (.slice x13.2.1 (((allE l2).ticks).length) x13.2.2 : Value) ]).toArray), pv (.int .u16 n), (true, fun ρ => .agg #[.int .u16 ((viewP l2 n).cart), .slice (aOf (aggS (ρ 114) 1)) (((viewP l2 n).lines).length) (cOf (aggS (ρ 114) 1)), .bool ((viewP l2 n).out), .int .u32 ((viewP l2 n).tick)]), pv (.bool ((viewP l2 n).out)), pv (.agg ((vc ((allE l).known)) ++ [(.slice x7.1.1 (((allE l).ents).length) x7.1.2 : Value), (.slice x7.2.1 (((allE l).ticks).length) x7.2.2 : Value) ]).toArray), pv (.int .u16 n), (true, fun ρ => .agg #[.int .u16 ((viewP l n).cart), .slice (aOf (aggS (ρ 118) 1)) (((viewP l n).lines).length) (cOf (aggS (ρ 118) 1)), .bool ((viewP l n).out), .int .u32 ((viewP l n).tick)]), pv (.bool ((viewP l n).out)), pv (.bool true), pv (.bool true), pv (.bool true)] (fun D ρ => [blk b1 [.int .u16 n, .int .u16 it, .int .u16 q] 100, row (.slice x7.1.1 (((allE l).ents).length) x7.1.2) (((allE l).ents).map cec) 128 7, row (.slice x7.2.1 (((allE l).ticks).length) x7.2.2) (((allE l).ticks).map lsc) 126 2, blk b8 ((vc ((allE l).known)) ++ [(.slice x7.1.1 (((allE l).ents).length) x7.1.2 : Value), (.slice x7.2.1 (((allE l).ticks).length) x7.2.2 : Value) ]) 62, row (.slice x13.1.1 (((allE l2).ents).length) x13.1.2) (((allE l2).ents).map cec) 128 7, row (.slice x13.2.1 (((allE l2).ticks).length) x13.2.2) (((allE l2).ticks).map lsc) 126 2, blk b14 ((vc ((allE l2).known)) ++ [(.slice x13.1.1 (((allE l2).ents).length) x13.1.2 : Value), (.slice x13.2.1 (((allE l2).ticks).length) x13.2.2 : Value) ]) 62, row (.slice x18.1 (((viewP l2 n).lines).length) x18.2) (((viewP l2 n).lines).map lc) 102 2, row (.slice an out.length cn) (out.map lc) 102 2, row (.slice x31.1 (((viewP l n).lines).length) x31.2) (((viewP l n).lines).map lc) 102 2, cond (D 6) (row (.slice (aOf (aggS (ρ 114) 1)) (((viewP l2 n).lines).length) (cOf (aggS (ρ 114) 1))) (((viewP l2 n).lines).map lc) 102 2) (emp), cond (D 10) (row (.slice (aOf (aggS (ρ 118) 1)) (((viewP l n).lines).length) (cOf (aggS (ρ 118) 1))) (((viewP l n).lines).map lc) 102 2) (emp)]) [14] (by kernel_rfl) hs ⟨?_, ?_, ?_, ?_, ?_, ?_, ?_, ?_, ?_, ?_, ?_, ?_, ?_, ?_, ?_, trivial⟩ ?_
            · exact ob [] [] rfl rfl fun D ρ w hs => L_move (V := .slice an3 R.length cn3) rfl ⟨rfl, hs⟩
            · exact ob [0] [] rfl rfl fun D ρ w hs => L_lenR (n := R.length) UD_72 (hvia _ (hs.rd 8 rfl)) (by simp) rfl ⟨rfl, hs⟩
            · exact ob [1] [] rfl rfl fun D ρ w hs => opW_to (V := .bool (decide (((R.length : Nat) : Int) = 0))) (V' := .bool true) (L_eql rfl rfl ⟨rfl, rfl⟩) (congrArg Value.bool (decide_eq_true (by omega))) ⟨rfl, hs⟩
            · exact ob [2] [] rfl rfl fun D ρ w hs => L_move (V := .bool true) rfl ⟨rfl, hs⟩
            · exact obg [3] [] true rfl (fun _ => rfl) rfl (fun _ _ _ h => nomatch h) fun D ρ w _ hs => L_ldW (cs := (vc ((allE l2).known)) ++ [(.slice x13.1.1 (((allE l2).ents).length) x13.1.2 : Value), (.slice x13.2.1 (((allE l2).ticks).length) x13.2.2 : Value) ]) SA_62 hs 6 rfl rfl rfl ⟨rfl, hs⟩
            · exact obg [3] [] true rfl (fun _ => rfl) rfl (fun _ _ _ h => nomatch h) fun D ρ w _ hs => L_move (V := .int .u16 n) rfl ⟨rfl, hs⟩
            · exact obg [3, 4, 5] [] true rfl (fun _ => rfl) rfl (fun _ _ _ h => nomatch h) fun D ρ w _ hs => L_callX (α := Option Addr × Nat) (vs := [.agg ((vc ((allE l2).known)) ++ [(.slice x13.1.1 (((allE l2).ents).length) x13.1.2 : Value), (.slice x13.2.1 (((allE l2).ticks).length) x13.2.2 : Value) ]).toArray, .int .u16 n]) (V := fun x => .agg #[.int .u16 ((viewP l2 n).cart), .slice x.1 (((viewP l2 n).lines).length) x.2, .bool ((viewP l2 n).out), .int .u32 ((viewP l2 n).tick)]) (Lo := fun x => [row (.slice x.1 ((viewP l2 n).lines).length x.2) (((viewP l2 n).lines).map lc) 102 2]) (F := fun _ _ => True) EN_34 rfl rfl (cViewE_ok _ (allE l2) x13.1.1 x13.1.2 x13.2.1 x13.2.2 n (viewP l2 n : Vw) (view_all hql2 n) hql2.ok (by omega) (by omega) (hs.rd 4 rfl) (hs.rd 5 rfl)) hs fun _ _ hs _ => ⟨rfl, hs.put 10 (Nat.le_of_ble_eq_true rfl)⟩
            · exact obg [3, 6] [] true rfl (fun _ => rfl) rfl (fun _ _ _ h => nomatch h) fun D ρ w _ hs => L_fieldV (V := .bool ((viewP l2 n).out)) (fun w => by simp [Instr.field, part, asAgg]) rfl ⟨rfl, hs⟩
            · exact obg [3] [] true rfl (fun _ => rfl) rfl (fun _ _ _ h => nomatch h) fun D ρ w _ hs => L_ldW (cs := (vc ((allE l).known)) ++ [(.slice x7.1.1 (((allE l).ents).length) x7.1.2 : Value), (.slice x7.2.1 (((allE l).ticks).length) x7.2.2 : Value) ]) SA_62 hs 3 rfl rfl rfl ⟨rfl, hs⟩
            · exact obg [3] [] true rfl (fun _ => rfl) rfl (fun _ _ _ h => nomatch h) fun D ρ w _ hs => L_move (V := .int .u16 n) rfl ⟨rfl, hs⟩
            · exact obg [3, 8, 9] [] true rfl (fun _ => rfl) rfl (fun _ _ _ h => nomatch h) fun D ρ w _ hs => L_callX (α := Option Addr × Nat) (vs := [.agg ((vc ((allE l).known)) ++ [(.slice x7.1.1 (((allE l).ents).length) x7.1.2 : Value), (.slice x7.2.1 (((allE l).ticks).length) x7.2.2 : Value) ]).toArray, .int .u16 n]) (V := fun x => .agg #[.int .u16 ((viewP l n).cart), .slice x.1 (((viewP l n).lines).length) x.2, .bool ((viewP l n).out), .int .u32 ((viewP l n).tick)]) (Lo := fun x => [row (.slice x.1 ((viewP l n).lines).length x.2) (((viewP l n).lines).map lc) 102 2]) (F := fun _ _ => True) EN_34 rfl rfl (cViewE_ok _ (allE l) x7.1.1 x7.1.2 x7.2.1 x7.2.2 n (viewP l n : Vw) (view_all hq n) hq.ok (by omega) (by omega) (hs.rd 1 rfl) (hs.rd 2 rfl)) hs fun _ _ hs _ => ⟨rfl, hs.put 11 (Nat.le_of_ble_eq_true rfl)⟩
            · exact obg [3, 10] [] true rfl (fun _ => rfl) rfl (fun _ _ _ h => nomatch h) fun D ρ w _ hs => L_fieldV (V := .bool ((viewP l n).out)) (fun w => by simp [Instr.field, part, asAgg]) rfl ⟨rfl, hs⟩
            · exact obg [3, 7, 11] [] true rfl (fun _ => rfl) rfl (fun _ _ _ h => nomatch h) fun D ρ w _ hs => opW_to (V := .bool (((viewP l2 n).out) == ((viewP l n).out))) (V' := .bool true) (L_eqb UDR_4 rfl rfl ⟨rfl, rfl⟩) (congrArg Value.bool (by rw [hsl.2.2]; exact beqT rfl)) ⟨rfl, hs⟩
            · exact ob [3, 12] [] rfl rfl fun D ρ w hs => L_pick (V := .bool true) rfl rfl ⟨rfl, hs⟩
            · exact ob [13] [] rfl rfl fun D ρ w hs => L_assign (V := .bool true) rfl ⟨rfl, hs⟩
            rintro ρ1 w41 ρ2 hρ hs
            replace hρ : ρ2 = upd (mix [108, 109, 110, 111, 112, 113, 114, 115, 116, 117, 118, 119, 120, 121, 4] ρ1 _) 4 (.bool true) := hρ
            replace hs : Own w no w41 [blk b1 [.int .u16 n, .int .u16 it, .int .u16 q] 100, row (.slice x7.1.1 (((allE l).ents).length) x7.1.2) (((allE l).ents).map cec) 128 7, row (.slice x7.2.1 (((allE l).ticks).length) x7.2.2) (((allE l).ticks).map lsc) 126 2, blk b8 ((vc ((allE l).known)) ++ [(.slice x7.1.1 (((allE l).ents).length) x7.1.2 : Value), (.slice x7.2.1 (((allE l).ticks).length) x7.2.2 : Value) ]) 62, row (.slice x13.1.1 (((allE l2).ents).length) x13.1.2) (((allE l2).ents).map cec) 128 7, row (.slice x13.2.1 (((allE l2).ticks).length) x13.2.2) (((allE l2).ticks).map lsc) 126 2, blk b14 ((vc ((allE l2).known)) ++ [(.slice x13.1.1 (((allE l2).ents).length) x13.1.2 : Value), (.slice x13.2.1 (((allE l2).ticks).length) x13.2.2 : Value) ]) 62, row (.slice x18.1 (((viewP l2 n).lines).length) x18.2) (((viewP l2 n).lines).map lc) 102 2, row (.slice an out.length cn) (out.map lc) 102 2, row (.slice x31.1 (((viewP l n).lines).length) x31.2) (((viewP l n).lines).map lc) 102 2, row (.slice (aOf (aggS (ρ1 114) 1)) (((viewP l2 n).lines).length) (cOf (aggS (ρ1 114) 1))) (((viewP l2 n).lines).map lc) 102 2, row (.slice (aOf (aggS (ρ1 118) 1)) (((viewP l n).lines).length) (cOf (aggS (ρ1 118) 1))) (((viewP l n).lines).map lc) 102 2] := hs
            generalize (aOf (aggS (ρ1 114) 1)) = na42 at hs
            generalize (cOf (aggS (ρ1 114) 1)) = nc43 at hs
            generalize (aOf (aggS (ρ1 118) 1)) = na44 at hs
            generalize (cOf (aggS (ρ1 118) 1)) = nc45 at hs
            subst hρ
            refine W_ret ?_
            refine ⟨_, res_one (V := .bool true) Try.results11 rfl, ?_⟩
            refine ⟨congrArg Ending.returned ?_, hs.take 0⟩
            rfl
end Tt
end Go.Proofs
namespace Go.Vx
open Go.RowKit Go.ChangeShapes Go.WideShapes Go.ChangeAt
theorem O_opn {P : Program} {t td tv : TypeId} {f0 f1 f2 f3 f4 f5 f6 : Field} (ht : P.underlying t = some (.struct #[f0, f1, f2, f3, f4, f5, f6]))
    (hoff : [f0.offset, f1.offset, f2.offset, f3.offset, f4.offset, f5.offset, f6.offset] = [0, 2, 3, 4, 5, 6, 7])
    (hty : [f0.type, f6.type] = [td, tv])
    (hD : OpenT P td dc DotOk) (hV : OpenT P tv vc VecOk)
    (u1 : P.underlying f1.type = some (.int .u8)) (u2 : P.underlying f2.type = some (.int .u16)) (u3 : P.underlying f3.type = some (.int .u16)) (u4 : P.underlying f4.type = some (.int .u16)) (u5 : P.underlying f5.type = some (.int .u32))
    (hc : [P.cellsOf f0.type, P.cellsOf f1.type, P.cellsOf f2.type, P.cellsOf f3.type, P.cellsOf f4.type, P.cellsOf f5.type, P.cellsOf f6.type] = [2, 1, 1, 1, 1, 1, 16]) (hct : P.cellsOf t = 23) : OpenT P t oc OpnOk := by
  intro H enc w base spare held fuel cs x h
  obtain ⟨xs, m, _, _, hl, hxl, hx⟩ := DataW.trod_struct ht h
  rw [hct] at hl
  have g0 := hx 0 f0 rfl
  have g1 := hx 1 f1 rfl
  have g2 := hx 2 f2 rfl
  have g3 := hx 3 f3 rfl
  have g4 := hx 4 f4 rfl
  have g5 := hx 5 f5 rfl
  have g6 := hx 6 f6 rfl
  have hx2 : xs.length = 7 := by simpa using hxl
  simp only [List.cons.injEq, and_true] at hoff hty hc
  obtain ⟨o0, o1, o2, o3, o4, o5, o6⟩ := hoff
  obtain ⟨c0, c1, c2, c3, c4, c5, c6⟩ := hc
  obtain ⟨t0, t6⟩ := hty
  rw [List.getElem?_eq_getElem (by omega)] at g0 g1 g2 g3 g4 g5 g6
  rw [o0, c0, t0] at g0
  rw [o1, c1] at g1
  rw [o2, c2] at g2
  rw [o3, c3] at g3
  rw [o4, c4] at g4
  rw [o5, c5] at g5
  rw [o6, c6, t6] at g6
  obtain ⟨d, hd, e0⟩ := hD _ _ _ _ _ _ _ _ _ g0
  obtain ⟨k, hk, e1⟩ := O_int u1 _ _ _ _ _ _ _ _ _ g1
  obtain ⟨c, hc', e2⟩ := O_int u2 _ _ _ _ _ _ _ _ _ g2
  obtain ⟨i, hi, e3⟩ := O_int u3 _ _ _ _ _ _ _ _ _ g3
  obtain ⟨q, hq, e4⟩ := O_int u4 _ _ _ _ _ _ _ _ _ g4
  obtain ⟨tk, htk, e5⟩ := O_int u5 _ _ _ _ _ _ _ _ _ g5
  obtain ⟨v, hv, e6⟩ := hV _ _ _ _ _ _ _ _ _ g6
  refine ⟨⟨d, k, c, i, q, tk, v⟩, ⟨hd, inK_u8 hk, inK_u16 hc', inK_u16 hi, inK_u16 hq, inK_u32 htk, hv⟩, ?_⟩
  match cs, hl with
  | x0 :: x1 :: x2 :: x3 :: x4 :: x5 :: x6 :: R, hR =>
    have e6' : R = vc v := by
      simp only [List.drop_succ_cons, List.drop_zero] at e6
      rw [List.take_of_length_le (by simp at hR; omega)] at e6; exact e6
    simp [ic, dc] at e0 e1 e2 e3 e4 e5
    rw [e0.1, e0.2, e1, e2, e3, e4, e5, e6']
    rfl
end Go.Vx
namespace Go.Vx
open Go.RowKit Go.ChangeShapes Go.WideShapes Go.ChangeAt
def pc3 (p : Int × Int × Int) : List Value := [.int .u16 p.1, .int .u16 p.2.1, .int .u16 p.2.2]
theorem O_pc3 {P : Program} {t el : TypeId} (ht : P.underlying t = some (.array 3 el)) (he : P.underlying el = some (.int .u16)) (hc : P.cellsOf el = 1) (hct : P.cellsOf t = 3) : OpenT P t pc3 (fun p => (0 ≤ p.1 ∧ p.1 < 65536) ∧ (0 ≤ p.2.1 ∧ p.2.1 < 65536) ∧ (0 ≤ p.2.2 ∧ p.2.2 < 65536)) := by
  intro H enc w base spare held fuel cs x h
  obtain ⟨xs, m, _, _, hl, hxl, hx⟩ := DataW.trod_array ht h
  rw [hct] at hl
  have each : ∀ i, i < 3 → ∃ a, inK .u16 a ∧ cs[i]? = some (.int .u16 a) := by
    intro i hi
    have h1 := hx i hi
    rw [hc, List.getElem?_eq_getElem (by omega)] at h1
    obtain ⟨a, ha, he⟩ := O_int he _ _ _ _ _ _ _ _ _ h1
    refine ⟨a, ha, ?_⟩
    have h2 : ((cs.drop (i * 1)).take 1)[0]? = some (.int .u16 a) := by rw [he]; rfl
    simpa [List.getElem?_take, List.getElem?_drop] using h2
  obtain ⟨a, ha, e0⟩ := each 0 (by omega)
  obtain ⟨b, hb, e1⟩ := each 1 (by omega)
  obtain ⟨c, hc', e2⟩ := each 2 (by omega)
  refine ⟨(a, b, c), ⟨inK_u16 ha, inK_u16 hb, inK_u16 hc'⟩, ?_⟩
  match cs, hl, e0, e1, e2 with
  | [x, y, z], _, e0, e1, e2 =>
    cases e0
    cases e1
    cases e2
    rfl
end Go.Vx
namespace Go.Proofs.Ythbbcjimiemdgaa
open Go.RowKit Go.Vx
theorem Try.own : ownKnob Try.prog.godebug = none := by kernel_rfl
theorem Try.laidOut : laidOutB Try.prog = true := by kernel_rfl
theorem O53 : OpenT Try.prog 53 vc VecOk := O_vec Try.underlying53 Try.underlying51 (by kernel_rfl) (by kernel_rfl)
theorem O96 : OpenT Try.prog 96 dc DotOk := O_dot Try.underlying96 rfl rfl Try.underlying5 Try.underlying51 (by kernel_rfl) (by kernel_rfl) (by kernel_rfl)
theorem O98 : OpenT Try.prog 98 oc OpnOk := O_opn Try.underlying98 rfl rfl O96 O53 Try.underlying5 Try.underlying70 Try.underlying70 Try.underlying70 Try.underlying51 (by kernel_rfl) (by kernel_rfl)
theorem O100 : OpenT Try.prog 100 pc3 (fun p => (0 ≤ p.1 ∧ p.1 < 65536) ∧ (0 ≤ p.2.1 ∧ p.2.1 < 65536) ∧ (0 ≤ p.2.2 ∧ p.2.2 < 65536)) := O_pc3 Try.underlying100 Try.underlying70 (by kernel_rfl) (by kernel_rfl)
end Go.Proofs.Ythbbcjimiemdgaa
namespace Go.Vx
open Go.RowKit Go.Shelf Go.Sort Go.Proofs
theorem own_grow {w w' : World} {L : List Res} (h : Own w no w' L) : ∃ q os, w' = grow (w.drewN q) os := by
  refine ⟨w'.drawn - w.drawn, w'.heap.extract w.heap.size w'.heap.size, ?_⟩
  have hd : w.drawn + (w'.drawn - w.drawn) = w'.drawn := by have := h.tape.2; omega
  have hh : w.heap ++ w'.heap.extract w.heap.size w'.heap.size = w'.heap := by
    apply Array.ext_getElem?
    intro i
    by_cases hi : i < w.heap.size
    · rw [Array.getElem?_append_left hi, h.old i hi (fun h => h)]
    · rw [Array.getElem?_append_right (by omega)]
      have := h.size
      simp only [Array.getElem?_extract]
      split
      · congr 1; omega
      · rw [Array.getElem?_eq_none (by omega)]
  have h1 := h.os
  have h2 := h.tape.1
  have h3 := h.output
  cases w' with
  | mk heap tape drawn os output =>
    cases w with
    | mk heap0 tape0 drawn0 os0 output0 =>
      simp only at h1 h2 h3 hd hh
      subst h1; subst h2; subst h3
      simp [grow, World.drewN, hh, hd]
section
variable {P : Program} {ρ : Ren} {α : Type} [Inhabited α]
theorem flatK_at {enc : α → List Value} {k : Nat} {l : List α} (hk : ∀ x, (enc x).length = k) {j : Nat} (hj : j < l.length * k) : (l.map enc).flatten[j]? = some (flatK enc k l.toArray)[j]! := by
  have hk0 : 0 < k := by
    rcases Nat.eq_zero_or_pos k with h | h
    · subst h; simp at hj
    · exact h
  have hi : j / k < l.length := Nat.div_lt_of_lt_mul (by rw [Nat.mul_comm]; exact hj)
  have hm : j % k < k := Nat.mod_lt _ hk0
  have e1 : (l.map enc)[j / k]? = some (enc l[j / k]) := by simp [hi]
  have e2 : (enc l[j / k])[j % k]? = some (enc l[j / k])[j % k]! := by
    rw [List.getElem?_eq_getElem (by rw [hk]; exact hm), List.getElem!_eq_getElem?_getD, List.getElem?_eq_getElem (by rw [hk]; exact hm)]
    rfl
  have h := flat_at (l.map enc) k (len_map hk l) (j / k) (j % k) _ _ e1 e2
  rw [Nat.mul_comm, Nat.div_add_mod] at h
  rw [h, get_flatK enc k l.toArray j (by simpa using hj)]
  simp [hi]
theorem own_sorted {enc : α → List Value} {k : Nat} {w : World} {S : Nat → Prop} {g cap T n : Nat} {l m : List α} {os : Array Obj} (hk : ∀ x, (enc x).length = k) (h1 : ∀ x, ∀ v ∈ enc x, v.oneCell' = true)
    (hR : (row (.slice (some ⟨g, 0, none⟩) l.length cap) (l.map enc) T k).holds w S) (hlt : ∀ b, S b → b < w.heap.size) (hlen : m.length = l.length) :
    Own w S (sortWorldK enc k w g 0 n m.toArray os) [row (.slice (some ⟨g, 0, none⟩) l.length cap) (m.map enc) T k] := by
  obtain ⟨_, hown, hS⟩ := hR
  have hSg := hS g rfl
  have hgl := hlt g hSg
  rcases hown.2 with ⟨hv, _⟩ | ⟨g', cap', cur, hv, _, hg, hnc, hcm, hcs, htake⟩
  · cases hv
  · simp only [Value.slice.injEq, Option.some.injEq, Addr.mk.injEq, and_true] at hv
    obtain ⟨rfl, hn, rfl⟩ := hv
    simp only [List.length_map] at hnc htake hn
    have hX : ∀ c, c < w.heap.size → (sortWorldK enc k w g 0 n m.toArray os).heap[c]? = (w.heap.modify g (onCells (putCells id 0 (flatK enc k m.toArray))))[c]? := by
      intro c hc
      show ((w.heap.modify g (onCells (putCells id 0 (flatK enc k m.toArray)))) ++ os)[c]? = _
      rw [Array.getElem?_append_left (by simpa using hc)]
    have hXg : (sortWorldK enc k w g 0 n m.toArray os).heap[g]? = some (.cells (putCells id 0 (flatK enc k m.toArray) cur) T (0, 0)) := by
      rw [hX g hgl, Array.getElem?_modify, if_pos rfl, hg]; rfl
    have hXo : ∀ c, c < w.heap.size → c ≠ g → (sortWorldK enc k w g 0 n m.toArray os).heap[c]? = w.heap[c]? := by
      intro c hc hne
      rw [hX c hc, Array.getElem?_modify, if_neg (fun e => hne e.symm)]
    have hsz : (sortWorldK enc k w g 0 n m.toArray os).heap.size = w.heap.size + os.size := by
      show ((w.heap.modify g (onCells (putCells id 0 (flatK enc k m.toArray)))) ++ os).size = _
      simp
    refine ⟨rfl, ⟨rfl, Nat.le_add_right _ _⟩, rfl, by omega, fun b hb hm => hXo b hb (fun e => hm (e ▸ hSg)), fun j b => j = 0 ∧ b = g, fun j R hj => ?_, fun j b hb => by rw [hb.2]; omega, fun j j' b hb hb' => hb.1.trans hb'.1.symm, fun j b hb _ => by rw [hb.2]; exact hSg⟩
    cases j with
    | succ j => simp at hj
    | zero =>
      simp only [List.getElem?_cons_zero, Option.some.injEq] at hj
      subst hj
      refine ⟨⟨len_map hk m, one_map h1 m⟩, ⟨?_, .inr ⟨g, cap, _, by rw [List.length_map, hlen], Nat.zero_le _, hXg, by rw [List.length_map]; omega, hcm, by unfold putCells; simpa using hcs, ?_⟩⟩, fun g' hg' => by cases hg'; exact ⟨rfl, rfl⟩⟩
      · rw [flat_len _ (len_map hk m)]
      · apply List.ext_getElem?
        intro j
        rw [List.getElem?_take, List.length_map]
        by_cases hj : j < m.length * k
        · have hjc : j < cur.size := by
            rw [hcs]
            exact Nat.lt_of_lt_of_le hj (Nat.mul_le_mul_right _ (by omega))
          rw [if_pos hj, flatK_at hk hj, Array.getElem?_toList]
          unfold putCells
          rw [Array.getElem?_mapIdx, Array.getElem?_eq_getElem hjc]
          simp [hj]
        · rw [if_neg hj, List.getElem?_eq_none (by rw [flat_len _ (len_map hk m), List.length_map]; omega)]
theorem sortC_of (L : SlLaysF0.n6 P ρ) {k T g : Nat} {enc : α → List Value} {cf : α → α → Int} (aE : ∀ w, (isAgg (ρ.t 24)).run P w = .ok true w) (zE : ∀ w, (Go.sizeOf (ρ.t 24)).run P w = .ok k w) (hk : ∀ x, (enc x).length = k) (h1 : ∀ x, ∀ v ∈ enc x, v.oneCell' = true)
    (hO : SWO (ltOf cf)) (hg : En P g) (hc : ∀ w x y, Calls P g #[.agg (enc x).toArray, .agg (enc y).toArray] w fun e w' => e = .returned (.int .i64 (cf x y)) ∧ Own w no w' [])
    (hnil : ∀ w, Calls P (ρ.f 6) #[.slice none 0 0, .func (.func g) #[] #[]] w fun e w' => e = .returned (.tuple #[]) ∧ w' = w) :
    SortC P (ρ.f 6) g enc T k (fun l m => m.Perm l ∧ m.Pairwise fun x y => ¬ cf y x < 0) := by
  intro w S a c l hR hlt hsz
  have hR' := hR
  obtain ⟨_, hown, hS⟩ := hR
  rcases hown.2 with ⟨hv, hn⟩ | ⟨b, cap, cur, hv, _, hb, hnc, hcm, hcs, htake⟩
  · have hl : l = [] := by simpa using hn
    subst hl
    simp only [List.length_nil, Value.slice.injEq] at hv
    obtain ⟨rfl, _, rfl⟩ := hv
    exact (hnil w).mono fun e w' ⟨he, hw⟩ => ⟨⟨[], List.Perm.refl _, List.Pairwise.nil⟩, he, by subst hw; exact Own.lent hR' hlt, trivial⟩
  · simp only [Value.slice.injEq, List.length_map] at hv
    obtain ⟨rfl, _, rfl⟩ := hv
    have hbl := hlt b (hS b rfl)
    have hH : HoldsK enc k w b 0 l.toArray := by
      intro j hj
      have hj' : j < l.length * k := by simpa using hj
      rw [Nat.zero_add]
      refine ⟨?_, frozen_of_row w b _ _ _ hb⟩
      rw [cell_of_row w b j _ _ _ hb]
      have h2 := flatK_at (l := l) hk hj'
      rw [← htake, List.getElem?_take, List.length_map, if_pos hj'] at h2
      simpa using h2
    have hcmp : CmpLays P g #[] enc k cf b 0 l.toArray.size w := fun m os dk _ x y =>
      (hc _ x y).mono fun e w' ⟨he, ho⟩ => ⟨he, own_grow ho⟩
    refine (AnyQ.slices_SortFunc L k aE zE enc hk h1 cf hO g #[] b 0 c l.toArray w hg hcmp hH hbl (by simpa using hsz)).mono ?_
    rintro e w' ⟨he, d', n, os, hp, hs, rfl⟩
    obtain ⟨hp1, _, hp2⟩ := hp
    have hsz' : d'.toList.length = l.length := by simpa using hp1
    refine ⟨⟨d'.toList, ?_, ?_⟩, he, ?_, trivial⟩
    · have e1 : d'.extract 0 l.toArray.size = d' := by rw [← hp1]; simp
      have e2 : l.toArray.extract 0 l.toArray.size = l.toArray := by simp
      rw [e1, e2] at hp2
      simpa using hp2
    · rw [List.pairwise_iff_getElem]
      intro i j hi hj hij
      have h3 := hs i j (Nat.zero_le _) hij (by rw [← hp1]; simpa using hj)
      unfold ltOf at h3
      have e1 : d'[i]! = d'.toList[i] := by simp at hi; simp [hi]
      have e2 : d'[j]! = d'.toList[j] := by simp at hj; simp [hj]
      rw [e1, e2] at h3
      simpa using h3
    · have := own_sorted (n := n) (os := os) hk h1 hR' hlt hsz'
      simpa using this
end
end Go.Vx
namespace Go.Proofs
open Go.Shelf
def Try.sortE_ren : Go.Shelf.Ren := ⟨fun | 6 => 63 | 15 => 102 | 14 => 101 | 28 => 133 | 29 => 134 | 20 => 125 | 21 => 126 | 22 => 127 | 23 => 128 | 24 => 129 | 25 => 130 | 26 => 131 | 27 => 132 | 46 => 153 | 47 => 154 | 48 => 155 | 49 => 156 | 50 => 157 | 57 => 166 | n => n, fun | 22 => 59 | 24 => 128 | 25 => 132 | 3 => 3 | 39 => 170 | 0 => 0 | 53 => 51 | 55 => 92 | 4 => 4 | 46 => 191 | 45 => 190 | 50 => 139 | 5 => 5 | 9 => 9 | 66 => 210 | 70 => 214 | 76 => 220 | 77 => 221 | n => n, fun | n => n⟩
theorem Try.sortE : Go.Proofs.SlLaysF0.n6 Try.prog Try.sortE_ren := {
  mixed := by kernel_rfl
  f6 := ⟨Try.f63.name, by decide, Try.func63.trans (congrArg some (by kernel_rfl))⟩
  f14 := ⟨Try.f101.name, by decide, Try.func101.trans (congrArg some (by kernel_rfl))⟩
  f15 := Try.func102.trans (congrArg some (by kernel_rfl))
  f20 := ⟨Try.f125.name, by decide, Try.func125.trans (congrArg some (by kernel_rfl))⟩
  f21 := ⟨Try.f126.name, by decide, Try.func126.trans (congrArg some (by kernel_rfl))⟩
  f22 := ⟨Try.f127.name, by decide, Try.func127.trans (congrArg some (by kernel_rfl))⟩
  f23 := ⟨Try.f128.name, by decide, Try.func128.trans (congrArg some (by kernel_rfl))⟩
  f24 := ⟨Try.f129.name, by decide, Try.func129.trans (congrArg some (by kernel_rfl))⟩
  f25 := ⟨Try.f130.name, by decide, Try.func130.trans (congrArg some (by kernel_rfl))⟩
  f26 := ⟨Try.f131.name, by decide, Try.func131.trans (congrArg some (by kernel_rfl))⟩
  f27 := ⟨Try.f132.name, by decide, Try.func132.trans (congrArg some (by kernel_rfl))⟩
  f28 := Try.func133.trans (congrArg some (by kernel_rfl))
  f29 := Try.func134.trans (congrArg some (by kernel_rfl))
  f46 := ⟨Try.f153.name, by decide, Try.func153.trans (congrArg some (by kernel_rfl))⟩
  f47 := Try.func154.trans (congrArg some (by kernel_rfl))
  f48 := Try.func155.trans (congrArg some (by kernel_rfl))
  f49 := ⟨Try.f156.name, by decide, Try.func156.trans (congrArg some (by kernel_rfl))⟩
  f50 := ⟨Try.f157.name, by decide, Try.func157.trans (congrArg some (by kernel_rfl))⟩
  f57 := ⟨Try.f166.name, by decide, Try.func166.trans (congrArg some (by kernel_rfl))⟩
  t0 := Try.underlying0
  a0 := Try.isAgg0
  z0 := Try.sizeOf0
  v0 := Try.zeroValue0
  t3 := Try.underlying3
  a3 := Try.isAgg3
  z3 := Try.sizeOf3
  v3 := Try.zeroValue3
  t4 := Try.underlying4
  a4 := Try.isAgg4
  z4 := Try.sizeOf4
  v4 := Try.zeroValue4
  t5 := Try.underlying5
  a5 := Try.isAgg5
  z5 := Try.sizeOf5
  v5 := Try.zeroValue5
  t9 := Try.underlying9
  a9 := Try.isAgg9
  z9 := Try.sizeOf9
  v9 := Try.zeroValue9
  t22 := Try.underlying59
  a22 := Try.isAgg59
  z22 := Try.sizeOf59
  v22 := Try.zeroValue59
  t25 := Try.underlying132
  a25 := Try.isAgg132
  z25 := Try.sizeOf132
  v25 := Try.zeroValue132
  t39 := Try.underlying170
  a39 := Try.isAgg170
  z39 := Try.sizeOf170
  v39 := Try.zeroValue170
  t45 := Try.underlying190
  a45 := Try.isAgg190
  z45 := Try.sizeOf190
  v45 := Try.zeroValue190
  t46 := Try.underlying191
  a46 := Try.isAgg191
  z46 := Try.sizeOf191
  v46 := Try.zeroValue191
  t50 := Try.underlying139
  a50 := Try.isAgg139
  z50 := Try.sizeOf139
  v50 := Try.zeroValue139
  t53 := Try.underlying51
  a53 := Try.isAgg51
  z53 := Try.sizeOf51
  v53 := Try.zeroValue51
  t55 := Try.underlying92
  a55 := Try.isAgg92
  z55 := Try.sizeOf92
  v55 := Try.zeroValue92
  t66 := Try.underlying210
  a66 := Try.isAgg210
  z66 := Try.sizeOf210
  v66 := Try.zeroValue210
  t70 := Try.underlying214
  a70 := Try.isAgg214
  z70 := Try.sizeOf214
  v70 := Try.zeroValue214
  t76 := Try.underlying220
  a76 := Try.isAgg220
  z76 := Try.sizeOf220
  v76 := Try.zeroValue220
  t77 := Try.underlying221
  a77 := Try.isAgg221
  z77 := Try.sizeOf221
  v77 := Try.zeroValue221 }
end Go.Proofs
namespace Go.Proofs.Ythbbcjimiemdgaa
open Go.Vx Go.Sort Go.Proofs
theorem swoE : SWO (ltOf placeI) where
  irrefl x := by unfold ltOf; rw [decide_eq_false_iff_not, place_lt, ahead_irrefl]; decide
  trans x y z h1 h2 := by unfold ltOf at *; rw [decide_eq_true_iff, place_lt] at *; exact ahead_trans h1 h2
  ntrans x y z h1 h2 := by unfold ltOf at *; rw [decide_eq_false_iff_not, place_lt, ahead_iff] at *; omega
theorem sortsE : SortC Try.prog 63 64 cec 128 7 srtE :=
  sortC_of (ρ := Try.sortE_ren) (k := 7) (T := 128) Try.sortE Try.isAgg128 Try.sizeOf128 (fun _ => rfl) cec_one swoE Try.call64 (fun w x y => Tt.place_ok w x y) (fun w => AnyF.slices_SortFunc_none Try.sortE none 0 _ w)
end Go.Proofs.Ythbbcjimiemdgaa
