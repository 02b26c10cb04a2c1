/- A part of a proof: what functions of the program compute, and plain facts on that. -/
import Derived.Test.YthbbcjimiemdgaaCartMergesP4
set_option linter.unusedVariables false
set_option linter.unusedSimpArgs false
namespace Go.Proofs
open Go Go.Vx Go.RowKit
namespace Tt
set_option maxRecDepth 20000 in
set_option maxHeartbeats 4000000 in
theorem olays_ok (w : World) (o : Opn) : Calls Try.prog 118 #[.agg (oc o).toArray] w (fun e w' => e = .returned (.bool (laysB o)) ∧ Own w no w' []) := by
  refine calls_of_Wn (n := 16) Try.func118 rfl Try.ntmps118 rfl ?_
  have hs := Own.start w
  refine W_seq ?_
  refine W_region ?_
  refine RW_op (L_box (V := .agg (oc o).toArray) (cs := oc o) rfl rfl hs fun b1 w2 hs => ?_)
  refine RW_op (L_assign (V := .bool false) rfl ?_)
  refine RW_nil ?_
  refine W_seq ?_
  refine W_regO [some 3, some 4, some 5, some 6, some 7, some 8, some 9, some 10, some 11, some 12, some 13, some 14, some 15, some 2] [] [0, 1, 3, 7, 15, 31, 63, 127, 255, 511, 1023, 2047, 4095, 8191] [pv (.pointer (some ⟨b1, 0 + 2, none⟩)), pv (.int .u8 o.kind), pv (.bool (decide (o.kind = 1))), pv (.bool (decide (o.kind = 1))), pg ((decide (o.kind = 1)) == false) (.pointer (some ⟨b1, 0 + 2, none⟩)), pg ((decide (o.kind = 1)) == false) (.int .u8 o.kind), pg ((decide (o.kind = 1)) == false) (.bool (decide (o.kind = 2))), pv (.bool ((decide (o.kind = 1)) || (decide (o.kind = 2)))), pv (.bool ((decide (o.kind = 1)) || (decide (o.kind = 2)))), pg (((decide (o.kind = 1)) || (decide (o.kind = 2))) == false) (.pointer (some ⟨b1, 0 + 2, none⟩)), pg (((decide (o.kind = 1)) || (decide (o.kind = 2))) == false) (.int .u8 o.kind), pg (((decide (o.kind = 1)) || (decide (o.kind = 2))) == false) (.bool (decide (o.kind = 4))), pv (.bool (((decide (o.kind = 1)) || (decide (o.kind = 2))) || (decide (o.kind = 4)))), pv (.bool (((decide (o.kind = 1)) || (decide (o.kind = 2))) || (decide (o.kind = 4))))] (fun _ _ => _) [13] (by kernel_rfl) hs ⟨?_, ?_, ?_, ?_, ?_, ?_, ?_, ?_, ?_, ?_, ?_, ?_, ?_, ?_, trivial⟩ ?_
  · exact ob [] [] rfl rfl fun D ρ w hs => L_fieldAddr FA_98_1 rfl ⟨rfl, hs⟩
  · exact ob [0] [] rfl rfl fun D ρ w hs => L_ld (V := .int .u8 o.kind) S1_5 hs 0 rfl rfl rfl ⟨rfl, hs⟩
  · exact ob [1] [] rfl rfl fun D ρ w hs => L_eql rfl rfl ⟨rfl, hs⟩
  · exact ob [2] [] rfl rfl fun D ρ w hs => L_move (V := .bool (decide (o.kind = 1))) rfl ⟨rfl, hs⟩
  · exact obg [3] [] (decide (o.kind = 1)) rfl (fun _ => rfl) rfl (fun _ _ _ _ h => h) fun D ρ w hG hs => L_fieldAddr FA_98_1 rfl ⟨rfl, hs⟩
  · exact obgy [3, 4] [] [4] (decide (o.kind = 1)) rfl (fun _ => rfl) rfl (fun _ _ _ _ h => h) (fun hG => ⟨hG, trivial⟩) fun D ρ w hG hs => L_ld (V := .int .u8 o.kind) S1_5 hs 0 rfl rfl rfl ⟨rfl, hs⟩
  · exact obgy [3, 5] [] [5] (decide (o.kind = 1)) rfl (fun _ => rfl) rfl (fun _ _ _ _ h => h) (fun hG => ⟨hG, trivial⟩) fun D ρ w hG hs => L_eql rfl rfl ⟨rfl, hs⟩
  · exact ob [3, 6] [] rfl rfl fun D ρ w hs => L_orC (h' := decide (o.kind = 2)) rfl rfl rfl ⟨rfl, hs⟩
  · exact ob [7] [] rfl rfl fun D ρ w hs => L_move (V := .bool ((decide (o.kind = 1)) || (decide (o.kind = 2)))) rfl ⟨rfl, hs⟩
  · exact obg [8] [] ((decide (o.kind = 1)) || (decide (o.kind = 2))) rfl (fun _ => rfl) rfl (fun _ _ _ _ h => h) fun D ρ w hG hs => L_fieldAddr FA_98_1 rfl ⟨rfl, hs⟩
  · exact obgy [8, 9] [] [9] ((decide (o.kind = 1)) || (decide (o.kind = 2))) rfl (fun _ => rfl) rfl (fun _ _ _ _ h => h) (fun hG => ⟨hG, trivial⟩) fun D ρ w hG hs => L_ld (V := .int .u8 o.kind) S1_5 hs 0 rfl rfl rfl ⟨rfl, hs⟩
  · exact obgy [8, 10] [] [10] ((decide (o.kind = 1)) || (decide (o.kind = 2))) rfl (fun _ => rfl) rfl (fun _ _ _ _ h => h) (fun hG => ⟨hG, trivial⟩) fun D ρ w hG hs => L_eql rfl rfl ⟨rfl, hs⟩
  · exact ob [8, 11] [] rfl rfl fun D ρ w hs => L_orC (h' := decide (o.kind = 4)) rfl rfl rfl ⟨rfl, hs⟩
  · exact ob [12] [] rfl rfl fun D ρ w hs => L_assign (V := .bool (((decide (o.kind = 1)) || (decide (o.kind = 2))) || (decide (o.kind = 4)))) rfl ⟨rfl, hs⟩
  rintro ρ1 w3 ρ2 hρ hs
  replace hρ : ρ2 = upd (mix [3, 4, 5, 6, 7, 8, 9, 10, 11, 12, 13, 14, 15, 2] ρ1 _) 2 (.bool (((decide (o.kind = 1)) || (decide (o.kind = 2))) || (decide (o.kind = 4)))) := hρ
  subst hρ
  refine W_ret ?_
  refine ⟨_, res_one (V := .bool (((decide (o.kind = 1)) || (decide (o.kind = 2))) || (decide (o.kind = 4)))) Try.results118 rfl, ?_⟩
  refine ⟨congrArg Ending.returned ?_, hs.take 0⟩
  rfl
set_option maxRecDepth 20000 in
set_option maxHeartbeats 4000000 in
theorem oCount_ok (w : World) (o : Opn) (ho : VecOk o.ctx) : Calls Try.prog 88 #[.agg (oc o).toArray] w (fun e w' => e = .returned (.int .u64 (cntO o)) ∧ Own w no w' []) := by
  refine calls_of_Wn (n := 7) Try.func88 rfl Try.ntmps88 rfl ?_
  have hs := Own.start w
  refine W_seq ?_
  refine W_region ?_
  refine RW_op (L_box (V := .agg (oc o).toArray) (cs := oc o) rfl rfl hs fun b1 w2 hs => ?_)
  refine RW_op (L_assign (V := .int .u64 0) rfl ?_)
  refine RW_nil ?_
  refine W_seq ?_
  have hb := vsum_bd ho
  refine W_region ?_
  refine RW_op (L_fieldAddr FA_98_6 rfl ?_)
  refine RW_op (L_ldA (vs := vc o.ctx) SA_53 hs 0 rfl rfl rfl rfl ?_)
  refine RW_op (L_callP (vs := [.agg (vc o.ctx).toArray]) (V := .int .u64 (vsum o.ctx)) EN_119 rfl rfl ?hc hs fun w3 hs => ?_)
  case hc => exact (vSum_ok _ o.ctx (by first | assumption | exact vzero_ok))
  refine RW_op (L_add (a := vsum o.ctx) (b := 1) (c := (vsum o.ctx) + 1) rfl rfl (wr_u64 (by omega) (by omega)) ?_)
  refine RW_op (L_assign (V := .int .u64 ((vsum o.ctx) + 1)) rfl ?_)
  refine RW_nil ?_
  refine W_ret ?_
  refine ⟨_, res_one (V := .int .u64 ((vsum o.ctx) + 1)) Try.results88 rfl, ?_⟩
  refine ⟨congrArg Ending.returned ?_, hs.take 0⟩
  rfl
set_option maxRecDepth 20000 in
set_option maxHeartbeats 4000000 in
theorem oEnds_ok (w : World) (o e : Opn) (he : DotOk e.dot) : Calls Try.prog 86 #[.agg (oc o).toArray, .agg (oc e).toArray] w (fun r w' => r = .returned (.bool (endsB o e)) ∧ Own w no w' []) := by
  refine calls_of_Wn (n := 40) Try.func86 rfl Try.ntmps86 rfl ?_
  have hs := Own.start w
  refine W_seq ?_
  refine W_region ?_
  refine RW_op (L_box (V := .agg (oc o).toArray) (cs := oc o) rfl rfl hs fun b1 w2 hs => ?_)
  refine RW_op (L_box (V := .agg (oc e).toArray) (cs := oc e) rfl rfl hs fun b3 w4 hs => ?_)
  refine RW_op (L_assign (V := .bool false) rfl ?_)
  refine RW_nil ?_
  refine W_seq ?_
  refine W_seq ?_
  refine W_regO [some 5, some 6, some 7, some 8, some 9, some 10, some 11, some 12, some 13, some 14, some 15, some 16, some 17, some 18, some 19, some 20, some 21, some 22] [] [0, 1, 3, 7, 15, 31, 15, 79, 255, 511, 1023, 2047, 4095, 2047, 10239, 32767, 65535, 131071] [pv (.agg (oc e).toArray), pv (.bool (laysB e)), pv (.bool (!(laysB e))), pv (.bool (!(laysB e))), pg ((!(laysB e)) == false) (.pointer (some ⟨b1, 0 + 3, none⟩)), pg ((!(laysB e)) == false) (.int .u16 o.cart), pg ((!(laysB e)) == false) (.pointer (some ⟨b3, 0 + 3, none⟩)), pg ((!(laysB e)) == false) (.int .u16 e.cart), pg ((!(laysB e)) == false) (.bool (!decide (o.cart = e.cart))), pv (.bool ((!(laysB e)) || (!decide (o.cart = e.cart)))), pv (.bool ((!(laysB e)) || (!decide (o.cart = e.cart)))), pg (((!(laysB e)) || (!decide (o.cart = e.cart))) == false) (.pointer (some ⟨b1, 0 + 7, none⟩)), pg (((!(laysB e)) || (!decide (o.cart = e.cart))) == false) (.agg (vc o.ctx).toArray), pg (((!(laysB e)) || (!decide (o.cart = e.cart))) == false) (.pointer (some ⟨b3, 0 + 0, none⟩)), pg (((!(laysB e)) || (!decide (o.cart = e.cart))) == false) (.agg (dc e.dot).toArray), pg (((!(laysB e)) || (!decide (o.cart = e.cart))) == false) (.bool (hasB o.ctx e.dot)), pg (((!(laysB e)) || (!decide (o.cart = e.cart))) == false) (.bool (!(hasB o.ctx e.dot))), pv (.bool (((!(laysB e)) || (!decide (o.cart = e.cart))) || (!(hasB o.ctx e.dot))))] (fun _ _ => _) [17] (by kernel_rfl) hs ⟨?_, ?_, ?_, ?_, ?_, ?_, ?_, ?_, ?_, ?_, ?_, ?_, ?_, ?_, ?_, ?_, ?_, ?_, trivial⟩ ?_
  · exact ob [] [] rfl rfl fun D ρ w hs => L_ldW (cs := oc e) SA_98 hs 1 rfl rfl rfl ⟨rfl, hs⟩
  · exact ob [0] [] rfl rfl fun D ρ w hs => L_callP (vs := [.agg (oc e).toArray]) (V := .bool (laysB e)) EN_118 rfl rfl (olays_ok _ e) hs fun _ hs => ⟨rfl, hs⟩
  · exact ob [1] [] rfl rfl fun D ρ w hs => L_not rfl ⟨rfl, hs⟩
  · exact ob [2] [] rfl rfl fun D ρ w hs => L_move (V := .bool (!(laysB e))) rfl ⟨rfl, hs⟩
  · exact obg [3] [] (!(laysB e)) rfl (fun _ => rfl) rfl (fun _ _ _ _ h => h) fun D ρ w hG hs => L_fieldAddr FA_98_2 rfl ⟨rfl, hs⟩
  · exact obgy [3, 4] [] [4] (!(laysB e)) rfl (fun _ => rfl) rfl (fun _ _ _ _ h => h) (fun hG => ⟨hG, trivial⟩) fun D ρ w hG hs => L_ld (V := .int .u16 o.cart) S1_70 hs 0 rfl rfl rfl ⟨rfl, hs⟩
  · exact obg [3] [] (!(laysB e)) rfl (fun _ => rfl) rfl (fun _ _ _ _ h => h) fun D ρ w hG hs => L_fieldAddr FA_98_2 rfl ⟨rfl, hs⟩
  · exact obgy [3, 6] [] [6] (!(laysB e)) rfl (fun _ => rfl) rfl (fun _ _ _ _ h => h) (fun hG => ⟨hG, trivial⟩) fun D ρ w hG hs => L_ld (V := .int .u16 e.cart) S1_70 hs 1 rfl rfl rfl ⟨rfl, hs⟩
  · exact obgy [3, 5, 7] [] [5, 7] (!(laysB e)) rfl (fun _ => rfl) rfl (fun _ _ _ _ h => h) (fun hG => ⟨hG, hG, trivial⟩) fun D ρ w hG hs => L_neq rfl rfl ⟨rfl, hs⟩
  · exact ob [3, 8] [] rfl rfl fun D ρ w hs => L_orC (h' := !decide (o.cart = e.cart)) rfl rfl rfl ⟨rfl, hs⟩
  · exact ob [9] [] rfl rfl fun D ρ w hs => L_move (V := .bool ((!(laysB e)) || (!decide (o.cart = e.cart)))) rfl ⟨rfl, hs⟩
  · exact obg [10] [] ((!(laysB e)) || (!decide (o.cart = e.cart))) rfl (fun _ => rfl) rfl (fun _ _ _ _ h => h) fun D ρ w hG hs => L_fieldAddr FA_98_6 rfl ⟨rfl, hs⟩
  · exact obgy [10, 11] [] [11] ((!(laysB e)) || (!decide (o.cart = e.cart))) rfl (fun _ => rfl) rfl (fun _ _ _ _ h => h) (fun hG => ⟨hG, trivial⟩) fun D ρ w hG hs => L_ldA (vs := vc o.ctx) SA_53 hs 0 rfl rfl rfl rfl ⟨rfl, hs⟩
  · exact obg [10] [] ((!(laysB e)) || (!decide (o.cart = e.cart))) rfl (fun _ => rfl) rfl (fun _ _ _ _ h => h) fun D ρ w hG hs => L_fieldAddr FA_98_0 rfl ⟨rfl, hs⟩
  · exact obgy [10, 13] [] [13] ((!(laysB e)) || (!decide (o.cart = e.cart))) rfl (fun _ => rfl) rfl (fun _ _ _ _ h => h) (fun hG => ⟨hG, trivial⟩) fun D ρ w hG hs => L_ldA (vs := dc e.dot) SA_96 hs 1 rfl rfl rfl rfl ⟨rfl, hs⟩
  · exact obgy [10, 12, 14] [] [12, 14] ((!(laysB e)) || (!decide (o.cart = e.cart))) rfl (fun _ => rfl) rfl (fun _ _ _ _ h => h) (fun hG => ⟨hG, hG, trivial⟩) fun D ρ w hG hs => L_callP (vs := [.agg (vc o.ctx).toArray, .agg (dc e.dot).toArray]) (V := .bool (hasB o.ctx e.dot)) EN_62 rfl rfl (vHas_ok _ o.ctx e.dot (by first | assumption | exact dotOk_mk (by omega) (by omega) (by omega) (by omega))) hs fun _ hs => ⟨rfl, hs⟩
  · exact obgy [10, 15] [] [15] ((!(laysB e)) || (!decide (o.cart = e.cart))) rfl (fun _ => rfl) rfl (fun _ _ _ _ h => h) (fun hG => ⟨hG, trivial⟩) fun D ρ w hG hs => L_not rfl ⟨rfl, hs⟩
  · exact ob [10, 16] [] rfl rfl fun D ρ w hs => L_orC (h' := !(hasB o.ctx e.dot)) rfl rfl rfl ⟨rfl, hs⟩
  rintro ρ1 w7 ρ2 hρ hs
  replace hρ : ρ2 = upd (mix [5, 6, 7, 8, 9, 10, 11, 12, 13, 14, 15, 16, 17, 18, 19, 20, 21, 22] ρ1 _) 22 (.bool (((!(laysB e)) || (!decide (o.cart = e.cart))) || (!(hasB o.ctx e.dot)))) := hρ
  subst hρ
  refine W_cond (t := ((!(laysB e)) || (!decide (o.cart = e.cart))) || (!(hasB o.ctx e.dot))) rfl (fun c8 => ?_) (fun c8 => ?_)
  ·
    refine W_seq ?_
    refine W_region ?_
    refine RW_op (L_assign (V := .bool false) rfl ?_)
    refine RW_nil ?_
    refine W_ret ?_
    refine ⟨_, res_one (V := .bool false) Try.results86 rfl, ?_⟩
    refine ⟨congrArg Ending.returned ?_, hs.take 0⟩
    exact congrArg Value.bool (ends_no c8).symm
  ·
    have c8r := or_r c8
    replace c8 := or_l c8
    have c8rr := or_r c8
    replace c8 := or_l c8
    replace c8 := not_f c8
    replace c8rr := not_f c8rr
    replace c8rr := of_decide_eq_true c8rr
    replace c8r := not_f c8r
    refine W_skip ?_
    refine W_seq ?_
    refine W_seq ?_
    refine W_region ?_
    refine RW_op (L_fieldAddr FA_98_1 rfl ?_)
    refine RW_op (L_ld (V := .int .u8 o.kind) S1_5 hs 0 rfl rfl rfl ?_)
    refine RW_nil ?_
    refine W_block ?_
    refine W_seq ?_
    refine W_region ?_
    refine RW_op (L_eql rfl rfl ?_)
    refine RW_op (L_assign (V := .bool (decide (o.kind = 5))) rfl ?_)
    refine RW_nil ?_
    refine W_cond (t := decide (o.kind = 5)) rfl (fun c9 => ?_) (fun c9 => ?_)
    ·
      replace c9 := of_decide_eq_true c9
      refine W_seq ?_
      refine W_region ?_
      refine RW_op (L_assign (V := .bool true) rfl ?_)
      refine RW_nil ?_
      refine W_ret ?_
      refine ⟨_, res_one (V := .bool true) Try.results86 rfl, ?_⟩
      refine ⟨congrArg Ending.returned ?_, hs.take 0⟩
      rw [ends_if c8 c8rr c8r]
      refine congrArg Value.bool ?_
      simp_all
    ·
      replace c9 := of_decide_eq_false c9
      refine W_seq ?_
      refine W_seq ?_
      refine W_region ?_
      refine RW_op (L_eql rfl rfl ?_)
      refine RW_op (L_assign (V := .bool (decide (o.kind = 3))) rfl ?_)
      refine RW_nil ?_
      refine W_cond (t := decide (o.kind = 3)) rfl (fun c10 => ?_) (fun c10 => ?_)
      ·
        replace c10 := of_decide_eq_true c10
        refine W_skip ?_
        refine W_condT (congrArg Value.bool (decide_eq_true c10)) ?_
        refine W_seq ?_
        refine W_regO [some 30, some 31, some 32, some 33, some 34, some 35, some 36, some 37, some 38, some 39, some 4] [] [0, 1, 3, 7, 15, 31, 15, 79, 255, 511, 1023] [pv (.pointer (some ⟨b3, 0 + 2, none⟩)), pv (.int .u8 e.kind), pv (.bool (!decide (e.kind = 4))), pv (.bool (!decide (e.kind = 4))), pg ((!decide (e.kind = 4)) == true) (.pointer (some ⟨b1, 0 + 4, none⟩)), pg ((!decide (e.kind = 4)) == true) (.int .u16 o.item), pg ((!decide (e.kind = 4)) == true) (.pointer (some ⟨b3, 0 + 4, none⟩)), pg ((!decide (e.kind = 4)) == true) (.int .u16 e.item), pg ((!decide (e.kind = 4)) == true) (.bool (decide (o.item = e.item))), pv (.bool ((!decide (e.kind = 4)) && (decide (o.item = e.item)))), pv (.bool ((!decide (e.kind = 4)) && (decide (o.item = e.item))))] (fun _ _ => _) [10] (by kernel_rfl) hs ⟨?_, ?_, ?_, ?_, ?_, ?_, ?_, ?_, ?_, ?_, ?_, trivial⟩ ?_
        · exact ob [] [] rfl rfl fun D ρ w hs => L_fieldAddr FA_98_1 rfl ⟨rfl, hs⟩
        · exact ob [0] [] rfl rfl fun D ρ w hs => L_ld (V := .int .u8 e.kind) S1_5 hs 1 rfl rfl rfl ⟨rfl, hs⟩
        · exact ob [1] [] rfl rfl fun D ρ w hs => L_neq rfl rfl ⟨rfl, hs⟩
        · exact ob [2] [] rfl rfl fun D ρ w hs => L_move (V := .bool (!decide (e.kind = 4))) rfl ⟨rfl, hs⟩
        · exact obg [3] [] (!decide (e.kind = 4)) rfl (fun _ => rfl) rfl (fun _ _ _ _ h => h) fun D ρ w hG hs => L_fieldAddr FA_98_3 rfl ⟨rfl, hs⟩
        · exact obgy [3, 4] [] [4] (!decide (e.kind = 4)) rfl (fun _ => rfl) rfl (fun _ _ _ _ h => h) (fun hG => ⟨hG, trivial⟩) fun D ρ w hG hs => L_ld (V := .int .u16 o.item) S1_70 hs 0 rfl rfl rfl ⟨rfl, hs⟩
        · exact obg [3] [] (!decide (e.kind = 4)) rfl (fun _ => rfl) rfl (fun _ _ _ _ h => h) fun D ρ w hG hs => L_fieldAddr FA_98_3 rfl ⟨rfl, hs⟩
        · exact obgy [3, 6] [] [6] (!decide (e.kind = 4)) rfl (fun _ => rfl) rfl (fun _ _ _ _ h => h) (fun hG => ⟨hG, trivial⟩) fun D ρ w hG hs => L_ld (V := .int .u16 e.item) S1_70 hs 1 rfl rfl rfl ⟨rfl, hs⟩
        · exact obgy [3, 5, 7] [] [5, 7] (!decide (e.kind = 4)) rfl (fun _ => rfl) rfl (fun _ _ _ _ h => h) (fun hG => ⟨hG, hG, trivial⟩) fun D ρ w hG hs => L_eql rfl rfl ⟨rfl, hs⟩
        · exact ob [3, 8] [] rfl rfl fun D ρ w hs => L_andC (h' := decide (o.item = e.item)) rfl rfl rfl ⟨rfl, hs⟩
        · exact ob [9] [] rfl rfl fun D ρ w hs => L_assign (V := .bool ((!decide (e.kind = 4)) && (decide (o.item = e.item)))) rfl ⟨rfl, hs⟩
        rintro ρ1 w11 ρ2 hρ hs
        replace hρ : ρ2 = upd (mix [30, 31, 32, 33, 34, 35, 36, 37, 38, 39, 4] ρ1 _) 4 (.bool ((!decide (e.kind = 4)) && (decide (o.item = e.item)))) := hρ
        subst hρ
        refine W_ret ?_
        refine ⟨_, res_one (V := .bool ((!decide (e.kind = 4)) && (decide (o.item = e.item)))) Try.results86 rfl, ?_⟩
        refine ⟨congrArg Ending.returned ?_, hs.take 0⟩
        rw [ends_if c8 c8rr c8r]
        refine congrArg Value.bool ?_
        simp_all
      ·
        replace c10 := of_decide_eq_false c10
        refine W_region ?_
        refine RW_op (L_eql rfl rfl ?_)
        refine RW_op (L_assign (V := .bool (decide (o.kind = 2))) rfl ?_)
        refine RW_nil ?_
        refine W_cond (t := decide (o.kind = 2)) rfl (fun c12 => ?_) (fun c12 => ?_)
        ·
          replace c12 := of_decide_eq_true c12
          refine W_seq ?_
          refine W_regO [some 30, some 31, some 32, some 33, some 34, some 35, some 36, some 37, some 38, some 39, some 4] [] [0, 1, 3, 7, 15, 31, 15, 79, 255, 511, 1023] [pv (.pointer (some ⟨b3, 0 + 2, none⟩)), pv (.int .u8 e.kind), pv (.bool (!decide (e.kind = 4))), pv (.bool (!decide (e.kind = 4))), pg ((!decide (e.kind = 4)) == true) (.pointer (some ⟨b1, 0 + 4, none⟩)), pg ((!decide (e.kind = 4)) == true) (.int .u16 o.item), pg ((!decide (e.kind = 4)) == true) (.pointer (some ⟨b3, 0 + 4, none⟩)), pg ((!decide (e.kind = 4)) == true) (.int .u16 e.item), pg ((!decide (e.kind = 4)) == true) (.bool (decide (o.item = e.item))), pv (.bool ((!decide (e.kind = 4)) && (decide (o.item = e.item)))), pv (.bool ((!decide (e.kind = 4)) && (decide (o.item = e.item))))] (fun _ _ => _) [10] (by kernel_rfl) hs ⟨?_, ?_, ?_, ?_, ?_, ?_, ?_, ?_, ?_, ?_, ?_, trivial⟩ ?_
          · exact ob [] [] rfl rfl fun D ρ w hs => L_fieldAddr FA_98_1 rfl ⟨rfl, hs⟩
          · exact ob [0] [] rfl rfl fun D ρ w hs => L_ld (V := .int .u8 e.kind) S1_5 hs 1 rfl rfl rfl ⟨rfl, hs⟩
          · exact ob [1] [] rfl rfl fun D ρ w hs => L_neq rfl rfl ⟨rfl, hs⟩
          · exact ob [2] [] rfl rfl fun D ρ w hs => L_move (V := .bool (!decide (e.kind = 4))) rfl ⟨rfl, hs⟩
          · exact obg [3] [] (!decide (e.kind = 4)) rfl (fun _ => rfl) rfl (fun _ _ _ _ h => h) fun D ρ w hG hs => L_fieldAddr FA_98_3 rfl ⟨rfl, hs⟩
          · exact obgy [3, 4] [] [4] (!decide (e.kind = 4)) rfl (fun _ => rfl) rfl (fun _ _ _ _ h => h) (fun hG => ⟨hG, trivial⟩) fun D ρ w hG hs => L_ld (V := .int .u16 o.item) S1_70 hs 0 rfl rfl rfl ⟨rfl, hs⟩
          · exact obg [3] [] (!decide (e.kind = 4)) rfl (fun _ => rfl) rfl (fun _ _ _ _ h => h) fun D ρ w hG hs => L_fieldAddr FA_98_3 rfl ⟨rfl, hs⟩
          · exact obgy [3, 6] [] [6] (!decide (e.kind = 4)) rfl (fun _ => rfl) rfl (fun _ _ _ _ h => h) (fun hG => ⟨hG, trivial⟩) fun D ρ w hG hs => L_ld (V := .int .u16 e.item) S1_70 hs 1 rfl rfl rfl ⟨rfl, hs⟩
          · exact obgy [3, 5, 7] [] [5, 7] (!decide (e.kind = 4)) rfl (fun _ => rfl) rfl (fun _ _ _ _ h => h) (fun hG => ⟨hG, hG, trivial⟩) fun D ρ w hG hs => L_eql rfl rfl ⟨rfl, hs⟩
          · exact ob [3, 8] [] rfl rfl fun D ρ w hs => L_andC (h' := decide (o.item = e.item)) rfl rfl rfl ⟨rfl, hs⟩
          · exact ob [9] [] rfl rfl fun D ρ w hs => L_assign (V := .bool ((!decide (e.kind = 4)) && (decide (o.item = e.item)))) rfl ⟨rfl, hs⟩
          rintro ρ1 w13 ρ2 hρ hs
          replace hρ : ρ2 = upd (mix [30, 31, 32, 33, 34, 35, 36, 37, 38, 39, 4] ρ1 _) 4 (.bool ((!decide (e.kind = 4)) && (decide (o.item = e.item)))) := hρ
          subst hρ
          refine W_ret ?_
          refine ⟨_, res_one (V := .bool ((!decide (e.kind = 4)) && (decide (o.item = e.item)))) Try.results86 rfl, ?_⟩
          refine ⟨congrArg Ending.returned ?_, hs.take 0⟩
          rw [ends_if c8 c8rr c8r]
          refine congrArg Value.bool ?_
          simp_all
        ·
          replace c12 := of_decide_eq_false c12
          refine W_skip ?_
          refine W_seq ?_
          refine W_region ?_
          refine RW_op (L_assign (V := .bool false) rfl ?_)
          refine RW_nil ?_
          refine W_ret ?_
          refine ⟨_, res_one (V := .bool false) Try.results86 rfl, ?_⟩
          refine ⟨congrArg Ending.returned ?_, hs.take 0⟩
          rw [ends_if c8 c8rr c8r]
          refine congrArg Value.bool ?_
          simp_all
set_option maxRecDepth 20000 in
set_option maxHeartbeats 4000000 in
theorem oKind_ok (w : World) (o : Opn) (ho : OpnOk o) : Calls Try.prog 142 #[.agg (oc o).toArray] w (fun e w' => e = .returned (.bool (kindB o)) ∧ Own w no w' []) := by
  refine calls_of_Wn (n := 28) Try.func142 rfl Try.ntmps142 rfl ?_
  have hs := Own.start w
  refine W_seq ?_
  refine W_region ?_
  refine RW_op (L_box (V := .agg (oc o).toArray) (cs := oc o) rfl rfl hs fun b1 w2 hs => ?_)
  refine RW_op (L_assign (V := .bool false) rfl ?_)
  refine RW_nil ?_
  refine W_seq ?_
  refine W_seq ?_
  refine W_region ?_
  refine RW_op (L_fieldAddr FA_98_1 rfl ?_)
  refine RW_op (L_ld (V := .int .u8 o.kind) S1_5 hs 0 rfl rfl rfl ?_)
  refine RW_nil ?_
  refine W_block ?_
  refine W_seq ?_
  refine W_region ?_
  refine RW_op (L_eql rfl rfl ?_)
  refine RW_op (L_assign (V := .bool (decide (o.kind = 1))) rfl ?_)
  refine RW_nil ?_
  refine W_cond (t := decide (o.kind = 1)) rfl (fun c3 => ?_) (fun c3 => ?_)
  ·
    replace c3 := of_decide_eq_true c3
    refine W_seq ?_
    refine W_region ?_
    refine RW_op (L_fieldAddr FA_98_4 rfl ?_)
    refine RW_op (L_ld (V := .int .u16 o.qty) S1_70 hs 0 rfl rfl rfl ?_)
    refine RW_op (L_gtr rfl rfl ?_)
    refine RW_op (L_assign (V := .bool (decide (0 < o.qty))) rfl ?_)
    refine RW_nil ?_
    refine W_ret ?_
    refine ⟨_, res_one (V := .bool (decide (0 < o.qty))) Try.results142 rfl, ?_⟩
    refine ⟨congrArg Ending.returned ?_, hs.take 0⟩
    refine congrArg Value.bool ?_
    unfold kindB
    have ⟨_, _, _, _, ⟨hq1, hq2⟩, _, _⟩ := ho
    simp_all
    try omega
  ·
    replace c3 := of_decide_eq_false c3
    refine W_seq ?_
    refine W_region ?_
    refine RW_op (L_eql rfl rfl ?_)
    refine RW_op (L_assign (V := .bool (decide (o.kind = 2))) rfl ?_)
    refine RW_nil ?_
    refine W_cond (t := decide (o.kind = 2)) rfl (fun c4 => ?_) (fun c4 => ?_)
    ·
      replace c4 := of_decide_eq_true c4
      refine W_seq ?_
      refine W_region ?_
      refine RW_op (L_assign (V := .bool true) rfl ?_)
      refine RW_nil ?_
      refine W_ret ?_
      refine ⟨_, res_one (V := .bool true) Try.results142 rfl, ?_⟩
      refine ⟨congrArg Ending.returned ?_, hs.take 0⟩
      refine congrArg Value.bool ?_
      unfold kindB
      have ⟨_, _, _, _, ⟨hq1, hq2⟩, _, _⟩ := ho
      simp_all
      try omega
    ·
      replace c4 := of_decide_eq_false c4
      refine W_seq ?_
      refine W_region ?_
      refine RW_op (L_eql rfl rfl ?_)
      refine RW_op (L_assign (V := .bool (decide (o.kind = 3))) rfl ?_)
      refine RW_nil ?_
      refine W_cond (t := decide (o.kind = 3)) rfl (fun c5 => ?_) (fun c5 => ?_)
      ·
        replace c5 := of_decide_eq_true c5
        refine W_seq ?_
        refine W_region ?_
        refine RW_op (L_fieldAddr FA_98_4 rfl ?_)
        refine RW_op (L_ld (V := .int .u16 o.qty) S1_70 hs 0 rfl rfl rfl ?_)
        refine RW_op (L_eql rfl rfl ?_)
        refine RW_op (L_assign (V := .bool (decide (o.qty = 0))) rfl ?_)
        refine RW_nil ?_
        refine W_ret ?_
        refine ⟨_, res_one (V := .bool (decide (o.qty = 0))) Try.results142 rfl, ?_⟩
        refine ⟨congrArg Ending.returned ?_, hs.take 0⟩
        refine congrArg Value.bool ?_
        unfold kindB
        have ⟨_, _, _, _, ⟨hq1, hq2⟩, _, _⟩ := ho
        simp_all
        try omega
      ·
        replace c5 := of_decide_eq_false c5
        refine W_seq ?_
        refine W_seq ?_
        refine W_region ?_
        refine RW_op (L_eql rfl rfl ?_)
        refine RW_op (L_assign (V := .bool (decide (o.kind = 4))) rfl ?_)
        refine RW_nil ?_
        refine W_cond (t := decide (o.kind = 4)) rfl (fun c6 => ?_) (fun c6 => ?_)
        ·
          replace c6 := of_decide_eq_true c6
          refine W_skip ?_
          refine W_condT (congrArg Value.bool (decide_eq_true c6)) ?_
          refine W_seq ?_
          refine W_regO [some 20, some 21, some 22, some 23, some 24, some 25, some 26, some 27, some 2] [] [0, 1, 3, 7, 15, 31, 63, 127, 255] [pv (.pointer (some ⟨b1, 0 + 4, none⟩)), pv (.int .u16 o.item), pv (.bool (decide (o.item = 0))), pv (.bool (decide (o.item = 0))), pg ((decide (o.item = 0)) == true) (.pointer (some ⟨b1, 0 + 5, none⟩)), pg ((decide (o.item = 0)) == true) (.int .u16 o.qty), pg ((decide (o.item = 0)) == true) (.bool (decide (o.qty = 0))), pv (.bool ((decide (o.item = 0)) && (decide (o.qty = 0)))), pv (.bool ((decide (o.item = 0)) && (decide (o.qty = 0))))] (fun _ _ => _) [8] (by kernel_rfl) hs ⟨?_, ?_, ?_, ?_, ?_, ?_, ?_, ?_, ?_, trivial⟩ ?_
          · exact ob [] [] rfl rfl fun D ρ w hs => L_fieldAddr FA_98_3 rfl ⟨rfl, hs⟩
          · exact ob [0] [] rfl rfl fun D ρ w hs => L_ld (V := .int .u16 o.item) S1_70 hs 0 rfl rfl rfl ⟨rfl, hs⟩
          · exact ob [1] [] rfl rfl fun D ρ w hs => L_eql rfl rfl ⟨rfl, hs⟩
          · exact ob [2] [] rfl rfl fun D ρ w hs => L_move (V := .bool (decide (o.item = 0))) rfl ⟨rfl, hs⟩
          · exact obg [3] [] (decide (o.item = 0)) rfl (fun _ => rfl) rfl (fun _ _ _ _ h => h) fun D ρ w hG hs => L_fieldAddr FA_98_4 rfl ⟨rfl, hs⟩
          · exact obgy [3, 4] [] [4] (decide (o.item = 0)) rfl (fun _ => rfl) rfl (fun _ _ _ _ h => h) (fun hG => ⟨hG, trivial⟩) fun D ρ w hG hs => L_ld (V := .int .u16 o.qty) S1_70 hs 0 rfl rfl rfl ⟨rfl, hs⟩
          · exact obgy [3, 5] [] [5] (decide (o.item = 0)) rfl (fun _ => rfl) rfl (fun _ _ _ _ h => h) (fun hG => ⟨hG, trivial⟩) fun D ρ w hG hs => L_eql rfl rfl ⟨rfl, hs⟩
          · exact ob [3, 6] [] rfl rfl fun D ρ w hs => L_andC (h' := decide (o.qty = 0)) rfl rfl rfl ⟨rfl, hs⟩
          · exact ob [7] [] rfl rfl fun D ρ w hs => L_assign (V := .bool ((decide (o.item = 0)) && (decide (o.qty = 0)))) rfl ⟨rfl, hs⟩
          rintro ρ1 w7 ρ2 hρ hs
          replace hρ : ρ2 = upd (mix [20, 21, 22, 23, 24, 25, 26, 27, 2] ρ1 _) 2 (.bool ((decide (o.item = 0)) && (decide (o.qty = 0)))) := hρ
          subst hρ
          refine W_ret ?_
          refine ⟨_, res_one (V := .bool ((decide (o.item = 0)) && (decide (o.qty = 0)))) Try.results142 rfl, ?_⟩
          refine ⟨congrArg Ending.returned ?_, hs.take 0⟩
          refine congrArg Value.bool ?_
          unfold kindB
          have ⟨_, _, _, _, ⟨hq1, hq2⟩, _, _⟩ := ho
          simp_all
          try omega
        ·
          replace c6 := of_decide_eq_false c6
          refine W_region ?_
          refine RW_op (L_eql rfl rfl ?_)
          refine RW_op (L_assign (V := .bool (decide (o.kind = 5))) rfl ?_)
          refine RW_nil ?_
          refine W_cond (t := decide (o.kind = 5)) rfl (fun c8 => ?_) (fun c8 => ?_)
          ·
            replace c8 := of_decide_eq_true c8
            refine W_seq ?_
            refine W_regO [some 20, some 21, some 22, some 23, some 24, some 25, some 26, some 27, some 2] [] [0, 1, 3, 7, 15, 31, 63, 127, 255] [pv (.pointer (some ⟨b1, 0 + 4, none⟩)), pv (.int .u16 o.item), pv (.bool (decide (o.item = 0))), pv (.bool (decide (o.item = 0))), pg ((decide (o.item = 0)) == true) (.pointer (some ⟨b1, 0 + 5, none⟩)), pg ((decide (o.item = 0)) == true) (.int .u16 o.qty), pg ((decide (o.item = 0)) == true) (.bool (decide (o.qty = 0))), pv (.bool ((decide (o.item = 0)) && (decide (o.qty = 0)))), pv (.bool ((decide (o.item = 0)) && (decide (o.qty = 0))))] (fun _ _ => _) [8] (by kernel_rfl) hs ⟨?_, ?_, ?_, ?_, ?_, ?_, ?_, ?_, ?_, trivial⟩ ?_
            · exact ob [] [] rfl rfl fun D ρ w hs => L_fieldAddr FA_98_3 rfl ⟨rfl, hs⟩
            · exact ob [0] [] rfl rfl fun D ρ w hs => L_ld (V := .int .u16 o.item) S1_70 hs 0 rfl rfl rfl ⟨rfl, hs⟩
            · exact ob [1] [] rfl rfl fun D ρ w hs => L_eql rfl rfl ⟨rfl, hs⟩
            · exact ob [2] [] rfl rfl fun D ρ w hs => L_move (V := .bool (decide (o.item = 0))) rfl ⟨rfl, hs⟩
            · exact obg [3] [] (decide (o.item = 0)) rfl (fun _ => rfl) rfl (fun _ _ _ _ h => h) fun D ρ w hG hs => L_fieldAddr FA_98_4 rfl ⟨rfl, hs⟩
            · exact obgy [3, 4] [] [4] (decide (o.item = 0)) rfl (fun _ => rfl) rfl (fun _ _ _ _ h => h) (fun hG => ⟨hG, trivial⟩) fun D ρ w hG hs => L_ld (V := .int .u16 o.qty) S1_70 hs 0 rfl rfl rfl ⟨rfl, hs⟩
            · exact obgy [3, 5] [] [5] (decide (o.item = 0)) rfl (fun _ => rfl) rfl (fun _ _ _ _ h => h) (fun hG => ⟨hG, trivial⟩) fun D ρ w hG hs => L_eql rfl rfl ⟨rfl, hs⟩
            · exact ob [3, 6] [] rfl rfl fun D ρ w hs => L_andC (h' := decide (o.qty = 0)) rfl rfl rfl ⟨rfl, hs⟩
            · exact ob [7] [] rfl rfl fun D ρ w hs => L_assign (V := .bool ((decide (o.item = 0)) && (decide (o.qty = 0)))) rfl ⟨rfl, hs⟩
            rintro ρ1 w9 ρ2 hρ hs
            replace hρ : ρ2 = upd (mix [20, 21, 22, 23, 24, 25, 26, 27, 2] ρ1 _) 2 (.bool ((decide (o.item = 0)) && (decide (o.qty = 0)))) := hρ
            subst hρ
            refine W_ret ?_
            refine ⟨_, res_one (V := .bool ((decide (o.item = 0)) && (decide (o.qty = 0)))) Try.results142 rfl, ?_⟩
            refine ⟨congrArg Ending.returned ?_, hs.take 0⟩
            refine congrArg Value.bool ?_
            unfold kindB
            have ⟨_, _, _, _, ⟨hq1, hq2⟩, _, _⟩ := ho
            simp_all
            try omega
          ·
            replace c8 := of_decide_eq_false c8
            refine W_skip ?_
            refine W_seq ?_
            refine W_region ?_
            refine RW_op (L_assign (V := .bool false) rfl ?_)
            refine RW_nil ?_
            refine W_ret ?_
            refine ⟨_, res_one (V := .bool false) Try.results142 rfl, ?_⟩
            refine ⟨congrArg Ending.returned ?_, hs.take 0⟩
            refine congrArg Value.bool ?_
            unfold kindB
            have ⟨_, _, _, _, ⟨hq1, hq2⟩, _, _⟩ := ho
            simp_all
            try omega
set_option maxRecDepth 20000 in
set_option maxHeartbeats 4000000 in
theorem oRight_ok (w : World) (o : Opn) (n : Int) (hO : OpnOk o) : Calls Try.prog 114 #[.agg (oc o).toArray, .int .i64 n] w (fun e w' => e = .returned (.bool (rightOn o n)) ∧ Own w no w' []) := by
  refine calls_of_Wn (n := 50) Try.func114 rfl Try.ntmps114 rfl ?_
  have hs := Own.start w
  have ⟨⟨⟨hr1, hr2⟩, hr3, hr4⟩, _, _, _, ⟨hq1, hq2⟩, _, hctx⟩ := hO
  refine W_seq ?_
  refine W_region ?_
  refine RW_op (L_box (V := .agg (oc o).toArray) (cs := oc o) rfl rfl hs fun b1 w2 hs => ?_)
  refine RW_op (L_assign (V := .bool false) rfl ?_)
  refine RW_nil ?_
  refine W_seq ?_
  refine W_seq ?_
  refine W_regO [some 6, some 7, some 8, some 9, some 10, some 11, some 12, some 13, some 14, some 15, some 16, some 17, some 18, some 19, some 20, some 21, some 22, some 23, some 24, some 25, some 26, some 27, some 28] [] [0, 1, 0, 7, 15, 31, 63, 127, 255, 511, 63, 2047, 4095, 8191, 16383, 32767, 65535, 131071, 262143, 524287, 1048575, 2097151, 4194303] [pv (.pointer (some ⟨b1, 0 + 7, none⟩)), pv (.agg (vc o.ctx).toArray), pv (.int .i64 n), pv (.bool (rightB o.ctx n)), pv (.bool (!(rightB o.ctx n))), pv (.bool (!(rightB o.ctx n))), pg ((!(rightB o.ctx n)) == false) (.pointer (some ⟨b1, 0 + 0, none⟩)), pg ((!(rightB o.ctx n)) == false) (.pointer (some ⟨b1, 0 + 0 + 0, none⟩)), pg ((!(rightB o.ctx n)) == false) (.int .u8 o.dot.rep), pg ((!(rightB o.ctx n)) == false) (.int .i64 o.dot.rep), pg ((!(rightB o.ctx n)) == false) (.int .i64 n), pg ((!(rightB o.ctx n)) == false) (.bool (decide (n ≤ o.dot.rep))), pv (.bool ((!(rightB o.ctx n)) || (decide (n ≤ o.dot.rep)))), pv (.bool ((!(rightB o.ctx n)) || (decide (n ≤ o.dot.rep)))), pg (((!(rightB o.ctx n)) || (decide (n ≤ o.dot.rep))) == false) (.pointer (some ⟨b1, 0 + 6, none⟩)), pg (((!(rightB o.ctx n)) || (decide (n ≤ o.dot.rep))) == false) (.int .u32 o.tick), pg (((!(rightB o.ctx n)) || (decide (n ≤ o.dot.rep))) == false) (.bool (decide (1073741824 < o.tick))), pv (.bool (((!(rightB o.ctx n)) || (decide (n ≤ o.dot.rep))) || (decide (1073741824 < o.tick)))), pv (.bool (((!(rightB o.ctx n)) || (decide (n ≤ o.dot.rep))) || (decide (1073741824 < o.tick)))), pg ((((!(rightB o.ctx n)) || (decide (n ≤ o.dot.rep))) || (decide (1073741824 < o.tick))) == false) (.agg (oc o).toArray), pg ((((!(rightB o.ctx n)) || (decide (n ≤ o.dot.rep))) || (decide (1073741824 < o.tick))) == false) (.bool (kindB o)), pg ((((!(rightB o.ctx n)) || (decide (n ≤ o.dot.rep))) || (decide (1073741824 < o.tick))) == false) (.bool (!(kindB o))), pv (.bool ((((!(rightB o.ctx n)) || (decide (n ≤ o.dot.rep))) || (decide (1073741824 < o.tick))) || (!(kindB o))))] (fun _ _ => _) [22] (by kernel_rfl) hs ⟨?_, ?_, ?_, ?_, ?_, ?_, ?_, ?_, ?_, ?_, ?_, ?_, ?_, ?_, ?_, ?_, ?_, ?_, ?_, ?_, ?_, ?_, ?_, trivial⟩ ?_
  · exact ob [] [] rfl rfl fun D ρ w hs => L_fieldAddr FA_98_6 rfl ⟨rfl, hs⟩
  · exact ob [0] [] rfl rfl fun D ρ w hs => L_ldA (vs := vc o.ctx) SA_53 hs 0 rfl rfl rfl rfl ⟨rfl, hs⟩
  · exact ob [] [] rfl rfl fun D ρ w hs => L_move (V := .int .i64 n) rfl ⟨rfl, hs⟩
  · exact ob [1, 2] [] rfl rfl fun D ρ w hs => L_callP (vs := [.agg (vc o.ctx).toArray, .int .i64 n]) (V := .bool (rightB o.ctx n)) EN_98 rfl rfl (vRight_ok _ o.ctx n (by first | assumption | exact vzero_ok)) hs fun _ hs => ⟨rfl, hs⟩
  · exact ob [3] [] rfl rfl fun D ρ w hs => L_not rfl ⟨rfl, hs⟩
  · exact ob [4] [] rfl rfl fun D ρ w hs => L_move (V := .bool (!(rightB o.ctx n))) rfl ⟨rfl, hs⟩
  · exact obg [5] [] (!(rightB o.ctx n)) rfl (fun _ => rfl) rfl (fun _ _ _ _ h => h) fun D ρ w hG hs => L_fieldAddr FA_98_0 rfl ⟨rfl, hs⟩
  · exact obgy [5, 6] [] [6] (!(rightB o.ctx n)) rfl (fun _ => rfl) rfl (fun _ _ _ _ h => h) (fun hG => ⟨hG, trivial⟩) fun D ρ w hG hs => L_fieldAddr FA_96_0 rfl ⟨rfl, hs⟩
  · exact obgy [5, 7] [] [7] (!(rightB o.ctx n)) rfl (fun _ => rfl) rfl (fun _ _ _ _ h => h) (fun hG => ⟨hG, trivial⟩) fun D ρ w hG hs => L_ld (V := .int .u8 o.dot.rep) S1_5 hs 0 rfl rfl rfl ⟨rfl, hs⟩
  · exact obgy [5, 8] [] [8] (!(rightB o.ctx n)) rfl (fun _ => rfl) rfl (fun _ _ _ _ h => h) (fun hG => ⟨hG, trivial⟩) fun D ρ w hG hs => L_conv UD_5 UD_3 rfl (wr_i64 (by omega) (by omega)) ⟨rfl, hs⟩
  · exact obg [5] [] (!(rightB o.ctx n)) rfl (fun _ => rfl) rfl (fun _ _ _ _ h => h) fun D ρ w hG hs => L_move (V := .int .i64 n) rfl ⟨rfl, hs⟩
  · exact obgy [5, 9, 10] [] [9, 10] (!(rightB o.ctx n)) rfl (fun _ => rfl) rfl (fun _ _ _ _ h => h) (fun hG => ⟨hG, hG, trivial⟩) fun D ρ w hG hs => L_geq rfl rfl ⟨rfl, hs⟩
  · exact ob [5, 11] [] rfl rfl fun D ρ w hs => L_orC (h' := decide (n ≤ o.dot.rep)) rfl rfl rfl ⟨rfl, hs⟩
  · exact ob [12] [] rfl rfl fun D ρ w hs => L_move (V := .bool ((!(rightB o.ctx n)) || (decide (n ≤ o.dot.rep)))) rfl ⟨rfl, hs⟩
  · exact obg [13] [] ((!(rightB o.ctx n)) || (decide (n ≤ o.dot.rep))) rfl (fun _ => rfl) rfl (fun _ _ _ _ h => h) fun D ρ w hG hs => L_fieldAddr FA_98_5 rfl ⟨rfl, hs⟩
  · exact obgy [13, 14] [] [14] ((!(rightB o.ctx n)) || (decide (n ≤ o.dot.rep))) rfl (fun _ => rfl) rfl (fun _ _ _ _ h => h) (fun hG => ⟨hG, trivial⟩) fun D ρ w hG hs => L_ld (V := .int .u32 o.tick) S1_51 hs 0 rfl rfl rfl ⟨rfl, hs⟩
  · exact obgy [13, 15] [] [15] ((!(rightB o.ctx n)) || (decide (n ≤ o.dot.rep))) rfl (fun _ => rfl) rfl (fun _ _ _ _ h => h) (fun hG => ⟨hG, trivial⟩) fun D ρ w hG hs => L_gtr rfl rfl ⟨rfl, hs⟩
  · exact ob [13, 16] [] rfl rfl fun D ρ w hs => L_orC (h' := decide (1073741824 < o.tick)) rfl rfl rfl ⟨rfl, hs⟩
  · exact ob [17] [] rfl rfl fun D ρ w hs => L_move (V := .bool (((!(rightB o.ctx n)) || (decide (n ≤ o.dot.rep))) || (decide (1073741824 < o.tick)))) rfl ⟨rfl, hs⟩
  · exact obg [18] [] (((!(rightB o.ctx n)) || (decide (n ≤ o.dot.rep))) || (decide (1073741824 < o.tick))) rfl (fun _ => rfl) rfl (fun _ _ _ _ h => h) fun D ρ w hG hs => L_ldW (cs := oc o) SA_98 hs 0 rfl rfl rfl ⟨rfl, hs⟩
  · exact obgy [18, 19] [] [19] (((!(rightB o.ctx n)) || (decide (n ≤ o.dot.rep))) || (decide (1073741824 < o.tick))) rfl (fun _ => rfl) rfl (fun _ _ _ _ h => h) (fun hG => ⟨hG, trivial⟩) fun D ρ w hG hs => L_callP (vs := [.agg (oc o).toArray]) (V := .bool (kindB o)) EN_142 rfl rfl (oKind_ok _ o (by assumption)) hs fun _ hs => ⟨rfl, hs⟩
  · exact obgy [18, 20] [] [20] (((!(rightB o.ctx n)) || (decide (n ≤ o.dot.rep))) || (decide (1073741824 < o.tick))) rfl (fun _ => rfl) rfl (fun _ _ _ _ h => h) (fun hG => ⟨hG, trivial⟩) fun D ρ w hG hs => L_not rfl ⟨rfl, hs⟩
  · exact ob [18, 21] [] rfl rfl fun D ρ w hs => L_orC (h' := !(kindB o)) rfl rfl rfl ⟨rfl, hs⟩
  rintro ρ1 w5 ρ2 hρ hs
  replace hρ : ρ2 = upd (mix [6, 7, 8, 9, 10, 11, 12, 13, 14, 15, 16, 17, 18, 19, 20, 21, 22, 23, 24, 25, 26, 27, 28] ρ1 _) 28 (.bool ((((!(rightB o.ctx n)) || (decide (n ≤ o.dot.rep))) || (decide (1073741824 < o.tick))) || (!(kindB o)))) := hρ
  subst hρ
  refine W_cond (t := (((!(rightB o.ctx n)) || (decide (n ≤ o.dot.rep))) || (decide (1073741824 < o.tick))) || (!(kindB o))) rfl (fun c6 => ?_) (fun c6 => ?_)
  ·
    refine W_seq ?_
    refine W_region ?_
    refine RW_op (L_assign (V := .bool false) rfl ?_)
    refine RW_nil ?_
    refine W_ret ?_
    refine ⟨_, res_one (V := .bool false) Try.results114 rfl, ?_⟩
    refine ⟨congrArg Ending.returned ?_, hs.take 0⟩
    exact congrArg Value.bool (right_no c6).symm
  ·
    have c6r := or_r c6
    replace c6 := or_l c6
    have c6rr := or_r c6
    replace c6 := or_l c6
    have c6rrr := or_r c6
    replace c6 := or_l c6
    replace c6 := not_f c6
    replace c6rrr := of_decide_eq_false c6rrr
    replace c6rr := of_decide_eq_false c6rr
    replace c6r := not_f c6r
    refine W_skip ?_
    refine W_seq ?_
    refine W_region ?_
    refine RW_op (L_fieldAddr FA_98_0 rfl ?_)
    refine RW_op (L_ldA (vs := dc o.dot) SA_96 hs 0 rfl rfl rfl rfl ?_)
    refine RW_op (L_alloc (cs := dc (⟨0, 0⟩ : Dot)) ZV_96 rfl hs fun b7 w8 hs => ?_)
    refine RW_op (L_st (V := .agg (dc o.dot).toArray) (vs := dc o.dot) (cs' := dc o.dot) SA_96.1 hs 1 rfl rfl rfl rfl rfl (Nat.le_of_ble_eq_true rfl) (dc_one _) (spl_whole rfl) fun w9 hs => ?_)
    refine RW_nil ?_
    refine W_seq ?_
    have hnn := rightB_n c6
    refine W_regD HM [some 31, some 32, some 33, some 34, some 35, some 36, some 37, some 38, some 39, some 40, some 41, some 42, some 43, some 44, some 45, some 46, some 47, some 48, some 49, some 4] [] [0, 1, 3, 7, 15, 31, 63, 127, 255, 511, 1023, 511, 4095, 8191, 511, 16895, 49663, 131071, 262143, 524287] [pv (.pointer (some ⟨b7, 0 + 1, none⟩)), pv (.int .u32 o.dot.seq), pv (.bool (decide (1 ≤ o.dot.seq))), pv (.bool (decide (1 ≤ o.dot.seq))), pg ((decide (1 ≤ o.dot.seq)) == true) (.pointer (some ⟨b7, 0 + 1, none⟩)), pg ((decide (1 ≤ o.dot.seq)) == true) (.int .u32 o.dot.seq), pg ((decide (1 ≤ o.dot.seq)) == true) (.bool (decide (o.dot.seq ≤ 1048576))), pv (.bool ((decide (1 ≤ o.dot.seq)) && (decide (o.dot.seq ≤ 1048576)))), pv (.bool ((decide (1 ≤ o.dot.seq)) && (decide (o.dot.seq ≤ 1048576)))), pg (((decide (1 ≤ o.dot.seq)) && (decide (o.dot.seq ≤ 1048576))) == true) (.pointer (some ⟨b7, 0 + 0, none⟩)), pg (((decide (1 ≤ o.dot.seq)) && (decide (o.dot.seq ≤ 1048576))) == true) (.int .u8 o.dot.rep), pg (((decide (1 ≤ o.dot.seq)) && (decide (o.dot.seq ≤ 1048576))) == true) (.pointer (some ⟨b1, 0 + 7, none⟩)), pg (((decide (1 ≤ o.dot.seq)) && (decide (o.dot.seq ≤ 1048576))) == true) (.pointer (some ⟨b1, 0 + 7 + o.dot.rep.toNat, none⟩)), pg (((decide (1 ≤ o.dot.seq)) && (decide (o.dot.seq ≤ 1048576))) == true) (.int .u32 (vat o.ctx o.dot.rep.toNat)), pg (((decide (1 ≤ o.dot.seq)) && (decide (o.dot.seq ≤ 1048576))) == true) (.pointer (some ⟨b7, 0 + 1, none⟩)), pg (((decide (1 ≤ o.dot.seq)) && (decide (o.dot.seq ≤ 1048576))) == true) (.int .u32 o.dot.seq), pg (((decide (1 ≤ o.dot.seq)) && (decide (o.dot.seq ≤ 1048576))) == true) (.int .u32 (o.dot.seq - 1)), pg (((decide (1 ≤ o.dot.seq)) && (decide (o.dot.seq ≤ 1048576))) == true) (.bool (decide (vat o.ctx o.dot.rep.toNat = o.dot.seq - 1))), pv (.bool (((decide (1 ≤ o.dot.seq)) && (decide (o.dot.seq ≤ 1048576))) && (decide (vat o.ctx o.dot.rep.toNat = o.dot.seq - 1)))), pv (.bool (((decide (1 ≤ o.dot.seq)) && (decide (o.dot.seq ≤ 1048576))) && (decide (vat o.ctx o.dot.rep.toNat = o.dot.seq - 1))))] (fun _ _ => _) [19] (by kernel_rfl) hs ⟨?_, ?_, ?_, ?_, ?_, ?_, ?_, ?_, ?_, ?_, ?_, ?_, ?_, ?_, ?_, ?_, ?_, ?_, ?_, ?_, trivial⟩ ?_
    · exact ob [] [] rfl rfl fun D ρ w hs => L_fieldAddr FA_96_1 rfl ⟨rfl, hs⟩
    · exact ob [0] [] rfl rfl fun D ρ w hs => L_ld (V := .int .u32 o.dot.seq) S1_51 hs 1 rfl rfl rfl ⟨rfl, hs⟩
    · exact ob [1] [] rfl rfl fun D ρ w hs => L_geq rfl rfl ⟨rfl, hs⟩
    · exact ob [2] [] rfl rfl fun D ρ w hs => L_move (V := .bool (decide (1 ≤ o.dot.seq))) rfl ⟨rfl, hs⟩
    · exact obg [3] [] (decide (1 ≤ o.dot.seq)) rfl (fun _ => rfl) rfl (fun _ _ _ _ h => h) fun D ρ w hG hs => L_fieldAddr FA_96_1 rfl ⟨rfl, hs⟩
    · exact obgy [3, 4] [] [4] (decide (1 ≤ o.dot.seq)) rfl (fun _ => rfl) rfl (fun _ _ _ _ h => h) (fun hG => ⟨hG, trivial⟩) fun D ρ w hG hs => L_ld (V := .int .u32 o.dot.seq) S1_51 hs 1 rfl rfl rfl ⟨rfl, hs⟩
    · exact obgy [3, 5] [] [5] (decide (1 ≤ o.dot.seq)) rfl (fun _ => rfl) rfl (fun _ _ _ _ h => h) (fun hG => ⟨hG, trivial⟩) fun D ρ w hG hs => L_leq rfl rfl ⟨rfl, hs⟩
    · exact ob [3, 6] [] rfl rfl fun D ρ w hs => L_andC (h' := decide (o.dot.seq ≤ 1048576)) rfl rfl rfl ⟨rfl, hs⟩
    · exact ob [7] [] rfl rfl fun D ρ w hs => L_move (V := .bool ((decide (1 ≤ o.dot.seq)) && (decide (o.dot.seq ≤ 1048576)))) rfl ⟨rfl, hs⟩
    · refine obg [8] [] ((decide (1 ≤ o.dot.seq)) && (decide (o.dot.seq ≤ 1048576))) rfl (fun _ => rfl) rfl (fun _ _ _ _ h => h) fun D ρ w hG hs => ?_
      have hg9 := and_l (eq_of_beq hG)
      have hgd := of_decide_eq_true hg9
      exact L_fieldAddr FA_96_0 rfl ⟨rfl, hs⟩
    · refine obgy [8, 9] [] [9] ((decide (1 ≤ o.dot.seq)) && (decide (o.dot.seq ≤ 1048576))) rfl (fun _ => rfl) rfl (fun _ _ _ _ h => h) (fun hG => ⟨hG, trivial⟩) fun D ρ w hG hs => ?_
      have hg9 := and_l (eq_of_beq hG)
      have hgd := of_decide_eq_true hg9
      exact L_ld (V := .int .u8 o.dot.rep) S1_5 hs 1 rfl rfl rfl ⟨rfl, hs⟩
    · refine obg [8] [] ((decide (1 ≤ o.dot.seq)) && (decide (o.dot.seq ≤ 1048576))) rfl (fun _ => rfl) rfl (fun _ _ _ _ h => h) fun D ρ w hG hs => ?_
      have hg9 := and_l (eq_of_beq hG)
      have hgd := of_decide_eq_true hg9
      exact L_fieldAddr FA_98_6 rfl ⟨rfl, hs⟩
    · refine obgy [8, 10, 11] [] [10, 11] ((decide (1 ≤ o.dot.seq)) && (decide (o.dot.seq ≤ 1048576))) rfl (fun _ => rfl) rfl (fun _ _ _ _ h => h) (fun hG => ⟨hG, hG, trivial⟩) fun D ρ w hG hs => ?_
      have hg9 := and_l (eq_of_beq hG)
      have hgd := of_decide_eq_true hg9
      exact L_ixArr1 UD_53 S1_51.1 rfl rfl (by omega) (by omega) ⟨rfl, hs⟩
    · refine obgy [8, 12] [] [12] ((decide (1 ≤ o.dot.seq)) && (decide (o.dot.seq ≤ 1048576))) rfl (fun _ => rfl) rfl (fun _ _ _ _ h => h) (fun hG => ⟨hG, trivial⟩) fun D ρ w hG hs => ?_
      have hg9 := and_l (eq_of_beq hG)
      have hgd := of_decide_eq_true hg9
      exact L_ld (V := .int .u32 (vat o.ctx o.dot.rep.toNat)) S1_51 hs 0 rfl rfl (oc_atO (by omega) (by omega)) ⟨rfl, hs⟩
    · refine obg [8] [] ((decide (1 ≤ o.dot.seq)) && (decide (o.dot.seq ≤ 1048576))) rfl (fun _ => rfl) rfl (fun _ _ _ _ h => h) fun D ρ w hG hs => ?_
      have hg9 := and_l (eq_of_beq hG)
      have hgd := of_decide_eq_true hg9
      exact L_fieldAddr FA_96_1 rfl ⟨rfl, hs⟩
    · refine obgy [8, 14] [] [14] ((decide (1 ≤ o.dot.seq)) && (decide (o.dot.seq ≤ 1048576))) rfl (fun _ => rfl) rfl (fun _ _ _ _ h => h) (fun hG => ⟨hG, trivial⟩) fun D ρ w hG hs => ?_
      have hg9 := and_l (eq_of_beq hG)
      have hgd := of_decide_eq_true hg9
      exact L_ld (V := .int .u32 o.dot.seq) S1_51 hs 1 rfl rfl rfl ⟨rfl, hs⟩
    · refine obgy [8, 15] [] [15] ((decide (1 ≤ o.dot.seq)) && (decide (o.dot.seq ≤ 1048576))) rfl (fun _ => rfl) rfl (fun _ _ _ _ h => h) (fun hG => ⟨hG, trivial⟩) fun D ρ w hG hs => ?_
      have hg9 := and_l (eq_of_beq hG)
      have hgd := of_decide_eq_true hg9
      exact L_sub (a := o.dot.seq) (b := 1) (c := o.dot.seq - 1) rfl rfl (wr_u32 (by omega) (by omega)) ⟨rfl, hs⟩
    · refine obgy [8, 13, 16] [] [13, 16] ((decide (1 ≤ o.dot.seq)) && (decide (o.dot.seq ≤ 1048576))) rfl (fun _ => rfl) rfl (fun _ _ _ _ h => h) (fun hG => ⟨hG, hG, trivial⟩) fun D ρ w hG hs => ?_
      have hg9 := and_l (eq_of_beq hG)
      have hgd := of_decide_eq_true hg9
      exact L_eql rfl rfl ⟨rfl, hs⟩
    · exact ob [8, 17] [] rfl rfl fun D ρ w hs => L_andC (h' := decide (vat o.ctx o.dot.rep.toNat = o.dot.seq - 1)) rfl rfl rfl ⟨rfl, hs⟩
    · exact ob [18] [] rfl rfl fun D ρ w hs => L_assign (V := .bool (((decide (1 ≤ o.dot.seq)) && (decide (o.dot.seq ≤ 1048576))) && (decide (vat o.ctx o.dot.rep.toNat = o.dot.seq - 1)))) rfl ⟨rfl, hs⟩
    rintro ρ1 w10 ρ2 hρ hs
    replace hρ : ρ2 = upd (mix [31, 32, 33, 34, 35, 36, 37, 38, 39, 40, 41, 42, 43, 44, 45, 46, 47, 48, 49, 4] ρ1 _) 4 (.bool (((decide (1 ≤ o.dot.seq)) && (decide (o.dot.seq ≤ 1048576))) && (decide (vat o.ctx o.dot.rep.toNat = o.dot.seq - 1)))) := hρ
    subst hρ
    refine W_ret ?_
    refine ⟨_, res_one (V := .bool (((decide (1 ≤ o.dot.seq)) && (decide (o.dot.seq ≤ 1048576))) && (decide (vat o.ctx o.dot.rep.toNat = o.dot.seq - 1)))) Try.results114 rfl, ?_⟩
    refine ⟨congrArg Ending.returned ?_, hs.take 0⟩
    exact congrArg Value.bool (right_if c6 c6rrr c6rr c6r).symm
set_option maxRecDepth 20000 in
set_option maxHeartbeats 4000000 in
theorem oReady_ok (w : World) (known : Vec) (o : Opn) (hO : OpnOk o) : Calls Try.prog 82 #[.agg (vc known).toArray, .agg (oc o).toArray] w (fun e w' => e = .returned (.int .i64 (readyI known o)) ∧ Own w no w' []) := by
  refine calls_of_Wn (n := 20) Try.func82 rfl Try.ntmps82 rfl ?_
  have hs := Own.start w
  have hdo := hO.1
  refine W_seq ?_
  refine W_region ?_
  refine RW_op (L_box (V := .agg (vc known).toArray) (cs := vc known) rfl rfl hs fun b1 w2 hs => ?_)
  refine RW_op (L_box (V := .agg (oc o).toArray) (cs := oc o) rfl rfl hs fun b3 w4 hs => ?_)
  refine RW_op (L_assign (V := .int .i64 0) rfl ?_)
  refine RW_nil ?_
  refine W_seq ?_
  refine W_block ?_
  refine W_seq ?_
  refine W_region ?_
  refine RW_op (L_ldW (cs := oc o) SA_98 hs 1 rfl rfl rfl ?_)
  refine RW_op (L_callP (vs := [.agg (oc o).toArray, .int .i64 16]) (V := .bool (rightOn o 16)) EN_114 rfl rfl ?hc hs fun w5 hs => ?_)
  case hc => exact (oRight_ok _ o 16 (by assumption))
  refine RW_op (L_not rfl ?_)
  refine RW_op (L_assign (V := .bool (!(rightOn o 16))) rfl ?_)
  refine RW_nil ?_
  refine W_cond (t := !(rightOn o 16)) rfl (fun c6 => ?_) (fun c6 => ?_)
  ·
    replace c6 := not_t c6
    refine W_seq ?_
    refine W_region ?_
    refine RW_op (L_assign (V := .int .i64 2) rfl ?_)
    refine RW_nil ?_
    refine W_ret ?_
    refine ⟨_, res_one (V := .int .i64 2) Try.results82 rfl, ?_⟩
    refine ⟨congrArg Ending.returned ?_, hs.take 0⟩
    refine congrArg (Value.int IntKind.i64) ?_
    unfold readyI
    rw [← rightOn_16]
    simp_all
  ·
    replace c6 := not_f c6
    refine W_seq ?_
    refine W_region ?_
    refine RW_op (L_ldW (cs := vc known) SA_53 hs 0 rfl rfl rfl ?_)
    refine RW_op (L_fieldAddr FA_98_0 rfl ?_)
    refine RW_op (L_ldA (vs := dc o.dot) SA_96 hs 1 rfl rfl rfl rfl ?_)
    refine RW_op (L_callP (vs := [.agg (vc known).toArray, .agg (dc o.dot).toArray]) (V := .bool (hasB known o.dot)) EN_62 rfl rfl ?hc hs fun w7 hs => ?_)
    case hc => exact (vHas_ok _ known o.dot (by first | assumption | exact dotOk_mk (by omega) (by omega) (by omega) (by omega)))
    refine RW_op (L_assign (V := .bool (hasB known o.dot)) rfl ?_)
    refine RW_nil ?_
    refine W_cond (t := hasB known o.dot) rfl (fun c8 => ?_) (fun c8 => ?_)
    ·
      refine W_seq ?_
      refine W_region ?_
      refine RW_op (L_assign (V := .int .i64 8) rfl ?_)
      refine RW_nil ?_
      refine W_ret ?_
      refine ⟨_, res_one (V := .int .i64 8) Try.results82 rfl, ?_⟩
      refine ⟨congrArg Ending.returned ?_, hs.take 0⟩
      refine congrArg (Value.int IntKind.i64) ?_
      unfold readyI
      rw [← rightOn_16]
      simp_all
    ·
      refine W_seq ?_
      refine W_region ?_
      refine RW_op (L_fieldAddr FA_98_6 rfl ?_)
      refine RW_op (L_ldA (vs := vc o.ctx) SA_53 hs 1 rfl rfl rfl rfl ?_)
      refine RW_op (L_ldW (cs := vc known) SA_53 hs 0 rfl rfl rfl ?_)
      refine RW_op (L_callP (vs := [.agg (vc o.ctx).toArray, .agg (vc known).toArray]) (V := .bool (vle o.ctx known)) EN_115 rfl rfl ?hc hs fun w9 hs => ?_)
      case hc => exact (vBelow_ok _ o.ctx known)
      refine RW_op (L_not rfl ?_)
      refine RW_op (L_assign (V := .bool (!(vle o.ctx known))) rfl ?_)
      refine RW_nil ?_
      refine W_cond (t := !(vle o.ctx known)) rfl (fun c10 => ?_) (fun c10 => ?_)
      ·
        replace c10 := not_t c10
        refine W_seq ?_
        refine W_region ?_
        refine RW_op (L_assign (V := .int .i64 9) rfl ?_)
        refine RW_nil ?_
        refine W_ret ?_
        refine ⟨_, res_one (V := .int .i64 9) Try.results82 rfl, ?_⟩
        refine ⟨congrArg Ending.returned ?_, hs.take 0⟩
        refine congrArg (Value.int IntKind.i64) ?_
        unfold readyI
        rw [← rightOn_16]
        simp_all
      ·
        replace c10 := not_f c10
        refine W_skip ?_
        refine W_seq ?_
        refine W_region ?_
        refine RW_op (L_assign (V := .int .i64 0) rfl ?_)
        refine RW_nil ?_
        refine W_ret ?_
        refine ⟨_, res_one (V := .int .i64 0) Try.results82 rfl, ?_⟩
        refine ⟨congrArg Ending.returned ?_, hs.take 0⟩
        refine congrArg (Value.int IntKind.i64) ?_
        unfold readyI
        rw [← rightOn_16]
        simp_all
end Tt
end Go.Proofs
namespace Go.Proofs
open Go Go.Vx Go.RowKit
namespace Tt
set_option maxRecDepth 20000 in
set_option maxHeartbeats 4000000 in
theorem sOwn_ok (w : World) (s : Sta) (a1 : Option Addr) (c1 : Nat) (a2 : Option Addr) (c2 : Nat) (hok : StaOk s) (hle : s.ents.length ≤ 1000) (hlt : s.ticks.length ≤ 1000) (hr1 : Rd w (.slice a1 s.ents.length c1) 7 (s.ents.map cec)) (hr2 : Rd w (.slice a2 s.ticks.length c2) 2 (s.ticks.map lsc)) : Calls Try.prog 83 #[.agg ((vc s.known) ++ [(.slice a1 s.ents.length c1 : Value), (.slice a2 s.ticks.length c2 : Value) ]).toArray] w (fun e w' => ∃ x : (Option Addr × Nat) × (Option Addr × Nat), e = .returned (.agg (vc (s).known ++ [(.slice x.1.1 (s).ents.length x.1.2 : Value), (.slice x.2.1 (s).ticks.length x.2.2 : Value)]).toArray) ∧ Own w no w' [row (.slice x.1.1 (s).ents.length x.1.2) ((s).ents.map cec) 128 7, row (.slice x.2.1 (s).ticks.length x.2.2) ((s).ticks.map lsc) 126 2] ∧ True) := by
  refine calls_of_Wn (n := 12) Try.func83 rfl Try.ntmps83 rfl ?_
  have hs := Own.start w
  refine W_seq ?_
  refine W_region ?_
  refine RW_op (L_box (V := .agg ((vc s.known) ++ [(.slice a1 s.ents.length c1 : Value), (.slice a2 s.ticks.length c2 : Value) ]).toArray) (cs := (vc s.known) ++ [(.slice a1 s.ents.length c1 : Value), (.slice a2 s.ticks.length c2 : Value) ]) rfl rfl hs fun b1 w2 hs => ?_)
  refine RW_op (L_alloc (cs := (vc vzero) ++ [(.slice none 0 0 : Value), (.slice none 0 0 : Value) ]) ZV_62 rfl hs fun b3 w4 hs => ?_)
  refine RW_nil ?_
  refine W_seq ?_
  replace hs := hs.more emp trivial
  replace hs := hs.more emp trivial
  refine W_regD HM [some 3, some 4, some 5, some 6, some 7, some 8, some 9, some 10, some 11, none] [[], [], [], [], [7], [], [], [10], [7, 10]] [0, 1, 0, 4, 12, 0, 32, 124, 255, 511] [pv (.pointer (some ⟨b1, 0 + 0, none⟩)), pv (.agg (vc s.known).toArray), pv (.pointer (some ⟨b1, 0 + 16, none⟩)), pv (.slice a1 s.ents.length c1), (true, fun ρ => .slice (aOf (ρ 7)) ((s.ents).length) (cOf (ρ 7))), pv (.pointer (some ⟨b1, 0 + 17, none⟩)), pv (.slice a2 s.ticks.length c2), (true, fun ρ => .slice (aOf (ρ 10)) ((s.ticks).length) (cOf (ρ 10))), (true, fun ρ => .agg ((vc s.known) ++ [(.slice (aOf (ρ 7)) ((s.ents).length) (cOf (ρ 7)) : Value), (.slice (aOf (ρ 10)) ((s.ticks).length) (cOf (ρ 10)) : Value) ]).toArray), pn] (fun D ρ => [blk b1 ((vc s.known) ++ [(.slice a1 s.ents.length c1 : Value), (.slice a2 s.ticks.length c2 : Value) ]) 62, cond (D 9) (blk b3 ((vc s.known) ++ [(.slice (aOf (ρ 7)) ((s.ents).length) (cOf (ρ 7)) : Value), (.slice (aOf (ρ 10)) ((s.ticks).length) (cOf (ρ 10)) : Value) ]) 62) (blk b3 ((vc vzero) ++ [(.slice none 0 0 : Value), (.slice none 0 0 : Value) ]) 62), cond (D 4) (row (.slice (aOf (ρ 7)) ((s.ents).length) (cOf (ρ 7))) (s.ents.map cec) 128 7) (emp), cond (D 7) (row (.slice (aOf (ρ 10)) ((s.ticks).length) (cOf (ρ 10))) (s.ticks.map lsc) 126 2) (emp)]) [] (by kernel_rfl) hs ⟨?_, ?_, ?_, ?_, ?_, ?_, ?_, ?_, ?_, ?_, trivial⟩ ?_
  · exact ob [] [] rfl rfl fun D ρ w hs => L_fieldAddr FA_62_0 rfl ⟨rfl, hs⟩
  · exact ob [0] [] rfl rfl fun D ρ w hs => L_ldA (vs := vc s.known) SA_53 hs 0 rfl rfl rfl rfl ⟨rfl, hs⟩
  · exact ob [] [] rfl rfl fun D ρ w hs => L_fieldAddr FA_62_1 rfl ⟨rfl, hs⟩
  · exact ob [2] [] rfl rfl fun D ρ w hs => L_ld (V := .slice a1 s.ents.length c1) S1_59 hs 0 rfl rfl rfl ⟨rfl, hs⟩
  · exact ob [3] [9] rfl rfl fun D ρ w hs => L_callX (vs := [.slice a1 s.ents.length c1]) (V := fun x : Option Addr × Nat => .slice x.1 (s.ents).length x.2) EN_116 rfl rfl (cln128_ok _ a1 c1 s.ents (by omega) (Rd.own' hr1 hs)) hs fun _ _ hs _ => ⟨rfl, hs.put 2 (Nat.le_of_ble_eq_true rfl)⟩
  · exact ob [] [] rfl rfl fun D ρ w hs => L_fieldAddr FA_62_2 rfl ⟨rfl, hs⟩
  · exact ob [5] [] rfl rfl fun D ρ w hs => L_ld (V := .slice a2 s.ticks.length c2) S1_60 hs 0 rfl rfl rfl ⟨rfl, hs⟩
  · exact ob [6] [9] rfl rfl fun D ρ w hs => L_callX (vs := [.slice a2 s.ticks.length c2]) (V := fun x : Option Addr × Nat => .slice x.1 (s.ticks).length x.2) EN_61 rfl rfl (cln126_ok _ a2 c2 s.ticks (by omega) (Rd.own' hr2 hs)) hs fun _ _ hs _ => ⟨rfl, hs.put 3 (Nat.le_of_ble_eq_true rfl)⟩
  · exact ob [1, 4, 7] [] rfl rfl fun D ρ w hs => L_buildP (vs := [(0, .agg (vc s.known).toArray), (1, .slice (aOf (ρ 7)) ((s.ents).length) (cOf (ρ 7))), (2, .slice (aOf (ρ 10)) ((s.ticks).length) (cOf (ρ 10)))]) (cs := (vc s.known) ++ [(.slice (aOf (ρ 7)) ((s.ents).length) (cOf (ρ 7)) : Value), (.slice (aOf (ρ 10)) ((s.ticks).length) (cOf (ρ 10)) : Value) ]) [vc vzero, [(.slice none 0 0 : Value)], [(.slice none 0 0 : Value)]] [vc s.known, [(.slice (aOf (ρ 7)) ((s.ents).length) (cOf (ρ 7)) : Value)], [(.slice (aOf (ρ 10)) ((s.ticks).length) (cOf (ρ 10)) : Value)]] BT_62 rfl (rfl) rfl rfl ⟨rfl, hs⟩
  · exact ob [8] [] rfl rfl fun D ρ w hs => L_st (V := .agg ((vc s.known) ++ [(.slice (aOf (ρ 7)) ((s.ents).length) (cOf (ρ 7)) : Value), (.slice (aOf (ρ 10)) ((s.ticks).length) (cOf (ρ 10)) : Value) ]).toArray) (vs := (vc s.known) ++ [(.slice (aOf (ρ 7)) ((s.ents).length) (cOf (ρ 7)) : Value), (.slice (aOf (ρ 10)) ((s.ticks).length) (cOf (ρ 10)) : Value) ]) (cs' := (vc s.known) ++ [(.slice (aOf (ρ 7)) ((s.ents).length) (cOf (ρ 7)) : Value), (.slice (aOf (ρ 10)) ((s.ticks).length) (cOf (ρ 10)) : Value) ]) SA_62.1 hs 1 rfl rfl rfl rfl rfl (Nat.le_of_ble_eq_true rfl) (one_app (vc_one _) (one_cons rfl (one_cons rfl one_nil))) (spl_whole rfl) fun _ hs => ⟨trivial, hs⟩
  rintro ρ1 w8 ρ2 hρ hs
  replace hρ : ρ2 = mix [3, 4, 5, 6, 7, 8, 9, 10, 11] ρ1 _ := hρ
  replace hs : Own w no w8 [blk b1 ((vc s.known) ++ [(.slice a1 s.ents.length c1 : Value), (.slice a2 s.ticks.length c2 : Value) ]) 62, blk b3 ((vc s.known) ++ [(.slice (aOf (ρ1 7)) ((s.ents).length) (cOf (ρ1 7)) : Value), (.slice (aOf (ρ1 10)) ((s.ticks).length) (cOf (ρ1 10)) : Value) ]) 62, row (.slice (aOf (ρ1 7)) ((s.ents).length) (cOf (ρ1 7))) (s.ents.map cec) 128 7, row (.slice (aOf (ρ1 10)) ((s.ticks).length) (cOf (ρ1 10))) (s.ticks.map lsc) 126 2] := hs
  generalize (aOf (ρ1 7)) = a9 at hs
  generalize (cOf (ρ1 7)) = c10 at hs
  generalize (aOf (ρ1 10)) = a11 at hs
  generalize (cOf (ρ1 10)) = c12 at hs
  subst hρ
  refine W_ret ?_
  refine ⟨_, res_cell (cs := (vc s.known) ++ [(.slice a9 ((s.ents).length) c10 : Value), (.slice a11 ((s.ticks).length) c12 : Value) ]) Try.results83 SA_62 hs 1 rfl rfl rfl, ?_⟩
  exact ⟨((a9, c10), (a11, c12)), rfl, hs.two 2 3 (by decide) rfl rfl, trivial⟩
set_option maxRecDepth 20000 in
set_option maxHeartbeats 4000000 in
theorem laid_ok (w : World) (x : Cen) : Calls Try.prog 87 #[.agg (cec x).toArray] w (fun e w' => e = .returned (.agg (oc (laidO x)).toArray) ∧ Own w no w' []) := by
  refine calls_of_Wn (n := 14) Try.func87 rfl Try.ntmps87 rfl ?_
  have hs := Own.start w
  refine W_seq ?_
  refine W_region ?_
  refine RW_op (L_box (V := .agg (cec x).toArray) (cs := cec x) rfl rfl hs fun b1 w2 hs => ?_)
  refine RW_op (L_alloc (cs := oc (⟨(⟨0, 0⟩ : Dot), 0, 0, 0, 0, 0, vzero⟩ : Opn)) ZV_98 rfl hs fun b3 w4 hs => ?_)
  refine RW_nil ?_
  refine W_seq ?_
  refine W_region ?_
  refine RW_op (L_fieldAddr FA_128_4 rfl ?_)
  refine RW_op (L_ldA (vs := dc x.dot) SA_96 hs 0 rfl rfl rfl rfl ?_)
  refine RW_op (L_fieldAddr FA_128_3 rfl ?_)
  refine RW_op (L_ld (V := .int .u8 x.kind) S1_5 hs 0 rfl rfl rfl ?_)
  refine RW_op (L_fieldAddr FA_128_0 rfl ?_)
  refine RW_op (L_ld (V := .int .u16 x.cart) S1_70 hs 0 rfl rfl rfl ?_)
  refine RW_op (L_fieldAddr FA_128_1 rfl ?_)
  refine RW_op (L_ld (V := .int .u16 x.item) S1_70 hs 0 rfl rfl rfl ?_)
  refine RW_op (L_fieldAddr FA_128_2 rfl ?_)
  refine RW_op (L_ld (V := .int .u16 x.qty) S1_70 hs 0 rfl rfl rfl ?_)
  refine RW_op (L_buildP (vs := [(0, .agg (dc x.dot).toArray), (1, .int .u8 x.kind), (2, .int .u16 x.cart), (3, .int .u16 x.item), (4, .int .u16 x.qty)]) (cs := oc (⟨x.dot, x.kind, x.cart, x.item, x.qty, 0, vzero⟩ : Opn)) [dc (⟨0, 0⟩ : Dot), [(.int .u8 0 : Value)], [(.int .u16 0 : Value)], [(.int .u16 0 : Value)], [(.int .u16 0 : Value)], [(.int .u32 0 : Value)], vc vzero] [dc x.dot, [(.int .u8 x.kind : Value)], [(.int .u16 x.cart : Value)], [(.int .u16 x.item : Value)], [(.int .u16 x.qty : Value)], [(.int .u32 0 : Value)], vc vzero] BT_98 rfl (rfl) rfl rfl ?_)
  refine RW_op (L_st (V := .agg (oc (⟨x.dot, x.kind, x.cart, x.item, x.qty, 0, vzero⟩ : Opn)).toArray) (vs := oc (⟨x.dot, x.kind, x.cart, x.item, x.qty, 0, vzero⟩ : Opn)) (cs' := oc (⟨x.dot, x.kind, x.cart, x.item, x.qty, 0, vzero⟩ : Opn)) SA_98.1 hs 1 rfl rfl rfl rfl rfl (Nat.le_of_ble_eq_true rfl) (oc_one _) (spl_whole rfl) fun w5 hs => ?_)
  refine RW_nil ?_
  refine W_ret ?_
  refine ⟨_, res_cell (cs := oc (⟨x.dot, x.kind, x.cart, x.item, x.qty, 0, vzero⟩ : Opn)) Try.results87 SA_98 hs 1 rfl rfl rfl, ?_⟩
  refine ⟨congrArg Ending.returned ?_, hs.take 0⟩
  rfl
set_option maxRecDepth 20000 in
set_option maxHeartbeats 4000000 in
theorem apply1_ok (w : World) (x : Cen) (o : Opn) (bx : Nat) (hx : DotOk x.dot) (hc : CellsF w bx (oc o)) : Calls Try.prog 85 #[.agg (cec x).toArray, .pointer (some ⟨bx, 0, none⟩)] w (fun e w' => e = .returned (.bool (endsB o (laidO x))) ∧ Own w no w' []) := by
  refine calls_of_Wn (n := 8) Try.func85 rfl Try.ntmps85 rfl ?_
  have hs := Own.start w
  refine W_seq ?_
  refine W_region ?_
  refine RW_op (L_box (V := .agg (cec x).toArray) (cs := cec x) rfl rfl hs fun b1 w2 hs => ?_)
  refine RW_op (L_assign (V := .bool false) rfl ?_)
  refine RW_nil ?_
  refine W_seq ?_
  refine W_regD HM [some 4, some 5, some 6, some 7, some 3] [] [0, 0, 2, 7, 15] [pv (.agg (oc o).toArray), pv (.agg (cec x).toArray), pv (.agg (oc (laidO x)).toArray), pv (.bool (endsB o (laidO x))), pv (.bool (endsB o (laidO x)))] (fun _ _ => _) [4] (by kernel_rfl) hs ⟨?_, ?_, ?_, ?_, ?_, trivial⟩ ?_
  · exact ob [] [] rfl rfl fun D ρ w hs => L_ldFA (vs := oc o) SA_98 (hc.own' hs) rfl rfl rfl ⟨rfl, hs⟩
  · exact ob [] [] rfl rfl fun D ρ w hs => L_ldW (cs := cec x) SA_128 hs 0 rfl rfl rfl ⟨rfl, hs⟩
  · exact ob [1] [] rfl rfl fun D ρ w hs => L_callP (vs := [.agg (cec x).toArray]) (V := .agg (oc (laidO x)).toArray) EN_87 rfl rfl (laid_ok _ x) hs fun _ hs => ⟨rfl, hs⟩
  · exact ob [0, 2] [] rfl rfl fun D ρ w hs => L_callP (vs := [.agg (oc o).toArray, .agg (oc (laidO x)).toArray]) (V := .bool (endsB o (laidO x))) EN_86 rfl rfl (oEnds_ok _ o (laidO x) hx) hs fun _ hs => ⟨rfl, hs⟩
  · exact ob [3] [] rfl rfl fun D ρ w hs => L_assign (V := .bool (endsB o (laidO x))) rfl ⟨rfl, hs⟩
  rintro ρ1 w5 ρ2 hρ hs
  replace hρ : ρ2 = upd (mix [4, 5, 6, 7, 3] ρ1 _) 3 (.bool (endsB o (laidO x))) := hρ
  subst hρ
  refine W_ret ?_
  refine ⟨_, res_one (V := .bool (endsB o (laidO x))) Try.results85 rfl, ?_⟩
  refine ⟨congrArg Ending.returned ?_, hs.take 0⟩
  rfl
end Tt
end Go.Proofs
namespace Go.Proofs
open Go Go.Vx Go.RowKit
namespace Tt
set_option maxRecDepth 20000 in
set_option maxHeartbeats 4000000 in
theorem ixf128_ok (w : World) (a : Option Addr) (c : Nat) (l : List Cen) (g : Nat) (caps : List Value) (hg : En Try.prog g) (p : Cen → Bool) (hp : ∀ (w1 : World) (L1 : List Res), Own w no w1 L1 → ∀ x ∈ l, Calls Try.prog g ([(.agg (cec x).toArray : Value)] ++ caps).toArray w1 (fun e w' => e = .returned (.bool (p x)) ∧ Own w1 no w' [])) (hr : Rd w (.slice a l.length c) 7 (l.map cec)) : Calls Try.prog 117 #[.slice a l.length c, .func (.func g) #[] caps.toArray] w (fun e w' => e = .returned (.int .i64 (fstB p l)) ∧ Own w no w' []) := by
  refine calls_of_Wn (n := 19) Try.func117 rfl Try.ntmps117 rfl ?_
  have hs := Own.start w
  have hn := hr.sml
  refine W_seq ?_
  refine W_region ?_
  refine RW_op (L_assign (V := .int .i64 0) rfl ?_)
  refine RW_nil ?_
  refine W_seq ?_
  refine W_seq ?_
  refine W_region ?_
  refine RW_op (L_move (V := .slice a l.length c) rfl ?_)
  refine RW_op (L_lenR (n := l.length) UD_59 (Rd.own' hr hs) (by simp) rfl ?_)
  refine RW_op (L_move (V := .int .i64 0) rfl ?_)
  refine RW_nil ?_
  refine W_block ?_
  refine W_loopI (fun ρ μ ρ' w' => ∃ (ρo : Env) (k : Nat), ρ' = upd (mix [4, 5, 8, 9, 10, 11, 12, 13, 14, 15, 16, 17, 18] ρo ρ) 8 (.int .i64 (k : Int)) ∧ (k ≤ l.length) ∧ (∀ j : Nat, j < k → p (gd l j) = false) ∧ μ = l.length - k ∧ Own w no w' []) ?_ ?_
  · exact ⟨_, _, 0, upd_of (mix_of (ds := [4, 5, 8, 9, 10, 11, 12, 13, 14, 15, 16, 17, 18]) (Agr.refl _ _)) rfl, (by omega), (fun j hj => absurd hj (Nat.not_lt_zero j)), rfl, hs⟩
  · rintro μ ρ' w1 ⟨ρo, k, rfl, hk, hno, rfl, hs⟩
    refine W_seq ?_
    refine W_region ?_
    refine RW_op (L_lss rfl rfl ?_)
    refine RW_nil ?_
    refine W_seq ?_
    refine W_cond (t := decide ((k : Int) < ((l.length : Nat) : Int))) rfl (fun c2 => ?_) (fun c2 => ?_)
    ·
      replace c2 := of_decide_eq_true c2
      refine W_skip ?_
      refine W_seq ?_
      refine W_block ?_
      refine W_seq ?_
      refine W_region ?_
      refine RW_op (L_move (V := .int .i64 (k : Int)) rfl ?_)
      refine RW_op (L_assign (V := .int .i64 (k : Int)) rfl ?_)
      refine RW_nil ?_
      refine W_seq ?_
      refine W_region ?_
      refine RW_op (L_move (V := .func (.func g) #[] caps.toArray) rfl ?_)
      refine RW_op (L_move (V := .slice a l.length c) rfl ?_)
      refine RW_op (L_move (V := .int .i64 (k : Int)) rfl ?_)
      refine RW_op (L_ixR UD_59 SA_128.1 (Rd.own' hr hs) rfl rfl (by omega) (by rw [List.length_map]; omega) ?_)
      refine RW_op (L_ldRA (j := 0) (vs := cec (gd l k)) k SA_128 (Rd.own' hr hs) (gd_at (by omega)) rfl rfl rfl (by omega) ?_)
      refine RW_op (L_fnP (vs := [.agg (cec (gd l k)).toArray]) (cs := caps) (V := .bool (p (gd l k))) hg rfl rfl (hp _ _ hs (gd l k) (gd_mem (by omega))) hs fun w3 hs => ?_)
      refine RW_nil ?_
      refine W_cond (t := p (gd l k)) rfl (fun c4 => ?_) (fun c4 => ?_)
      ·
        refine W_seq ?_
        refine W_region ?_
        refine RW_op (L_move (V := .int .i64 (k : Int)) rfl ?_)
        refine RW_op (L_assign (V := .int .i64 (k : Int)) rfl ?_)
        refine RW_nil ?_
        refine W_ret ?_
        refine ⟨_, res_one (V := .int .i64 (k : Int)) Try.results117 rfl, ?_⟩
        refine ⟨congrArg Ending.returned ?_, hs.take 0⟩
        exact congrArg (Value.int .i64) (fst_yes (by omega) hno c4).symm
      ·
        refine W_skip ?_
        refine W_region ?_
        refine RW_op (L_add (a := (k : Int)) (b := 1) (c := (k : Int) + 1) rfl rfl (wr_i64 (by omega) (by omega)) ?_)
        refine RW_op (L_move (V := .int .i64 ((k : Int) + 1)) rfl ?_)
        refine RW_nil ?_
        refine ⟨_, ?_, _, k + 1, upd_of (mix_of (ds := [4, 5, 8, 9, 10, 11, 12, 13, 14, 15, 16, 17, 18]) (by repeat (first | exact Agr.refl _ _ | refine Agr.upd ?_ rfl | refine Agr.mix ?_ rfl))) rfl, (by omega), (no_step2 hno c4), rfl, hs.take 0⟩
        omega
    ·
      replace c2 := of_decide_eq_false c2
      refine W_exit ?_
      refine W_seq ?_
      refine W_region ?_
      refine RW_op (L_assign (V := .int .i64 (-1)) rfl ?_)
      refine RW_nil ?_
      refine W_ret ?_
      refine ⟨_, res_one (V := .int .i64 (-1)) Try.results117 rfl, ?_⟩
      refine ⟨congrArg Ending.returned ?_, hs.take 0⟩
      exact congrArg (Value.int .i64) (fst_no fun j hj => hno j (by omega)).symm
end Tt
end Go.Proofs
namespace Go.Proofs
open Go Go.Vx Go.RowKit
namespace Tt
set_option maxRecDepth 20000 in
set_option maxHeartbeats 4000000 in
theorem dlf128_ok (w : World) (S : Nat → Prop) (a : Option Addr) (c : Nat) (l : List Cen) (g : Nat) (caps : List Value) (hg : En Try.prog g) (p : Cen → Bool) (hp : ∀ (w1 : World) (L1 : List Res), Own w S w1 L1 → ∀ x ∈ l, Calls Try.prog g ([(.agg (cec x).toArray : Value)] ++ caps).toArray w1 (fun e w' => e = .returned (.bool (p x)) ∧ Own w1 no w' [])) (hR : (row (.slice a l.length c) (l.map cec) 128 7).holds w S) (hlt : ∀ b, S b → b < w.heap.size) : Calls Try.prog 84 #[.slice a l.length c, .func (.func g) #[] caps.toArray] w (fun e w' => ∃ x : Unit, e = .returned (.slice a (l.filter fun x => !p x).length c) ∧ Own w S w' [row (.slice a (l.filter fun x => !p x).length c) ((l.filter fun x => !p x).map cec) 128 7] ∧ True) := by
  refine calls_of_Wn (n := 42) Try.func84 rfl Try.ntmps84 rfl ?_
  have hs := Own.lent hR hlt
  have hn := (hs.rd 0 rfl).sml
  have hlc := (hs.rd 0 rfl).roomM
  refine W_seq ?_
  refine W_region ?_
  refine RW_op (L_assign (V := .slice none 0 0) rfl ?_)
  refine RW_nil ?_
  refine W_seq ?_
  refine W_region ?_
  refine RW_op (L_move (V := .slice a l.length c) rfl ?_)
  refine RW_op (L_move (V := .func (.func g) #[] caps.toArray) rfl ?_)
  refine RW_op (L_callP (vs := [.slice a l.length c, .func (.func g) #[] caps.toArray]) (V := .int .i64 (fstB p l)) EN_117 rfl rfl ?hc hs fun w1 hs => ?_)
  case hc => exact (ixf128_ok _ a c l g caps hg p (fun w1 L1 h => hp w1 _ (hs.call h)) (hs.rd 0 rfl))
  refine RW_op (L_assign (V := .int .i64 (fstB p l)) rfl ?_)
  refine RW_nil ?_
  refine W_seq ?_
  refine W_seq ?_
  rcases fst_spec (p := p) (l := l) with hk2 | hk2
  ·
    obtain ⟨hf1, hfl⟩ := hk2
    refine W_region ?_
    refine RW_op (opW_to (V := .int .i64 (fstB p l)) (V' := .int .i64 (-1)) (L_move (V := .int .i64 (fstB p l)) rfl ⟨rfl, rfl⟩) (congrArg (Value.int .i64) hf1) ?_)
    refine RW_op (opW_to (V := .bool (decide ((-1 : Int) = -1))) (V' := .bool true) (L_eql rfl rfl ⟨rfl, rfl⟩) (congrArg Value.bool (decide_eq_true rfl)) ?_)
    refine RW_nil ?_
    refine W_condT rfl ?_
    refine W_seq ?_
    refine W_region ?_
    refine RW_op (L_move (V := .slice a l.length c) rfl ?_)
    refine RW_op (L_assign (V := .slice a l.length c) rfl ?_)
    refine RW_nil ?_
    refine W_ret ?_
    refine ⟨_, res_one (V := .slice a l.length c) Try.results84 rfl, ?_⟩
    rw [hfl]
    exact ⟨(), rfl, hs.take 1, trivial⟩
  ·
    obtain ⟨k0, hf1, hk0l, hpk, hft⟩ := hk2
    refine W_region ?_
    refine RW_op (opW_to (V := .int .i64 (fstB p l)) (V' := .int .i64 ((k0 : Nat) : Int)) (L_move (V := .int .i64 (fstB p l)) rfl ⟨rfl, rfl⟩) (congrArg (Value.int .i64) hf1) ?_)
    refine RW_op (opW_to (V := .bool (decide (((k0 : Nat) : Int) = -1))) (V' := .bool false) (L_eql rfl rfl ⟨rfl, rfl⟩) (congrArg Value.bool (decide_eq_false (by omega))) ?_)
    refine RW_nil ?_
    refine W_condF rfl ?_
    refine W_skip ?_
    refine W_seq ?_
    refine W_seq ?_
    refine W_region ?_
    refine RW_op (opW_to (V := .int .i64 (fstB p l)) (V' := .int .i64 ((k0 : Nat) : Int)) (L_move (V := .int .i64 (fstB p l)) rfl ⟨rfl, rfl⟩) (congrArg (Value.int .i64) hf1) ?_)
    refine RW_op (L_add (a := ((k0 : Nat) : Int)) (b := 1) (c := ((k0 + 1 : Nat) : Int)) rfl rfl (nat_i64 (by omega) (by omega)) ?_)
    refine RW_op (L_assign (V := .int .i64 ((k0 + 1 : Nat) : Int)) rfl ?_)
    refine RW_nil ?_
    refine W_block ?_
    refine W_loopI (fun ρ μ ρ' w' => ∃ (ρo : Env) (i : Nat) (j : Nat) (m : List Cen), ρ' = upd (upd (mix [5, 6, 7, 16, 17, 18, 19, 20, 21, 22, 23, 24, 25, 26, 27, 28, 29, 30, 31, 32, 33, 34, 35] ρo ρ) 5 (.int .i64 ((i : Nat) : Int))) 6 (.int .i64 ((j : Nat) : Int)) ∧ (i < j) ∧ (j ≤ l.length) ∧ (Moved p l m i j) ∧ μ = l.length - j ∧ Own w S w' [row (.slice a l.length c) (m.map cec) 128 7]) ?_ ?_
    · exact ⟨_, _, k0, k0 + 1, l, upd_of (upd_of (mix_of (ds := [5, 6, 7, 16, 17, 18, 19, 20, 21, 22, 23, 24, 25, 26, 27, 28, 29, 30, 31, 32, 33, 34, 35]) (Agr.refl _ _)) (congrArg (Value.int .i64) hf1)) rfl, (by omega), (by omega), (moved_start hk0l hpk hft), rfl, hs⟩
    · rintro μ ρ' w2 ⟨ρo, i, j, m, rfl, hij, hj, hmv, rfl, hs⟩
      have hml := hmv.1
      refine W_seq ?_
      refine W_seq ?_
      refine W_region ?_
      refine RW_op (L_move (V := .int .i64 ((j : Nat) : Int)) rfl ?_)
      refine RW_op (L_move (V := .slice a l.length c) rfl ?_)
      refine RW_op (L_lenR (n := l.length) UD_59 (hs.rd 0 rfl) (by simp [hmv.1]) rfl ?_)
      refine RW_op (L_lss rfl rfl ?_)
      refine RW_nil ?_
      refine W_cond (t := decide (((j : Nat) : Int) < ((l.length : Nat) : Int))) rfl (fun c3 => ?_) (fun c3 => ?_)
      ·
        replace c3 := of_decide_eq_true c3
        refine W_skip ?_
        refine W_seq ?_
        refine W_block ?_
        refine W_seq ?_
        refine W_region ?_
        refine RW_op (L_move (V := .slice a l.length c) rfl ?_)
        refine RW_op (L_move (V := .int .i64 ((j : Nat) : Int)) rfl ?_)
        refine RW_op (L_ixR UD_59 SA_128.1 (hs.rd 0 rfl) rfl rfl (by omega) (by rw [List.length_map]; omega) ?_)
        refine RW_op (L_ldRA (j := 0) (vs := cec (gd m j)) j SA_128 (hs.rd 0 rfl) (gd_at (by omega)) rfl rfl rfl (by omega) ?_)
        refine RW_op (L_alloc (cs := cec (⟨0, 0, 0, 0, (⟨0, 0⟩ : Dot), 0⟩ : Cen)) ZV_128 rfl hs fun b4 w5 hs => ?_)
        refine RW_op (L_st (V := .agg (cec (gd m j)).toArray) (vs := cec (gd m j)) (cs' := cec (gd m j)) SA_128.1 hs 1 rfl rfl rfl rfl rfl (Nat.le_of_ble_eq_true rfl) (cec_one _) (spl_whole rfl) fun w6 hs => ?_)
        refine RW_nil ?_
        refine W_seq ?_
        refine W_region ?_
        refine RW_op (L_move (V := .func (.func g) #[] caps.toArray) rfl ?_)
        refine RW_op (L_ldW (cs := cec (gd m j)) SA_128 hs 1 rfl rfl rfl ?_)
        refine RW_op (L_fnP (vs := [.agg (cec (gd m j)).toArray]) (cs := caps) (V := .bool (p (gd m j))) hg rfl rfl (hp _ _ hs (gd m j) (by rw [hmv.2.2 _ (Nat.le_refl _)]; exact gd_mem (by omega))) hs fun w7 hs => ?_)
        refine RW_op (L_not rfl ?_)
        refine RW_nil ?_
        refine W_cond (t := !(p (gd m j))) rfl (fun c8 => ?_) (fun c8 => ?_)
        ·
          replace c8 := not_t c8
          refine W_seq ?_
          refine W_region ?_
          refine RW_op (L_move (V := .slice a l.length c) rfl ?_)
          refine RW_op (L_move (V := .int .i64 ((i : Nat) : Int)) rfl ?_)
          refine RW_op (L_ldW (cs := cec (gd m j)) SA_128 hs 1 rfl rfl rfl ?_)
          refine RW_op (L_ixR UD_59 SA_128.1 (hs.rd 0 rfl) rfl rfl (by omega) (by rw [List.length_map]; omega) ?_)
          refine RW_op (L_stE (z := gd m j) i SA_128.1 hs 0 rfl rfl rfl (by first | omega | (simp only [List.length_set]; omega)) rfl rfl rfl (cec_one _) fun w9 hs => ?_)
          replace hs : Own w S w9 [row (.slice a l.length c) ((m.set i (gd m j)).map cec) 128 7, blk b4 (cec (gd m j)) 128] := hs
          refine RW_nil ?_
          refine W_region ?_
          refine RW_op (L_move (V := .int .i64 ((i : Nat) : Int)) rfl ?_)
          refine RW_op (L_add (a := ((i : Nat) : Int)) (b := 1) (c := ((i + 1 : Nat) : Int)) rfl rfl (nat_i64 (by omega) (by omega)) ?_)
          refine RW_op (L_assign (V := .int .i64 ((i + 1 : Nat) : Int)) rfl ?_)
          refine RW_nil ?_
          refine W_region ?_
          refine RW_op (L_move (V := .int .i64 ((j : Nat) : Int)) rfl ?_)
          refine RW_op (L_add (a := ((j : Nat) : Int)) (b := 1) (c := ((j + 1 : Nat) : Int)) rfl rfl (nat_i64 (by omega) (by omega)) ?_)
          refine RW_op (L_assign (V := .int .i64 ((j + 1 : Nat) : Int)) rfl ?_)
          refine RW_nil ?_
          refine ⟨_, ?_, _, i + 1, j + 1, m.set i (gd m j), upd_of (upd_of (mix_of (ds := [5, 6, 7, 16, 17, 18, 19, 20, 21, 22, 23, 24, 25, 26, 27, 28, 29, 30, 31, 32, 33, 34, 35]) (by repeat (first | exact Agr.refl _ _ | refine Agr.upd ?_ rfl | refine Agr.mix ?_ rfl))) rfl) rfl, (by omega), (by omega), (moved_keep hmv (by omega) (by omega) c8), rfl, hs.take 1⟩
          omega
        ·
          replace c8 := not_f c8
          refine W_skip ?_
          refine W_region ?_
          refine RW_op (L_move (V := .int .i64 ((j : Nat) : Int)) rfl ?_)
          refine RW_op (L_add (a := ((j : Nat) : Int)) (b := 1) (c := ((j + 1 : Nat) : Int)) rfl rfl (nat_i64 (by omega) (by omega)) ?_)
          refine RW_op (L_assign (V := .int .i64 ((j + 1 : Nat) : Int)) rfl ?_)
          refine RW_nil ?_
          refine ⟨_, ?_, _, i, j + 1, m, upd_of (upd_of (mix_of (ds := [5, 6, 7, 16, 17, 18, 19, 20, 21, 22, 23, 24, 25, 26, 27, 28, 29, 30, 31, 32, 33, 34, 35]) (by repeat (first | exact Agr.refl _ _ | refine Agr.upd ?_ rfl | refine Agr.mix ?_ rfl))) rfl) rfl, (by omega), (by omega), (moved_skip hmv (by omega) c8), rfl, hs.take 1⟩
          omega
      ·
        replace c3 := of_decide_eq_false c3
        refine W_exit ?_
        refine W_seq ?_
        refine W_region ?_
        refine RW_op (L_move (V := .slice a l.length c) rfl ?_)
        refine RW_op (L_move (V := .int .i64 ((i : Nat) : Int)) rfl ?_)
        refine RW_op (L_sl (l := i) (h := l.length) (m := c) (n' := (m.drop i).length) UDR_59 SA_128.1 (hs.rd 0 rfl) rfl (.inr ⟨_, _, rfl, rfl⟩) (.inl ⟨rfl, rfl⟩) (.inl ⟨rfl, rfl⟩) (by omega) (by omega) (Nat.le_trans (show l.length ≤ m.length by omega) (Rd.roomM (hs.rd 0 rfl))) (Nat.le_refl _) (by simp only [List.length_take, List.length_drop] <;> omega) ?_)
        refine RW_op (L_clearT EL_59 hs 0 rfl rfl (by rw [List.length_map] <;> omega) (by simp only [List.length_map, List.length_drop] <;> omega) (by intro v hv; have e := Zv_uniq hv ZV_128; subst e; exact (cec_one _)) fun w10 hs => ?_)
        refine RW_nil ?_
        refine W_seq ?_
        refine W_region ?_
        refine RW_op (L_move (V := .slice a l.length c) rfl ?_)
        refine RW_op (L_move (V := .int .i64 ((i : Nat) : Int)) rfl ?_)
        refine RW_op (L_slV (l := 0) (h := i) (n' := i) UDR_59 SA_128.1 (by omega) rfl (.inl ⟨rfl, rfl⟩) (.inr ⟨_, _, rfl, rfl⟩) (by omega) (by omega) (by omega) ?_)
        refine RW_op (L_assign (V := .slice (sla a 0 c 7) i (c - 0)) rfl ?_)
        refine RW_nil ?_
        refine W_ret ?_
        refine ⟨_, res_one (V := .slice (sla a 0 c 7) i (c - 0)) Try.results84 rfl, ?_⟩
        have he := moved_end hmv (by omega)
        have hil : i = (l.filter fun x => !p x).length := by rw [← he, List.length_take, hmv.1]; omega
        replace hs := hs.take 1
        simp only [List.set_cons_zero, List.take_succ_cons, List.take_zero, ← List.map_take, he] at hs
        rw [← hil]
        refine ⟨(), ?_, hs, trivial⟩
        rw [sla_zero, Nat.sub_zero]
end Tt
end Go.Proofs
namespace Go.Proofs
open Go Go.Vx Go.RowKit
namespace Tt
set_option maxRecDepth 20000 in
set_option maxHeartbeats 4000000 in
theorem ins128_ok (w : World) (S : Nat → Prop) (a : Option Addr) (c : Nat) (l : List Cen) (i : Nat) (hi : i ≤ l.length) (x : Cen) (b : Option Addr) (c2 : Nat) (hv : Rd w (.slice b 1 c2) 7 (List.map cec [x])) (hpl : PlainR w (.slice b 1 c2)) (hnS : ¬ S (bkS (.slice b 1 c2))) (hvb : bkS (.slice b 1 c2) < w.heap.size) (hN : (l.length + 1) * 25 ≤ 140737488355328) (hR : (row (.slice a l.length c) (l.map cec) 128 7).holds w S) (hlt : ∀ b, S b → b < w.heap.size) : Calls Try.prog 90 #[.slice a l.length c, .int .i64 ((i : Nat) : Int), .slice b 1 c2] w (fun e w' => ∃ x' : Option Addr × Nat, e = .returned (.slice x'.1 (insL l i x).length x'.2) ∧ Own w S w' [row (.slice x'.1 (insL l i x).length x'.2) ((insL l i x).map cec) 128 7] ∧ True) := by
  refine calls_of_Wn (n := 95) Try.func90 rfl Try.ntmps90 rfl ?_
  have hs := Own.lent hR hlt
  have hn := (hs.rd 0 rfl).sml
  have hlc := (hs.rd 0 rfl).roomM
  have hvo : ∀ (w1 : World) (L1 : List Res), Own w S w1 L1 → Rd w1 (.slice b 1 c2) 7 (List.map cec [x]) := fun w1 L1 h => hv.own h hnS
  refine W_seq ?_
  refine W_region ?_
  refine RW_op (L_assign (V := .slice none 0 0) rfl ?_)
  refine RW_nil ?_
  refine W_seq ?_
  refine W_region ?_
  refine RW_op (L_move (V := .slice a l.length c) rfl ?_)
  refine RW_op (L_move (V := .int .i64 ((i : Nat) : Int)) rfl ?_)
  refine RW_op (L_sl (l := i) (h := l.length) (m := c) (n' := (l.drop i).length) UDR_59 SA_128.1 (hs.rd 0 rfl) rfl (.inr ⟨_, _, rfl, rfl⟩) (.inl ⟨rfl, rfl⟩) (.inl ⟨rfl, rfl⟩) (by omega) (by omega) (Nat.le_trans (show l.length ≤ l.length by omega) (Rd.roomM (hs.rd 0 rfl))) (Nat.le_refl _) (by simp only [List.length_take, List.length_drop] <;> omega) ?_)
  refine RW_nil ?_
  refine W_seq ?_
  refine W_region ?_
  refine RW_op (L_move (V := .slice b 1 c2) rfl ?_)
  refine RW_op (opW_to (V := .int .i64 ((1 : Nat) : Int)) (V' := .int .i64 1) (L_lenR (n := 1) UD_59 (hvo _ _ hs) (by simp) rfl ⟨rfl, rfl⟩) rfl ?_)
  refine RW_op (L_assign (V := .int .i64 1) rfl ?_)
  refine RW_nil ?_
  refine W_seq ?_
  refine W_seq ?_
  refine W_region ?_
  refine RW_op (L_move (V := .int .i64 1) rfl ?_)
  refine RW_op (opW_to (V := .bool (decide ((1 : Int) = 0))) (V' := .bool false) (L_eql rfl rfl ⟨rfl, rfl⟩) (congrArg Value.bool (by decide)) ?_)
  refine RW_nil ?_
  refine W_condF rfl ?_
  refine W_skip ?_
  refine W_seq ?_
  refine W_region ?_
  refine RW_op (L_move (V := .slice a l.length c) rfl ?_)
  refine RW_op (L_lenR (n := l.length) UD_59 (hs.rd 0 rfl) (by simp) rfl ?_)
  refine RW_op (L_assign (V := .int .i64 ((l.length : Nat) : Int)) rfl ?_)
  refine RW_nil ?_
  refine W_seq ?_
  refine W_seq ?_
  refine W_region ?_
  refine RW_op (L_move (V := .int .i64 ((i : Nat) : Int)) rfl ?_)
  refine RW_op (L_move (V := .int .i64 ((l.length : Nat) : Int)) rfl ?_)
  refine RW_op (L_eql rfl rfl ?_)
  refine RW_nil ?_
  refine W_cond (t := decide (((i : Nat) : Int) = ((l.length : Nat) : Int))) rfl (fun c1 => ?_) (fun c1 => ?_)
  ·
    replace c1 := of_decide_eq_true c1
    refine W_seq ?_
    refine W_region ?_
    refine RW_op (L_move (V := .slice a l.length c) rfl ?_)
    refine RW_op (L_move (V := .slice b 1 c2) rfl ?_)
    refine RW_op (L_appN (ls' := (l ++ [x]).map cec) (n := (l ++ [x]).length) EL_59 hs 0 rfl rfl rfl (hvo _ _ hs) (one_map cec_one _) (by simp only [List.length_map, List.length_append, List.length_cons, List.length_nil]; omega) (by simp) (by simp) fun a2 c2 w3 hs => ?_)
    refine RW_op (L_assign (V := .slice a2 ((l ++ [x]).length) c2) rfl ?_)
    refine RW_nil ?_
    refine W_ret ?_
    refine ⟨_, res_one (V := .slice a2 ((l ++ [x]).length) c2) Try.results90 rfl, ?_⟩
    have hX : l ++ [x] = insL l i x := ins_end' (by omega)
    rw [hX] at hs
    exact ⟨(a2, c2), by rw [← hX], hs.only 0 rfl, trivial⟩
  ·
    replace c1 := of_decide_eq_false c1
    refine W_skip ?_
    refine W_seq ?_
    refine W_seq ?_
    refine W_region ?_
    refine RW_op (L_move (V := .int .i64 ((l.length : Nat) : Int)) rfl ?_)
    refine RW_op (L_move (V := .int .i64 1) rfl ?_)
    refine RW_op (L_add (a := ((l.length : Nat) : Int)) (b := 1) (c := ((l.length + 1 : Nat) : Int)) rfl rfl (nat_i64 (by omega) (by omega)) ?_)
    refine RW_op (L_move (V := .slice a l.length c) rfl ?_)
    refine RW_op (L_capS UD_59 rfl ?_)
    refine RW_op (L_gtr rfl rfl ?_)
    refine RW_nil ?_
    refine W_cond (t := decide (((c : Nat) : Int) < ((l.length + 1 : Nat) : Int))) rfl (fun c4 => ?_) (fun c4 => ?_)
    ·
      replace c4 := of_decide_eq_true c4
      refine W_seq ?_
      refine W_region ?_
      refine RW_op (L_move (V := .slice a l.length c) rfl ?_)
      refine RW_op (L_move (V := .int .i64 ((i : Nat) : Int)) rfl ?_)
      refine RW_op (L_slV (l := 0) (h := i) (n' := i) UDR_59 SA_128.1 (by omega) rfl (.inl ⟨rfl, rfl⟩) (.inr ⟨_, _, rfl, rfl⟩) (by omega) (by omega) (by omega) ?_)
      refine RW_op (L_move (V := .int .i64 ((l.length : Nat) : Int)) rfl ?_)
      refine RW_op (L_move (V := .int .i64 1) rfl ?_)
      refine RW_op (L_add (a := ((l.length : Nat) : Int)) (b := 1) (c := ((l.length + 1 : Nat) : Int)) rfl rfl (nat_i64 (by omega) (by omega)) ?_)
      refine RW_op (L_move (V := .int .i64 ((i : Nat) : Int)) rfl ?_)
      refine RW_op (L_sub (a := ((l.length + 1 : Nat) : Int)) (b := ((i : Nat) : Int)) (c := (((l.length + 1) - i : Nat) : Int)) rfl rfl (nat_i64 (by omega) (by omega)) ?_)
      refine RW_op (L_appZ (zl := cec (⟨0, 0, 0, 0, (⟨0, 0⟩ : Dot), 0⟩ : Cen)) (ls' := (l.take i ++ List.replicate ((l.length + 1) - i) (⟨0, 0, 0, 0, (⟨0, 0⟩ : Dot), 0⟩ : Cen)).map cec) EL_59 UDR_3 (.inl ZV_128) hs (hs.rd 0 rfl) rfl rfl (by rw [List.length_map]; omega) (by rw [List.length_map]; omega) (by omega) (by omega) (one_map cec_one _) (cec_one _) rfl (by omega) (by simp only [List.map_append, List.map_take, List.map_replicate]) (l.take i ++ List.replicate ((l.length + 1) - i) (⟨0, 0, 0, 0, (⟨0, 0⟩ : Dot), 0⟩ : Cen)).length (by rw [List.length_map]) fun a5 c5 w6 hs => ?_)
      refine RW_op (L_assign (V := .slice a5 ((l.take i ++ List.replicate ((l.length + 1) - i) (⟨0, 0, 0, 0, (⟨0, 0⟩ : Dot), 0⟩ : Cen)).length) c5) rfl ?_)
      refine RW_nil ?_
      refine W_seq ?_
      have hq9 : (l.take i ++ List.replicate ((l.length + 1) - i) (⟨0, 0, 0, 0, (⟨0, 0⟩ : Dot), 0⟩ : Cen)).length = l.length + 1 := by simp only [List.length_append, List.length_take, List.length_replicate]; omega
      have hr9 := (hs.rd 1 rfl).roomM
      refine W_region ?_
      refine RW_op (L_move (V := .slice a5 ((l.take i ++ List.replicate ((l.length + 1) - i) (⟨0, 0, 0, 0, (⟨0, 0⟩ : Dot), 0⟩ : Cen)).length) c5) rfl ?_)
      refine RW_op (L_move (V := .int .i64 ((i : Nat) : Int)) rfl ?_)
      refine RW_op (L_slV (l := i) (h := (l.take i ++ List.replicate ((l.length + 1) - i) (⟨0, 0, 0, 0, (⟨0, 0⟩ : Dot), 0⟩ : Cen)).length) (n' := ((l.take i ++ List.replicate ((l.length + 1) - i) (⟨0, 0, 0, 0, (⟨0, 0⟩ : Dot), 0⟩ : Cen)).length) - i) UDR_59 SA_128.1 (by omega) rfl (.inr ⟨_, _, rfl, rfl⟩) (.inl ⟨rfl, rfl⟩) (by omega) (by omega) (by omega) ?_)
      refine RW_op (L_move (V := .slice b 1 c2) rfl ?_)
      refine RW_op (L_copyTo (lo := i) (ms := [x].map cec) (ls' := ((l.take i ++ List.replicate ((l.length + 1) - i) (⟨0, 0, 0, 0, (⟨0, 0⟩ : Dot), 0⟩ : Cen)).take i ++ [x] ++ (l.take i ++ List.replicate ((l.length + 1) - i) (⟨0, 0, 0, 0, (⟨0, 0⟩ : Dot), 0⟩ : Cen)).drop (i + [x].length)).map cec) (n' := ((l.take i ++ List.replicate ((l.length + 1) - i) (⟨0, 0, 0, 0, (⟨0, 0⟩ : Dot), 0⟩ : Cen)).take i ++ [x] ++ (l.take i ++ List.replicate ((l.length + 1) - i) (⟨0, 0, 0, 0, (⟨0, 0⟩ : Dot), 0⟩ : Cen)).drop (i + [x].length)).length) EL_59 hs 1 rfl rfl rfl (by simp only [List.length_map, List.length_drop, List.length_take, List.length_cons, List.length_nil, List.length_append, List.length_replicate]; omega) (Rd.srcs (hvo _ _ hs)) (len_map (enc := cec) (fun _ => rfl) _) (one_map cec_one _) (by simp only [List.length_map, List.length_drop, List.length_take, List.length_cons, List.length_nil, List.length_append, List.length_replicate]; omega) (by simp only [List.length_map, List.length_drop, List.length_take, List.length_cons, List.length_nil, List.length_append, List.length_replicate]; omega) (by simp only [List.map_append, List.map_take, List.map_drop, List.map_cons, List.map_nil, List.length_map, List.length_drop, List.length_take, List.length_cons, List.length_nil]) (by rw [List.length_map]) fun w7 hs => ?_)
      refine RW_nil ?_
      refine W_seq ?_
      refine W_regD HM [some 46, some 47, some 48, some 49, some 50, some 51, some 52, some 53, some 54] [] [0, 0, 0, 6, 15, 0, 0, 96, 255] [pv (.slice a5 ((l.take i ++ List.replicate ((l.length + 1) - i) (⟨0, 0, 0, 0, (⟨0, 0⟩ : Dot), 0⟩ : Cen)).length) c5), pv (.int .i64 ((i : Nat) : Int)), pv (.int .i64 1), pv (.int .i64 ((i + 1 : Nat) : Int)), pv (.slice (sla a5 (i + 1) c5 7) (((l.take i ++ List.replicate ((l.length + 1) - i) (⟨0, 0, 0, 0, (⟨0, 0⟩ : Dot), 0⟩ : Cen)).length) - (i + 1)) (c5 - (i + 1))), pv (.slice a l.length c), pv (.int .i64 ((i : Nat) : Int)), pv (.slice (sla a i c 7) ((l.drop i).length) (c - i)), pv (.int .i64 (((List.map cec (l.drop i)).length : Nat) : Int))] (fun D ρ => [row (.slice a l.length c) (l.map cec) 128 7, cond (D 8) (row (.slice a5 ((((l.take i ++ List.replicate ((l.length + 1) - i) (⟨0, 0, 0, 0, (⟨0, 0⟩ : Dot), 0⟩ : Cen)).take i ++ [x] ++ (l.take i ++ List.replicate ((l.length + 1) - i) (⟨0, 0, 0, 0, (⟨0, 0⟩ : Dot), 0⟩ : Cen)).drop (i + [x].length)).take (i + 1) ++ l.drop i ++ ((l.take i ++ List.replicate ((l.length + 1) - i) (⟨0, 0, 0, 0, (⟨0, 0⟩ : Dot), 0⟩ : Cen)).take i ++ [x] ++ (l.take i ++ List.replicate ((l.length + 1) - i) (⟨0, 0, 0, 0, (⟨0, 0⟩ : Dot), 0⟩ : Cen)).drop (i + [x].length)).drop (i + 1 + (l.drop i).length)).length) c5) ((((l.take i ++ List.replicate ((l.length + 1) - i) (⟨0, 0, 0, 0, (⟨0, 0⟩ : Dot), 0⟩ : Cen)).take i ++ [x] ++ (l.take i ++ List.replicate ((l.length + 1) - i) (⟨0, 0, 0, 0, (⟨0, 0⟩ : Dot), 0⟩ : Cen)).drop (i + [x].length)).take (i + 1) ++ l.drop i ++ ((l.take i ++ List.replicate ((l.length + 1) - i) (⟨0, 0, 0, 0, (⟨0, 0⟩ : Dot), 0⟩ : Cen)).take i ++ [x] ++ (l.take i ++ List.replicate ((l.length + 1) - i) (⟨0, 0, 0, 0, (⟨0, 0⟩ : Dot), 0⟩ : Cen)).drop (i + [x].length)).drop (i + 1 + (l.drop i).length)).map cec) 128 7) (row (.slice a5 (((l.take i ++ List.replicate ((l.length + 1) - i) (⟨0, 0, 0, 0, (⟨0, 0⟩ : Dot), 0⟩ : Cen)).take i ++ [x] ++ (l.take i ++ List.replicate ((l.length + 1) - i) (⟨0, 0, 0, 0, (⟨0, 0⟩ : Dot), 0⟩ : Cen)).drop (i + [x].length)).length) c5) (((l.take i ++ List.replicate ((l.length + 1) - i) (⟨0, 0, 0, 0, (⟨0, 0⟩ : Dot), 0⟩ : Cen)).take i ++ [x] ++ (l.take i ++ List.replicate ((l.length + 1) - i) (⟨0, 0, 0, 0, (⟨0, 0⟩ : Dot), 0⟩ : Cen)).drop (i + [x].length)).map cec) 128 7)]) [] (by kernel_rfl) hs ⟨?_, ?_, ?_, ?_, ?_, ?_, ?_, ?_, ?_, trivial⟩ ?_
      · exact ob [] [] rfl rfl fun D ρ w hs => L_move (V := .slice a5 ((l.take i ++ List.replicate ((l.length + 1) - i) (⟨0, 0, 0, 0, (⟨0, 0⟩ : Dot), 0⟩ : Cen)).length) c5) rfl ⟨rfl, hs⟩
      · exact ob [] [] rfl rfl fun D ρ w hs => L_move (V := .int .i64 ((i : Nat) : Int)) rfl ⟨rfl, hs⟩
      · exact ob [] [] rfl rfl fun D ρ w hs => L_move (V := .int .i64 1) rfl ⟨rfl, hs⟩
      · exact ob [1, 2] [] rfl rfl fun D ρ w hs => L_add (a := ((i : Nat) : Int)) (b := 1) (c := ((i + 1 : Nat) : Int)) rfl rfl (nat_i64 (by omega) (by omega)) ⟨rfl, hs⟩
      · exact ob [0, 3] [] rfl rfl fun D ρ w hs => L_slV (l := i + 1) (h := (l.take i ++ List.replicate ((l.length + 1) - i) (⟨0, 0, 0, 0, (⟨0, 0⟩ : Dot), 0⟩ : Cen)).length) (n' := ((l.take i ++ List.replicate ((l.length + 1) - i) (⟨0, 0, 0, 0, (⟨0, 0⟩ : Dot), 0⟩ : Cen)).length) - (i + 1)) UDR_59 SA_128.1 (by omega) rfl (.inr ⟨_, _, rfl, rfl⟩) (.inl ⟨rfl, rfl⟩) (by omega) (by omega) (by omega) ⟨rfl, hs⟩
      · exact ob [] [] rfl rfl fun D ρ w hs => L_move (V := .slice a l.length c) rfl ⟨rfl, hs⟩
      · exact ob [] [] rfl rfl fun D ρ w hs => L_move (V := .int .i64 ((i : Nat) : Int)) rfl ⟨rfl, hs⟩
      · exact ob [5, 6] [] rfl rfl fun D ρ w hs => L_sl (l := i) (h := l.length) (m := c) (n' := (l.drop i).length) UDR_59 SA_128.1 (hs.rd 0 rfl) rfl (.inr ⟨_, _, rfl, rfl⟩) (.inl ⟨rfl, rfl⟩) (.inl ⟨rfl, rfl⟩) (by omega) (by omega) (Nat.le_trans (show l.length ≤ l.length by omega) (Rd.roomM (hs.rd 0 rfl))) (Nat.le_refl _) (by simp only [List.length_take, List.length_drop] <;> omega) ⟨rfl, hs⟩
      · exact ob [4, 7] [] rfl rfl fun D ρ w hs => L_copyTo (lo := i + 1) (ms := (l.drop i).map cec) (ls' := (((l.take i ++ List.replicate ((l.length + 1) - i) (⟨0, 0, 0, 0, (⟨0, 0⟩ : Dot), 0⟩ : Cen)).take i ++ [x] ++ (l.take i ++ List.replicate ((l.length + 1) - i) (⟨0, 0, 0, 0, (⟨0, 0⟩ : Dot), 0⟩ : Cen)).drop (i + [x].length)).take (i + 1) ++ l.drop i ++ ((l.take i ++ List.replicate ((l.length + 1) - i) (⟨0, 0, 0, 0, (⟨0, 0⟩ : Dot), 0⟩ : Cen)).take i ++ [x] ++ (l.take i ++ List.replicate ((l.length + 1) - i) (⟨0, 0, 0, 0, (⟨0, 0⟩ : Dot), 0⟩ : Cen)).drop (i + [x].length)).drop (i + 1 + (l.drop i).length)).map cec) (n' := (((l.take i ++ List.replicate ((l.length + 1) - i) (⟨0, 0, 0, 0, (⟨0, 0⟩ : Dot), 0⟩ : Cen)).take i ++ [x] ++ (l.take i ++ List.replicate ((l.length + 1) - i) (⟨0, 0, 0, 0, (⟨0, 0⟩ : Dot), 0⟩ : Cen)).drop (i + [x].length)).take (i + 1) ++ l.drop i ++ ((l.take i ++ List.replicate ((l.length + 1) - i) (⟨0, 0, 0, 0, (⟨0, 0⟩ : Dot), 0⟩ : Cen)).take i ++ [x] ++ (l.take i ++ List.replicate ((l.length + 1) - i) (⟨0, 0, 0, 0, (⟨0, 0⟩ : Dot), 0⟩ : Cen)).drop (i + [x].length)).drop (i + 1 + (l.drop i).length)).length) EL_59 hs 1 rfl rfl rfl (by simp only [List.length_map, List.length_drop, List.length_take, List.length_cons, List.length_nil, List.length_append, List.length_replicate]; omega) (Rd.srcs (Rd.dropM (hs.rd 0 rfl) i hi _ rfl)) (len_map (enc := cec) (fun _ => rfl) _) (one_map cec_one _) (by simp only [List.length_map, List.length_drop, List.length_take, List.length_cons, List.length_nil, List.length_append, List.length_replicate]; omega) (by simp only [List.length_map, List.length_drop, List.length_take, List.length_cons, List.length_nil, List.length_append, List.length_replicate]; omega) (by simp only [List.map_append, List.map_take, List.map_drop, List.map_cons, List.map_nil, List.length_map, List.length_drop, List.length_take, List.length_cons, List.length_nil]) (by rw [List.length_map]) fun _ hs => ⟨rfl, hs⟩
      rintro ρ1 w9 ρ2 hρ hs
      replace hρ : ρ2 = mix [46, 47, 48, 49, 50, 51, 52, 53, 54] ρ1 _ := hρ
      replace hs : Own w S w9 [row (.slice a l.length c) (l.map cec) 128 7, row (.slice a5 ((((l.take i ++ List.replicate ((l.length + 1) - i) (⟨0, 0, 0, 0, (⟨0, 0⟩ : Dot), 0⟩ : Cen)).take i ++ [x] ++ (l.take i ++ List.replicate ((l.length + 1) - i) (⟨0, 0, 0, 0, (⟨0, 0⟩ : Dot), 0⟩ : Cen)).drop (i + [x].length)).take (i + 1) ++ l.drop i ++ ((l.take i ++ List.replicate ((l.length + 1) - i) (⟨0, 0, 0, 0, (⟨0, 0⟩ : Dot), 0⟩ : Cen)).take i ++ [x] ++ (l.take i ++ List.replicate ((l.length + 1) - i) (⟨0, 0, 0, 0, (⟨0, 0⟩ : Dot), 0⟩ : Cen)).drop (i + [x].length)).drop (i + 1 + (l.drop i).length)).length) c5) ((((l.take i ++ List.replicate ((l.length + 1) - i) (⟨0, 0, 0, 0, (⟨0, 0⟩ : Dot), 0⟩ : Cen)).take i ++ [x] ++ (l.take i ++ List.replicate ((l.length + 1) - i) (⟨0, 0, 0, 0, (⟨0, 0⟩ : Dot), 0⟩ : Cen)).drop (i + [x].length)).take (i + 1) ++ l.drop i ++ ((l.take i ++ List.replicate ((l.length + 1) - i) (⟨0, 0, 0, 0, (⟨0, 0⟩ : Dot), 0⟩ : Cen)).take i ++ [x] ++ (l.take i ++ List.replicate ((l.length + 1) - i) (⟨0, 0, 0, 0, (⟨0, 0⟩ : Dot), 0⟩ : Cen)).drop (i + [x].length)).drop (i + 1 + (l.drop i).length)).map cec) 128 7] := hs
      subst hρ
      refine W_seq ?_
      refine W_region ?_
      refine RW_op (L_move (V := .slice a5 ((l.take i ++ List.replicate ((l.length + 1) - i) (⟨0, 0, 0, 0, (⟨0, 0⟩ : Dot), 0⟩ : Cen)).length) c5) rfl ?_)
      refine RW_op (L_assign (V := .slice a5 ((l.take i ++ List.replicate ((l.length + 1) - i) (⟨0, 0, 0, 0, (⟨0, 0⟩ : Dot), 0⟩ : Cen)).length) c5) rfl ?_)
      refine RW_nil ?_
      refine W_ret ?_
      refine ⟨_, res_one (V := .slice a5 ((l.take i ++ List.replicate ((l.length + 1) - i) (⟨0, 0, 0, 0, (⟨0, 0⟩ : Dot), 0⟩ : Cen)).length) c5) Try.results90 rfl, ?_⟩
      have hX : ((l.take i ++ List.replicate ((l.length + 1) - i) (⟨0, 0, 0, 0, (⟨0, 0⟩ : Dot), 0⟩ : Cen)).take i ++ [x] ++ (l.take i ++ List.replicate ((l.length + 1) - i) (⟨0, 0, 0, 0, (⟨0, 0⟩ : Dot), 0⟩ : Cen)).drop (i + [x].length)).take (i + 1) ++ l.drop i ++ ((l.take i ++ List.replicate ((l.length + 1) - i) (⟨0, 0, 0, 0, (⟨0, 0⟩ : Dot), 0⟩ : Cen)).take i ++ [x] ++ (l.take i ++ List.replicate ((l.length + 1) - i) (⟨0, 0, 0, 0, (⟨0, 0⟩ : Dot), 0⟩ : Cen)).drop (i + [x].length)).drop (i + 1 + (l.drop i).length) = insL l i x := ins_grow hi
      rw [hX] at hs
      exact ⟨(a5, c5), by rw [hq9, insL_len hi], hs.only 1 rfl, trivial⟩
    ·
      replace c4 := of_decide_eq_false c4
      refine W_skip ?_
      refine W_seq ?_
      refine W_region ?_
      refine RW_op (L_move (V := .slice a l.length c) rfl ?_)
      refine RW_op (L_move (V := .int .i64 ((l.length : Nat) : Int)) rfl ?_)
      refine RW_op (L_move (V := .int .i64 1) rfl ?_)
      refine RW_op (L_add (a := ((l.length : Nat) : Int)) (b := 1) (c := ((l.length + 1 : Nat) : Int)) rfl rfl (nat_i64 (by omega) (by omega)) ?_)
      refine RW_op (opW_to (V := .slice (sla a 0 c 7) (l.length + 1) (c - 0)) (V' := .slice a (l.length + 1) c) (L_slV (l := 0) (h := l.length + 1) (n' := l.length + 1) UDR_59 SA_128.1 (by omega) rfl (.inl ⟨rfl, rfl⟩) (.inr ⟨_, _, rfl, rfl⟩) (by omega) (by omega) (by omega) ⟨rfl, rfl⟩) (by rw [sla_zero]; rfl) ?_)
      refine RW_op (L_assign (V := .slice a (l.length + 1) c) rfl ?_)
      refine RW_nil ?_
      refine W_seq ?_
      refine W_seq ?_
      refine W_region ?_
      refine RW_op (L_move (V := .slice b 1 c2) rfl ?_)
      refine RW_op (L_move (V := .slice a (l.length + 1) c) rfl ?_)
      refine RW_op (L_move (V := .int .i64 ((i : Nat) : Int)) rfl ?_)
      refine RW_op (L_move (V := .int .i64 1) rfl ?_)
      refine RW_op (L_add (a := ((i : Nat) : Int)) (b := 1) (c := ((i + 1 : Nat) : Int)) rfl rfl (nat_i64 (by omega) (by omega)) ?_)
      refine RW_op (L_slV (l := i + 1) (h := l.length + 1) (n' := (l.length + 1) - (i + 1)) UDR_59 SA_128.1 (by omega) rfl (.inr ⟨_, _, rfl, rfl⟩) (.inl ⟨rfl, rfl⟩) (by omega) (by omega) (by omega) ?_)
      refine RW_op (L_overA (f := 120) (tR := 4) (lo := i + 1) Try.func120 (by kernel_rfl) (by kernel_rfl) (by kernel_rfl) (by kernel_rfl) UDR_59 SA_128.1 rfl hs 0 rfl (by rw [List.length_map]; omega) (by decide) rfl (hpl.own hs hnS) hnS hvb (by omega) rfl ?_)
      refine RW_op (L_not rfl ?_)
      refine RW_nil ?_
      refine W_condT rfl ?_
      refine W_seq ?_
      refine W_regD HM [some 69, some 70, some 71, some 72, some 73, some 74, some 75, some 76, some 77] [] [0, 0, 0, 6, 15, 0, 0, 96, 255] [pv (.slice a (l.length + 1) c), pv (.int .i64 ((i : Nat) : Int)), pv (.int .i64 1), pv (.int .i64 ((i + 1 : Nat) : Int)), pv (.slice (sla a (i + 1) c 7) ((l.length + 1) - (i + 1)) (c - (i + 1))), pv (.slice a (l.length + 1) c), pv (.int .i64 ((i : Nat) : Int)), pv (.slice (sla a i c 7) ((l.length + 1) - i) (c - i)), pv (.int .i64 (((List.map cec (l.drop i)).length : Nat) : Int))] (fun D ρ => [cond (D 8) (row (.slice a ((l.take (i + 1) ++ l.drop i ++ l.drop (i + 1 + (l.drop i).length)).length) c) ((l.take (i + 1) ++ l.drop i ++ l.drop (i + 1 + (l.drop i).length)).map cec) 128 7) (row (.slice a l.length c) (l.map cec) 128 7)]) [] (by kernel_rfl) hs ⟨?_, ?_, ?_, ?_, ?_, ?_, ?_, ?_, ?_, trivial⟩ ?_
      · exact ob [] [] rfl rfl fun D ρ w hs => L_move (V := .slice a (l.length + 1) c) rfl ⟨rfl, hs⟩
      · exact ob [] [] rfl rfl fun D ρ w hs => L_move (V := .int .i64 ((i : Nat) : Int)) rfl ⟨rfl, hs⟩
      · exact ob [] [] rfl rfl fun D ρ w hs => L_move (V := .int .i64 1) rfl ⟨rfl, hs⟩
      · exact ob [1, 2] [] rfl rfl fun D ρ w hs => L_add (a := ((i : Nat) : Int)) (b := 1) (c := ((i + 1 : Nat) : Int)) rfl rfl (nat_i64 (by omega) (by omega)) ⟨rfl, hs⟩
      · exact ob [0, 3] [] rfl rfl fun D ρ w hs => L_slV (l := i + 1) (h := l.length + 1) (n' := (l.length + 1) - (i + 1)) UDR_59 SA_128.1 (by omega) rfl (.inr ⟨_, _, rfl, rfl⟩) (.inl ⟨rfl, rfl⟩) (by omega) (by omega) (by omega) ⟨rfl, hs⟩
      · exact ob [] [] rfl rfl fun D ρ w hs => L_move (V := .slice a (l.length + 1) c) rfl ⟨rfl, hs⟩
      · exact ob [] [] rfl rfl fun D ρ w hs => L_move (V := .int .i64 ((i : Nat) : Int)) rfl ⟨rfl, hs⟩
      · exact ob [5, 6] [] rfl rfl fun D ρ w hs => L_slV (l := i) (h := l.length + 1) (n' := (l.length + 1) - i) UDR_59 SA_128.1 (by omega) rfl (.inr ⟨_, _, rfl, rfl⟩) (.inl ⟨rfl, rfl⟩) (by omega) (by omega) (by omega) ⟨rfl, hs⟩
      · exact ob [4, 7] [] rfl rfl fun D ρ w hs => L_copyTo (lo := i + 1) (ms := (l.drop i).map cec) (ls' := (l.take (i + 1) ++ l.drop i ++ l.drop (i + 1 + (l.drop i).length)).map cec) (n' := (l.take (i + 1) ++ l.drop i ++ l.drop (i + 1 + (l.drop i).length)).length) EL_59 hs 0 rfl rfl rfl (by simp only [List.length_map, List.length_drop, List.length_take, List.length_cons, List.length_nil, List.length_append, List.length_replicate]; omega) (Rd.srcs (Rd.dropM (hs.rd 0 rfl) i hi _ rfl)) (len_map (enc := cec) (fun _ => rfl) _) (one_map cec_one _) (by simp only [List.length_map, List.length_drop, List.length_take, List.length_cons, List.length_nil, List.length_append, List.length_replicate]; omega) (by simp only [List.length_map, List.length_drop, List.length_take, List.length_cons, List.length_nil, List.length_append, List.length_replicate]; omega) (by simp only [List.map_append, List.map_take, List.map_drop, List.map_cons, List.map_nil, List.length_map, List.length_drop, List.length_take, List.length_cons, List.length_nil]) (by rw [List.length_map]) fun _ hs => ⟨rfl, hs⟩
      rintro ρ1 w11 ρ2 hρ hs
      replace hρ : ρ2 = mix [69, 70, 71, 72, 73, 74, 75, 76, 77] ρ1 _ := hρ
      replace hs : Own w S w11 [row (.slice a ((l.take (i + 1) ++ l.drop i ++ l.drop (i + 1 + (l.drop i).length)).length) c) ((l.take (i + 1) ++ l.drop i ++ l.drop (i + 1 + (l.drop i).length)).map cec) 128 7] := hs
      subst hρ
      refine W_seq ?_
      refine W_region ?_
      refine RW_op (L_move (V := .slice a (l.length + 1) c) rfl ?_)
      refine RW_op (L_move (V := .int .i64 ((i : Nat) : Int)) rfl ?_)
      refine RW_op (L_slV (l := i) (h := l.length + 1) (n' := (l.length + 1) - i) UDR_59 SA_128.1 (by omega) rfl (.inr ⟨_, _, rfl, rfl⟩) (.inl ⟨rfl, rfl⟩) (by omega) (by omega) (by omega) ?_)
      refine RW_op (L_move (V := .slice b 1 c2) rfl ?_)
      refine RW_op (L_copyTo (lo := i) (ms := [x].map cec) (ls' := ((l.take (i + 1) ++ l.drop i ++ l.drop (i + 1 + (l.drop i).length)).take i ++ [x] ++ (l.take (i + 1) ++ l.drop i ++ l.drop (i + 1 + (l.drop i).length)).drop (i + [x].length)).map cec) (n' := ((l.take (i + 1) ++ l.drop i ++ l.drop (i + 1 + (l.drop i).length)).take i ++ [x] ++ (l.take (i + 1) ++ l.drop i ++ l.drop (i + 1 + (l.drop i).length)).drop (i + [x].length)).length) EL_59 hs 0 rfl rfl rfl (by simp only [List.length_map, List.length_drop, List.length_take, List.length_cons, List.length_nil, List.length_append, List.length_replicate]; omega) (Rd.srcs (hvo _ _ hs)) (len_map (enc := cec) (fun _ => rfl) _) (one_map cec_one _) (by simp only [List.length_map, List.length_drop, List.length_take, List.length_cons, List.length_nil, List.length_append, List.length_replicate]; omega) (by simp only [List.length_map, List.length_drop, List.length_take, List.length_cons, List.length_nil, List.length_append, List.length_replicate]; omega) (by simp only [List.map_append, List.map_take, List.map_drop, List.map_cons, List.map_nil, List.length_map, List.length_drop, List.length_take, List.length_cons, List.length_nil]) (by rw [List.length_map]) fun w12 hs => ?_)
      refine RW_nil ?_
      refine W_seq ?_
      refine W_region ?_
      refine RW_op (L_move (V := .slice a (l.length + 1) c) rfl ?_)
      refine RW_op (L_assign (V := .slice a (l.length + 1) c) rfl ?_)
      refine RW_nil ?_
      refine W_ret ?_
      refine ⟨_, res_one (V := .slice a (l.length + 1) c) Try.results90 rfl, ?_⟩
      have hX : (l.take (i + 1) ++ l.drop i ++ l.drop (i + 1 + (l.drop i).length)).take i ++ [x] ++ (l.take (i + 1) ++ l.drop i ++ l.drop (i + 1 + (l.drop i).length)).drop (i + [x].length) = insL l i x := ins_room (by omega)
      rw [hX] at hs
      exact ⟨(a, c), by rw [insL_len hi], hs.only 0 rfl, trivial⟩
end Tt
end Go.Proofs
namespace Go.Proofs
open Go Go.Vx Go.RowKit
namespace Tt
set_option maxRecDepth 20000 in
set_option maxHeartbeats 4000000 in
theorem cApply_ok (w : World) (s : Sta) (a1 : Option Addr) (c1 : Nat) (a2 : Option Addr) (c2 : Nat) (o : Opn) (hO : OpnOk o) (hok : StaOk s) (hle : s.ents.length ≤ 1000) (hlt : s.ticks.length ≤ 1000) (hr1 : Rd w (.slice a1 s.ents.length c1) 7 (s.ents.map cec)) (hr2 : Rd w (.slice a2 s.ticks.length c2) 2 (s.ticks.map lsc)) : Calls Try.prog 45 #[.agg ((vc s.known) ++ [(.slice a1 s.ents.length c1 : Value), (.slice a2 s.ticks.length c2 : Value) ]).toArray, .agg (oc o).toArray] w (fun e w' => ∃ x : (Option Addr × Nat) × (Option Addr × Nat), e = .returned (.tuple #[.agg (vc (applyR s o).known ++ [(.slice x.1.1 (applyR s o).ents.length x.1.2 : Value), (.slice x.2.1 (applyR s o).ticks.length x.2.2 : Value)]).toArray, .int .i64 (applyI s o)]) ∧ Own w no w' [row (.slice x.1.1 (applyR s o).ents.length x.1.2) ((applyR s o).ents.map cec) 128 7, row (.slice x.2.1 (applyR s o).ticks.length x.2.2) ((applyR s o).ticks.map lsc) 126 2] ∧ True) := by
  refine calls_of_Wn (n := 85) Try.func45 rfl Try.ntmps45 rfl ?_
  have hs := Own.start w
  have ⟨hdo, _, _, _, _, _, hctx⟩ := hO
  have ⟨hv0, hE0, hT0⟩ := hok
  refine W_seq ?_
  refine W_region ?_
  refine RW_op (L_box (V := .agg ((vc s.known) ++ [(.slice a1 s.ents.length c1 : Value), (.slice a2 s.ticks.length c2 : Value) ]).toArray) (cs := (vc s.known) ++ [(.slice a1 s.ents.length c1 : Value), (.slice a2 s.ticks.length c2 : Value) ]) rfl rfl hs fun b1 w2 hs => ?_)
  refine RW_op (L_box (V := .agg (oc o).toArray) (cs := oc o) rfl rfl hs fun b3 w4 hs => ?_)
  refine RW_op (L_alloc (cs := (vc vzero) ++ [(.slice none 0 0 : Value), (.slice none 0 0 : Value) ]) ZV_62 rfl hs fun b5 w6 hs => ?_)
  refine RW_op (L_assign (V := .int .i64 0) rfl ?_)
  refine RW_nil ?_
  refine W_seq ?_
  refine W_seq ?_
  refine W_region ?_
  refine RW_op (L_ldW (cs := (vc s.known) ++ [(.slice a1 s.ents.length c1 : Value), (.slice a2 s.ticks.length c2 : Value) ]) SA_62 hs 0 rfl rfl rfl ?_)
  refine RW_op (L_callP (vs := [.agg ((vc s.known) ++ [(.slice a1 s.ents.length c1 : Value), (.slice a2 s.ticks.length c2 : Value) ]).toArray]) (V := .bool (rightS s)) EN_58 rfl rfl ?hc hs fun w7 hs => ?_)
  case hc => exact (cRight_ok _ s a1 c1 a2 c2 hok (by omega) (by omega) (Rd.own' hr1 hs) (Rd.own' hr2 hs))
  refine RW_op (L_not rfl ?_)
  refine RW_nil ?_
  refine W_cond (t := !(rightS s)) rfl (fun c8 => ?_) (fun c8 => ?_)
  ·
    replace c8 := not_t c8
    refine W_seq ?_
    refine W_region ?_
    refine RW_op (L_buildP (vs := []) (cs := (vc vzero) ++ [(.slice none 0 0 : Value), (.slice none 0 0 : Value) ]) [vc vzero, [(.slice none 0 0 : Value)], [(.slice none 0 0 : Value)]] [vc vzero, [(.slice none 0 0 : Value)], [(.slice none 0 0 : Value)]] BT_62 rfl (rfl) rfl rfl ?_)
    refine RW_op (L_st (V := .agg ((vc vzero) ++ [(.slice none 0 0 : Value), (.slice none 0 0 : Value) ]).toArray) (vs := (vc vzero) ++ [(.slice none 0 0 : Value), (.slice none 0 0 : Value) ]) (cs' := (vc vzero) ++ [(.slice none 0 0 : Value), (.slice none 0 0 : Value) ]) SA_62.1 hs 2 rfl rfl rfl rfl rfl (Nat.le_of_ble_eq_true rfl) (one_app (vc_one _) (one_cons rfl (one_cons rfl one_nil))) (spl_whole rfl) fun w9 hs => ?_)
    replace hs : Own w no w9 [blk b1 ((vc s.known) ++ [(.slice a1 s.ents.length c1 : Value), (.slice a2 s.ticks.length c2 : Value) ]) 62, blk b3 (oc o) 98, blk b5 ((vc vzero) ++ [(.slice none 0 0 : Value), (.slice none 0 0 : Value) ]) 62] := hs
    refine RW_op (L_assign (V := .int .i64 2) rfl ?_)
    refine RW_nil ?_
    refine W_ret ?_
    refine ⟨_, res_cell2 (cs := (vc vzero) ++ [(.slice none 0 0 : Value), (.slice none 0 0 : Value) ]) (V := .int .i64 2) Try.results45 SA_62 hs 2 rfl rfl rfl rfl, ?_⟩
    have hI : applyI s o = 2 := by unfold applyI; rw [if_neg (by rw [c8]; decide)]
    have hR : applyR s o = szero := by unfold applyR; rw [if_neg (by rw [hI]; decide)]
    rw [hI, hR]
    exact ⟨((none, 0), (none, 0)), rfl, ((hs.take 0).more _ (row_nil _ _ 128 7)).more _ (row_nil _ _ 126 2), trivial⟩
  ·
    replace c8 := not_f c8
    refine W_skip ?_
    refine W_seq ?_
    refine W_seq ?_
    refine W_region ?_
    refine RW_op (L_fieldAddr FA_62_0 rfl ?_)
    refine RW_op (L_ldA (vs := vc s.known) SA_53 hs 0 rfl rfl rfl rfl ?_)
    refine RW_op (L_ldW (cs := oc o) SA_98 hs 1 rfl rfl rfl ?_)
    refine RW_op (L_callP (vs := [.agg (vc s.known).toArray, .agg (oc o).toArray]) (V := .int .i64 (readyI s.known o)) EN_82 rfl rfl ?hc hs fun w10 hs => ?_)
    case hc => exact (oReady_ok _ s.known o (by assumption))
    refine RW_op (L_assign (V := .int .i64 (readyI s.known o)) rfl ?_)
    refine RW_nil ?_
    refine W_seq ?_
    refine W_region ?_
    refine RW_op (L_move (V := .int .i64 (readyI s.known o)) rfl ?_)
    refine RW_op (L_neq rfl rfl ?_)
    refine RW_nil ?_
    refine W_cond (t := !decide (readyI s.known o = 0)) rfl (fun c11 => ?_) (fun c11 => ?_)
    ·
      replace c11 := not_t c11
      replace c11 := of_decide_eq_false c11
      refine W_seq ?_
      refine W_region ?_
      refine RW_op (L_buildP (vs := []) (cs := (vc vzero) ++ [(.slice none 0 0 : Value), (.slice none 0 0 : Value) ]) [vc vzero, [(.slice none 0 0 : Value)], [(.slice none 0 0 : Value)]] [vc vzero, [(.slice none 0 0 : Value)], [(.slice none 0 0 : Value)]] BT_62 rfl (rfl) rfl rfl ?_)
      refine RW_op (L_move (V := .int .i64 (readyI s.known o)) rfl ?_)
      refine RW_op (L_st (V := .agg ((vc vzero) ++ [(.slice none 0 0 : Value), (.slice none 0 0 : Value) ]).toArray) (vs := (vc vzero) ++ [(.slice none 0 0 : Value), (.slice none 0 0 : Value) ]) (cs' := (vc vzero) ++ [(.slice none 0 0 : Value), (.slice none 0 0 : Value) ]) SA_62.1 hs 2 rfl rfl rfl rfl rfl (Nat.le_of_ble_eq_true rfl) (one_app (vc_one _) (one_cons rfl (one_cons rfl one_nil))) (spl_whole rfl) fun w12 hs => ?_)
      replace hs : Own w no w12 [blk b1 ((vc s.known) ++ [(.slice a1 s.ents.length c1 : Value), (.slice a2 s.ticks.length c2 : Value) ]) 62, blk b3 (oc o) 98, blk b5 ((vc vzero) ++ [(.slice none 0 0 : Value), (.slice none 0 0 : Value) ]) 62] := hs
      refine RW_op (L_assign (V := .int .i64 (readyI s.known o)) rfl ?_)
      refine RW_nil ?_
      refine W_ret ?_
      refine ⟨_, res_cell2 (cs := (vc vzero) ++ [(.slice none 0 0 : Value), (.slice none 0 0 : Value) ]) (V := .int .i64 (readyI s.known o)) Try.results45 SA_62 hs 2 rfl rfl rfl rfl, ?_⟩
      have hI : applyI s o = readyI s.known o := by unfold applyI; rw [if_pos c8]
      have hR : applyR s o = szero := by unfold applyR; rw [if_neg (by rw [hI]; exact c11)]
      rw [hI, hR]
      exact ⟨((none, 0), (none, 0)), rfl, ((hs.take 0).more _ (row_nil _ _ 128 7)).more _ (row_nil _ _ 126 2), trivial⟩
    ·
      replace c11 := not_f c11
      replace c11 := of_decide_eq_true c11
      refine W_skip ?_
      refine W_seq ?_
      refine W_region ?_
      refine RW_op (L_ldW (cs := (vc s.known) ++ [(.slice a1 s.ents.length c1 : Value), (.slice a2 s.ticks.length c2 : Value) ]) SA_62 hs 0 rfl rfl rfl ?_)
      refine RW_op (L_callX (α := (Option Addr × Nat) × (Option Addr × Nat)) (vs := [.agg ((vc s.known) ++ [(.slice a1 s.ents.length c1 : Value), (.slice a2 s.ticks.length c2 : Value) ]).toArray]) EN_83 rfl rfl (sOwn_ok _ s a1 c1 a2 c2 hok (by omega) (by omega) (Rd.own' hr1 hs) (Rd.own' hr2 hs)) hs fun x13 w14 hs _ => ?_)
      replace hs : Own w no w14 [blk b1 ((vc s.known) ++ [(.slice a1 s.ents.length c1 : Value), (.slice a2 s.ticks.length c2 : Value) ]) 62, blk b3 (oc o) 98, blk b5 ((vc vzero) ++ [(.slice none 0 0 : Value), (.slice none 0 0 : Value) ]) 62, row (.slice x13.1.1 s.ents.length x13.1.2) (s.ents.map cec) 128 7, row (.slice x13.2.1 s.ticks.length x13.2.2) (s.ticks.map lsc) 126 2] := hs
      refine RW_op (L_alloc (cs := (vc vzero) ++ [(.slice none 0 0 : Value), (.slice none 0 0 : Value) ]) ZV_62 rfl hs fun b15 w16 hs => ?_)
      refine RW_op (L_st (V := .agg ((vc s.known) ++ [(.slice x13.1.1 s.ents.length x13.1.2 : Value), (.slice x13.2.1 s.ticks.length x13.2.2 : Value) ]).toArray) (vs := (vc s.known) ++ [(.slice x13.1.1 s.ents.length x13.1.2 : Value), (.slice x13.2.1 s.ticks.length x13.2.2 : Value) ]) (cs' := (vc s.known) ++ [(.slice x13.1.1 s.ents.length x13.1.2 : Value), (.slice x13.2.1 s.ticks.length x13.2.2 : Value) ]) SA_62.1 hs 5 rfl rfl rfl rfl rfl (Nat.le_of_ble_eq_true rfl) (one_app (vc_one _) (one_cons rfl (one_cons rfl one_nil))) (spl_whole rfl) fun w17 hs => ?_)
      refine RW_nil ?_
      refine W_seq ?_
      have hrc := rightS_iff.1 c8
      have hrd := readyI_dot hO c11
      have ⟨hd0, hd1, hd2, hd3⟩ := hrd.1
      have hfd := fresh_dot hrc hrd.2
      refine W_region ?_
      refine RW_op (L_fieldAddr FA_98_0 rfl ?_)
      refine RW_op (L_fieldAddr FA_96_0 rfl ?_)
      refine RW_op (L_ld (V := .int .u8 o.dot.rep) S1_5 hs 1 rfl rfl rfl ?_)
      refine RW_op (L_fieldAddr FA_98_0 rfl ?_)
      refine RW_op (L_fieldAddr FA_96_1 rfl ?_)
      refine RW_op (L_ld (V := .int .u32 o.dot.seq) S1_51 hs 1 rfl rfl rfl ?_)
      refine RW_op (L_fieldAddr FA_62_0 rfl ?_)
      refine RW_op (L_ixArr1 UD_53 S1_51.1 rfl rfl (by omega) (by omega) ?_)
      refine RW_op (L_st1 (V := .int .u32 o.dot.seq) (cs' := (vc (vset s.known o.dot.rep.toNat o.dot.seq)) ++ [(.slice x13.1.1 s.ents.length x13.1.2 : Value), (.slice x13.2.1 s.ticks.length x13.2.2 : Value) ]) S1_51 hs 5 rfl rfl rfl rfl (vc_ltA (by omega)) (vc_setA (by omega) (by omega)) fun w18 hs => ?_)
      refine RW_nil ?_
      refine W_seq ?_
      refine W_region ?_
      refine RW_op (L_fieldAddr FA_62_1 rfl ?_)
      refine RW_op (L_ld (V := .slice x13.1.1 s.ents.length x13.1.2) S1_59 hs 5 rfl rfl rfl ?_)
      refine RW_op (L_makeFunc (cs := [.pointer (some ⟨b3, 0, none⟩)]) rfl rfl ?_)
      refine RW_op (L_callE (α := Unit) (vs := [.slice x13.1.1 s.ents.length x13.1.2, .func (.func 85) #[] #[.pointer (some ⟨b3, 0, none⟩)]]) (V := fun _ => .slice x13.1.1 (s.ents.filter fun x => !(fun x => endsB o (laidO x)) x).length x13.1.2) (R := row (.slice x13.1.1 s.ents.length x13.1.2) (s.ents.map cec) 128 7) (R' := fun _ => row (.slice x13.1.1 (s.ents.filter fun x => !(fun x => endsB o (laidO x)) x).length x13.1.2) ((s.ents.filter fun x => !(fun x => endsB o (laidO x)) x).map cec) 128 7) (Lo := fun _ => []) (F := fun _ _ => True) EN_84 rfl rfl hs 3 1 (by decide) rfl rfl (fun S hS hlS hSb hc => dlf128_ok _ S x13.1.1 x13.1.2 s.ents 85 [.pointer (some ⟨b3, 0, none⟩)] EN_85 (fun x => endsB o (laidO x)) (fun w1 L1 h x hx => apply1_ok w1 x o b3 (hE0 x hx).2.2.2.2.1 (hc.own h hSb)) hS hlS) fun _ w19 hs _ => ?_)
      replace hs : Own w no w19 [blk b1 ((vc s.known) ++ [(.slice a1 s.ents.length c1 : Value), (.slice a2 s.ticks.length c2 : Value) ]) 62, blk b3 (oc o) 98, blk b5 ((vc vzero) ++ [(.slice none 0 0 : Value), (.slice none 0 0 : Value) ]) 62, row (.slice x13.1.1 ((s.ents.filter fun x => !(fun x => endsB o (laidO x)) x).length) x13.1.2) ((s.ents.filter fun x => !(fun x => endsB o (laidO x)) x).map cec) 128 7, row (.slice x13.2.1 s.ticks.length x13.2.2) (s.ticks.map lsc) 126 2, blk b15 ((vc (vset s.known o.dot.rep.toNat o.dot.seq)) ++ [(.slice x13.1.1 s.ents.length x13.1.2 : Value), (.slice x13.2.1 s.ticks.length x13.2.2 : Value) ]) 62] := hs
      refine RW_op (L_fieldAddr FA_62_1 rfl ?_)
      refine RW_op (L_st1 (V := .slice x13.1.1 ((s.ents.filter fun x => !(fun x => endsB o (laidO x)) x).length) x13.1.2) (cs' := (vc (vset s.known o.dot.rep.toNat o.dot.seq)) ++ [(.slice x13.1.1 ((s.ents.filter fun x => !(fun x => endsB o (laidO x)) x).length) x13.1.2 : Value), (.slice x13.2.1 s.ticks.length x13.2.2 : Value) ]) S1_59 hs 5 rfl rfl rfl rfl (Nat.le_of_ble_eq_true rfl) rfl fun w20 hs => ?_)
      refine RW_nil ?_
      refine W_seq ?_
      refine W_seq ?_
      refine W_regO [some 38, some 39, some 40, some 41, some 42, some 43, some 44, some 45, some 46, some 47, some 48, some 49, some 50] [] [0, 1, 3, 7, 15, 31, 63, 127, 255, 511, 1023, 2047, 4095] [pv (.pointer (some ⟨b3, 0 + 2, none⟩)), pv (.int .u8 o.kind), pv (.bool (decide (o.kind = 1))), pv (.bool (decide (o.kind = 1))), pg ((decide (o.kind = 1)) == false) (.pointer (some ⟨b3, 0 + 2, none⟩)), pg ((decide (o.kind = 1)) == false) (.int .u8 o.kind), pg ((decide (o.kind = 1)) == false) (.bool (decide (o.kind = 2))), pv (.bool ((decide (o.kind = 1)) || (decide (o.kind = 2)))), pv (.bool ((decide (o.kind = 1)) || (decide (o.kind = 2)))), pg (((decide (o.kind = 1)) || (decide (o.kind = 2))) == false) (.pointer (some ⟨b3, 0 + 2, none⟩)), pg (((decide (o.kind = 1)) || (decide (o.kind = 2))) == false) (.int .u8 o.kind), pg (((decide (o.kind = 1)) || (decide (o.kind = 2))) == false) (.bool (decide (o.kind = 4))), pv (.bool (laysB o))] (fun _ _ => _) [12] (by kernel_rfl) hs ⟨?_, ?_, ?_, ?_, ?_, ?_, ?_, ?_, ?_, ?_, ?_, ?_, ?_, trivial⟩ ?_
      · exact ob [] [] rfl rfl fun D ρ w hs => L_fieldAddr FA_98_1 rfl ⟨rfl, hs⟩
      · exact ob [0] [] rfl rfl fun D ρ w hs => L_ld (V := .int .u8 o.kind) S1_5 hs 1 rfl rfl rfl ⟨rfl, hs⟩
      · exact ob [1] [] rfl rfl fun D ρ w hs => L_eql rfl rfl ⟨rfl, hs⟩
      · exact ob [2] [] rfl rfl fun D ρ w hs => L_move (V := .bool (decide (o.kind = 1))) rfl ⟨rfl, hs⟩
      · exact obg [3] [] (decide (o.kind = 1)) rfl (fun _ => rfl) rfl (fun _ _ _ _ h => h) fun D ρ w hG hs => L_fieldAddr FA_98_1 rfl ⟨rfl, hs⟩
      · exact obgy [3, 4] [] [4] (decide (o.kind = 1)) rfl (fun _ => rfl) rfl (fun _ _ _ _ h => h) (fun hG => ⟨hG, trivial⟩) fun D ρ w hG hs => L_ld (V := .int .u8 o.kind) S1_5 hs 1 rfl rfl rfl ⟨rfl, hs⟩
      · exact obgy [3, 5] [] [5] (decide (o.kind = 1)) rfl (fun _ => rfl) rfl (fun _ _ _ _ h => h) (fun hG => ⟨hG, trivial⟩) fun D ρ w hG hs => L_eql rfl rfl ⟨rfl, hs⟩
      · exact ob [3, 6] [] rfl rfl fun D ρ w hs => L_orC (h' := decide (o.kind = 2)) rfl rfl rfl ⟨rfl, hs⟩
      · exact ob [7] [] rfl rfl fun D ρ w hs => L_move (V := .bool ((decide (o.kind = 1)) || (decide (o.kind = 2)))) rfl ⟨rfl, hs⟩
      · exact obg [8] [] ((decide (o.kind = 1)) || (decide (o.kind = 2))) rfl (fun _ => rfl) rfl (fun _ _ _ _ h => h) fun D ρ w hG hs => L_fieldAddr FA_98_1 rfl ⟨rfl, hs⟩
      · exact obgy [8, 9] [] [9] ((decide (o.kind = 1)) || (decide (o.kind = 2))) rfl (fun _ => rfl) rfl (fun _ _ _ _ h => h) (fun hG => ⟨hG, trivial⟩) fun D ρ w hG hs => L_ld (V := .int .u8 o.kind) S1_5 hs 1 rfl rfl rfl ⟨rfl, hs⟩
      · exact obgy [8, 10] [] [10] ((decide (o.kind = 1)) || (decide (o.kind = 2))) rfl (fun _ => rfl) rfl (fun _ _ _ _ h => h) (fun hG => ⟨hG, trivial⟩) fun D ρ w hG hs => L_eql rfl rfl ⟨rfl, hs⟩
      · exact ob [8, 11] [] rfl rfl fun D ρ w hs => opW_to (V := .bool (((decide (o.kind = 1)) || (decide (o.kind = 2))) || (decide (o.kind = 4)))) (V' := .bool (laysB o)) (L_orC (h' := decide (o.kind = 4)) rfl rfl rfl ⟨rfl, rfl⟩) (congrArg Value.bool (lays_or o)) ⟨rfl, hs⟩
      rintro ρ1 w21 ρ2 hρ hs
      replace hρ : ρ2 = upd (mix [38, 39, 40, 41, 42, 43, 44, 45, 46, 47, 48, 49, 50] ρ1 _) 50 (.bool (laysB o)) := hρ
      subst hρ
      refine W_mid (fun ρ ρ' w' => ∃ (ρo : Env) (a9 : Option Addr) (c9 : Nat) (L9 : List Cen), ρ' = mix [8, 9, 10, 51, 52, 53, 54, 55, 56, 57, 58, 59, 60, 61, 62, 63, 64, 65, 66, 67, 68, 69, 70, 71, 72, 73, 74, 75, 76, 77] ρo ρ ∧ (L9 = (applyE s o).ents) ∧ Own w no w' [blk b1 ((vc s.known) ++ [(.slice a1 s.ents.length c1 : Value), (.slice a2 s.ticks.length c2 : Value) ]) 62, blk b3 (oc o) 98, blk b5 ((vc vzero) ++ [(.slice none 0 0 : Value), (.slice none 0 0 : Value) ]) 62, row (.slice a9 L9.length c9) (L9.map cec) 128 7, row (.slice x13.2.1 s.ticks.length x13.2.2) (s.ticks.map lsc) 126 2, blk b15 ((vc (vset s.known o.dot.rep.toNat o.dot.seq)) ++ [(.slice a9 L9.length c9 : Value), (.slice x13.2.1 s.ticks.length x13.2.2 : Value) ]) 62]) ?_ ?_
      ·
        refine W_cond (t := laysB o) rfl (fun c22 => ?_) (fun c22 => ?_)
        ·
          refine W_seq ?_
          replace hs := hs.more emp trivial
          refine W_regD HM [some 51, some 52, some 53, some 54, some 55, some 56, some 57, some 58, some 59, some 60, some 61, some 62, some 63, some 8, none] [[], [], [], [], [], [], [], [], [], [], [], [], [], [8]] [0, 1, 0, 4, 0, 16, 0, 64, 0, 256, 0, 1024, 4095, 0, 16383] [pv (.pointer (some ⟨b3, 0 + 3, none⟩)), pv (.int .u16 o.cart), pv (.pointer (some ⟨b3, 0 + 4, none⟩)), pv (.int .u16 o.item), pv (.pointer (some ⟨b3, 0 + 5, none⟩)), pv (.int .u16 o.qty), pv (.pointer (some ⟨b3, 0 + 2, none⟩)), pv (.int .u8 o.kind), pv (.pointer (some ⟨b3, 0 + 0, none⟩)), pv (.agg (dc o.dot).toArray), pv (.agg (oc o).toArray), pv (.int .u64 (cntO o)), pv (.agg (cec (⟨o.cart, o.item, o.qty, o.kind, o.dot, cntO o⟩ : Cen)).toArray), (true, fun ρ => .pointer (some ⟨(bOf (ρ 8)), 0, none⟩)), pn] (fun D ρ => [blk b1 ((vc s.known) ++ [(.slice a1 s.ents.length c1 : Value), (.slice a2 s.ticks.length c2 : Value) ]) 62, blk b3 (oc o) 98, blk b5 ((vc vzero) ++ [(.slice none 0 0 : Value), (.slice none 0 0 : Value) ]) 62, row (.slice x13.1.1 ((s.ents.filter fun x => !(fun x => endsB o (laidO x)) x).length) x13.1.2) ((s.ents.filter fun x => !(fun x => endsB o (laidO x)) x).map cec) 128 7, row (.slice x13.2.1 s.ticks.length x13.2.2) (s.ticks.map lsc) 126 2, blk b15 ((vc (vset s.known o.dot.rep.toNat o.dot.seq)) ++ [(.slice x13.1.1 ((s.ents.filter fun x => !(fun x => endsB o (laidO x)) x).length) x13.1.2 : Value), (.slice x13.2.1 s.ticks.length x13.2.2 : Value) ]) 62, cond (D 14) (blk (bOf (ρ 8)) (cec (⟨o.cart, o.item, o.qty, o.kind, o.dot, cntO o⟩ : Cen)) 128) (cond (D 13) (blk (bOf (ρ 8)) (cec (⟨0, 0, 0, 0, (⟨0, 0⟩ : Dot), 0⟩ : Cen)) 128) (emp))]) [13] (by kernel_rfl) hs ⟨?_, ?_, ?_, ?_, ?_, ?_, ?_, ?_, ?_, ?_, ?_, ?_, ?_, ?_, ?_, trivial⟩ ?_
          · exact ob [] [] rfl rfl fun D ρ w hs => L_fieldAddr FA_98_2 rfl ⟨rfl, hs⟩
          · exact ob [0] [] rfl rfl fun D ρ w hs => L_ld (V := .int .u16 o.cart) S1_70 hs 1 rfl rfl rfl ⟨rfl, hs⟩
          · exact ob [] [] rfl rfl fun D ρ w hs => L_fieldAddr FA_98_3 rfl ⟨rfl, hs⟩
          · exact ob [2] [] rfl rfl fun D ρ w hs => L_ld (V := .int .u16 o.item) S1_70 hs 1 rfl rfl rfl ⟨rfl, hs⟩
          · exact ob [] [] rfl rfl fun D ρ w hs => L_fieldAddr FA_98_4 rfl ⟨rfl, hs⟩
          · exact ob [4] [] rfl rfl fun D ρ w hs => L_ld (V := .int .u16 o.qty) S1_70 hs 1 rfl rfl rfl ⟨rfl, hs⟩
          · exact ob [] [] rfl rfl fun D ρ w hs => L_fieldAddr FA_98_1 rfl ⟨rfl, hs⟩
          · exact ob [6] [] rfl rfl fun D ρ w hs => L_ld (V := .int .u8 o.kind) S1_5 hs 1 rfl rfl rfl ⟨rfl, hs⟩
          · exact ob [] [] rfl rfl fun D ρ w hs => L_fieldAddr FA_98_0 rfl ⟨rfl, hs⟩
          · exact ob [8] [] rfl rfl fun D ρ w hs => L_ldA (vs := dc o.dot) SA_96 hs 1 rfl rfl rfl rfl ⟨rfl, hs⟩
          · exact ob [] [] rfl rfl fun D ρ w hs => L_ldW (cs := oc o) SA_98 hs 1 rfl rfl rfl ⟨rfl, hs⟩
          · exact ob [10] [] rfl rfl fun D ρ w hs => L_callP (vs := [.agg (oc o).toArray]) (V := .int .u64 (cntO o)) EN_88 rfl rfl (oCount_ok _ o (by assumption)) hs fun _ hs => ⟨rfl, hs⟩
          · exact ob [1, 3, 5, 7, 9, 11] [] rfl rfl fun D ρ w hs => L_build (vs := [(0, .int .u16 o.cart), (1, .int .u16 o.item), (2, .int .u16 o.qty), (3, .int .u8 o.kind), (4, .agg (dc o.dot).toArray), (5, .int .u64 (cntO o))]) (cs := cec (⟨o.cart, o.item, o.qty, o.kind, o.dot, cntO o⟩ : Cen)) BT_128 (rfl) rfl ⟨rfl, hs⟩
          · exact ob [] [14] rfl rfl fun D ρ w hs => L_alloc (cs := cec (⟨0, 0, 0, 0, (⟨0, 0⟩ : Dot), 0⟩ : Cen)) ZV_128 rfl hs fun _ _ hs => ⟨rfl, hs.put 6 (Nat.le_of_ble_eq_true rfl)⟩
          · exact ob [12, 13] [] rfl rfl fun D ρ w hs => L_st (V := .agg (cec (⟨o.cart, o.item, o.qty, o.kind, o.dot, cntO o⟩ : Cen)).toArray) (vs := cec (⟨o.cart, o.item, o.qty, o.kind, o.dot, cntO o⟩ : Cen)) (cs' := cec (⟨o.cart, o.item, o.qty, o.kind, o.dot, cntO o⟩ : Cen)) SA_128.1 hs 6 rfl rfl rfl rfl rfl (Nat.le_of_ble_eq_true rfl) (cec_one _) (spl_whole rfl) fun _ hs => ⟨trivial, hs⟩
          rintro ρ1 w26 ρ2 hρ hs
          replace hρ : ρ2 = upd (mix [51, 52, 53, 54, 55, 56, 57, 58, 59, 60, 61, 62, 63, 8] ρ1 _) 8 (.pointer (some ⟨(bOf (ρ1 8)), 0, none⟩)) := hρ
          replace hs : Own w no w26 [blk b1 ((vc s.known) ++ [(.slice a1 s.ents.length c1 : Value), (.slice a2 s.ticks.length c2 : Value) ]) 62, blk b3 (oc o) 98, blk b5 ((vc vzero) ++ [(.slice none 0 0 : Value), (.slice none 0 0 : Value) ]) 62, row (.slice x13.1.1 ((s.ents.filter fun x => !(fun x => endsB o (laidO x)) x).length) x13.1.2) ((s.ents.filter fun x => !(fun x => endsB o (laidO x)) x).map cec) 128 7, row (.slice x13.2.1 s.ticks.length x13.2.2) (s.ticks.map lsc) 126 2, blk b15 ((vc (vset s.known o.dot.rep.toNat o.dot.seq)) ++ [(.slice x13.1.1 ((s.ents.filter fun x => !(fun x => endsB o (laidO x)) x).length) x13.1.2 : Value), (.slice x13.2.1 s.ticks.length x13.2.2 : Value) ]) 62, blk (bOf (ρ1 8)) (cec (⟨o.cart, o.item, o.qty, o.kind, o.dot, cntO o⟩ : Cen)) 128] := hs
          generalize (bOf (ρ1 8)) = b27 at hρ hs
          subst hρ
          refine W_seq ?_
          have hfl := List.length_filter_le (fun x => !(fun x => endsB o (laidO x)) x) s.ents
          refine W_region ?_
          refine RW_op (L_fieldAddr FA_62_1 rfl ?_)
          refine RW_op (L_ld (V := .slice x13.1.1 ((s.ents.filter fun x => !(fun x => endsB o (laidO x)) x).length) x13.1.2) S1_59 hs 5 rfl rfl rfl ?_)
          refine RW_op (L_ldW (cs := cec (⟨o.cart, o.item, o.qty, o.kind, o.dot, cntO o⟩ : Cen)) SA_128 hs 6 rfl rfl rfl ?_)
          refine RW_op (L_callPV (vs := [.slice x13.1.1 ((s.ents.filter fun x => !(fun x => endsB o (laidO x)) x).length) x13.1.2, .agg (cec (⟨o.cart, o.item, o.qty, o.kind, o.dot, cntO o⟩ : Cen)).toArray, .func (.func 64) #[] #[]]) (V := .tuple #[.int .i64 ((posB (fun x => decide ((fun x : Cen => placeI x (⟨o.cart, o.item, o.qty, o.kind, o.dot, cntO o⟩ : Cen)) x < 0)) (s.ents.filter fun x => !(fun x => endsB o (laidO x)) x) : Nat) : Int), .bool (decide (posB (fun x => decide ((fun x : Cen => placeI x (⟨o.cart, o.item, o.qty, o.kind, o.dot, cntO o⟩ : Cen)) x < 0)) (s.ents.filter fun x => !(fun x => endsB o (laidO x)) x) < (s.ents.filter fun x => !(fun x => endsB o (laidO x)) x).length) && decide ((fun x : Cen => placeI x (⟨o.cart, o.item, o.qty, o.kind, o.dot, cntO o⟩ : Cen)) (gd (s.ents.filter fun x => !(fun x => endsB o (laidO x)) x) (posB (fun x => decide ((fun x : Cen => placeI x (⟨o.cart, o.item, o.qty, o.kind, o.dot, cntO o⟩ : Cen)) x < 0)) (s.ents.filter fun x => !(fun x => endsB o (laidO x)) x))) = 0))]) (V' := .tuple #[.int .i64 ((posB (befE (⟨o.cart, o.item, o.qty, o.kind, o.dot, cntO o⟩ : Cen)) (s.ents.filter fun x => !(fun x => endsB o (laidO x)) x) : Nat) : Int), .bool (decide (posB (befE (⟨o.cart, o.item, o.qty, o.kind, o.dot, cntO o⟩ : Cen)) (s.ents.filter fun x => !(fun x => endsB o (laidO x)) x) < (s.ents.filter fun x => !(fun x => endsB o (laidO x)) x).length) && decide (placeI (gd (s.ents.filter fun x => !(fun x => endsB o (laidO x)) x) (posB (befE (⟨o.cart, o.item, o.qty, o.kind, o.dot, cntO o⟩ : Cen)) (s.ents.filter fun x => !(fun x => endsB o (laidO x)) x))) (⟨o.cart, o.item, o.qty, o.kind, o.dot, cntO o⟩ : Cen) = 0))]) rfl EN_89 rfl rfl (bsf128_ok _ x13.1.1 x13.1.2 (s.ents.filter fun x => !(fun x => endsB o (laidO x)) x) (⟨o.cart, o.item, o.qty, o.kind, o.dot, cntO o⟩ : Cen) (by omega) 64 EN_64 (fun x : Cen => placeI x (⟨o.cart, o.item, o.qty, o.kind, o.dot, cntO o⟩ : Cen)) (fun w x => place_ok w x (⟨o.cart, o.item, o.qty, o.kind, o.dot, cntO o⟩ : Cen)) (posE_mono (List.Pairwise.sublist List.filter_sublist hrc.re) (⟨o.cart, o.item, o.qty, o.kind, o.dot, cntO o⟩ : Cen)) (hs.rd 3 rfl)) hs fun w28 hs => ?_)
          refine RW_op (L_move (V := .tuple #[.int .i64 ((posB (befE (⟨o.cart, o.item, o.qty, o.kind, o.dot, cntO o⟩ : Cen)) (s.ents.filter fun x => !(fun x => endsB o (laidO x)) x) : Nat) : Int), .bool (decide (posB (befE (⟨o.cart, o.item, o.qty, o.kind, o.dot, cntO o⟩ : Cen)) (s.ents.filter fun x => !(fun x => endsB o (laidO x)) x) < (s.ents.filter fun x => !(fun x => endsB o (laidO x)) x).length) && decide (placeI (gd (s.ents.filter fun x => !(fun x => endsB o (laidO x)) x) (posB (befE (⟨o.cart, o.item, o.qty, o.kind, o.dot, cntO o⟩ : Cen)) (s.ents.filter fun x => !(fun x => endsB o (laidO x)) x))) (⟨o.cart, o.item, o.qty, o.kind, o.dot, cntO o⟩ : Cen) = 0))]) rfl ?_)
          refine RW_op (L_extract (V := .int .i64 ((posB (befE (⟨o.cart, o.item, o.qty, o.kind, o.dot, cntO o⟩ : Cen)) (s.ents.filter fun x => !(fun x => endsB o (laidO x)) x) : Nat) : Int)) rfl rfl ?_)
          refine RW_op (L_extract (V := .bool (decide (posB (befE (⟨o.cart, o.item, o.qty, o.kind, o.dot, cntO o⟩ : Cen)) (s.ents.filter fun x => !(fun x => endsB o (laidO x)) x) < (s.ents.filter fun x => !(fun x => endsB o (laidO x)) x).length) && decide (placeI (gd (s.ents.filter fun x => !(fun x => endsB o (laidO x)) x) (posB (befE (⟨o.cart, o.item, o.qty, o.kind, o.dot, cntO o⟩ : Cen)) (s.ents.filter fun x => !(fun x => endsB o (laidO x)) x))) (⟨o.cart, o.item, o.qty, o.kind, o.dot, cntO o⟩ : Cen) = 0))) rfl rfl ?_)
          refine RW_op (L_assign (V := .int .i64 ((posB (befE (⟨o.cart, o.item, o.qty, o.kind, o.dot, cntO o⟩ : Cen)) (s.ents.filter fun x => !(fun x => endsB o (laidO x)) x) : Nat) : Int)) rfl ?_)
          refine RW_op (L_assign (V := .bool (decide (posB (befE (⟨o.cart, o.item, o.qty, o.kind, o.dot, cntO o⟩ : Cen)) (s.ents.filter fun x => !(fun x => endsB o (laidO x)) x) < (s.ents.filter fun x => !(fun x => endsB o (laidO x)) x).length) && decide (placeI (gd (s.ents.filter fun x => !(fun x => endsB o (laidO x)) x) (posB (befE (⟨o.cart, o.item, o.qty, o.kind, o.dot, cntO o⟩ : Cen)) (s.ents.filter fun x => !(fun x => endsB o (laidO x)) x))) (⟨o.cart, o.item, o.qty, o.kind, o.dot, cntO o⟩ : Cen) = 0))) rfl ?_)
          refine RW_nil ?_
          have hpe := posB_len (f := befE (⟨o.cart, o.item, o.qty, o.kind, o.dot, cntO o⟩ : Cen)) (l := s.ents.filter fun x => !(fun x => endsB o (laidO x)) x)
          refine W_region ?_
          refine RW_op (L_fieldAddr FA_62_1 rfl ?_)
          refine RW_op (L_ld (V := .slice x13.1.1 ((s.ents.filter fun x => !(fun x => endsB o (laidO x)) x).length) x13.1.2) S1_59 hs 5 rfl rfl rfl ?_)
          refine RW_op (L_move (V := .int .i64 ((posB (befE (⟨o.cart, o.item, o.qty, o.kind, o.dot, cntO o⟩ : Cen)) (s.ents.filter fun x => !(fun x => endsB o (laidO x)) x) : Nat) : Int)) rfl ?_)
          refine RW_op (L_ldW (cs := cec (⟨o.cart, o.item, o.qty, o.kind, o.dot, cntO o⟩ : Cen)) SA_128 hs 6 rfl rfl rfl ?_)
          refine RW_op (L_bs (vals := [.agg (cec (⟨o.cart, o.item, o.qty, o.kind, o.dot, cntO o⟩ : Cen)).toArray]) (ls := List.map cec ([(⟨o.cart, o.item, o.qty, o.kind, o.dot, cntO o⟩ : Cen)] : List Cen)) EL_59 rfl rfl rfl (len_map (enc := cec) (fun _ => rfl) _) (one_map cec_one _) (Nat.le_of_ble_eq_true rfl) hs fun b29 w30 hs => ?_)
          refine RW_op (L_callD (α := Option Addr × Nat) (vs := [.slice x13.1.1 ((s.ents.filter fun x => !(fun x => endsB o (laidO x)) x).length) x13.1.2, .int .i64 ((posB (befE (⟨o.cart, o.item, o.qty, o.kind, o.dot, cntO o⟩ : Cen)) (s.ents.filter fun x => !(fun x => endsB o (laidO x)) x) : Nat) : Int), .slice (some ⟨b29, 0, none⟩) 1 1]) (V := fun x => .slice x.1 (insL (s.ents.filter fun x => !(fun x => endsB o (laidO x)) x) (posB (befE (⟨o.cart, o.item, o.qty, o.kind, o.dot, cntO o⟩ : Cen)) (s.ents.filter fun x => !(fun x => endsB o (laidO x)) x)) (⟨o.cart, o.item, o.qty, o.kind, o.dot, cntO o⟩ : Cen)).length x.2) (R := row (.slice x13.1.1 ((s.ents.filter fun x => !(fun x => endsB o (laidO x)) x).length) x13.1.2) ((s.ents.filter fun x => !(fun x => endsB o (laidO x)) x).map cec) 128 7) (R' := fun x => row (.slice x.1 (insL (s.ents.filter fun x => !(fun x => endsB o (laidO x)) x) (posB (befE (⟨o.cart, o.item, o.qty, o.kind, o.dot, cntO o⟩ : Cen)) (s.ents.filter fun x => !(fun x => endsB o (laidO x)) x)) (⟨o.cart, o.item, o.qty, o.kind, o.dot, cntO o⟩ : Cen)).length x.2) ((insL (s.ents.filter fun x => !(fun x => endsB o (laidO x)) x) (posB (befE (⟨o.cart, o.item, o.qty, o.kind, o.dot, cntO o⟩ : Cen)) (s.ents.filter fun x => !(fun x => endsB o (laidO x)) x)) (⟨o.cart, o.item, o.qty, o.kind, o.dot, cntO o⟩ : Cen)).map cec) 128 7) (Lo := fun _ => []) (F := fun _ _ => True) EN_90 rfl rfl hs 3 7 (by decide) rfl rfl (Nat.le_of_ble_eq_true rfl) (fun S hS hlt hnS hpl9 => ins128_ok _ S x13.1.1 x13.1.2 (s.ents.filter fun x => !(fun x => endsB o (laidO x)) x) (posB (befE (⟨o.cart, o.item, o.qty, o.kind, o.dot, cntO o⟩ : Cen)) (s.ents.filter fun x => !(fun x => endsB o (laidO x)) x)) hpe (⟨o.cart, o.item, o.qty, o.kind, o.dot, cntO o⟩ : Cen) (some ⟨b29, 0, none⟩) 1 (hs.rd 7 rfl) hpl9 hnS hpl9.lt (by omega) hS hlt) fun x32 w31 hs _ => ?_)
          refine RW_op (L_fieldAddr FA_62_1 rfl ?_)
          refine RW_op (L_st1 (V := .slice x32.1 ((insL (s.ents.filter fun x => !(fun x => endsB o (laidO x)) x) (posB (befE (⟨o.cart, o.item, o.qty, o.kind, o.dot, cntO o⟩ : Cen)) (s.ents.filter fun x => !(fun x => endsB o (laidO x)) x)) (⟨o.cart, o.item, o.qty, o.kind, o.dot, cntO o⟩ : Cen)).length) x32.2) (cs' := (vc (vset s.known o.dot.rep.toNat o.dot.seq)) ++ [(.slice x32.1 ((insL (s.ents.filter fun x => !(fun x => endsB o (laidO x)) x) (posB (befE (⟨o.cart, o.item, o.qty, o.kind, o.dot, cntO o⟩ : Cen)) (s.ents.filter fun x => !(fun x => endsB o (laidO x)) x)) (⟨o.cart, o.item, o.qty, o.kind, o.dot, cntO o⟩ : Cen)).length) x32.2 : Value), (.slice x13.2.1 s.ticks.length x13.2.2 : Value) ]) S1_59 hs 5 rfl rfl rfl rfl (Nat.le_of_ble_eq_true rfl) rfl fun w33 hs => ?_)
          replace hs : Own w no w33 [blk b1 ((vc s.known) ++ [(.slice a1 s.ents.length c1 : Value), (.slice a2 s.ticks.length c2 : Value) ]) 62, blk b3 (oc o) 98, blk b5 ((vc vzero) ++ [(.slice none 0 0 : Value), (.slice none 0 0 : Value) ]) 62, row (.slice x32.1 ((insL (s.ents.filter fun x => !(fun x => endsB o (laidO x)) x) (posB (befE (⟨o.cart, o.item, o.qty, o.kind, o.dot, cntO o⟩ : Cen)) (s.ents.filter fun x => !(fun x => endsB o (laidO x)) x)) (⟨o.cart, o.item, o.qty, o.kind, o.dot, cntO o⟩ : Cen)).length) x32.2) ((insL (s.ents.filter fun x => !(fun x => endsB o (laidO x)) x) (posB (befE (⟨o.cart, o.item, o.qty, o.kind, o.dot, cntO o⟩ : Cen)) (s.ents.filter fun x => !(fun x => endsB o (laidO x)) x)) (⟨o.cart, o.item, o.qty, o.kind, o.dot, cntO o⟩ : Cen)).map cec) 128 7, row (.slice x13.2.1 s.ticks.length x13.2.2) (s.ticks.map lsc) 126 2, blk b15 ((vc (vset s.known o.dot.rep.toNat o.dot.seq)) ++ [(.slice x32.1 ((insL (s.ents.filter fun x => !(fun x => endsB o (laidO x)) x) (posB (befE (⟨o.cart, o.item, o.qty, o.kind, o.dot, cntO o⟩ : Cen)) (s.ents.filter fun x => !(fun x => endsB o (laidO x)) x)) (⟨o.cart, o.item, o.qty, o.kind, o.dot, cntO o⟩ : Cen)).length) x32.2 : Value), (.slice x13.2.1 s.ticks.length x13.2.2 : Value) ]) 62, blk b27 (cec (⟨o.cart, o.item, o.qty, o.kind, o.dot, cntO o⟩ : Cen)) 128, row (.slice (some ⟨b29, 0, none⟩) 1 1) ([(⟨o.cart, o.item, o.qty, o.kind, o.dot, cntO o⟩ : Cen)].map cec) 128 7] := hs
          refine RW_nil ?_
          exact ⟨_, x32.1, x32.2, insL (s.ents.filter fun x => !(fun x => endsB o (laidO x)) x) (posB (befE (⟨o.cart, o.item, o.qty, o.kind, o.dot, cntO o⟩ : Cen)) (s.ents.filter fun x => !(fun x => endsB o (laidO x)) x)) (⟨o.cart, o.item, o.qty, o.kind, o.dot, cntO o⟩ : Cen), mix_of (ds := [8, 9, 10, 51, 52, 53, 54, 55, 56, 57, 58, 59, 60, 61, 62, 63, 64, 65, 66, 67, 68, 69, 70, 71, 72, 73, 74, 75, 76, 77]) (by repeat (first | exact Agr.refl _ _ | refine Agr.upd ?_ rfl | refine Agr.mix ?_ rfl)), (by unfold applyE; rw [if_pos c22]; exact (putE_ins (fun hm => hfd (filt_dots hm))).symm), hs.take 6⟩
        ·
          refine W_skip ?_
          exact ⟨_, x13.1.1, x13.1.2, (s.ents.filter fun x => !(fun x => endsB o (laidO x)) x), mix_of (ds := [8, 9, 10, 51, 52, 53, 54, 55, 56, 57, 58, 59, 60, 61, 62, 63, 64, 65, 66, 67, 68, 69, 70, 71, 72, 73, 74, 75, 76, 77]) (by repeat (first | exact Agr.refl _ _ | refine Agr.upd ?_ rfl | refine Agr.mix ?_ rfl)), (by unfold applyE; rw [if_neg (by rw [c22]; decide)]), hs.take 6⟩
      · rintro ρ' w34 ⟨ρo, a9, c9, L9, rfl, hL9, hs⟩
        refine W_seq ?_
        refine W_region ?_
        refine RW_op (L_fieldAddr FA_98_2 rfl ?_)
        refine RW_op (L_ld (V := .int .u16 o.cart) S1_70 hs 1 rfl rfl rfl ?_)
        refine RW_op (L_fieldAddr FA_98_5 rfl ?_)
        refine RW_op (L_ld (V := .int .u32 o.tick) S1_51 hs 1 rfl rfl rfl ?_)
        refine RW_op (L_build (vs := [(0, .int .u16 o.cart), (1, .int .u32 o.tick)]) (cs := lsc (⟨o.cart, o.tick⟩ : Lst)) BT_126 (rfl) rfl ?_)
        replace hs := hs.join 5 4 (by decide) rfl rfl
        refine RW_op (L_callB (α := Option Addr × Nat) (vs := [.pointer (some ⟨b15, 0, none⟩), .agg (lsc (⟨o.cart, o.tick⟩ : Lst)).toArray]) (V := fun _ => .tuple #[]) (R := star [blk b15 (vc (vset s.known o.dot.rep.toNat o.dot.seq) ++ [(.slice a9 L9.length c9 : Value), (.slice x13.2.1 s.ticks.length x13.2.2 : Value)]) 62, row (.slice x13.2.1 s.ticks.length x13.2.2) (s.ticks.map lsc) 126 2]) (R' := fun x => star [blk b15 (vc (vset s.known o.dot.rep.toNat o.dot.seq) ++ [(.slice a9 L9.length c9 : Value), (.slice x.1 (putT o.cart o.tick s.ticks).length x.2 : Value)]) 62, row (.slice x.1 (putT o.cart o.tick s.ticks).length x.2) ((putT o.cart o.tick s.ticks).map lsc) 126 2]) (Lo := fun _ => []) (F := fun _ _ => True) EN_65 rfl rfl hs 5 rfl (fun S hS hlS => tick_ok _ S b15 (vset s.known o.dot.rep.toNat o.dot.seq) (.slice a9 L9.length c9) x13.2.1 x13.2.2 s.ticks (⟨o.cart, o.tick⟩ : Lst) (by omega) hrc.rt hS hlS) fun x35 w36 hs _ => ?_)
        replace hs := hs.split 5 rfl
        replace hs := hs.put 4 (Nat.le_of_ble_eq_true rfl)
        refine RW_nil ?_
        refine W_seq ?_
        refine W_region ?_
        refine RW_op (L_ldW (cs := (vc (vset s.known o.dot.rep.toNat o.dot.seq)) ++ [(.slice a9 L9.length c9 : Value), (.slice x35.1 ((putT o.cart o.tick s.ticks).length) x35.2 : Value) ]) SA_62 hs 5 rfl rfl rfl ?_)
        refine RW_op (L_st (V := .agg ((vc (vset s.known o.dot.rep.toNat o.dot.seq)) ++ [(.slice a9 L9.length c9 : Value), (.slice x35.1 ((putT o.cart o.tick s.ticks).length) x35.2 : Value) ]).toArray) (vs := (vc (vset s.known o.dot.rep.toNat o.dot.seq)) ++ [(.slice a9 L9.length c9 : Value), (.slice x35.1 ((putT o.cart o.tick s.ticks).length) x35.2 : Value) ]) (cs' := (vc (vset s.known o.dot.rep.toNat o.dot.seq)) ++ [(.slice a9 L9.length c9 : Value), (.slice x35.1 ((putT o.cart o.tick s.ticks).length) x35.2 : Value) ]) SA_62.1 hs 2 rfl rfl rfl rfl rfl (Nat.le_of_ble_eq_true rfl) (one_app (vc_one _) (one_cons rfl (one_cons rfl one_nil))) (spl_whole rfl) fun w37 hs => ?_)
        refine RW_op (L_assign (V := .int .i64 0) rfl ?_)
        refine RW_nil ?_
        refine W_ret ?_
        refine ⟨_, res_cell2 (cs := (vc (vset s.known o.dot.rep.toNat o.dot.seq)) ++ [(.slice a9 L9.length c9 : Value), (.slice x35.1 ((putT o.cart o.tick s.ticks).length) x35.2 : Value) ]) (V := .int .i64 0) Try.results45 SA_62 hs 2 rfl rfl rfl rfl, ?_⟩
        have hI : applyI s o = 0 := by unfold applyI; rw [if_pos c8]; exact c11
        have hR : applyR s o = (⟨vset s.known o.dot.rep.toNat o.dot.seq, L9, putT o.cart o.tick s.ticks⟩ : Sta) := by unfold applyR; rw [if_pos hI, hL9]; rfl
        rw [hI, hR]
        exact ⟨((a9, c9), (x35.1, x35.2)), rfl, hs.two 3 4 (by decide) rfl rfl, trivial⟩
end Tt
end Go.Proofs
namespace Go.Proofs
open Go Go.Vx Go.RowKit
namespace Tt
theorem cApply_okE (R : Sta) (I : Int) (w : World) (s : Sta) (a1 : Option Addr) (c1 : Nat) (a2 : Option Addr) (c2 : Nat) (o : Opn) (hO : OpnOk o) (hok : StaOk s) (hle : s.ents.length ≤ 1000) (hlt : s.ticks.length ≤ 1000) (hr1 : Rd w (.slice a1 s.ents.length c1) 7 (s.ents.map cec)) (hr2 : Rd w (.slice a2 s.ticks.length c2) 2 (s.ticks.map lsc)) (hR : applyR s o = R) (hI : applyI s o = I) : Calls Try.prog 45 #[.agg ((vc s.known) ++ [(.slice a1 s.ents.length c1 : Value), (.slice a2 s.ticks.length c2 : Value) ]).toArray, .agg (oc o).toArray] w (fun e w' => ∃ x : (Option Addr × Nat) × (Option Addr × Nat), e = .returned (.tuple #[.agg (vc (R).known ++ [(.slice x.1.1 (R).ents.length x.1.2 : Value), (.slice x.2.1 (R).ticks.length x.2.2 : Value)]).toArray, .int .i64 I]) ∧ Own w no w' [row (.slice x.1.1 (R).ents.length x.1.2) ((R).ents.map cec) 128 7, row (.slice x.2.1 (R).ticks.length x.2.2) ((R).ticks.map lsc) 126 2] ∧ True) := by
  subst hR; subst hI; exact cApply_ok w s a1 c1 a2 c2 o hO hok hle hlt hr1 hr2
theorem cMerge_okE (R : Sta) (I : Int) (w : World) (p : Sta) (a1p : Option Addr) (c1p : Nat) (a2p : Option Addr) (c2p : Nat) (q : Sta) (a1q : Option Addr) (c1q : Nat) (a2q : Option Addr) (c2q : Nat) (hsortE : SortC Try.prog 63 64 cec 128 7 srtE) (hokp : StaOk p) (hlep : p.ents.length ≤ 1000) (hltp : p.ticks.length ≤ 1000) (hokq : StaOk q) (hleq : q.ents.length ≤ 1000) (hltq : q.ticks.length ≤ 1000) (hr1p : Rd w (.slice a1p p.ents.length c1p) 7 (p.ents.map cec)) (hr2p : Rd w (.slice a2p p.ticks.length c2p) 2 (p.ticks.map lsc)) (hr1q : Rd w (.slice a1q q.ents.length c1q) 7 (q.ents.map cec)) (hr2q : Rd w (.slice a2q q.ticks.length c2q) 2 (q.ticks.map lsc)) (hR : mergeR p q = R) (hI : mergeI p q = I) : Calls Try.prog 28 #[.agg ((vc p.known) ++ [(.slice a1p p.ents.length c1p : Value), (.slice a2p p.ticks.length c2p : Value) ]).toArray, .agg ((vc q.known) ++ [(.slice a1q q.ents.length c1q : Value), (.slice a2q q.ticks.length c2q : Value) ]).toArray] w (fun e w' => ∃ x : (Option Addr × Nat) × (Option Addr × Nat), e = .returned (.tuple #[.agg (vc (R).known ++ [(.slice x.1.1 (R).ents.length x.1.2 : Value), (.slice x.2.1 (R).ticks.length x.2.2 : Value)]).toArray, .int .i64 I]) ∧ Own w no w' [row (.slice x.1.1 (R).ents.length x.1.2) ((R).ents.map cec) 128 7, row (.slice x.2.1 (R).ticks.length x.2.2) ((R).ticks.map lsc) 126 2] ∧ True) := by
  subst hR; subst hI; exact cMerge_ok w p a1p c1p a2p c2p q a1q c1q a2q c2q hsortE hokp hlep hltp hokq hleq hltq hr1p hr2p hr1q hr2q
end Tt
end Go.Proofs
namespace Go.Proofs
open Go Go.Vx Go.RowKit
namespace Tt
theorem cViewE_ok (w : World) (s : Sta) (a1 : Option Addr) (c1 : Nat) (a2 : Option Addr) (c2 : Nat) (n : Int) (V : Vw) (hV : viewC s n (rightS s) = V) (hok : StaOk s) (hle : s.ents.length ≤ 1000) (hlt : s.ticks.length ≤ 1000) (hr1 : Rd w (.slice a1 s.ents.length c1) 7 (s.ents.map cec)) (hr2 : Rd w (.slice a2 s.ticks.length c2) 2 (s.ticks.map lsc)) : Calls Try.prog 34 #[.agg ((vc s.known) ++ [(.slice a1 s.ents.length c1 : Value), (.slice a2 s.ticks.length c2 : Value) ]).toArray, .int .u16 n] w (fun e w' => ∃ x : Option Addr × Nat, e = .returned (.agg [.int .u16 (V).cart, .slice x.1 (V).lines.length x.2, .bool (V).out, .int .u32 (V).tick].toArray) ∧ Own w no w' [row (.slice x.1 (V).lines.length x.2) ((V).lines.map lc) 102 2] ∧ True) := by
  subst hV; exact cView_ok w s a1 c1 a2 c2 n hok hle hlt hr1 hr2
set_option maxRecDepth 20000 in
set_option maxHeartbeats 4000000 in
theorem alive8_ok (w : World) (hsortE : SortC Try.prog 63 64 cec 128 7 srtE) : Calls Try.prog 26 #[] w (fun e w' => e = .returned (.bool true) ∧ Own w no w' []) := by
  refine calls_of_Wn (n := 95) Try.func26 rfl Try.ntmps26 rfl ?_
  have hs := Own.start w
  have haE := al3E
  refine W_seq ?_
  refine W_region ?_
  refine RW_op (L_assign (V := .bool false) rfl ?_)
  refine RW_nil ?_
  refine W_seq ?_
  refine W_region ?_
  refine RW_op (L_buildP (vs := []) (cs := (vc vzero) ++ [(.slice none 0 0 : Value), (.slice none 0 0 : Value) ]) [vc vzero, [(.slice none 0 0 : Value)], [(.slice none 0 0 : Value)]] [vc vzero, [(.slice none 0 0 : Value)], [(.slice none 0 0 : Value)]] BT_62 rfl (rfl) rfl rfl ?_)
  refine RW_op (L_build (vs := [(1, .int .u32 1)]) (cs := dc (⟨0, 1⟩ : Dot)) BT_96 (rfl) rfl ?_)
  refine RW_op (opW_to (V := .agg (oc (⟨(⟨0, 1⟩ : Dot), 1, 3, 4, 2, 5, vzero⟩ : Opn)).toArray) (V' := .agg (oc alO1).toArray) (L_buildP (vs := [(0, .agg (dc (⟨0, 1⟩ : Dot)).toArray), (1, .int .u8 1), (2, .int .u16 3), (3, .int .u16 4), (4, .int .u16 2), (5, .int .u32 5)]) (cs := oc (⟨(⟨0, 1⟩ : Dot), 1, 3, 4, 2, 5, vzero⟩ : Opn)) [dc (⟨0, 0⟩ : Dot), [(.int .u8 0 : Value)], [(.int .u16 0 : Value)], [(.int .u16 0 : Value)], [(.int .u16 0 : Value)], [(.int .u32 0 : Value)], vc vzero] [dc (⟨0, 1⟩ : Dot), [(.int .u8 1 : Value)], [(.int .u16 3 : Value)], [(.int .u16 4 : Value)], [(.int .u16 2 : Value)], [(.int .u32 5 : Value)], vc vzero] BT_98 rfl (rfl) rfl rfl ⟨rfl, rfl⟩) rfl ?_)
  refine RW_op (L_callX (α := (Option Addr × Nat) × (Option Addr × Nat)) (vs := [.agg ((vc vzero) ++ [(.slice none 0 0 : Value), (.slice none 0 0 : Value) ]).toArray, .agg (oc alO1).toArray]) (V := fun x : (Option Addr × Nat) × (Option Addr × Nat) => .tuple #[.agg (vc alS1.known ++ [(.slice x.1.1 (alS1.ents).length x.1.2 : Value), (.slice x.2.1 (alS1.ticks).length x.2.2 : Value)]).toArray, .int .i64 0]) (Lo := fun x => [row (.slice x.1.1 (alS1.ents).length x.1.2) ((alS1.ents).map cec) 128 7, row (.slice x.2.1 (alS1.ticks).length x.2.2) ((alS1.ticks).map lsc) 126 2]) (F := fun _ _ => True) EN_45 rfl rfl ?hc hs fun x2 w1 hs _ => ?_)
  case hc => exact (cApply_okE alS1 0 _ (⟨vzero, [], []⟩ : Sta) none 0 none 0 alO1 alO1_ok szero_ok (by decide +kernel) (by decide +kernel) (Rd.nil _ 7) (Rd.nil _ 2) al1R al1I)
  refine RW_op (L_move (V := .tuple #[.agg ((vc alS1.known) ++ [(.slice x2.1.1 ((alS1.ents).length) x2.1.2 : Value), (.slice x2.2.1 ((alS1.ticks).length) x2.2.2 : Value) ]).toArray, .int .i64 0]) rfl ?_)
  refine RW_op (L_extract (V := .agg ((vc alS1.known) ++ [(.slice x2.1.1 ((alS1.ents).length) x2.1.2 : Value), (.slice x2.2.1 ((alS1.ticks).length) x2.2.2 : Value) ]).toArray) rfl rfl ?_)
  refine RW_op (L_extract (V := .int .i64 0) rfl rfl ?_)
  refine RW_op (L_alloc (cs := (vc vzero) ++ [(.slice none 0 0 : Value), (.slice none 0 0 : Value) ]) ZV_62 rfl hs fun b3 w4 hs => ?_)
  refine RW_op (L_st (V := .agg ((vc alS1.known) ++ [(.slice x2.1.1 ((alS1.ents).length) x2.1.2 : Value), (.slice x2.2.1 ((alS1.ticks).length) x2.2.2 : Value) ]).toArray) (vs := (vc alS1.known) ++ [(.slice x2.1.1 ((alS1.ents).length) x2.1.2 : Value), (.slice x2.2.1 ((alS1.ticks).length) x2.2.2 : Value) ]) (cs' := (vc alS1.known) ++ [(.slice x2.1.1 ((alS1.ents).length) x2.1.2 : Value), (.slice x2.2.1 ((alS1.ticks).length) x2.2.2 : Value) ]) SA_62.1 hs 2 rfl rfl rfl rfl rfl (Nat.le_of_ble_eq_true rfl) (one_app (vc_one _) (one_cons rfl (one_cons rfl one_nil))) (spl_whole rfl) fun w5 hs => ?_)
  replace hs : Own w no w5 [row (.slice x2.1.1 ((alS1.ents).length) x2.1.2) (alS1.ents.map cec) 128 7, row (.slice x2.2.1 ((alS1.ticks).length) x2.2.2) (alS1.ticks.map lsc) 126 2, blk b3 ((vc alS1.known) ++ [(.slice x2.1.1 ((alS1.ents).length) x2.1.2 : Value), (.slice x2.2.1 ((alS1.ticks).length) x2.2.2 : Value) ]) 62] := hs
  refine RW_op (L_assign (V := .int .i64 0) rfl ?_)
  refine RW_nil ?_
  refine W_seq ?_
  refine W_region ?_
  refine RW_op (L_ldW (cs := (vc alS1.known) ++ [(.slice x2.1.1 ((alS1.ents).length) x2.1.2 : Value), (.slice x2.2.1 ((alS1.ticks).length) x2.2.2 : Value) ]) SA_62 hs 2 rfl rfl rfl ?_)
  refine RW_op (L_build (vs := [(1, .int .u32 2)]) (cs := dc (⟨0, 2⟩ : Dot)) BT_96 (rfl) rfl ?_)
  refine RW_op (L_build (vs := [(0, .int .u32 1)]) (cs := vc (vset vzero 0 1)) BT_53 (rfl) rfl ?_)
  refine RW_op (opW_to (V := .agg (oc (⟨(⟨0, 2⟩ : Dot), 3, 3, 4, 0, 6, vset vzero 0 1⟩ : Opn)).toArray) (V' := .agg (oc alO2).toArray) (L_buildP (vs := [(0, .agg (dc (⟨0, 2⟩ : Dot)).toArray), (1, .int .u8 3), (2, .int .u16 3), (3, .int .u16 4), (5, .int .u32 6), (6, .agg (vc (vset vzero 0 1)).toArray)]) (cs := oc (⟨(⟨0, 2⟩ : Dot), 3, 3, 4, 0, 6, vset vzero 0 1⟩ : Opn)) [dc (⟨0, 0⟩ : Dot), [(.int .u8 0 : Value)], [(.int .u16 0 : Value)], [(.int .u16 0 : Value)], [(.int .u16 0 : Value)], [(.int .u32 0 : Value)], vc vzero] [dc (⟨0, 2⟩ : Dot), [(.int .u8 3 : Value)], [(.int .u16 3 : Value)], [(.int .u16 4 : Value)], [(.int .u16 0 : Value)], [(.int .u32 6 : Value)], vc (vset vzero 0 1)] BT_98 rfl (rfl) rfl rfl ⟨rfl, rfl⟩) rfl ?_)
  refine RW_op (L_callX (α := (Option Addr × Nat) × (Option Addr × Nat)) (vs := [.agg ((vc alS1.known) ++ [(.slice x2.1.1 ((alS1.ents).length) x2.1.2 : Value), (.slice x2.2.1 ((alS1.ticks).length) x2.2.2 : Value) ]).toArray, .agg (oc alO2).toArray]) (V := fun x : (Option Addr × Nat) × (Option Addr × Nat) => .tuple #[.agg (vc alS2.known ++ [(.slice x.1.1 (alS2.ents).length x.1.2 : Value), (.slice x.2.1 (alS2.ticks).length x.2.2 : Value)]).toArray, .int .i64 0]) (Lo := fun x => [row (.slice x.1.1 (alS2.ents).length x.1.2) ((alS2.ents).map cec) 128 7, row (.slice x.2.1 (alS2.ticks).length x.2.2) ((alS2.ticks).map lsc) 126 2]) (F := fun _ _ => True) EN_45 rfl rfl ?hc hs fun x7 w6 hs _ => ?_)
  case hc => exact (cApply_okE alS2 0 _ alS1 x2.1.1 x2.1.2 x2.2.1 x2.2.2 alO2 alO2_ok alS1_ok (by decide +kernel) (by decide +kernel) (hs.rd 0 rfl) (hs.rd 1 rfl) al2R al2I)
  refine RW_op (L_move (V := .tuple #[.agg ((vc alS2.known) ++ [(.slice x7.1.1 ((alS2.ents).length) x7.1.2 : Value), (.slice x7.2.1 ((alS2.ticks).length) x7.2.2 : Value) ]).toArray, .int .i64 0]) rfl ?_)
  refine RW_op (L_extract (V := .agg ((vc alS2.known) ++ [(.slice x7.1.1 ((alS2.ents).length) x7.1.2 : Value), (.slice x7.2.1 ((alS2.ticks).length) x7.2.2 : Value) ]).toArray) rfl rfl ?_)
  refine RW_op (L_extract (V := .int .i64 0) rfl rfl ?_)
  refine RW_op (L_alloc (cs := (vc vzero) ++ [(.slice none 0 0 : Value), (.slice none 0 0 : Value) ]) ZV_62 rfl hs fun b8 w9 hs => ?_)
  refine RW_op (L_st (V := .agg ((vc alS2.known) ++ [(.slice x7.1.1 ((alS2.ents).length) x7.1.2 : Value), (.slice x7.2.1 ((alS2.ticks).length) x7.2.2 : Value) ]).toArray) (vs := (vc alS2.known) ++ [(.slice x7.1.1 ((alS2.ents).length) x7.1.2 : Value), (.slice x7.2.1 ((alS2.ticks).length) x7.2.2 : Value) ]) (cs' := (vc alS2.known) ++ [(.slice x7.1.1 ((alS2.ents).length) x7.1.2 : Value), (.slice x7.2.1 ((alS2.ticks).length) x7.2.2 : Value) ]) SA_62.1 hs 5 rfl rfl rfl rfl rfl (Nat.le_of_ble_eq_true rfl) (one_app (vc_one _) (one_cons rfl (one_cons rfl one_nil))) (spl_whole rfl) fun w10 hs => ?_)
  replace hs : Own w no w10 [row (.slice x2.1.1 ((alS1.ents).length) x2.1.2) (alS1.ents.map cec) 128 7, row (.slice x2.2.1 ((alS1.ticks).length) x2.2.2) (alS1.ticks.map lsc) 126 2, blk b3 ((vc alS1.known) ++ [(.slice x2.1.1 ((alS1.ents).length) x2.1.2 : Value), (.slice x2.2.1 ((alS1.ticks).length) x2.2.2 : Value) ]) 62, row (.slice x7.1.1 ((alS2.ents).length) x7.1.2) (alS2.ents.map cec) 128 7, row (.slice x7.2.1 ((alS2.ticks).length) x7.2.2) (alS2.ticks.map lsc) 126 2, blk b8 ((vc alS2.known) ++ [(.slice x7.1.1 ((alS2.ents).length) x7.1.2 : Value), (.slice x7.2.1 ((alS2.ticks).length) x7.2.2 : Value) ]) 62] := hs
  refine RW_op (L_assign (V := .int .i64 0) rfl ?_)
  refine RW_nil ?_
  refine W_seq ?_
  refine W_region ?_
  refine RW_op (L_ldW (cs := (vc alS1.known) ++ [(.slice x2.1.1 ((alS1.ents).length) x2.1.2 : Value), (.slice x2.2.1 ((alS1.ticks).length) x2.2.2 : Value) ]) SA_62 hs 2 rfl rfl rfl ?_)
  refine RW_op (L_ldW (cs := (vc alS2.known) ++ [(.slice x7.1.1 ((alS2.ents).length) x7.1.2 : Value), (.slice x7.2.1 ((alS2.ticks).length) x7.2.2 : Value) ]) SA_62 hs 5 rfl rfl rfl ?_)
  refine RW_op (L_callX (α := (Option Addr × Nat) × (Option Addr × Nat)) (vs := [.agg ((vc alS1.known) ++ [(.slice x2.1.1 ((alS1.ents).length) x2.1.2 : Value), (.slice x2.2.1 ((alS1.ticks).length) x2.2.2 : Value) ]).toArray, .agg ((vc alS2.known) ++ [(.slice x7.1.1 ((alS2.ents).length) x7.1.2 : Value), (.slice x7.2.1 ((alS2.ticks).length) x7.2.2 : Value) ]).toArray]) (V := fun x : (Option Addr × Nat) × (Option Addr × Nat) => .tuple #[.agg (vc (mergeR alS1 alS2).known ++ [(.slice x.1.1 ((mergeR alS1 alS2).ents).length x.1.2 : Value), (.slice x.2.1 ((mergeR alS1 alS2).ticks).length x.2.2 : Value)]).toArray, .int .i64 0]) (Lo := fun x => [row (.slice x.1.1 ((mergeR alS1 alS2).ents).length x.1.2) (((mergeR alS1 alS2).ents).map cec) 128 7, row (.slice x.2.1 ((mergeR alS1 alS2).ticks).length x.2.2) (((mergeR alS1 alS2).ticks).map lsc) 126 2]) (F := fun _ _ => True) EN_28 rfl rfl ?hc hs fun x12 w11 hs _ => ?_)
  case hc => exact (cMerge_okE (mergeR alS1 alS2) 0 _ alS1 x2.1.1 x2.1.2 x2.2.1 x2.2.2 alS2 x7.1.1 x7.1.2 x7.2.1 x7.2.2 hsortE alS1_ok (by decide +kernel) (by decide +kernel) alS2_ok (by decide +kernel) (by decide +kernel) (hs.rd 0 rfl) (hs.rd 1 rfl) (hs.rd 3 rfl) (hs.rd 4 rfl) rfl al3I)
  refine RW_op (L_move (V := .tuple #[.agg ((vc ((mergeR alS1 alS2).known)) ++ [(.slice x12.1.1 (((mergeR alS1 alS2).ents).length) x12.1.2 : Value), (.slice x12.2.1 (((mergeR alS1 alS2).ticks).length) x12.2.2 : Value) ]).toArray, .int .i64 0]) rfl ?_)
  refine RW_op (L_extract (V := .agg ((vc ((mergeR alS1 alS2).known)) ++ [(.slice x12.1.1 (((mergeR alS1 alS2).ents).length) x12.1.2 : Value), (.slice x12.2.1 (((mergeR alS1 alS2).ticks).length) x12.2.2 : Value) ]).toArray) rfl rfl ?_)
  refine RW_op (L_extract (V := .int .i64 0) rfl rfl ?_)
  refine RW_op (L_alloc (cs := (vc vzero) ++ [(.slice none 0 0 : Value), (.slice none 0 0 : Value) ]) ZV_62 rfl hs fun b13 w14 hs => ?_)
  refine RW_op (L_st (V := .agg ((vc ((mergeR alS1 alS2).known)) ++ [(.slice x12.1.1 (((mergeR alS1 alS2).ents).length) x12.1.2 : Value), (.slice x12.2.1 (((mergeR alS1 alS2).ticks).length) x12.2.2 : Value) ]).toArray) (vs := (vc ((mergeR alS1 alS2).known)) ++ [(.slice x12.1.1 (((mergeR alS1 alS2).ents).length) x12.1.2 : Value), (.slice x12.2.1 (((mergeR alS1 alS2).ticks).length) x12.2.2 : Value) ]) (cs' := (vc ((mergeR alS1 alS2).known)) ++ [(.slice x12.1.1 (((mergeR alS1 alS2).ents).length) x12.1.2 : Value), (.slice x12.2.1 (((mergeR alS1 alS2).ticks).length) x12.2.2 : Value) ]) SA_62.1 hs 8 rfl rfl rfl rfl rfl (Nat.le_of_ble_eq_true rfl) (one_app (vc_one _) (one_cons rfl (one_cons rfl one_nil))) (spl_whole rfl) fun w15 hs => ?_)
  replace hs : Own w no w15 [row (.slice x2.1.1 ((alS1.ents).length) x2.1.2) (alS1.ents.map cec) 128 7, row (.slice x2.2.1 ((alS1.ticks).length) x2.2.2) (alS1.ticks.map lsc) 126 2, blk b3 ((vc alS1.known) ++ [(.slice x2.1.1 ((alS1.ents).length) x2.1.2 : Value), (.slice x2.2.1 ((alS1.ticks).length) x2.2.2 : Value) ]) 62, row (.slice x7.1.1 ((alS2.ents).length) x7.1.2) (alS2.ents.map cec) 128 7, row (.slice x7.2.1 ((alS2.ticks).length) x7.2.2) (alS2.ticks.map lsc) 126 2, blk b8 ((vc alS2.known) ++ [(.slice x7.1.1 ((alS2.ents).length) x7.1.2 : Value), (.slice x7.2.1 ((alS2.ticks).length) x7.2.2 : Value) ]) 62, row (.slice x12.1.1 (((mergeR alS1 alS2).ents).length) x12.1.2) (((mergeR alS1 alS2).ents).map cec) 128 7, row (.slice x12.2.1 (((mergeR alS1 alS2).ticks).length) x12.2.2) (((mergeR alS1 alS2).ticks).map lsc) 126 2, blk b13 ((vc ((mergeR alS1 alS2).known)) ++ [(.slice x12.1.1 (((mergeR alS1 alS2).ents).length) x12.1.2 : Value), (.slice x12.2.1 (((mergeR alS1 alS2).ticks).length) x12.2.2 : Value) ]) 62] := hs
  refine RW_op (L_assign (V := .int .i64 0) rfl ?_)
  refine RW_nil ?_
  refine W_seq ?_
  refine W_region ?_
  refine RW_op (L_ldW (cs := (vc alS1.known) ++ [(.slice x2.1.1 ((alS1.ents).length) x2.1.2 : Value), (.slice x2.2.1 ((alS1.ticks).length) x2.2.2 : Value) ]) SA_62 hs 2 rfl rfl rfl ?_)
  refine RW_op (L_callX (α := Option Addr × Nat) (vs := [.agg ((vc alS1.known) ++ [(.slice x2.1.1 ((alS1.ents).length) x2.1.2 : Value), (.slice x2.2.1 ((alS1.ticks).length) x2.2.2 : Value) ]).toArray, .int .u16 3]) (V := fun x => .agg #[.int .u16 3, .slice x.1 ([(⟨4, 2⟩ : Line)].length) x.2, .bool false, .int .u32 5]) (Lo := fun x => [row (.slice x.1 [(⟨4, 2⟩ : Line)].length x.2) ([(⟨4, 2⟩ : Line)].map lc) 102 2]) (F := fun _ _ => True) EN_34 rfl rfl ?hc hs fun x17 w16 hs _ => ?_)
  case hc => exact (cViewE_ok _ alS1 x2.1.1 x2.1.2 x2.2.1 x2.2.2 3 (⟨3, [(⟨4, 2⟩ : Line)], false, 5⟩ : Vw) (alV1) alS1_ok (by decide +kernel) (by decide +kernel) (hs.rd 0 rfl) (hs.rd 1 rfl))
  refine RW_op (L_alloc (cs := [.int .u16 0, .slice none 0 0, .bool false, .int .u32 0]) ZV_74 rfl hs fun b18 w19 hs => ?_)
  refine RW_op (L_st (V := .agg #[.int .u16 3, .slice x17.1 ([(⟨4, 2⟩ : Line)].length) x17.2, .bool false, .int .u32 5]) (vs := [.int .u16 3, .slice x17.1 ([(⟨4, 2⟩ : Line)].length) x17.2, .bool false, .int .u32 5]) (cs' := [.int .u16 3, .slice x17.1 ([(⟨4, 2⟩ : Line)].length) x17.2, .bool false, .int .u32 5]) SA_74.1 hs 10 rfl rfl rfl rfl rfl (Nat.le_of_ble_eq_true rfl) (one_cons rfl (one_cons rfl (one_cons rfl (one_cons rfl one_nil)))) (spl_whole rfl) fun w20 hs => ?_)
  replace hs : Own w no w20 [row (.slice x2.1.1 ((alS1.ents).length) x2.1.2) (alS1.ents.map cec) 128 7, row (.slice x2.2.1 ((alS1.ticks).length) x2.2.2) (alS1.ticks.map lsc) 126 2, blk b3 ((vc alS1.known) ++ [(.slice x2.1.1 ((alS1.ents).length) x2.1.2 : Value), (.slice x2.2.1 ((alS1.ticks).length) x2.2.2 : Value) ]) 62, row (.slice x7.1.1 ((alS2.ents).length) x7.1.2) (alS2.ents.map cec) 128 7, row (.slice x7.2.1 ((alS2.ticks).length) x7.2.2) (alS2.ticks.map lsc) 126 2, blk b8 ((vc alS2.known) ++ [(.slice x7.1.1 ((alS2.ents).length) x7.1.2 : Value), (.slice x7.2.1 ((alS2.ticks).length) x7.2.2 : Value) ]) 62, row (.slice x12.1.1 (((mergeR alS1 alS2).ents).length) x12.1.2) (((mergeR alS1 alS2).ents).map cec) 128 7, row (.slice x12.2.1 (((mergeR alS1 alS2).ticks).length) x12.2.2) (((mergeR alS1 alS2).ticks).map lsc) 126 2, blk b13 ((vc ((mergeR alS1 alS2).known)) ++ [(.slice x12.1.1 (((mergeR alS1 alS2).ents).length) x12.1.2 : Value), (.slice x12.2.1 (((mergeR alS1 alS2).ticks).length) x12.2.2 : Value) ]) 62, row (.slice x17.1 ([(⟨4, 2⟩ : Line)].length) x17.2) ([(⟨4, 2⟩ : Line)].map lc) 102 2, blk b18 [.int .u16 3, .slice x17.1 ([(⟨4, 2⟩ : Line)].length) x17.2, .bool false, .int .u32 5] 74] := hs
  refine RW_nil ?_
  refine W_seq ?_
  refine W_region ?_
  refine RW_op (L_move (V := .int .i64 0) rfl ?_)
  refine RW_op (opW_to (V := .bool (decide ((0 : Int) = 0))) (V' := .bool true) (L_eql rfl rfl ⟨rfl, rfl⟩) (congrArg Value.bool (by decide)) ?_)
  refine RW_op (L_move (V := .bool true) rfl ?_)
  refine RW_gy rfl (L_move (V := .int .i64 0) rfl ?_)
  refine RW_gy rfl (opW_to (V := .bool (decide ((0 : Int) = 0))) (V' := .bool true) (L_eql rfl rfl ⟨rfl, rfl⟩) (congrArg Value.bool (by decide)) ?_)
  refine RW_op (L_pick (V := .bool true) rfl rfl ?_)
  refine RW_op (L_move (V := .bool true) rfl ?_)
  refine RW_gy rfl (L_move (V := .int .i64 0) rfl ?_)
  refine RW_gy rfl (opW_to (V := .bool (decide ((0 : Int) = 0))) (V' := .bool true) (L_eql rfl rfl ⟨rfl, rfl⟩) (congrArg Value.bool (by decide)) ?_)
  refine RW_op (L_pick (V := .bool true) rfl rfl ?_)
  refine RW_op (L_move (V := .bool true) rfl ?_)
  refine RW_gy rfl (L_fieldAddr FA_62_1 rfl ?_)
  refine RW_gy rfl (L_ld (V := .slice x2.1.1 ((alS1.ents).length) x2.1.2) S1_59 hs 2 rfl rfl rfl ?_)
  refine RW_gy rfl (L_lenR (n := (alS1.ents).length) UD_59 (hs.rd 0 rfl) (by simp) rfl ?_)
  refine RW_gy rfl (opW_to (V := .bool (decide ((((alS1.ents).length : Nat) : Int) = 1))) (V' := .bool true) (L_eql rfl rfl ⟨rfl, rfl⟩) (congrArg Value.bool (by decide +kernel)) ?_)
  refine RW_op (L_pick (V := .bool true) rfl rfl ?_)
  refine RW_op (L_move (V := .bool true) rfl ?_)
  refine RW_gy rfl (L_fieldAddr FA_62_1 rfl ?_)
  refine RW_gy rfl (L_ld (V := .slice x7.1.1 ((alS2.ents).length) x7.1.2) S1_59 hs 5 rfl rfl rfl ?_)
  refine RW_gy rfl (L_lenR (n := (alS2.ents).length) UD_59 (hs.rd 3 rfl) (by simp) rfl ?_)
  refine RW_gy rfl (opW_to (V := .bool (decide ((((alS2.ents).length : Nat) : Int) = 0))) (V' := .bool true) (L_eql rfl rfl ⟨rfl, rfl⟩) (congrArg Value.bool (by decide +kernel)) ?_)
  refine RW_op (L_pick (V := .bool true) rfl rfl ?_)
  refine RW_op (L_move (V := .bool true) rfl ?_)
  refine RW_gy rfl (L_fieldAddr FA_62_0 rfl ?_)
  refine RW_gy rfl (L_ldA (vs := vc alS2.known) SA_53 hs 5 rfl rfl rfl rfl ?_)
  refine RW_gy rfl (L_build (vs := [(0, .int .u32 2)]) (cs := vc (vset vzero 0 2)) BT_53 (rfl) rfl ?_)
  refine RW_gy rfl (opW_to (V := .bool (decide (alS2.known = vset vzero 0 2))) (V' := .bool true) (L_eqA (xs := vc alS2.known) (ys := vc (vset vzero 0 2)) Try.eqGuardType53 (EQ_53 alS2.known (vset vzero 0 2)) rfl rfl rfl ⟨rfl, rfl⟩) (congrArg Value.bool (by decide +kernel)) ?_)
  refine RW_op (L_pick (V := .bool true) rfl rfl ?_)
  refine RW_op (L_move (V := .bool true) rfl ?_)
  refine RW_gy rfl (L_fieldAddr FA_62_1 rfl ?_)
  refine RW_gy rfl (L_ld (V := .slice x12.1.1 (((mergeR alS1 alS2).ents).length) x12.1.2) S1_59 hs 8 rfl rfl rfl ?_)
  refine RW_gy rfl (L_lenR (n := ((mergeR alS1 alS2).ents).length) UD_59 (hs.rd 6 rfl) (by simp) rfl ?_)
  refine RW_gy rfl (opW_to (V := .bool (decide (((((mergeR alS1 alS2).ents).length : Nat) : Int) = 0))) (V' := .bool true) (L_eql rfl rfl ⟨rfl, rfl⟩) (congrArg Value.bool (by rw [haE]; decide)) ?_)
  refine RW_op (L_pick (V := .bool true) rfl rfl ?_)
  refine RW_op (L_move (V := .bool true) rfl ?_)
  refine RW_gy rfl (L_fieldAddr FA_74_1 rfl ?_)
  refine RW_gy rfl (L_ld (V := .slice x17.1 ([(⟨4, 2⟩ : Line)].length) x17.2) S1_72 hs 10 rfl rfl rfl ?_)
  refine RW_gy rfl (L_lenR (n := [(⟨4, 2⟩ : Line)].length) UD_72 (hs.rd 9 rfl) (by simp) rfl ?_)
  refine RW_gy rfl (opW_to (V := .bool (decide ((([(⟨4, 2⟩ : Line)].length : Nat) : Int) = 1))) (V' := .bool true) (L_eql rfl rfl ⟨rfl, rfl⟩) (congrArg Value.bool (by decide +kernel)) ?_)
  refine RW_op (L_pick (V := .bool true) rfl rfl ?_)
  refine RW_op (L_move (V := .bool true) rfl ?_)
  refine RW_gy rfl (L_fieldAddr FA_74_1 rfl ?_)
  refine RW_gy rfl (L_ld (V := .slice x17.1 ([(⟨4, 2⟩ : Line)].length) x17.2) S1_72 hs 10 rfl rfl rfl ?_)
  refine RW_gy rfl (L_ixR UD_72 SA_102.1 (hs.rd 9 rfl) rfl rfl (by decide) (by simp only [List.length_map, List.length_cons, List.length_nil]; omega) ?_)
  refine RW_gy rfl (L_fieldAddr FA_102_1 rfl ?_)
  refine RW_gy rfl (L_ldR (j := 1) (V := .int .u32 ((gd [(⟨4, 2⟩ : Line)] 0).qty)) 0 S1_51 (hs.rd 9 rfl) (gd_at (by simp only [List.length_cons, List.length_nil]; omega)) rfl rfl (by omega) ?_)
  refine RW_gy rfl (opW_to (V := .bool (decide ((gd [(⟨4, 2⟩ : Line)] 0).qty = 2))) (V' := .bool true) (L_eql rfl rfl ⟨rfl, rfl⟩) (congrArg Value.bool (by decide +kernel)) ?_)
  refine RW_op (L_pick (V := .bool true) rfl rfl ?_)
  refine RW_op (L_move (V := .bool true) rfl ?_)
  refine RW_gy rfl (L_ldW (cs := (vc alS2.known) ++ [(.slice x7.1.1 ((alS2.ents).length) x7.1.2 : Value), (.slice x7.2.1 ((alS2.ticks).length) x7.2.2 : Value) ]) SA_62 hs 5 rfl rfl rfl ?_)
  refine RW_gy rfl (L_callX (α := Option Addr × Nat) (vs := [.agg ((vc alS2.known) ++ [(.slice x7.1.1 ((alS2.ents).length) x7.1.2 : Value), (.slice x7.2.1 ((alS2.ticks).length) x7.2.2 : Value) ]).toArray, .int .u16 3]) (V := fun x => .agg #[.int .u16 3, .slice x.1 (([] : List Line).length) x.2, .bool false, .int .u32 6]) (Lo := fun x => [row (.slice x.1 ([] : List Line).length x.2) (([] : List Line).map lc) 102 2]) (F := fun _ _ => True) EN_34 rfl rfl ?hc hs fun x22 w21 hs _ => ?_)
  case hc => exact (cViewE_ok _ alS2 x7.1.1 x7.1.2 x7.2.1 x7.2.2 3 (⟨3, ([] : List Line), false, 6⟩ : Vw) (alV2) alS2_ok (by decide +kernel) (by decide +kernel) (hs.rd 3 rfl) (hs.rd 4 rfl))
  refine RW_gy rfl (L_fieldV (V := .int .u32 6) (fun w => by simp [Instr.field, part, asAgg]) rfl ?_)
  refine RW_gy rfl (opW_to (V := .bool (decide ((6 : Int) = 6))) (V' := .bool true) (L_eql rfl rfl ⟨rfl, rfl⟩) (congrArg Value.bool (by decide)) ?_)
  refine RW_op (L_pick (V := .bool true) rfl rfl ?_)
  refine RW_op (L_move (V := .bool true) rfl ?_)
  refine RW_gy rfl (L_ldW (cs := (vc alS1.known) ++ [(.slice x2.1.1 ((alS1.ents).length) x2.1.2 : Value), (.slice x2.2.1 ((alS1.ticks).length) x2.2.2 : Value) ]) SA_62 hs 2 rfl rfl rfl ?_)
  refine RW_gy rfl (L_callPV (V' := .bool true) (congrArg Value.bool (by decide +kernel)) (vs := [.agg ((vc alS1.known) ++ [(.slice x2.1.1 ((alS1.ents).length) x2.1.2 : Value), (.slice x2.2.1 ((alS1.ticks).length) x2.2.2 : Value) ]).toArray]) (V := .bool (rightS alS1)) EN_58 rfl rfl ?hc hs fun w23 hs => ?_)
  case hc => exact (cRight_ok _ alS1 x2.1.1 x2.1.2 x2.2.1 x2.2.2 alS1_ok (by decide +kernel) (by decide +kernel) (hs.rd 0 rfl) (hs.rd 1 rfl))
  refine RW_op (L_pick (V := .bool true) rfl rfl ?_)
  refine RW_op (L_move (V := .bool true) rfl ?_)
  refine RW_gy rfl (L_ldW (cs := (vc alS2.known) ++ [(.slice x7.1.1 ((alS2.ents).length) x7.1.2 : Value), (.slice x7.2.1 ((alS2.ticks).length) x7.2.2 : Value) ]) SA_62 hs 5 rfl rfl rfl ?_)
  refine RW_gy rfl (L_callX (vs := [.agg ((vc alS2.known) ++ [(.slice x7.1.1 ((alS2.ents).length) x7.1.2 : Value), (.slice x7.2.1 ((alS2.ticks).length) x7.2.2 : Value) ]).toArray]) (V := fun x : Option Addr × Nat => .slice x.1 (cartsS alS2).length x.2) EN_37 rfl rfl (cCarts_ok _ alS2 x7.1.1 x7.1.2 x7.2.1 x7.2.2 alS2_ok (by decide +kernel) (by decide +kernel) (hs.rd 3 rfl) (hs.rd 4 rfl)) hs fun x24 w25 hs _ => ?_)
  refine RW_gy rfl (L_lenR (n := (cartsS alS2).length) UD_78 (hs.rd 12 rfl) (by simp) rfl ?_)
  refine RW_gy rfl (opW_to (V := .bool (decide ((((cartsS alS2).length : Nat) : Int) = 1))) (V' := .bool true) (L_eql rfl rfl ⟨rfl, rfl⟩) (congrArg Value.bool (by decide +kernel)) ?_)
  refine RW_op (L_pick (V := .bool true) rfl rfl ?_)
  refine RW_op (L_assign (V := .bool true) rfl ?_)
  refine RW_nil ?_
  refine W_ret ?_
  refine ⟨_, res_one (V := .bool true) Try.results26 rfl, ?_⟩
  refine ⟨congrArg Ending.returned ?_, hs.take 0⟩
  rfl
end Tt
end Go.Proofs
namespace Go.Proofs
open Go Go.Vx Go.RowKit
namespace Tt
set_option maxRecDepth 20000 in
set_option maxHeartbeats 4000000 in
theorem ours_ok (w : World) (s : Sta) (a1 : Option Addr) (c1 : Nat) (a2 : Option Addr) (c2 : Nat) (hle : s.ents.length ≤ 100000) (hlt : s.ticks.length ≤ 100000) (hr1 : Rd w (.slice a1 s.ents.length c1) 7 (s.ents.map cec)) (hr2 : Rd w (.slice a2 s.ticks.length c2) 2 (s.ticks.map lsc)) : Calls Try.prog 32 #[.agg ((vc s.known) ++ [(.slice a1 s.ents.length c1 : Value), (.slice a2 s.ticks.length c2 : Value) ]).toArray] w (fun e w' => ∃ x : (Option Addr × Nat) × (Option Addr × Nat), e = .returned (.agg (vc (s).known ++ [(.slice x.1.1 (s).ents.length x.1.2 : Value), (.slice x.2.1 (s).ticks.length x.2.2 : Value)]).toArray) ∧ Own w no w' [row (.slice x.1.1 (s).ents.length x.1.2) ((s).ents.map cec) 134 7, row (.slice x.2.1 (s).ticks.length x.2.2) ((s).ticks.map lsc) 135 2] ∧ True) := by
  refine calls_of_Wn (n := 40) Try.func32 rfl Try.ntmps32 rfl ?_
  have hs := Own.start w
  refine W_seq ?_
  refine W_region ?_
  refine RW_op (L_box (V := .agg ((vc s.known) ++ [(.slice a1 s.ents.length c1 : Value), (.slice a2 s.ticks.length c2 : Value) ]).toArray) (cs := (vc s.known) ++ [(.slice a1 s.ents.length c1 : Value), (.slice a2 s.ticks.length c2 : Value) ]) rfl rfl hs fun b1 w2 hs => ?_)
  refine RW_op (L_alloc (cs := (vc vzero) ++ [(.slice none 0 0 : Value), (.slice none 0 0 : Value) ]) ZV_57 rfl hs fun b3 w4 hs => ?_)
  refine RW_nil ?_
  refine W_seq ?_
  refine W_region ?_
  refine RW_op (L_fieldAddr FA_62_0 rfl ?_)
  refine RW_op (L_ldA (vs := vc s.known) SA_53 hs 0 rfl rfl rfl rfl ?_)
  refine RW_op (L_buildP (vs := [(0, .agg (vc s.known).toArray)]) (cs := (vc s.known) ++ [(.slice none 0 0 : Value), (.slice none 0 0 : Value) ]) [vc vzero, [(.slice none 0 0 : Value)], [(.slice none 0 0 : Value)]] [vc s.known, [(.slice none 0 0 : Value)], [(.slice none 0 0 : Value)]] BT_57 rfl (rfl) rfl rfl ?_)
  refine RW_op (L_alloc (cs := (vc vzero) ++ [(.slice none 0 0 : Value), (.slice none 0 0 : Value) ]) ZV_57 rfl hs fun b5 w6 hs => ?_)
  refine RW_op (L_st (V := .agg ((vc s.known) ++ [(.slice none 0 0 : Value), (.slice none 0 0 : Value) ]).toArray) (vs := (vc s.known) ++ [(.slice none 0 0 : Value), (.slice none 0 0 : Value) ]) (cs' := (vc s.known) ++ [(.slice none 0 0 : Value), (.slice none 0 0 : Value) ]) SA_57.1 hs 2 rfl rfl rfl rfl rfl (Nat.le_of_ble_eq_true rfl) (one_app (vc_one _) (one_cons rfl (one_cons rfl one_nil))) (spl_whole rfl) fun w7 hs => ?_)
  replace hs : Own w no w7 [blk b1 ((vc s.known) ++ [(.slice a1 s.ents.length c1 : Value), (.slice a2 s.ticks.length c2 : Value) ]) 62, blk b3 ((vc vzero) ++ [(.slice none 0 0 : Value), (.slice none 0 0 : Value) ]) 57, blk b5 ((vc s.known) ++ [(.slice none 0 0 : Value), (.slice none 0 0 : Value) ]) 57] := hs
  refine RW_nil ?_
  refine W_seq ?_
  refine W_seq ?_
  refine W_region ?_
  refine RW_op (L_fieldAddr FA_62_1 rfl ?_)
  refine RW_op (L_ld (V := .slice a1 s.ents.length c1) S1_59 hs 0 rfl rfl rfl ?_)
  refine RW_op (L_lenR (n := s.ents.length) UD_59 (Rd.own' hr1 hs) (by simp) rfl ?_)
  refine RW_op (L_move (V := .int .i64 0) rfl ?_)
  refine RW_nil ?_
  refine W_block ?_
  replace hs := hs.more (row (.slice none 0 0) (List.map cec []) 134 7) (row_nil _ _ _ _)
  refine W_loopI (fun ρ μ ρ' w' => ∃ (ρo : Env) (k1 : Nat) (an1 : Option Addr) (cn1 : Nat) (L1 : List Cen), ρ' = upd (mix [5, 14, 15, 16, 17, 18, 19, 20, 21, 22, 23, 24] ρo ρ) 14 (.int .i64 ((k1 : Nat) : Int)) ∧ (k1 ≤ s.ents.length) ∧ (L1 = s.ents.take k1) ∧ (L1.length ≤ k1) ∧ μ = s.ents.length - k1 ∧ Own w no w' [blk b1 ((vc s.known) ++ [(.slice a1 s.ents.length c1 : Value), (.slice a2 s.ticks.length c2 : Value) ]) 62, blk b3 ((vc vzero) ++ [(.slice none 0 0 : Value), (.slice none 0 0 : Value) ]) 57, blk b5 ((vc s.known) ++ [(.slice an1 L1.length cn1 : Value), (.slice none 0 0 : Value) ]) 57, row (.slice an1 L1.length cn1) (L1.map cec) 134 7]) ?_ ?_
  · exact ⟨_, _, 0, none, 0, [], upd_of (mix_of (ds := [5, 14, 15, 16, 17, 18, 19, 20, 21, 22, 23, 24]) (Agr.refl _ _)) rfl, (by omega), rfl, (Nat.le_refl _), rfl, hs⟩
  · rintro μ ρ' w8 ⟨ρo, k1, an1, cn1, L1, rfl, hk1, hL1, hl1, rfl, hs⟩
    have hb1 := hl1
    refine W_seq ?_
    refine W_region ?_
    refine RW_op (L_lss rfl rfl ?_)
    refine RW_nil ?_
    refine W_seq ?_
    refine W_cond (t := decide (((k1 : Nat) : Int) < ((s.ents.length : Nat) : Int))) rfl (fun c9 => ?_) (fun c9 => ?_)
    ·
      replace c9 := of_decide_eq_true c9
      refine W_skip ?_
      refine W_seq ?_
      refine W_block ?_
      refine W_seq ?_
      refine W_region ?_
      refine RW_op (L_ixR UD_59 SA_128.1 (Rd.own' hr1 hs) rfl rfl (by omega) (by rw [List.length_map]; omega) ?_)
      refine RW_op (L_ldRA (j := 0) (vs := cec (gd s.ents k1)) k1 SA_128 (Rd.own' hr1 hs) (gd_at (by omega)) rfl rfl rfl (by omega) ?_)
      refine RW_op (L_alloc (cs := cec (⟨0, 0, 0, 0, (⟨0, 0⟩ : Dot), 0⟩ : Cen)) ZV_128 rfl hs fun b10 w11 hs => ?_)
      refine RW_op (L_st (V := .agg (cec (gd s.ents k1)).toArray) (vs := cec (gd s.ents k1)) (cs' := cec (gd s.ents k1)) SA_128.1 hs 4 rfl rfl rfl rfl rfl (Nat.le_of_ble_eq_true rfl) (cec_one _) (spl_whole rfl) fun w12 hs => ?_)
      refine RW_nil ?_
      refine W_region ?_
      refine RW_op (L_fieldAddr FA_57_1 rfl ?_)
      refine RW_op (L_ld (V := .slice an1 L1.length cn1) S1_54 hs 2 rfl rfl rfl ?_)
      refine RW_op (L_ldW (cs := cec (gd s.ents k1)) SA_128 hs 4 rfl rfl rfl ?_)
      refine RW_op (L_bs (vals := [.agg (cec (gd s.ents k1)).toArray]) (ls := List.map cec ([gd s.ents k1] : List Cen)) EL_54 rfl rfl rfl (len_map (enc := cec) (fun _ => rfl) _) (one_map cec_one _) (Nat.le_of_ble_eq_true rfl) hs fun b13 w14 hs => ?_)
      refine RW_op (L_appN (ls' := (L1 ++ [gd s.ents k1]).map cec) (n := (L1 ++ [gd s.ents k1]).length) EL_54 hs 3 rfl rfl rfl (hs.rd 5 rfl) (one_map cec_one _) (by simp only [List.length_map, List.length_append, List.length_cons, List.length_nil]; omega) (by simp) (by simp) fun a15 c15 w16 hs => ?_)
      replace hs : Own w no w16 [blk b1 ((vc s.known) ++ [(.slice a1 s.ents.length c1 : Value), (.slice a2 s.ticks.length c2 : Value) ]) 62, blk b3 ((vc vzero) ++ [(.slice none 0 0 : Value), (.slice none 0 0 : Value) ]) 57, blk b5 ((vc s.known) ++ [(.slice an1 L1.length cn1 : Value), (.slice none 0 0 : Value) ]) 57, row (.slice a15 ((L1 ++ [gd s.ents k1]).length) c15) ((L1 ++ [gd s.ents k1]).map cec) 134 7, blk b10 (cec (gd s.ents k1)) 128, row (.slice (some ⟨b13, 0, none⟩) 1 1) ([gd s.ents k1].map cec) 134 7] := hs
      refine RW_op (L_fieldAddr FA_57_1 rfl ?_)
      refine RW_op (L_st1 (V := .slice a15 ((L1 ++ [gd s.ents k1]).length) c15) (cs' := (vc s.known) ++ [(.slice a15 ((L1 ++ [gd s.ents k1]).length) c15 : Value), (.slice none 0 0 : Value) ]) S1_54 hs 2 rfl rfl rfl rfl (Nat.le_of_ble_eq_true rfl) rfl fun w17 hs => ?_)
      refine RW_nil ?_
      refine W_region ?_
      refine RW_op (L_add (a := ((k1 : Nat) : Int)) (b := 1) (c := ((k1 + 1 : Nat) : Int)) rfl rfl (nat_i64 (by omega) (by omega)) ?_)
      refine RW_op (L_move (V := .int .i64 ((k1 + 1 : Nat) : Int)) rfl ?_)
      refine RW_nil ?_
      refine ⟨_, ?_, _, k1 + 1, a15, c15, L1 ++ [gd s.ents k1], upd_of (mix_of (ds := [5, 14, 15, 16, 17, 18, 19, 20, 21, 22, 23, 24]) (by repeat (first | exact Agr.refl _ _ | refine Agr.upd ?_ rfl | refine Agr.mix ?_ rfl))) rfl, (by omega), (by rw [take_snoc (by omega), ← hL1]), (by rw [List.length_append, List.length_singleton]; omega), rfl, hs.take 4⟩
      omega
    ·
      replace c9 := of_decide_eq_false c9
      refine W_exit ?_
      refine W_seq ?_
      refine W_seq ?_
      refine W_region ?_
      refine RW_op (L_fieldAddr FA_62_2 rfl ?_)
      refine RW_op (L_ld (V := .slice a2 s.ticks.length c2) S1_60 hs 0 rfl rfl rfl ?_)
      refine RW_op (L_lenR (n := s.ticks.length) UD_60 (Rd.own' hr2 hs) (by simp) rfl ?_)
      refine RW_op (L_move (V := .int .i64 0) rfl ?_)
      refine RW_nil ?_
      refine W_block ?_
      replace hs := hs.more (row (.slice none 0 0) (List.map lsc []) 135 2) (row_nil _ _ _ _)
      refine W_loopI (fun ρ μ ρ' w' => ∃ (ρo : Env) (k2 : Nat) (an2 : Option Addr) (cn2 : Nat) (L2 : List Lst), ρ' = upd (mix [7, 28, 29, 30, 31, 32, 33, 34, 35, 36, 37, 38] ρo ρ) 28 (.int .i64 ((k2 : Nat) : Int)) ∧ (k2 ≤ s.ticks.length) ∧ (L2 = s.ticks.take k2) ∧ (L2.length ≤ k2) ∧ μ = s.ticks.length - k2 ∧ Own w no w' [blk b1 ((vc s.known) ++ [(.slice a1 s.ents.length c1 : Value), (.slice a2 s.ticks.length c2 : Value) ]) 62, blk b3 ((vc vzero) ++ [(.slice none 0 0 : Value), (.slice none 0 0 : Value) ]) 57, blk b5 ((vc s.known) ++ [(.slice an1 L1.length cn1 : Value), (.slice an2 L2.length cn2 : Value) ]) 57, row (.slice an1 L1.length cn1) (L1.map cec) 134 7, row (.slice an2 L2.length cn2) (L2.map lsc) 135 2]) ?_ ?_
      · exact ⟨_, _, 0, none, 0, [], upd_of (mix_of (ds := [7, 28, 29, 30, 31, 32, 33, 34, 35, 36, 37, 38]) (Agr.refl _ _)) rfl, (by omega), rfl, (Nat.le_refl _), rfl, hs⟩
      · rintro μ ρ' w18 ⟨ρo, k2, an2, cn2, L2, rfl, hk2, hL2, hl2, rfl, hs⟩
        have hb2 := hl2
        refine W_seq ?_
        refine W_region ?_
        refine RW_op (L_lss rfl rfl ?_)
        refine RW_nil ?_
        refine W_seq ?_
        refine W_cond (t := decide (((k2 : Nat) : Int) < ((s.ticks.length : Nat) : Int))) rfl (fun c19 => ?_) (fun c19 => ?_)
        ·
          replace c19 := of_decide_eq_true c19
          refine W_skip ?_
          refine W_seq ?_
          refine W_block ?_
          refine W_seq ?_
          refine W_region ?_
          refine RW_op (L_ixR UD_60 SA_126.1 (Rd.own' hr2 hs) rfl rfl (by omega) (by rw [List.length_map]; omega) ?_)
          refine RW_op (L_ldRA (j := 0) (vs := lsc (gd s.ticks k2)) k2 SA_126 (Rd.own' hr2 hs) (gd_at (by omega)) rfl rfl rfl (by omega) ?_)
          refine RW_op (L_alloc (cs := lsc (⟨0, 0⟩ : Lst)) ZV_126 rfl hs fun b20 w21 hs => ?_)
          refine RW_op (L_st (V := .agg (lsc (gd s.ticks k2)).toArray) (vs := lsc (gd s.ticks k2)) (cs' := lsc (gd s.ticks k2)) SA_126.1 hs 5 rfl rfl rfl rfl rfl (Nat.le_of_ble_eq_true rfl) (lsc_one _) (spl_whole rfl) fun w22 hs => ?_)
          refine RW_nil ?_
          refine W_region ?_
          refine RW_op (L_fieldAddr FA_57_2 rfl ?_)
          refine RW_op (L_ld (V := .slice an2 L2.length cn2) S1_55 hs 2 rfl rfl rfl ?_)
          refine RW_op (L_ldW (cs := lsc (gd s.ticks k2)) SA_126 hs 5 rfl rfl rfl ?_)
          refine RW_op (L_bs (vals := [.agg (lsc (gd s.ticks k2)).toArray]) (ls := List.map lsc ([gd s.ticks k2] : List Lst)) EL_55 rfl rfl rfl (len_map (enc := lsc) (fun _ => rfl) _) (one_map lsc_one _) (Nat.le_of_ble_eq_true rfl) hs fun b23 w24 hs => ?_)
          refine RW_op (L_appN (ls' := (L2 ++ [gd s.ticks k2]).map lsc) (n := (L2 ++ [gd s.ticks k2]).length) EL_55 hs 4 rfl rfl rfl (hs.rd 6 rfl) (one_map lsc_one _) (by simp only [List.length_map, List.length_append, List.length_cons, List.length_nil]; omega) (by simp) (by simp) fun a25 c25 w26 hs => ?_)
          replace hs : Own w no w26 [blk b1 ((vc s.known) ++ [(.slice a1 s.ents.length c1 : Value), (.slice a2 s.ticks.length c2 : Value) ]) 62, blk b3 ((vc vzero) ++ [(.slice none 0 0 : Value), (.slice none 0 0 : Value) ]) 57, blk b5 ((vc s.known) ++ [(.slice an1 L1.length cn1 : Value), (.slice an2 L2.length cn2 : Value) ]) 57, row (.slice an1 L1.length cn1) (L1.map cec) 134 7, row (.slice a25 ((L2 ++ [gd s.ticks k2]).length) c25) ((L2 ++ [gd s.ticks k2]).map lsc) 135 2, blk b20 (lsc (gd s.ticks k2)) 126, row (.slice (some ⟨b23, 0, none⟩) 1 1) ([gd s.ticks k2].map lsc) 135 2] := hs
          refine RW_op (L_fieldAddr FA_57_2 rfl ?_)
          refine RW_op (L_st1 (V := .slice a25 ((L2 ++ [gd s.ticks k2]).length) c25) (cs' := (vc s.known) ++ [(.slice an1 L1.length cn1 : Value), (.slice a25 ((L2 ++ [gd s.ticks k2]).length) c25 : Value) ]) S1_55 hs 2 rfl rfl rfl rfl (Nat.le_of_ble_eq_true rfl) rfl fun w27 hs => ?_)
          refine RW_nil ?_
          refine W_region ?_
          refine RW_op (L_add (a := ((k2 : Nat) : Int)) (b := 1) (c := ((k2 + 1 : Nat) : Int)) rfl rfl (nat_i64 (by omega) (by omega)) ?_)
          refine RW_op (L_move (V := .int .i64 ((k2 + 1 : Nat) : Int)) rfl ?_)
          refine RW_nil ?_
          refine ⟨_, ?_, _, k2 + 1, a25, c25, L2 ++ [gd s.ticks k2], upd_of (mix_of (ds := [7, 28, 29, 30, 31, 32, 33, 34, 35, 36, 37, 38]) (by repeat (first | exact Agr.refl _ _ | refine Agr.upd ?_ rfl | refine Agr.mix ?_ rfl))) rfl, (by omega), (by rw [take_snoc (by omega), ← hL2]), (by rw [List.length_append, List.length_singleton]; omega), rfl, hs.take 5⟩
          omega
        ·
          replace c19 := of_decide_eq_false c19
          refine W_exit ?_
          refine W_seq ?_
          refine W_region ?_
          refine RW_op (L_ldW (cs := (vc s.known) ++ [(.slice an1 L1.length cn1 : Value), (.slice an2 L2.length cn2 : Value) ]) SA_57 hs 2 rfl rfl rfl ?_)
          refine RW_op (L_st (V := .agg ((vc s.known) ++ [(.slice an1 L1.length cn1 : Value), (.slice an2 L2.length cn2 : Value) ]).toArray) (vs := (vc s.known) ++ [(.slice an1 L1.length cn1 : Value), (.slice an2 L2.length cn2 : Value) ]) (cs' := (vc s.known) ++ [(.slice an1 L1.length cn1 : Value), (.slice an2 L2.length cn2 : Value) ]) SA_57.1 hs 1 rfl rfl rfl rfl rfl (Nat.le_of_ble_eq_true rfl) (one_app (vc_one _) (one_cons rfl (one_cons rfl one_nil))) (spl_whole rfl) fun w28 hs => ?_)
          refine RW_nil ?_
          refine W_ret ?_
          refine ⟨_, res_cell (cs := (vc s.known) ++ [(.slice an1 L1.length cn1 : Value), (.slice an2 L2.length cn2 : Value) ]) Try.results32 SA_57 hs 1 rfl rfl rfl, ?_⟩
          have hX : L1 = s.ents := by rw [hL1, List.take_of_length_le (by omega)]
          have hY : L2 = s.ticks := by rw [hL2, List.take_of_length_le (by omega)]
          rw [hX, hY] at hs ⊢
          exact ⟨((an1, cn1), (an2, cn2)), rfl, hs.two 3 4 (by decide) rfl rfl, trivial⟩
set_option maxRecDepth 20000 in
set_option maxHeartbeats 4000000 in
theorem theirs_ok (w : World) (s : Sta) (a1 : Option Addr) (c1 : Nat) (a2 : Option Addr) (c2 : Nat) (hle : s.ents.length ≤ 100000) (hlt : s.ticks.length ≤ 100000) (hr1 : Rd w (.slice a1 s.ents.length c1) 7 (s.ents.map cec)) (hr2 : Rd w (.slice a2 s.ticks.length c2) 2 (s.ticks.map lsc)) : Calls Try.prog 29 #[.agg ((vc s.known) ++ [(.slice a1 s.ents.length c1 : Value), (.slice a2 s.ticks.length c2 : Value) ]).toArray] w (fun e w' => ∃ x : (Option Addr × Nat) × (Option Addr × Nat), e = .returned (.agg (vc (s).known ++ [(.slice x.1.1 (s).ents.length x.1.2 : Value), (.slice x.2.1 (s).ticks.length x.2.2 : Value)]).toArray) ∧ Own w no w' [row (.slice x.1.1 (s).ents.length x.1.2) ((s).ents.map cec) 128 7, row (.slice x.2.1 (s).ticks.length x.2.2) ((s).ticks.map lsc) 126 2] ∧ True) := by
  refine calls_of_Wn (n := 40) Try.func29 rfl Try.ntmps29 rfl ?_
  have hs := Own.start w
  refine W_seq ?_
  refine W_region ?_
  refine RW_op (L_box (V := .agg ((vc s.known) ++ [(.slice a1 s.ents.length c1 : Value), (.slice a2 s.ticks.length c2 : Value) ]).toArray) (cs := (vc s.known) ++ [(.slice a1 s.ents.length c1 : Value), (.slice a2 s.ticks.length c2 : Value) ]) rfl rfl hs fun b1 w2 hs => ?_)
  refine RW_op (L_alloc (cs := (vc vzero) ++ [(.slice none 0 0 : Value), (.slice none 0 0 : Value) ]) ZV_62 rfl hs fun b3 w4 hs => ?_)
  refine RW_nil ?_
  refine W_seq ?_
  refine W_region ?_
  refine RW_op (L_fieldAddr FA_57_0 rfl ?_)
  refine RW_op (L_ldA (vs := vc s.known) SA_53 hs 0 rfl rfl rfl rfl ?_)
  refine RW_op (L_buildP (vs := [(0, .agg (vc s.known).toArray)]) (cs := (vc s.known) ++ [(.slice none 0 0 : Value), (.slice none 0 0 : Value) ]) [vc vzero, [(.slice none 0 0 : Value)], [(.slice none 0 0 : Value)]] [vc s.known, [(.slice none 0 0 : Value)], [(.slice none 0 0 : Value)]] BT_62 rfl (rfl) rfl rfl ?_)
  refine RW_op (L_alloc (cs := (vc vzero) ++ [(.slice none 0 0 : Value), (.slice none 0 0 : Value) ]) ZV_62 rfl hs fun b5 w6 hs => ?_)
  refine RW_op (L_st (V := .agg ((vc s.known) ++ [(.slice none 0 0 : Value), (.slice none 0 0 : Value) ]).toArray) (vs := (vc s.known) ++ [(.slice none 0 0 : Value), (.slice none 0 0 : Value) ]) (cs' := (vc s.known) ++ [(.slice none 0 0 : Value), (.slice none 0 0 : Value) ]) SA_62.1 hs 2 rfl rfl rfl rfl rfl (Nat.le_of_ble_eq_true rfl) (one_app (vc_one _) (one_cons rfl (one_cons rfl one_nil))) (spl_whole rfl) fun w7 hs => ?_)
  replace hs : Own w no w7 [blk b1 ((vc s.known) ++ [(.slice a1 s.ents.length c1 : Value), (.slice a2 s.ticks.length c2 : Value) ]) 57, blk b3 ((vc vzero) ++ [(.slice none 0 0 : Value), (.slice none 0 0 : Value) ]) 62, blk b5 ((vc s.known) ++ [(.slice none 0 0 : Value), (.slice none 0 0 : Value) ]) 62] := hs
  refine RW_nil ?_
  refine W_seq ?_
  refine W_seq ?_
  refine W_region ?_
  refine RW_op (L_fieldAddr FA_57_1 rfl ?_)
  refine RW_op (L_ld (V := .slice a1 s.ents.length c1) S1_54 hs 0 rfl rfl rfl ?_)
  refine RW_op (L_lenR (n := s.ents.length) UD_54 (Rd.own' hr1 hs) (by simp) rfl ?_)
  refine RW_op (L_move (V := .int .i64 0) rfl ?_)
  refine RW_nil ?_
  refine W_block ?_
  replace hs := hs.more (row (.slice none 0 0) (List.map cec []) 128 7) (row_nil _ _ _ _)
  refine W_loopI (fun ρ μ ρ' w' => ∃ (ρo : Env) (k1 : Nat) (an1 : Option Addr) (cn1 : Nat) (L1 : List Cen), ρ' = upd (mix [5, 14, 15, 16, 17, 18, 19, 20, 21, 22, 23, 24] ρo ρ) 14 (.int .i64 ((k1 : Nat) : Int)) ∧ (k1 ≤ s.ents.length) ∧ (L1 = s.ents.take k1) ∧ (L1.length ≤ k1) ∧ μ = s.ents.length - k1 ∧ Own w no w' [blk b1 ((vc s.known) ++ [(.slice a1 s.ents.length c1 : Value), (.slice a2 s.ticks.length c2 : Value) ]) 57, blk b3 ((vc vzero) ++ [(.slice none 0 0 : Value), (.slice none 0 0 : Value) ]) 62, blk b5 ((vc s.known) ++ [(.slice an1 L1.length cn1 : Value), (.slice none 0 0 : Value) ]) 62, row (.slice an1 L1.length cn1) (L1.map cec) 128 7]) ?_ ?_
  · exact ⟨_, _, 0, none, 0, [], upd_of (mix_of (ds := [5, 14, 15, 16, 17, 18, 19, 20, 21, 22, 23, 24]) (Agr.refl _ _)) rfl, (by omega), rfl, (Nat.le_refl _), rfl, hs⟩
  · rintro μ ρ' w8 ⟨ρo, k1, an1, cn1, L1, rfl, hk1, hL1, hl1, rfl, hs⟩
    have hb1 := hl1
    refine W_seq ?_
    refine W_region ?_
    refine RW_op (L_lss rfl rfl ?_)
    refine RW_nil ?_
    refine W_seq ?_
    refine W_cond (t := decide (((k1 : Nat) : Int) < ((s.ents.length : Nat) : Int))) rfl (fun c9 => ?_) (fun c9 => ?_)
    ·
      replace c9 := of_decide_eq_true c9
      refine W_skip ?_
      refine W_seq ?_
      refine W_block ?_
      refine W_seq ?_
      refine W_region ?_
      refine RW_op (L_ixR UD_54 SA_134.1 (Rd.own' hr1 hs) rfl rfl (by omega) (by rw [List.length_map]; omega) ?_)
      refine RW_op (L_ldRA (j := 0) (vs := cec (gd s.ents k1)) k1 SA_134 (Rd.own' hr1 hs) (gd_at (by omega)) rfl rfl rfl (by omega) ?_)
      refine RW_op (L_alloc (cs := cec (⟨0, 0, 0, 0, (⟨0, 0⟩ : Dot), 0⟩ : Cen)) ZV_134 rfl hs fun b10 w11 hs => ?_)
      refine RW_op (L_st (V := .agg (cec (gd s.ents k1)).toArray) (vs := cec (gd s.ents k1)) (cs' := cec (gd s.ents k1)) SA_134.1 hs 4 rfl rfl rfl rfl rfl (Nat.le_of_ble_eq_true rfl) (cec_one _) (spl_whole rfl) fun w12 hs => ?_)
      refine RW_nil ?_
      refine W_region ?_
      refine RW_op (L_fieldAddr FA_62_1 rfl ?_)
      refine RW_op (L_ld (V := .slice an1 L1.length cn1) S1_59 hs 2 rfl rfl rfl ?_)
      refine RW_op (L_ldW (cs := cec (gd s.ents k1)) SA_134 hs 4 rfl rfl rfl ?_)
      refine RW_op (L_bs (vals := [.agg (cec (gd s.ents k1)).toArray]) (ls := List.map cec ([gd s.ents k1] : List Cen)) EL_59 rfl rfl rfl (len_map (enc := cec) (fun _ => rfl) _) (one_map cec_one _) (Nat.le_of_ble_eq_true rfl) hs fun b13 w14 hs => ?_)
      refine RW_op (L_appN (ls' := (L1 ++ [gd s.ents k1]).map cec) (n := (L1 ++ [gd s.ents k1]).length) EL_59 hs 3 rfl rfl rfl (hs.rd 5 rfl) (one_map cec_one _) (by simp only [List.length_map, List.length_append, List.length_cons, List.length_nil]; omega) (by simp) (by simp) fun a15 c15 w16 hs => ?_)
      replace hs : Own w no w16 [blk b1 ((vc s.known) ++ [(.slice a1 s.ents.length c1 : Value), (.slice a2 s.ticks.length c2 : Value) ]) 57, blk b3 ((vc vzero) ++ [(.slice none 0 0 : Value), (.slice none 0 0 : Value) ]) 62, blk b5 ((vc s.known) ++ [(.slice an1 L1.length cn1 : Value), (.slice none 0 0 : Value) ]) 62, row (.slice a15 ((L1 ++ [gd s.ents k1]).length) c15) ((L1 ++ [gd s.ents k1]).map cec) 128 7, blk b10 (cec (gd s.ents k1)) 134, row (.slice (some ⟨b13, 0, none⟩) 1 1) ([gd s.ents k1].map cec) 128 7] := hs
      refine RW_op (L_fieldAddr FA_62_1 rfl ?_)
      refine RW_op (L_st1 (V := .slice a15 ((L1 ++ [gd s.ents k1]).length) c15) (cs' := (vc s.known) ++ [(.slice a15 ((L1 ++ [gd s.ents k1]).length) c15 : Value), (.slice none 0 0 : Value) ]) S1_59 hs 2 rfl rfl rfl rfl (Nat.le_of_ble_eq_true rfl) rfl fun w17 hs => ?_)
      refine RW_nil ?_
      refine W_region ?_
      refine RW_op (L_add (a := ((k1 : Nat) : Int)) (b := 1) (c := ((k1 + 1 : Nat) : Int)) rfl rfl (nat_i64 (by omega) (by omega)) ?_)
      refine RW_op (L_move (V := .int .i64 ((k1 + 1 : Nat) : Int)) rfl ?_)
      refine RW_nil ?_
      refine ⟨_, ?_, _, k1 + 1, a15, c15, L1 ++ [gd s.ents k1], upd_of (mix_of (ds := [5, 14, 15, 16, 17, 18, 19, 20, 21, 22, 23, 24]) (by repeat (first | exact Agr.refl _ _ | refine Agr.upd ?_ rfl | refine Agr.mix ?_ rfl))) rfl, (by omega), (by rw [take_snoc (by omega), ← hL1]), (by rw [List.length_append, List.length_singleton]; omega), rfl, hs.take 4⟩
      omega
    ·
      replace c9 := of_decide_eq_false c9
      refine W_exit ?_
      refine W_seq ?_
      refine W_seq ?_
      refine W_region ?_
      refine RW_op (L_fieldAddr FA_57_2 rfl ?_)
      refine RW_op (L_ld (V := .slice a2 s.ticks.length c2) S1_55 hs 0 rfl rfl rfl ?_)
      refine RW_op (L_lenR (n := s.ticks.length) UD_55 (Rd.own' hr2 hs) (by simp) rfl ?_)
      refine RW_op (L_move (V := .int .i64 0) rfl ?_)
      refine RW_nil ?_
      refine W_block ?_
      replace hs := hs.more (row (.slice none 0 0) (List.map lsc []) 126 2) (row_nil _ _ _ _)
      refine W_loopI (fun ρ μ ρ' w' => ∃ (ρo : Env) (k2 : Nat) (an2 : Option Addr) (cn2 : Nat) (L2 : List Lst), ρ' = upd (mix [7, 28, 29, 30, 31, 32, 33, 34, 35, 36, 37, 38] ρo ρ) 28 (.int .i64 ((k2 : Nat) : Int)) ∧ (k2 ≤ s.ticks.length) ∧ (L2 = s.ticks.take k2) ∧ (L2.length ≤ k2) ∧ μ = s.ticks.length - k2 ∧ Own w no w' [blk b1 ((vc s.known) ++ [(.slice a1 s.ents.length c1 : Value), (.slice a2 s.ticks.length c2 : Value) ]) 57, blk b3 ((vc vzero) ++ [(.slice none 0 0 : Value), (.slice none 0 0 : Value) ]) 62, blk b5 ((vc s.known) ++ [(.slice an1 L1.length cn1 : Value), (.slice an2 L2.length cn2 : Value) ]) 62, row (.slice an1 L1.length cn1) (L1.map cec) 128 7, row (.slice an2 L2.length cn2) (L2.map lsc) 126 2]) ?_ ?_
      · exact ⟨_, _, 0, none, 0, [], upd_of (mix_of (ds := [7, 28, 29, 30, 31, 32, 33, 34, 35, 36, 37, 38]) (Agr.refl _ _)) rfl, (by omega), rfl, (Nat.le_refl _), rfl, hs⟩
      · rintro μ ρ' w18 ⟨ρo, k2, an2, cn2, L2, rfl, hk2, hL2, hl2, rfl, hs⟩
        have hb2 := hl2
        refine W_seq ?_
        refine W_region ?_
        refine RW_op (L_lss rfl rfl ?_)
        refine RW_nil ?_
        refine W_seq ?_
        refine W_cond (t := decide (((k2 : Nat) : Int) < ((s.ticks.length : Nat) : Int))) rfl (fun c19 => ?_) (fun c19 => ?_)
        ·
          replace c19 := of_decide_eq_true c19
          refine W_skip ?_
          refine W_seq ?_
          refine W_block ?_
          refine W_seq ?_
          refine W_region ?_
          refine RW_op (L_ixR UD_55 SA_135.1 (Rd.own' hr2 hs) rfl rfl (by omega) (by rw [List.length_map]; omega) ?_)
          refine RW_op (L_ldRA (j := 0) (vs := lsc (gd s.ticks k2)) k2 SA_135 (Rd.own' hr2 hs) (gd_at (by omega)) rfl rfl rfl (by omega) ?_)
          refine RW_op (L_alloc (cs := lsc (⟨0, 0⟩ : Lst)) ZV_135 rfl hs fun b20 w21 hs => ?_)
          refine RW_op (L_st (V := .agg (lsc (gd s.ticks k2)).toArray) (vs := lsc (gd s.ticks k2)) (cs' := lsc (gd s.ticks k2)) SA_135.1 hs 5 rfl rfl rfl rfl rfl (Nat.le_of_ble_eq_true rfl) (lsc_one _) (spl_whole rfl) fun w22 hs => ?_)
          refine RW_nil ?_
          refine W_region ?_
          refine RW_op (L_fieldAddr FA_62_2 rfl ?_)
          refine RW_op (L_ld (V := .slice an2 L2.length cn2) S1_60 hs 2 rfl rfl rfl ?_)
          refine RW_op (L_ldW (cs := lsc (gd s.ticks k2)) SA_135 hs 5 rfl rfl rfl ?_)
          refine RW_op (L_bs (vals := [.agg (lsc (gd s.ticks k2)).toArray]) (ls := List.map lsc ([gd s.ticks k2] : List Lst)) EL_60 rfl rfl rfl (len_map (enc := lsc) (fun _ => rfl) _) (one_map lsc_one _) (Nat.le_of_ble_eq_true rfl) hs fun b23 w24 hs => ?_)
          refine RW_op (L_appN (ls' := (L2 ++ [gd s.ticks k2]).map lsc) (n := (L2 ++ [gd s.ticks k2]).length) EL_60 hs 4 rfl rfl rfl (hs.rd 6 rfl) (one_map lsc_one _) (by simp only [List.length_map, List.length_append, List.length_cons, List.length_nil]; omega) (by simp) (by simp) fun a25 c25 w26 hs => ?_)
          replace hs : Own w no w26 [blk b1 ((vc s.known) ++ [(.slice a1 s.ents.length c1 : Value), (.slice a2 s.ticks.length c2 : Value) ]) 57, blk b3 ((vc vzero) ++ [(.slice none 0 0 : Value), (.slice none 0 0 : Value) ]) 62, blk b5 ((vc s.known) ++ [(.slice an1 L1.length cn1 : Value), (.slice an2 L2.length cn2 : Value) ]) 62, row (.slice an1 L1.length cn1) (L1.map cec) 128 7, row (.slice a25 ((L2 ++ [gd s.ticks k2]).length) c25) ((L2 ++ [gd s.ticks k2]).map lsc) 126 2, blk b20 (lsc (gd s.ticks k2)) 135, row (.slice (some ⟨b23, 0, none⟩) 1 1) ([gd s.ticks k2].map lsc) 126 2] := hs
          refine RW_op (L_fieldAddr FA_62_2 rfl ?_)
          refine RW_op (L_st1 (V := .slice a25 ((L2 ++ [gd s.ticks k2]).length) c25) (cs' := (vc s.known) ++ [(.slice an1 L1.length cn1 : Value), (.slice a25 ((L2 ++ [gd s.ticks k2]).length) c25 : Value) ]) S1_60 hs 2 rfl rfl rfl rfl (Nat.le_of_ble_eq_true rfl) rfl fun w27 hs => ?_)
          refine RW_nil ?_
          refine W_region ?_
          refine RW_op (L_add (a := ((k2 : Nat) : Int)) (b := 1) (c := ((k2 + 1 : Nat) : Int)) rfl rfl (nat_i64 (by omega) (by omega)) ?_)
          refine RW_op (L_move (V := .int .i64 ((k2 + 1 : Nat) : Int)) rfl ?_)
          refine RW_nil ?_
          refine ⟨_, ?_, _, k2 + 1, a25, c25, L2 ++ [gd s.ticks k2], upd_of (mix_of (ds := [7, 28, 29, 30, 31, 32, 33, 34, 35, 36, 37, 38]) (by repeat (first | exact Agr.refl _ _ | refine Agr.upd ?_ rfl | refine Agr.mix ?_ rfl))) rfl, (by omega), (by rw [take_snoc (by omega), ← hL2]), (by rw [List.length_append, List.length_singleton]; omega), rfl, hs.take 5⟩
          omega
        ·
          replace c19 := of_decide_eq_false c19
          refine W_exit ?_
          refine W_seq ?_
          refine W_region ?_
          refine RW_op (L_ldW (cs := (vc s.known) ++ [(.slice an1 L1.length cn1 : Value), (.slice an2 L2.length cn2 : Value) ]) SA_62 hs 2 rfl rfl rfl ?_)
          refine RW_op (L_st (V := .agg ((vc s.known) ++ [(.slice an1 L1.length cn1 : Value), (.slice an2 L2.length cn2 : Value) ]).toArray) (vs := (vc s.known) ++ [(.slice an1 L1.length cn1 : Value), (.slice an2 L2.length cn2 : Value) ]) (cs' := (vc s.known) ++ [(.slice an1 L1.length cn1 : Value), (.slice an2 L2.length cn2 : Value) ]) SA_62.1 hs 1 rfl rfl rfl rfl rfl (Nat.le_of_ble_eq_true rfl) (one_app (vc_one _) (one_cons rfl (one_cons rfl one_nil))) (spl_whole rfl) fun w28 hs => ?_)
          refine RW_nil ?_
          refine W_ret ?_
          refine ⟨_, res_cell (cs := (vc s.known) ++ [(.slice an1 L1.length cn1 : Value), (.slice an2 L2.length cn2 : Value) ]) Try.results29 SA_62 hs 1 rfl rfl rfl, ?_⟩
          have hX : L1 = s.ents := by rw [hL1, List.take_of_length_le (by omega)]
          have hY : L2 = s.ticks := by rw [hL2, List.take_of_length_le (by omega)]
          rw [hX, hY] at hs ⊢
          exact ⟨((an1, cn1), (an2, cn2)), rfl, hs.two 3 4 (by decide) rfl rfl, trivial⟩
set_option maxRecDepth 20000 in
set_option maxHeartbeats 4000000 in
theorem same8_ok (w : World) (p : Sta) (a1p : Option Addr) (c1p : Nat) (a2p : Option Addr) (c2p : Nat) (q : Sta) (a1q : Option Addr) (c1q : Nat) (a2q : Option Addr) (c2q : Nat) (hr1p : Rd w (.slice a1p p.ents.length c1p) 7 (p.ents.map cec)) (hr2p : Rd w (.slice a2p p.ticks.length c2p) 2 (p.ticks.map lsc)) (hr1q : Rd w (.slice a1q q.ents.length c1q) 7 (q.ents.map cec)) (hr2q : Rd w (.slice a2q q.ticks.length c2q) 2 (q.ticks.map lsc)) : Calls Try.prog 31 #[.agg ((vc p.known) ++ [(.slice a1p p.ents.length c1p : Value), (.slice a2p p.ticks.length c2p : Value) ]).toArray, .agg ((vc q.known) ++ [(.slice a1q q.ents.length c1q : Value), (.slice a2q q.ticks.length c2q : Value) ]).toArray] w (fun e w' => e = .returned (.bool (decide (p.known = q.known) && (decide (p.ents = q.ents) && decide (p.ticks = q.ticks)))) ∧ Own w no w' []) := by
  refine calls_of_Wn (n := 66) Try.func31 rfl Try.ntmps31 rfl ?_
  have hs := Own.start w
  have hn1 := hr1p.sml
  have hn2 := hr2p.sml
  have hn3 := hr1q.sml
  have hn4 := hr2q.sml
  refine W_seq ?_
  refine W_region ?_
  refine RW_op (L_box (V := .agg ((vc p.known) ++ [(.slice a1p p.ents.length c1p : Value), (.slice a2p p.ticks.length c2p : Value) ]).toArray) (cs := (vc p.known) ++ [(.slice a1p p.ents.length c1p : Value), (.slice a2p p.ticks.length c2p : Value) ]) rfl rfl hs fun b1 w2 hs => ?_)
  refine RW_op (L_box (V := .agg ((vc q.known) ++ [(.slice a1q q.ents.length c1q : Value), (.slice a2q q.ticks.length c2q : Value) ]).toArray) (cs := (vc q.known) ++ [(.slice a1q q.ents.length c1q : Value), (.slice a2q q.ticks.length c2q : Value) ]) rfl rfl hs fun b3 w4 hs => ?_)
  refine RW_op (L_assign (V := .bool false) rfl ?_)
  refine RW_nil ?_
  refine W_seq ?_
  refine W_seq ?_
  refine W_regO [some 7, some 8, some 9, some 10, some 11, some 12, some 13, some 14, some 15, some 16, some 17, some 18, some 19, some 20, some 21, some 22, some 23, some 24, some 25, some 26, some 27, some 28, some 29] [] [0, 1, 0, 4, 15, 31, 63, 127, 255, 63, 575, 1599, 4095, 8191, 16383, 32767, 65535, 131071, 32767, 294911, 819199, 2097151, 4194303] [pv (.pointer (some ⟨b1, 0 + 0, none⟩)), pv (.agg (vc p.known).toArray), pv (.pointer (some ⟨b3, 0 + 0, none⟩)), pv (.agg (vc q.known).toArray), pv (.bool (!decide (p.known = q.known))), pv (.bool (!decide (p.known = q.known))), pg ((!decide (p.known = q.known)) == false) (.pointer (some ⟨b1, 0 + 16, none⟩)), pg ((!decide (p.known = q.known)) == false) (.slice a1p p.ents.length c1p), pg ((!decide (p.known = q.known)) == false) (.int .i64 ((p.ents.length : Nat) : Int)), pg ((!decide (p.known = q.known)) == false) (.pointer (some ⟨b3, 0 + 16, none⟩)), pg ((!decide (p.known = q.known)) == false) (.slice a1q q.ents.length c1q), pg ((!decide (p.known = q.known)) == false) (.int .i64 ((q.ents.length : Nat) : Int)), pg ((!decide (p.known = q.known)) == false) (.bool (!decide (((p.ents.length : Nat) : Int) = ((q.ents.length : Nat) : Int)))), pv (.bool ((!decide (p.known = q.known)) || (!decide (((p.ents.length : Nat) : Int) = ((q.ents.length : Nat) : Int))))), pv (.bool ((!decide (p.known = q.known)) || (!decide (((p.ents.length : Nat) : Int) = ((q.ents.length : Nat) : Int))))), pg (((!decide (p.known = q.known)) || (!decide (((p.ents.length : Nat) : Int) = ((q.ents.length : Nat) : Int)))) == false) (.pointer (some ⟨b1, 0 + 17, none⟩)), pg (((!decide (p.known = q.known)) || (!decide (((p.ents.length : Nat) : Int) = ((q.ents.length : Nat) : Int)))) == false) (.slice a2p p.ticks.length c2p), pg (((!decide (p.known = q.known)) || (!decide (((p.ents.length : Nat) : Int) = ((q.ents.length : Nat) : Int)))) == false) (.int .i64 ((p.ticks.length : Nat) : Int)), pg (((!decide (p.known = q.known)) || (!decide (((p.ents.length : Nat) : Int) = ((q.ents.length : Nat) : Int)))) == false) (.pointer (some ⟨b3, 0 + 17, none⟩)), pg (((!decide (p.known = q.known)) || (!decide (((p.ents.length : Nat) : Int) = ((q.ents.length : Nat) : Int)))) == false) (.slice a2q q.ticks.length c2q), pg (((!decide (p.known = q.known)) || (!decide (((p.ents.length : Nat) : Int) = ((q.ents.length : Nat) : Int)))) == false) (.int .i64 ((q.ticks.length : Nat) : Int)), pg (((!decide (p.known = q.known)) || (!decide (((p.ents.length : Nat) : Int) = ((q.ents.length : Nat) : Int)))) == false) (.bool (!decide (((p.ticks.length : Nat) : Int) = ((q.ticks.length : Nat) : Int)))), pv (.bool (((!decide (p.known = q.known)) || (!decide (((p.ents.length : Nat) : Int) = ((q.ents.length : Nat) : Int)))) || (!decide (((p.ticks.length : Nat) : Int) = ((q.ticks.length : Nat) : Int)))))] (fun _ _ => _) [22] (by kernel_rfl) hs ⟨?_, ?_, ?_, ?_, ?_, ?_, ?_, ?_, ?_, ?_, ?_, ?_, ?_, ?_, ?_, ?_, ?_, ?_, ?_, ?_, ?_, ?_, ?_, trivial⟩ ?_
  · exact ob [] [] rfl rfl fun D ρ w hs => L_fieldAddr FA_57_0 rfl ⟨rfl, hs⟩
  · exact ob [0] [] rfl rfl fun D ρ w hs => L_ldA (vs := vc p.known) SA_53 hs 0 rfl rfl rfl rfl ⟨rfl, hs⟩
  · exact ob [] [] rfl rfl fun D ρ w hs => L_fieldAddr FA_57_0 rfl ⟨rfl, hs⟩
  · exact ob [2] [] rfl rfl fun D ρ w hs => L_ldA (vs := vc q.known) SA_53 hs 1 rfl rfl rfl rfl ⟨rfl, hs⟩
  · exact ob [1, 3] [] rfl rfl fun D ρ w hs => L_neA (xs := vc p.known) (ys := vc q.known) Try.eqGuardType53 (EQ_53 p.known q.known) rfl rfl rfl ⟨rfl, hs⟩
  · exact ob [4] [] rfl rfl fun D ρ w hs => L_move (V := .bool (!decide (p.known = q.known))) rfl ⟨rfl, hs⟩
  · exact obg [5] [] (!decide (p.known = q.known)) rfl (fun _ => rfl) rfl (fun _ _ _ _ h => h) fun D ρ w hG hs => L_fieldAddr FA_57_1 rfl ⟨rfl, hs⟩
  · exact obgy [5, 6] [] [6] (!decide (p.known = q.known)) rfl (fun _ => rfl) rfl (fun _ _ _ _ h => h) (fun hG => ⟨hG, trivial⟩) fun D ρ w hG hs => L_ld (V := .slice a1p p.ents.length c1p) S1_54 hs 0 rfl rfl rfl ⟨rfl, hs⟩
  · exact obgy [5, 7] [] [7] (!decide (p.known = q.known)) rfl (fun _ => rfl) rfl (fun _ _ _ _ h => h) (fun hG => ⟨hG, trivial⟩) fun D ρ w hG hs => L_lenR (n := p.ents.length) UD_54 (Rd.own' hr1p hs) (by simp) rfl ⟨rfl, hs⟩
  · exact obg [5] [] (!decide (p.known = q.known)) rfl (fun _ => rfl) rfl (fun _ _ _ _ h => h) fun D ρ w hG hs => L_fieldAddr FA_57_1 rfl ⟨rfl, hs⟩
  · exact obgy [5, 9] [] [9] (!decide (p.known = q.known)) rfl (fun _ => rfl) rfl (fun _ _ _ _ h => h) (fun hG => ⟨hG, trivial⟩) fun D ρ w hG hs => L_ld (V := .slice a1q q.ents.length c1q) S1_54 hs 1 rfl rfl rfl ⟨rfl, hs⟩
  · exact obgy [5, 10] [] [10] (!decide (p.known = q.known)) rfl (fun _ => rfl) rfl (fun _ _ _ _ h => h) (fun hG => ⟨hG, trivial⟩) fun D ρ w hG hs => L_lenR (n := q.ents.length) UD_54 (Rd.own' hr1q hs) (by simp) rfl ⟨rfl, hs⟩
  · exact obgy [5, 8, 11] [] [8, 11] (!decide (p.known = q.known)) rfl (fun _ => rfl) rfl (fun _ _ _ _ h => h) (fun hG => ⟨hG, hG, trivial⟩) fun D ρ w hG hs => L_neq rfl rfl ⟨rfl, hs⟩
  · exact ob [5, 12] [] rfl rfl fun D ρ w hs => L_orC (h' := !decide (((p.ents.length : Nat) : Int) = ((q.ents.length : Nat) : Int))) rfl rfl rfl ⟨rfl, hs⟩
  · exact ob [13] [] rfl rfl fun D ρ w hs => L_move (V := .bool ((!decide (p.known = q.known)) || (!decide (((p.ents.length : Nat) : Int) = ((q.ents.length : Nat) : Int))))) rfl ⟨rfl, hs⟩
  · exact obg [14] [] ((!decide (p.known = q.known)) || (!decide (((p.ents.length : Nat) : Int) = ((q.ents.length : Nat) : Int)))) rfl (fun _ => rfl) rfl (fun _ _ _ _ h => h) fun D ρ w hG hs => L_fieldAddr FA_57_2 rfl ⟨rfl, hs⟩
  · exact obgy [14, 15] [] [15] ((!decide (p.known = q.known)) || (!decide (((p.ents.length : Nat) : Int) = ((q.ents.length : Nat) : Int)))) rfl (fun _ => rfl) rfl (fun _ _ _ _ h => h) (fun hG => ⟨hG, trivial⟩) fun D ρ w hG hs => L_ld (V := .slice a2p p.ticks.length c2p) S1_55 hs 0 rfl rfl rfl ⟨rfl, hs⟩
  · exact obgy [14, 16] [] [16] ((!decide (p.known = q.known)) || (!decide (((p.ents.length : Nat) : Int) = ((q.ents.length : Nat) : Int)))) rfl (fun _ => rfl) rfl (fun _ _ _ _ h => h) (fun hG => ⟨hG, trivial⟩) fun D ρ w hG hs => L_lenR (n := p.ticks.length) UD_55 (Rd.own' hr2p hs) (by simp) rfl ⟨rfl, hs⟩
  · exact obg [14] [] ((!decide (p.known = q.known)) || (!decide (((p.ents.length : Nat) : Int) = ((q.ents.length : Nat) : Int)))) rfl (fun _ => rfl) rfl (fun _ _ _ _ h => h) fun D ρ w hG hs => L_fieldAddr FA_57_2 rfl ⟨rfl, hs⟩
  · exact obgy [14, 18] [] [18] ((!decide (p.known = q.known)) || (!decide (((p.ents.length : Nat) : Int) = ((q.ents.length : Nat) : Int)))) rfl (fun _ => rfl) rfl (fun _ _ _ _ h => h) (fun hG => ⟨hG, trivial⟩) fun D ρ w hG hs => L_ld (V := .slice a2q q.ticks.length c2q) S1_55 hs 1 rfl rfl rfl ⟨rfl, hs⟩
  · exact obgy [14, 19] [] [19] ((!decide (p.known = q.known)) || (!decide (((p.ents.length : Nat) : Int) = ((q.ents.length : Nat) : Int)))) rfl (fun _ => rfl) rfl (fun _ _ _ _ h => h) (fun hG => ⟨hG, trivial⟩) fun D ρ w hG hs => L_lenR (n := q.ticks.length) UD_55 (Rd.own' hr2q hs) (by simp) rfl ⟨rfl, hs⟩
  · exact obgy [14, 17, 20] [] [17, 20] ((!decide (p.known = q.known)) || (!decide (((p.ents.length : Nat) : Int) = ((q.ents.length : Nat) : Int)))) rfl (fun _ => rfl) rfl (fun _ _ _ _ h => h) (fun hG => ⟨hG, hG, trivial⟩) fun D ρ w hG hs => L_neq rfl rfl ⟨rfl, hs⟩
  · exact ob [14, 21] [] rfl rfl fun D ρ w hs => L_orC (h' := !decide (((p.ticks.length : Nat) : Int) = ((q.ticks.length : Nat) : Int))) rfl rfl rfl ⟨rfl, hs⟩
  rintro ρ1 w5 ρ2 hρ hs
  replace hρ : ρ2 = upd (mix [7, 8, 9, 10, 11, 12, 13, 14, 15, 16, 17, 18, 19, 20, 21, 22, 23, 24, 25, 26, 27, 28, 29] ρ1 _) 29 (.bool (((!decide (p.known = q.known)) || (!decide (((p.ents.length : Nat) : Int) = ((q.ents.length : Nat) : Int)))) || (!decide (((p.ticks.length : Nat) : Int) = ((q.ticks.length : Nat) : Int))))) := hρ
  subst hρ
  refine W_cond (t := ((!decide (p.known = q.known)) || (!decide (((p.ents.length : Nat) : Int) = ((q.ents.length : Nat) : Int)))) || (!decide (((p.ticks.length : Nat) : Int) = ((q.ticks.length : Nat) : Int)))) rfl (fun c6 => ?_) (fun c6 => ?_)
  ·
    refine W_seq ?_
    refine W_region ?_
    refine RW_op (L_assign (V := .bool false) rfl ?_)
    refine RW_nil ?_
    refine W_ret ?_
    refine ⟨_, res_one (V := .bool false) Try.results31 rfl, ?_⟩
    refine ⟨congrArg Ending.returned ?_, hs.take 0⟩
    refine congrArg Value.bool (Eq.symm ?_)
    rw [Bool.eq_false_iff]
    intro g
    simp only [Bool.and_eq_true, decide_eq_true_eq] at g
    obtain ⟨g1, g2, g3⟩ := g
    have hc := c6
    rw [g1, g2, g3] at hc
    simp at hc
  ·
    have c6r := or_r c6
    replace c6 := or_l c6
    have c6rr := or_r c6
    replace c6 := or_l c6
    replace c6 := not_f c6
    replace c6 := of_decide_eq_true c6
    replace c6rr := not_f c6rr
    replace c6rr := of_decide_eq_true c6rr
    replace c6r := not_f c6r
    replace c6r := of_decide_eq_true c6r
    refine W_skip ?_
    refine W_seq ?_
    refine W_seq ?_
    refine W_region ?_
    refine RW_op (L_assign (V := .int .i64 0) rfl ?_)
    refine RW_nil ?_
    refine W_block ?_
    refine W_loopI (fun ρ μ ρ' w' => ∃ (ρo : Env) (ke1 : Nat), ρ' = upd (mix [4, 5, 30, 31, 32, 33, 34, 35, 36, 37, 38, 39, 40, 41, 42, 43, 44, 45, 46, 47] ρo ρ) 5 (.int .i64 ((ke1 : Nat) : Int)) ∧ (ke1 ≤ p.ents.length) ∧ (∀ j : Nat, j < ke1 → gd p.ents j = gd q.ents j) ∧ μ = p.ents.length - ke1 ∧ Own w no w' [blk b1 ((vc p.known) ++ [(.slice a1p p.ents.length c1p : Value), (.slice a2p p.ticks.length c2p : Value) ]) 57, blk b3 ((vc q.known) ++ [(.slice a1q q.ents.length c1q : Value), (.slice a2q q.ticks.length c2q : Value) ]) 57]) ?_ ?_
    · exact ⟨_, _, 0, upd_of (mix_of (ds := [4, 5, 30, 31, 32, 33, 34, 35, 36, 37, 38, 39, 40, 41, 42, 43, 44, 45, 46, 47]) (Agr.refl _ _)) rfl, (by omega), (fun j hj => absurd hj (Nat.not_lt_zero j)), rfl, hs⟩
    · rintro μ ρ' w7 ⟨ρo, ke1, rfl, hke1, e1, rfl, hs⟩
      refine W_seq ?_
      refine W_seq ?_
      refine W_region ?_
      refine RW_op (L_move (V := .int .i64 ((ke1 : Nat) : Int)) rfl ?_)
      refine RW_op (L_fieldAddr FA_57_1 rfl ?_)
      refine RW_op (L_ld (V := .slice a1p p.ents.length c1p) S1_54 hs 0 rfl rfl rfl ?_)
      refine RW_op (L_lenR (n := p.ents.length) UD_54 (Rd.own' hr1p hs) (by simp) rfl ?_)
      refine RW_op (L_lss rfl rfl ?_)
      refine RW_nil ?_
      refine W_cond (t := decide (((ke1 : Nat) : Int) < ((p.ents.length : Nat) : Int))) rfl (fun c8 => ?_) (fun c8 => ?_)
      ·
        replace c8 := of_decide_eq_true c8
        refine W_skip ?_
        refine W_seq ?_
        refine W_block ?_
        refine W_seq ?_
        refine W_regD HM [some 37, some 38, some 39, some 40, some 41, some 42, some 43, some 44, some 45, some 46, some 47] [] [0, 1, 0, 7, 15, 0, 32, 0, 224, 480, 1023] [pv (.pointer (some ⟨b1, 0 + 16, none⟩)), pv (.slice a1p p.ents.length c1p), pv (.int .i64 ((ke1 : Nat) : Int)), pv (.pointer (some ⟨bkS (.slice a1p p.ents.length c1p), ofS (.slice a1p p.ents.length c1p) + ((ke1 : Nat) : Int).toNat * 7, none⟩)), pv (.agg (cec (gd p.ents ke1)).toArray), pv (.pointer (some ⟨b3, 0 + 16, none⟩)), pv (.slice a1q q.ents.length c1q), pv (.int .i64 ((ke1 : Nat) : Int)), pv (.pointer (some ⟨bkS (.slice a1q q.ents.length c1q), ofS (.slice a1q q.ents.length c1q) + ((ke1 : Nat) : Int).toNat * 7, none⟩)), pv (.agg (cec (gd q.ents ke1)).toArray), pv (.bool (!decide (gd p.ents ke1 = gd q.ents ke1)))] (fun _ _ => _) [10] (by kernel_rfl) hs ⟨?_, ?_, ?_, ?_, ?_, ?_, ?_, ?_, ?_, ?_, ?_, trivial⟩ ?_
        · exact ob [] [] rfl rfl fun D ρ w hs => L_fieldAddr FA_57_1 rfl ⟨rfl, hs⟩
        · exact ob [0] [] rfl rfl fun D ρ w hs => L_ld (V := .slice a1p p.ents.length c1p) S1_54 hs 0 rfl rfl rfl ⟨rfl, hs⟩
        · exact ob [] [] rfl rfl fun D ρ w hs => L_move (V := .int .i64 ((ke1 : Nat) : Int)) rfl ⟨rfl, hs⟩
        · exact ob [1, 2] [] rfl rfl fun D ρ w hs => L_ixR UD_54 SA_134.1 (Rd.own' hr1p hs) rfl rfl (by omega) (by rw [List.length_map]; omega) ⟨rfl, hs⟩
        · exact ob [3] [] rfl rfl fun D ρ w hs => L_ldRA (j := 0) (vs := cec (gd p.ents ke1)) ke1 SA_134 (Rd.own' hr1p hs) (gd_at (by omega)) rfl rfl rfl (by omega) ⟨rfl, hs⟩
        · exact ob [] [] rfl rfl fun D ρ w hs => L_fieldAddr FA_57_1 rfl ⟨rfl, hs⟩
        · exact ob [5] [] rfl rfl fun D ρ w hs => L_ld (V := .slice a1q q.ents.length c1q) S1_54 hs 1 rfl rfl rfl ⟨rfl, hs⟩
        · exact ob [] [] rfl rfl fun D ρ w hs => L_move (V := .int .i64 ((ke1 : Nat) : Int)) rfl ⟨rfl, hs⟩
        · exact ob [6, 7] [] rfl rfl fun D ρ w hs => L_ixR UD_54 SA_134.1 (Rd.own' hr1q hs) rfl rfl (by omega) (by rw [List.length_map]; omega) ⟨rfl, hs⟩
        · exact ob [8] [] rfl rfl fun D ρ w hs => L_ldRA (j := 0) (vs := cec (gd q.ents ke1)) ke1 SA_134 (Rd.own' hr1q hs) (gd_at (by omega)) rfl rfl rfl (by omega) ⟨rfl, hs⟩
        · exact ob [4, 9] [] rfl rfl fun D ρ w hs => L_neA (xs := cec (gd p.ents ke1)) (ys := cec (gd q.ents ke1)) Try.eqGuardType134 (EQ_134 (gd p.ents ke1) (gd q.ents ke1)) rfl rfl rfl ⟨rfl, hs⟩
        rintro ρ1 w9 ρ2 hρ hs
        replace hρ : ρ2 = upd (mix [37, 38, 39, 40, 41, 42, 43, 44, 45, 46, 47] ρ1 _) 47 (.bool (!decide (gd p.ents ke1 = gd q.ents ke1))) := hρ
        subst hρ
        refine W_cond (t := !decide (gd p.ents ke1 = gd q.ents ke1)) rfl (fun c10 => ?_) (fun c10 => ?_)
        ·
          replace c10 := not_t c10
          replace c10 := of_decide_eq_false c10
          refine W_seq ?_
          refine W_region ?_
          refine RW_op (L_assign (V := .bool false) rfl ?_)
          refine RW_nil ?_
          refine W_ret ?_
          refine ⟨_, res_one (V := .bool false) Try.results31 rfl, ?_⟩
          refine ⟨congrArg Ending.returned ?_, hs.take 0⟩
          refine congrArg Value.bool (Eq.symm ?_)
          rw [Bool.eq_false_iff]
          intro g
          simp only [Bool.and_eq_true, decide_eq_true_eq] at g
          obtain ⟨g1, g2, g3⟩ := g
          exact c10 (by rw [g2])
        ·
          replace c10 := not_f c10
          replace c10 := of_decide_eq_true c10
          refine W_skip ?_
          refine W_region ?_
          refine RW_op (L_move (V := .int .i64 ((ke1 : Nat) : Int)) rfl ?_)
          refine RW_op (L_add (a := ((ke1 : Nat) : Int)) (b := 1) (c := ((ke1 + 1 : Nat) : Int)) rfl rfl (nat_i64 (by omega) (by omega)) ?_)
          refine RW_op (L_assign (V := .int .i64 ((ke1 + 1 : Nat) : Int)) rfl ?_)
          refine RW_nil ?_
          refine ⟨_, ?_, _, ke1 + 1, upd_of (mix_of (ds := [4, 5, 30, 31, 32, 33, 34, 35, 36, 37, 38, 39, 40, 41, 42, 43, 44, 45, 46, 47]) (by repeat (first | exact Agr.refl _ _ | refine Agr.upd ?_ rfl | refine Agr.mix ?_ rfl))) rfl, (by omega), (eqG_step e1 c10), rfl, hs.take 2⟩
          omega
      ·
        replace c8 := of_decide_eq_false c8
        refine W_exit ?_
        refine W_seq ?_
        refine W_seq ?_
        refine W_region ?_
        refine RW_op (L_assign (V := .int .i64 0) rfl ?_)
        refine RW_nil ?_
        refine W_block ?_
        refine W_loopI (fun ρ μ ρ' w' => ∃ (ρo : Env) (ke2 : Nat), ρ' = upd (mix [4, 6, 48, 49, 50, 51, 52, 53, 54, 55, 56, 57, 58, 59, 60, 61, 62, 63, 64, 65] ρo ρ) 6 (.int .i64 ((ke2 : Nat) : Int)) ∧ (ke2 ≤ p.ticks.length) ∧ (∀ j : Nat, j < ke2 → gd p.ticks j = gd q.ticks j) ∧ μ = p.ticks.length - ke2 ∧ Own w no w' [blk b1 ((vc p.known) ++ [(.slice a1p p.ents.length c1p : Value), (.slice a2p p.ticks.length c2p : Value) ]) 57, blk b3 ((vc q.known) ++ [(.slice a1q q.ents.length c1q : Value), (.slice a2q q.ticks.length c2q : Value) ]) 57]) ?_ ?_
        · exact ⟨_, _, 0, upd_of (mix_of (ds := [4, 6, 48, 49, 50, 51, 52, 53, 54, 55, 56, 57, 58, 59, 60, 61, 62, 63, 64, 65]) (Agr.refl _ _)) rfl, (by omega), (fun j hj => absurd hj (Nat.not_lt_zero j)), rfl, hs⟩
        · rintro μ ρ' w11 ⟨ρo, ke2, rfl, hke2, e2, rfl, hs⟩
          refine W_seq ?_
          refine W_seq ?_
          refine W_region ?_
          refine RW_op (L_move (V := .int .i64 ((ke2 : Nat) : Int)) rfl ?_)
          refine RW_op (L_fieldAddr FA_57_2 rfl ?_)
          refine RW_op (L_ld (V := .slice a2p p.ticks.length c2p) S1_55 hs 0 rfl rfl rfl ?_)
          refine RW_op (L_lenR (n := p.ticks.length) UD_55 (Rd.own' hr2p hs) (by simp) rfl ?_)
          refine RW_op (L_lss rfl rfl ?_)
          refine RW_nil ?_
          refine W_cond (t := decide (((ke2 : Nat) : Int) < ((p.ticks.length : Nat) : Int))) rfl (fun c12 => ?_) (fun c12 => ?_)
          ·
            replace c12 := of_decide_eq_true c12
            refine W_skip ?_
            refine W_seq ?_
            refine W_block ?_
            refine W_seq ?_
            refine W_regD HM [some 55, some 56, some 57, some 58, some 59, some 60, some 61, some 62, some 63, some 64, some 65] [] [0, 1, 0, 7, 15, 0, 32, 0, 224, 480, 1023] [pv (.pointer (some ⟨b1, 0 + 17, none⟩)), pv (.slice a2p p.ticks.length c2p), pv (.int .i64 ((ke2 : Nat) : Int)), pv (.pointer (some ⟨bkS (.slice a2p p.ticks.length c2p), ofS (.slice a2p p.ticks.length c2p) + ((ke2 : Nat) : Int).toNat * 2, none⟩)), pv (.agg (lsc (gd p.ticks ke2)).toArray), pv (.pointer (some ⟨b3, 0 + 17, none⟩)), pv (.slice a2q q.ticks.length c2q), pv (.int .i64 ((ke2 : Nat) : Int)), pv (.pointer (some ⟨bkS (.slice a2q q.ticks.length c2q), ofS (.slice a2q q.ticks.length c2q) + ((ke2 : Nat) : Int).toNat * 2, none⟩)), pv (.agg (lsc (gd q.ticks ke2)).toArray), pv (.bool (!decide (gd p.ticks ke2 = gd q.ticks ke2)))] (fun _ _ => _) [10] (by kernel_rfl) hs ⟨?_, ?_, ?_, ?_, ?_, ?_, ?_, ?_, ?_, ?_, ?_, trivial⟩ ?_
            · exact ob [] [] rfl rfl fun D ρ w hs => L_fieldAddr FA_57_2 rfl ⟨rfl, hs⟩
            · exact ob [0] [] rfl rfl fun D ρ w hs => L_ld (V := .slice a2p p.ticks.length c2p) S1_55 hs 0 rfl rfl rfl ⟨rfl, hs⟩
            · exact ob [] [] rfl rfl fun D ρ w hs => L_move (V := .int .i64 ((ke2 : Nat) : Int)) rfl ⟨rfl, hs⟩
            · exact ob [1, 2] [] rfl rfl fun D ρ w hs => L_ixR UD_55 SA_135.1 (Rd.own' hr2p hs) rfl rfl (by omega) (by rw [List.length_map]; omega) ⟨rfl, hs⟩
            · exact ob [3] [] rfl rfl fun D ρ w hs => L_ldRA (j := 0) (vs := lsc (gd p.ticks ke2)) ke2 SA_135 (Rd.own' hr2p hs) (gd_at (by omega)) rfl rfl rfl (by omega) ⟨rfl, hs⟩
            · exact ob [] [] rfl rfl fun D ρ w hs => L_fieldAddr FA_57_2 rfl ⟨rfl, hs⟩
            · exact ob [5] [] rfl rfl fun D ρ w hs => L_ld (V := .slice a2q q.ticks.length c2q) S1_55 hs 1 rfl rfl rfl ⟨rfl, hs⟩
            · exact ob [] [] rfl rfl fun D ρ w hs => L_move (V := .int .i64 ((ke2 : Nat) : Int)) rfl ⟨rfl, hs⟩
            · exact ob [6, 7] [] rfl rfl fun D ρ w hs => L_ixR UD_55 SA_135.1 (Rd.own' hr2q hs) rfl rfl (by omega) (by rw [List.length_map]; omega) ⟨rfl, hs⟩
            · exact ob [8] [] rfl rfl fun D ρ w hs => L_ldRA (j := 0) (vs := lsc (gd q.ticks ke2)) ke2 SA_135 (Rd.own' hr2q hs) (gd_at (by omega)) rfl rfl rfl (by omega) ⟨rfl, hs⟩
            · exact ob [4, 9] [] rfl rfl fun D ρ w hs => L_neA (xs := lsc (gd p.ticks ke2)) (ys := lsc (gd q.ticks ke2)) Try.eqGuardType135 (EQ_135 (gd p.ticks ke2) (gd q.ticks ke2)) rfl rfl rfl ⟨rfl, hs⟩
            rintro ρ1 w13 ρ2 hρ hs
            replace hρ : ρ2 = upd (mix [55, 56, 57, 58, 59, 60, 61, 62, 63, 64, 65] ρ1 _) 65 (.bool (!decide (gd p.ticks ke2 = gd q.ticks ke2))) := hρ
            subst hρ
            refine W_cond (t := !decide (gd p.ticks ke2 = gd q.ticks ke2)) rfl (fun c14 => ?_) (fun c14 => ?_)
            ·
              replace c14 := not_t c14
              replace c14 := of_decide_eq_false c14
              refine W_seq ?_
              refine W_region ?_
              refine RW_op (L_assign (V := .bool false) rfl ?_)
              refine RW_nil ?_
              refine W_ret ?_
              refine ⟨_, res_one (V := .bool false) Try.results31 rfl, ?_⟩
              refine ⟨congrArg Ending.returned ?_, hs.take 0⟩
              refine congrArg Value.bool (Eq.symm ?_)
              rw [Bool.eq_false_iff]
              intro g
              simp only [Bool.and_eq_true, decide_eq_true_eq] at g
              obtain ⟨g1, g2, g3⟩ := g
              exact c14 (by rw [g3])
            ·
              replace c14 := not_f c14
              replace c14 := of_decide_eq_true c14
              refine W_skip ?_
              refine W_region ?_
              refine RW_op (L_move (V := .int .i64 ((ke2 : Nat) : Int)) rfl ?_)
              refine RW_op (L_add (a := ((ke2 : Nat) : Int)) (b := 1) (c := ((ke2 + 1 : Nat) : Int)) rfl rfl (nat_i64 (by omega) (by omega)) ?_)
              refine RW_op (L_assign (V := .int .i64 ((ke2 + 1 : Nat) : Int)) rfl ?_)
              refine RW_nil ?_
              refine ⟨_, ?_, _, ke2 + 1, upd_of (mix_of (ds := [4, 6, 48, 49, 50, 51, 52, 53, 54, 55, 56, 57, 58, 59, 60, 61, 62, 63, 64, 65]) (by repeat (first | exact Agr.refl _ _ | refine Agr.upd ?_ rfl | refine Agr.mix ?_ rfl))) rfl, (by omega), (eqG_step e2 c14), rfl, hs.take 2⟩
              omega
          ·
            replace c12 := of_decide_eq_false c12
            refine W_exit ?_
            refine W_seq ?_
            refine W_region ?_
            refine RW_op (L_assign (V := .bool true) rfl ?_)
            refine RW_nil ?_
            refine W_ret ?_
            refine ⟨_, res_one (V := .bool true) Try.results31 rfl, ?_⟩
            refine ⟨congrArg Ending.returned ?_, hs.take 0⟩
            refine congrArg Value.bool ?_
            rw [decide_eq_true c6, decide_eq_true (sameG_yes (l := p.ents) (m := q.ents) (by omega) fun j hj => e1 j (by omega)), decide_eq_true (sameG_yes (l := p.ticks) (m := q.ticks) (by omega) fun j hj => e2 j (by omega))]; rfl
end Tt
end Go.Proofs
