/- A part of a proof: what functions of the program compute, and plain facts on that. -/
import Derived.Test.YthbbcjimiemdgaaGreatCartAppliesP3
set_option linter.unusedVariables false
set_option linter.unusedSimpArgs false
namespace Go.Proofs
open Go Go.Vx Go.RowKit
namespace Tt
set_option maxRecDepth 20000 in
set_option maxHeartbeats 4000000 in
theorem olays_ok (w : World) (o : Opn) : Calls Tryz.prog 73 #[.agg (oc o).toArray] w (fun e w' => e = .returned (.bool (laysB o)) ∧ Own w no w' []) := by
  refine calls_of_Wn (n := 16) Tryz.func73 rfl Tryz.ntmps73 rfl ?_
  have hs := Own.start w
  refine W_seq ?_
  refine W_region ?_
  refine RW_op (L_box (V := .agg (oc o).toArray) (cs := oc o) rfl rfl hs fun b1 w2 hs => ?_)
  refine RW_op (L_assign (V := .bool false) rfl ?_)
  refine RW_nil ?_
  refine W_seq ?_
  refine W_regO [some 3, some 4, some 5, some 6, some 7, some 8, some 9, some 10, some 11, some 12, some 13, some 14, some 15, some 2] [] [0, 1, 3, 7, 15, 31, 63, 127, 255, 511, 1023, 2047, 4095, 8191] [pv (.pointer (some ⟨b1, 0 + 2, none⟩)), pv (.int .u8 o.kind), pv (.bool (decide (o.kind = 1))), pv (.bool (decide (o.kind = 1))), pg ((decide (o.kind = 1)) == false) (.pointer (some ⟨b1, 0 + 2, none⟩)), pg ((decide (o.kind = 1)) == false) (.int .u8 o.kind), pg ((decide (o.kind = 1)) == false) (.bool (decide (o.kind = 2))), pv (.bool ((decide (o.kind = 1)) || (decide (o.kind = 2)))), pv (.bool ((decide (o.kind = 1)) || (decide (o.kind = 2)))), pg (((decide (o.kind = 1)) || (decide (o.kind = 2))) == false) (.pointer (some ⟨b1, 0 + 2, none⟩)), pg (((decide (o.kind = 1)) || (decide (o.kind = 2))) == false) (.int .u8 o.kind), pg (((decide (o.kind = 1)) || (decide (o.kind = 2))) == false) (.bool (decide (o.kind = 4))), pv (.bool (((decide (o.kind = 1)) || (decide (o.kind = 2))) || (decide (o.kind = 4)))), pv (.bool (((decide (o.kind = 1)) || (decide (o.kind = 2))) || (decide (o.kind = 4))))] (fun _ _ => _) [13] (by kernel_rfl) hs ⟨?_, ?_, ?_, ?_, ?_, ?_, ?_, ?_, ?_, ?_, ?_, ?_, ?_, ?_, trivial⟩ ?_
  · exact ob [] [] rfl rfl fun D ρ w hs => L_fieldAddr FA_33_1 rfl ⟨rfl, hs⟩
  · exact ob [0] [] rfl rfl fun D ρ w hs => L_ld (V := .int .u8 o.kind) S1_5 hs 0 rfl rfl rfl ⟨rfl, hs⟩
  · exact ob [1] [] rfl rfl fun D ρ w hs => L_eql rfl rfl ⟨rfl, hs⟩
  · exact ob [2] [] rfl rfl fun D ρ w hs => L_move (V := .bool (decide (o.kind = 1))) rfl ⟨rfl, hs⟩
  · exact obg [3] [] (decide (o.kind = 1)) rfl (fun _ => rfl) rfl (fun _ _ _ _ h => h) fun D ρ w hG hs => L_fieldAddr FA_33_1 rfl ⟨rfl, hs⟩
  · exact obgy [3, 4] [] [4] (decide (o.kind = 1)) rfl (fun _ => rfl) rfl (fun _ _ _ _ h => h) (fun hG => ⟨hG, trivial⟩) fun D ρ w hG hs => L_ld (V := .int .u8 o.kind) S1_5 hs 0 rfl rfl rfl ⟨rfl, hs⟩
  · exact obgy [3, 5] [] [5] (decide (o.kind = 1)) rfl (fun _ => rfl) rfl (fun _ _ _ _ h => h) (fun hG => ⟨hG, trivial⟩) fun D ρ w hG hs => L_eql rfl rfl ⟨rfl, hs⟩
  · exact ob [3, 6] [] rfl rfl fun D ρ w hs => L_orC (h' := decide (o.kind = 2)) rfl rfl rfl ⟨rfl, hs⟩
  · exact ob [7] [] rfl rfl fun D ρ w hs => L_move (V := .bool ((decide (o.kind = 1)) || (decide (o.kind = 2)))) rfl ⟨rfl, hs⟩
  · exact obg [8] [] ((decide (o.kind = 1)) || (decide (o.kind = 2))) rfl (fun _ => rfl) rfl (fun _ _ _ _ h => h) fun D ρ w hG hs => L_fieldAddr FA_33_1 rfl ⟨rfl, hs⟩
  · exact obgy [8, 9] [] [9] ((decide (o.kind = 1)) || (decide (o.kind = 2))) rfl (fun _ => rfl) rfl (fun _ _ _ _ h => h) (fun hG => ⟨hG, trivial⟩) fun D ρ w hG hs => L_ld (V := .int .u8 o.kind) S1_5 hs 0 rfl rfl rfl ⟨rfl, hs⟩
  · exact obgy [8, 10] [] [10] ((decide (o.kind = 1)) || (decide (o.kind = 2))) rfl (fun _ => rfl) rfl (fun _ _ _ _ h => h) (fun hG => ⟨hG, trivial⟩) fun D ρ w hG hs => L_eql rfl rfl ⟨rfl, hs⟩
  · exact ob [8, 11] [] rfl rfl fun D ρ w hs => L_orC (h' := decide (o.kind = 4)) rfl rfl rfl ⟨rfl, hs⟩
  · exact ob [12] [] rfl rfl fun D ρ w hs => L_assign (V := .bool (((decide (o.kind = 1)) || (decide (o.kind = 2))) || (decide (o.kind = 4)))) rfl ⟨rfl, hs⟩
  rintro ρ1 w3 ρ2 hρ hs
  replace hρ : ρ2 = upd (mix [3, 4, 5, 6, 7, 8, 9, 10, 11, 12, 13, 14, 15, 2] ρ1 _) 2 (.bool (((decide (o.kind = 1)) || (decide (o.kind = 2))) || (decide (o.kind = 4)))) := hρ
  subst hρ
  refine W_ret ?_
  refine ⟨_, res_one (V := .bool (((decide (o.kind = 1)) || (decide (o.kind = 2))) || (decide (o.kind = 4)))) Tryz.results73 rfl, ?_⟩
  refine ⟨congrArg Ending.returned ?_, hs.take 0⟩
  rfl
set_option maxRecDepth 20000 in
set_option maxHeartbeats 4000000 in
theorem rlays_ok (w : World) (o : Opn) : Calls Tryz.prog 41 #[.agg (oc o).toArray] w (fun e w' => e = .returned (.bool (laysB o)) ∧ Own w no w' []) := by
  refine calls_of_Wn (n := 16) Tryz.func41 rfl Tryz.ntmps41 rfl ?_
  have hs := Own.start w
  refine W_seq ?_
  refine W_region ?_
  refine RW_op (L_box (V := .agg (oc o).toArray) (cs := oc o) rfl rfl hs fun b1 w2 hs => ?_)
  refine RW_op (L_assign (V := .bool false) rfl ?_)
  refine RW_nil ?_
  refine W_seq ?_
  refine W_regO [some 3, some 4, some 5, some 6, some 7, some 8, some 9, some 10, some 11, some 12, some 13, some 14, some 15, some 2] [] [0, 1, 3, 7, 15, 31, 63, 127, 255, 511, 1023, 2047, 4095, 8191] [pv (.pointer (some ⟨b1, 0 + 2, none⟩)), pv (.int .u8 o.kind), pv (.bool (decide (o.kind = 1))), pv (.bool (decide (o.kind = 1))), pg ((decide (o.kind = 1)) == false) (.pointer (some ⟨b1, 0 + 2, none⟩)), pg ((decide (o.kind = 1)) == false) (.int .u8 o.kind), pg ((decide (o.kind = 1)) == false) (.bool (decide (o.kind = 2))), pv (.bool ((decide (o.kind = 1)) || (decide (o.kind = 2)))), pv (.bool ((decide (o.kind = 1)) || (decide (o.kind = 2)))), pg (((decide (o.kind = 1)) || (decide (o.kind = 2))) == false) (.pointer (some ⟨b1, 0 + 2, none⟩)), pg (((decide (o.kind = 1)) || (decide (o.kind = 2))) == false) (.int .u8 o.kind), pg (((decide (o.kind = 1)) || (decide (o.kind = 2))) == false) (.bool (decide (o.kind = 4))), pv (.bool (((decide (o.kind = 1)) || (decide (o.kind = 2))) || (decide (o.kind = 4)))), pv (.bool (((decide (o.kind = 1)) || (decide (o.kind = 2))) || (decide (o.kind = 4))))] (fun _ _ => _) [13] (by kernel_rfl) hs ⟨?_, ?_, ?_, ?_, ?_, ?_, ?_, ?_, ?_, ?_, ?_, ?_, ?_, ?_, trivial⟩ ?_
  · exact ob [] [] rfl rfl fun D ρ w hs => L_fieldAddr FA_33_1 rfl ⟨rfl, hs⟩
  · exact ob [0] [] rfl rfl fun D ρ w hs => L_ld (V := .int .u8 o.kind) S1_5 hs 0 rfl rfl rfl ⟨rfl, hs⟩
  · exact ob [1] [] rfl rfl fun D ρ w hs => L_eql rfl rfl ⟨rfl, hs⟩
  · exact ob [2] [] rfl rfl fun D ρ w hs => L_move (V := .bool (decide (o.kind = 1))) rfl ⟨rfl, hs⟩
  · exact obg [3] [] (decide (o.kind = 1)) rfl (fun _ => rfl) rfl (fun _ _ _ _ h => h) fun D ρ w hG hs => L_fieldAddr FA_33_1 rfl ⟨rfl, hs⟩
  · exact obgy [3, 4] [] [4] (decide (o.kind = 1)) rfl (fun _ => rfl) rfl (fun _ _ _ _ h => h) (fun hG => ⟨hG, trivial⟩) fun D ρ w hG hs => L_ld (V := .int .u8 o.kind) S1_5 hs 0 rfl rfl rfl ⟨rfl, hs⟩
  · exact obgy [3, 5] [] [5] (decide (o.kind = 1)) rfl (fun _ => rfl) rfl (fun _ _ _ _ h => h) (fun hG => ⟨hG, trivial⟩) fun D ρ w hG hs => L_eql rfl rfl ⟨rfl, hs⟩
  · exact ob [3, 6] [] rfl rfl fun D ρ w hs => L_orC (h' := decide (o.kind = 2)) rfl rfl rfl ⟨rfl, hs⟩
  · exact ob [7] [] rfl rfl fun D ρ w hs => L_move (V := .bool ((decide (o.kind = 1)) || (decide (o.kind = 2)))) rfl ⟨rfl, hs⟩
  · exact obg [8] [] ((decide (o.kind = 1)) || (decide (o.kind = 2))) rfl (fun _ => rfl) rfl (fun _ _ _ _ h => h) fun D ρ w hG hs => L_fieldAddr FA_33_1 rfl ⟨rfl, hs⟩
  · exact obgy [8, 9] [] [9] ((decide (o.kind = 1)) || (decide (o.kind = 2))) rfl (fun _ => rfl) rfl (fun _ _ _ _ h => h) (fun hG => ⟨hG, trivial⟩) fun D ρ w hG hs => L_ld (V := .int .u8 o.kind) S1_5 hs 0 rfl rfl rfl ⟨rfl, hs⟩
  · exact obgy [8, 10] [] [10] ((decide (o.kind = 1)) || (decide (o.kind = 2))) rfl (fun _ => rfl) rfl (fun _ _ _ _ h => h) (fun hG => ⟨hG, trivial⟩) fun D ρ w hG hs => L_eql rfl rfl ⟨rfl, hs⟩
  · exact ob [8, 11] [] rfl rfl fun D ρ w hs => L_orC (h' := decide (o.kind = 4)) rfl rfl rfl ⟨rfl, hs⟩
  · exact ob [12] [] rfl rfl fun D ρ w hs => L_assign (V := .bool (((decide (o.kind = 1)) || (decide (o.kind = 2))) || (decide (o.kind = 4)))) rfl ⟨rfl, hs⟩
  rintro ρ1 w3 ρ2 hρ hs
  replace hρ : ρ2 = upd (mix [3, 4, 5, 6, 7, 8, 9, 10, 11, 12, 13, 14, 15, 2] ρ1 _) 2 (.bool (((decide (o.kind = 1)) || (decide (o.kind = 2))) || (decide (o.kind = 4)))) := hρ
  subst hρ
  refine W_ret ?_
  refine ⟨_, res_one (V := .bool (((decide (o.kind = 1)) || (decide (o.kind = 2))) || (decide (o.kind = 4)))) Tryz.results41 rfl, ?_⟩
  refine ⟨congrArg Ending.returned ?_, hs.take 0⟩
  rfl
set_option maxRecDepth 20000 in
set_option maxHeartbeats 4000000 in
theorem oCount_ok (w : World) (o : Opn) (ho : VecOk o.ctx) : Calls Tryz.prog 33 #[.agg (oc o).toArray] w (fun e w' => e = .returned (.int .u64 (cntO o)) ∧ Own w no w' []) := by
  refine calls_of_Wn (n := 7) Tryz.func33 rfl Tryz.ntmps33 rfl ?_
  have hs := Own.start w
  refine W_seq ?_
  refine W_region ?_
  refine RW_op (L_box (V := .agg (oc o).toArray) (cs := oc o) rfl rfl hs fun b1 w2 hs => ?_)
  refine RW_op (L_assign (V := .int .u64 0) rfl ?_)
  refine RW_nil ?_
  refine W_seq ?_
  have hb := vsum_bd ho
  refine W_region ?_
  refine RW_op (L_fieldAddr FA_33_6 rfl ?_)
  refine RW_op (L_ldA (vs := vc o.ctx) SA_24 hs 0 rfl rfl rfl rfl ?_)
  refine RW_op (L_callP (vs := [.agg (vc o.ctx).toArray]) (V := .int .u64 (vsum o.ctx)) EN_74 rfl rfl ?hc hs fun w3 hs => ?_)
  case hc => exact (vSum_ok _ o.ctx (by first | assumption | exact vzero_ok))
  refine RW_op (L_add (a := vsum o.ctx) (b := 1) (c := (vsum o.ctx) + 1) rfl rfl (wr_u64 (by omega) (by omega)) ?_)
  refine RW_op (L_assign (V := .int .u64 ((vsum o.ctx) + 1)) rfl ?_)
  refine RW_nil ?_
  refine W_ret ?_
  refine ⟨_, res_one (V := .int .u64 ((vsum o.ctx) + 1)) Tryz.results33 rfl, ?_⟩
  refine ⟨congrArg Ending.returned ?_, hs.take 0⟩
  rfl
set_option maxRecDepth 20000 in
set_option maxHeartbeats 4000000 in
theorem rCountO_ok (w : World) (o : Opn) (ho : VecOk o.ctx) : Calls Tryz.prog 18 #[.agg (oc o).toArray] w (fun e w' => e = .returned (.int .u64 (cntO o)) ∧ Own w no w' []) := by
  refine calls_of_Wn (n := 7) Tryz.func18 rfl Tryz.ntmps18 rfl ?_
  have hs := Own.start w
  refine W_seq ?_
  refine W_region ?_
  refine RW_op (L_box (V := .agg (oc o).toArray) (cs := oc o) rfl rfl hs fun b1 w2 hs => ?_)
  refine RW_op (L_assign (V := .int .u64 0) rfl ?_)
  refine RW_nil ?_
  refine W_seq ?_
  have hb := vsum_bd ho
  refine W_region ?_
  refine RW_op (L_fieldAddr FA_33_6 rfl ?_)
  refine RW_op (L_ldA (vs := vc o.ctx) SA_24 hs 0 rfl rfl rfl rfl ?_)
  refine RW_op (L_callP (vs := [.agg (vc o.ctx).toArray]) (V := .int .u64 (vsum o.ctx)) EN_16 rfl rfl ?hc hs fun w3 hs => ?_)
  case hc => exact (rSum_ok _ o.ctx (by first | assumption | exact vzero_ok))
  refine RW_op (L_add (a := vsum o.ctx) (b := 1) (c := (vsum o.ctx) + 1) rfl rfl (wr_u64 (by omega) (by omega)) ?_)
  refine RW_op (L_assign (V := .int .u64 ((vsum o.ctx) + 1)) rfl ?_)
  refine RW_nil ?_
  refine W_ret ?_
  refine ⟨_, res_one (V := .int .u64 ((vsum o.ctx) + 1)) Tryz.results18 rfl, ?_⟩
  refine ⟨congrArg Ending.returned ?_, hs.take 0⟩
  rfl
set_option maxRecDepth 20000 in
set_option maxHeartbeats 4000000 in
theorem oEnds_ok (w : World) (o e : Opn) (he : DotOk e.dot) : Calls Tryz.prog 31 #[.agg (oc o).toArray, .agg (oc e).toArray] w (fun r w' => r = .returned (.bool (endsB o e)) ∧ Own w no w' []) := by
  refine calls_of_Wn (n := 40) Tryz.func31 rfl Tryz.ntmps31 rfl ?_
  have hs := Own.start w
  refine W_seq ?_
  refine W_region ?_
  refine RW_op (L_box (V := .agg (oc o).toArray) (cs := oc o) rfl rfl hs fun b1 w2 hs => ?_)
  refine RW_op (L_box (V := .agg (oc e).toArray) (cs := oc e) rfl rfl hs fun b3 w4 hs => ?_)
  refine RW_op (L_assign (V := .bool false) rfl ?_)
  refine RW_nil ?_
  refine W_seq ?_
  refine W_seq ?_
  refine W_regO [some 5, some 6, some 7, some 8, some 9, some 10, some 11, some 12, some 13, some 14, some 15, some 16, some 17, some 18, some 19, some 20, some 21, some 22] [] [0, 1, 3, 7, 15, 31, 15, 79, 255, 511, 1023, 2047, 4095, 2047, 10239, 32767, 65535, 131071] [pv (.agg (oc e).toArray), pv (.bool (laysB e)), pv (.bool (!(laysB e))), pv (.bool (!(laysB e))), pg ((!(laysB e)) == false) (.pointer (some ⟨b1, 0 + 3, none⟩)), pg ((!(laysB e)) == false) (.int .u16 o.cart), pg ((!(laysB e)) == false) (.pointer (some ⟨b3, 0 + 3, none⟩)), pg ((!(laysB e)) == false) (.int .u16 e.cart), pg ((!(laysB e)) == false) (.bool (!decide (o.cart = e.cart))), pv (.bool ((!(laysB e)) || (!decide (o.cart = e.cart)))), pv (.bool ((!(laysB e)) || (!decide (o.cart = e.cart)))), pg (((!(laysB e)) || (!decide (o.cart = e.cart))) == false) (.pointer (some ⟨b1, 0 + 7, none⟩)), pg (((!(laysB e)) || (!decide (o.cart = e.cart))) == false) (.agg (vc o.ctx).toArray), pg (((!(laysB e)) || (!decide (o.cart = e.cart))) == false) (.pointer (some ⟨b3, 0 + 0, none⟩)), pg (((!(laysB e)) || (!decide (o.cart = e.cart))) == false) (.agg (dc e.dot).toArray), pg (((!(laysB e)) || (!decide (o.cart = e.cart))) == false) (.bool (hasB o.ctx e.dot)), pg (((!(laysB e)) || (!decide (o.cart = e.cart))) == false) (.bool (!(hasB o.ctx e.dot))), pv (.bool (((!(laysB e)) || (!decide (o.cart = e.cart))) || (!(hasB o.ctx e.dot))))] (fun _ _ => _) [17] (by kernel_rfl) hs ⟨?_, ?_, ?_, ?_, ?_, ?_, ?_, ?_, ?_, ?_, ?_, ?_, ?_, ?_, ?_, ?_, ?_, ?_, trivial⟩ ?_
  · exact ob [] [] rfl rfl fun D ρ w hs => L_ldW (cs := oc e) SA_33 hs 1 rfl rfl rfl ⟨rfl, hs⟩
  · exact ob [0] [] rfl rfl fun D ρ w hs => L_callP (vs := [.agg (oc e).toArray]) (V := .bool (laysB e)) EN_73 rfl rfl (olays_ok _ e) hs fun _ hs => ⟨rfl, hs⟩
  · exact ob [1] [] rfl rfl fun D ρ w hs => L_not rfl ⟨rfl, hs⟩
  · exact ob [2] [] rfl rfl fun D ρ w hs => L_move (V := .bool (!(laysB e))) rfl ⟨rfl, hs⟩
  · exact obg [3] [] (!(laysB e)) rfl (fun _ => rfl) rfl (fun _ _ _ _ h => h) fun D ρ w hG hs => L_fieldAddr FA_33_2 rfl ⟨rfl, hs⟩
  · exact obgy [3, 4] [] [4] (!(laysB e)) rfl (fun _ => rfl) rfl (fun _ _ _ _ h => h) (fun hG => ⟨hG, trivial⟩) fun D ρ w hG hs => L_ld (V := .int .u16 o.cart) S1_31 hs 0 rfl rfl rfl ⟨rfl, hs⟩
  · exact obg [3] [] (!(laysB e)) rfl (fun _ => rfl) rfl (fun _ _ _ _ h => h) fun D ρ w hG hs => L_fieldAddr FA_33_2 rfl ⟨rfl, hs⟩
  · exact obgy [3, 6] [] [6] (!(laysB e)) rfl (fun _ => rfl) rfl (fun _ _ _ _ h => h) (fun hG => ⟨hG, trivial⟩) fun D ρ w hG hs => L_ld (V := .int .u16 e.cart) S1_31 hs 1 rfl rfl rfl ⟨rfl, hs⟩
  · exact obgy [3, 5, 7] [] [5, 7] (!(laysB e)) rfl (fun _ => rfl) rfl (fun _ _ _ _ h => h) (fun hG => ⟨hG, hG, trivial⟩) fun D ρ w hG hs => L_neq rfl rfl ⟨rfl, hs⟩
  · exact ob [3, 8] [] rfl rfl fun D ρ w hs => L_orC (h' := !decide (o.cart = e.cart)) rfl rfl rfl ⟨rfl, hs⟩
  · exact ob [9] [] rfl rfl fun D ρ w hs => L_move (V := .bool ((!(laysB e)) || (!decide (o.cart = e.cart)))) rfl ⟨rfl, hs⟩
  · exact obg [10] [] ((!(laysB e)) || (!decide (o.cart = e.cart))) rfl (fun _ => rfl) rfl (fun _ _ _ _ h => h) fun D ρ w hG hs => L_fieldAddr FA_33_6 rfl ⟨rfl, hs⟩
  · exact obgy [10, 11] [] [11] ((!(laysB e)) || (!decide (o.cart = e.cart))) rfl (fun _ => rfl) rfl (fun _ _ _ _ h => h) (fun hG => ⟨hG, trivial⟩) fun D ρ w hG hs => L_ldA (vs := vc o.ctx) SA_24 hs 0 rfl rfl rfl rfl ⟨rfl, hs⟩
  · exact obg [10] [] ((!(laysB e)) || (!decide (o.cart = e.cart))) rfl (fun _ => rfl) rfl (fun _ _ _ _ h => h) fun D ρ w hG hs => L_fieldAddr FA_33_0 rfl ⟨rfl, hs⟩
  · exact obgy [10, 13] [] [13] ((!(laysB e)) || (!decide (o.cart = e.cart))) rfl (fun _ => rfl) rfl (fun _ _ _ _ h => h) (fun hG => ⟨hG, trivial⟩) fun D ρ w hG hs => L_ldA (vs := dc e.dot) SA_30 hs 1 rfl rfl rfl rfl ⟨rfl, hs⟩
  · exact obgy [10, 12, 14] [] [12, 14] ((!(laysB e)) || (!decide (o.cart = e.cart))) rfl (fun _ => rfl) rfl (fun _ _ _ _ h => h) (fun hG => ⟨hG, hG, trivial⟩) fun D ρ w hG hs => L_callP (vs := [.agg (vc o.ctx).toArray, .agg (dc e.dot).toArray]) (V := .bool (hasB o.ctx e.dot)) EN_47 rfl rfl (vHas_ok _ o.ctx e.dot (by first | assumption | exact dotOk_mk (by omega) (by omega) (by omega) (by omega))) hs fun _ hs => ⟨rfl, hs⟩
  · exact obgy [10, 15] [] [15] ((!(laysB e)) || (!decide (o.cart = e.cart))) rfl (fun _ => rfl) rfl (fun _ _ _ _ h => h) (fun hG => ⟨hG, trivial⟩) fun D ρ w hG hs => L_not rfl ⟨rfl, hs⟩
  · exact ob [10, 16] [] rfl rfl fun D ρ w hs => L_orC (h' := !(hasB o.ctx e.dot)) rfl rfl rfl ⟨rfl, hs⟩
  rintro ρ1 w7 ρ2 hρ hs
  replace hρ : ρ2 = upd (mix [5, 6, 7, 8, 9, 10, 11, 12, 13, 14, 15, 16, 17, 18, 19, 20, 21, 22] ρ1 _) 22 (.bool (((!(laysB e)) || (!decide (o.cart = e.cart))) || (!(hasB o.ctx e.dot)))) := hρ
  subst hρ
  refine W_cond (t := ((!(laysB e)) || (!decide (o.cart = e.cart))) || (!(hasB o.ctx e.dot))) rfl (fun c8 => ?_) (fun c8 => ?_)
  ·
    refine W_seq ?_
    refine W_region ?_
    refine RW_op (L_assign (V := .bool false) rfl ?_)
    refine RW_nil ?_
    refine W_ret ?_
    refine ⟨_, res_one (V := .bool false) Tryz.results31 rfl, ?_⟩
    refine ⟨congrArg Ending.returned ?_, hs.take 0⟩
    exact congrArg Value.bool (ends_no c8).symm
  ·
    have c8r := or_r c8
    replace c8 := or_l c8
    have c8rr := or_r c8
    replace c8 := or_l c8
    replace c8 := not_f c8
    replace c8rr := not_f c8rr
    replace c8rr := of_decide_eq_true c8rr
    replace c8r := not_f c8r
    refine W_skip ?_
    refine W_seq ?_
    refine W_seq ?_
    refine W_region ?_
    refine RW_op (L_fieldAddr FA_33_1 rfl ?_)
    refine RW_op (L_ld (V := .int .u8 o.kind) S1_5 hs 0 rfl rfl rfl ?_)
    refine RW_nil ?_
    refine W_block ?_
    refine W_seq ?_
    refine W_region ?_
    refine RW_op (L_eql rfl rfl ?_)
    refine RW_op (L_assign (V := .bool (decide (o.kind = 5))) rfl ?_)
    refine RW_nil ?_
    refine W_cond (t := decide (o.kind = 5)) rfl (fun c9 => ?_) (fun c9 => ?_)
    ·
      replace c9 := of_decide_eq_true c9
      refine W_seq ?_
      refine W_region ?_
      refine RW_op (L_assign (V := .bool true) rfl ?_)
      refine RW_nil ?_
      refine W_ret ?_
      refine ⟨_, res_one (V := .bool true) Tryz.results31 rfl, ?_⟩
      refine ⟨congrArg Ending.returned ?_, hs.take 0⟩
      rw [ends_if c8 c8rr c8r]
      refine congrArg Value.bool ?_
      simp_all
    ·
      replace c9 := of_decide_eq_false c9
      refine W_seq ?_
      refine W_seq ?_
      refine W_region ?_
      refine RW_op (L_eql rfl rfl ?_)
      refine RW_op (L_assign (V := .bool (decide (o.kind = 3))) rfl ?_)
      refine RW_nil ?_
      refine W_cond (t := decide (o.kind = 3)) rfl (fun c10 => ?_) (fun c10 => ?_)
      ·
        replace c10 := of_decide_eq_true c10
        refine W_skip ?_
        refine W_condT (congrArg Value.bool (decide_eq_true c10)) ?_
        refine W_seq ?_
        refine W_regO [some 30, some 31, some 32, some 33, some 34, some 35, some 36, some 37, some 38, some 39, some 4] [] [0, 1, 3, 7, 15, 31, 15, 79, 255, 511, 1023] [pv (.pointer (some ⟨b3, 0 + 2, none⟩)), pv (.int .u8 e.kind), pv (.bool (!decide (e.kind = 4))), pv (.bool (!decide (e.kind = 4))), pg ((!decide (e.kind = 4)) == true) (.pointer (some ⟨b1, 0 + 4, none⟩)), pg ((!decide (e.kind = 4)) == true) (.int .u16 o.item), pg ((!decide (e.kind = 4)) == true) (.pointer (some ⟨b3, 0 + 4, none⟩)), pg ((!decide (e.kind = 4)) == true) (.int .u16 e.item), pg ((!decide (e.kind = 4)) == true) (.bool (decide (o.item = e.item))), pv (.bool ((!decide (e.kind = 4)) && (decide (o.item = e.item)))), pv (.bool ((!decide (e.kind = 4)) && (decide (o.item = e.item))))] (fun _ _ => _) [10] (by kernel_rfl) hs ⟨?_, ?_, ?_, ?_, ?_, ?_, ?_, ?_, ?_, ?_, ?_, trivial⟩ ?_
        · exact ob [] [] rfl rfl fun D ρ w hs => L_fieldAddr FA_33_1 rfl ⟨rfl, hs⟩
        · exact ob [0] [] rfl rfl fun D ρ w hs => L_ld (V := .int .u8 e.kind) S1_5 hs 1 rfl rfl rfl ⟨rfl, hs⟩
        · exact ob [1] [] rfl rfl fun D ρ w hs => L_neq rfl rfl ⟨rfl, hs⟩
        · exact ob [2] [] rfl rfl fun D ρ w hs => L_move (V := .bool (!decide (e.kind = 4))) rfl ⟨rfl, hs⟩
        · exact obg [3] [] (!decide (e.kind = 4)) rfl (fun _ => rfl) rfl (fun _ _ _ _ h => h) fun D ρ w hG hs => L_fieldAddr FA_33_3 rfl ⟨rfl, hs⟩
        · exact obgy [3, 4] [] [4] (!decide (e.kind = 4)) rfl (fun _ => rfl) rfl (fun _ _ _ _ h => h) (fun hG => ⟨hG, trivial⟩) fun D ρ w hG hs => L_ld (V := .int .u16 o.item) S1_31 hs 0 rfl rfl rfl ⟨rfl, hs⟩
        · exact obg [3] [] (!decide (e.kind = 4)) rfl (fun _ => rfl) rfl (fun _ _ _ _ h => h) fun D ρ w hG hs => L_fieldAddr FA_33_3 rfl ⟨rfl, hs⟩
        · exact obgy [3, 6] [] [6] (!decide (e.kind = 4)) rfl (fun _ => rfl) rfl (fun _ _ _ _ h => h) (fun hG => ⟨hG, trivial⟩) fun D ρ w hG hs => L_ld (V := .int .u16 e.item) S1_31 hs 1 rfl rfl rfl ⟨rfl, hs⟩
        · exact obgy [3, 5, 7] [] [5, 7] (!decide (e.kind = 4)) rfl (fun _ => rfl) rfl (fun _ _ _ _ h => h) (fun hG => ⟨hG, hG, trivial⟩) fun D ρ w hG hs => L_eql rfl rfl ⟨rfl, hs⟩
        · exact ob [3, 8] [] rfl rfl fun D ρ w hs => L_andC (h' := decide (o.item = e.item)) rfl rfl rfl ⟨rfl, hs⟩
        · exact ob [9] [] rfl rfl fun D ρ w hs => L_assign (V := .bool ((!decide (e.kind = 4)) && (decide (o.item = e.item)))) rfl ⟨rfl, hs⟩
        rintro ρ1 w11 ρ2 hρ hs
        replace hρ : ρ2 = upd (mix [30, 31, 32, 33, 34, 35, 36, 37, 38, 39, 4] ρ1 _) 4 (.bool ((!decide (e.kind = 4)) && (decide (o.item = e.item)))) := hρ
        subst hρ
        refine W_ret ?_
        refine ⟨_, res_one (V := .bool ((!decide (e.kind = 4)) && (decide (o.item = e.item)))) Tryz.results31 rfl, ?_⟩
        refine ⟨congrArg Ending.returned ?_, hs.take 0⟩
        rw [ends_if c8 c8rr c8r]
        refine congrArg Value.bool ?_
        simp_all
      ·
        replace c10 := of_decide_eq_false c10
        refine W_region ?_
        refine RW_op (L_eql rfl rfl ?_)
        refine RW_op (L_assign (V := .bool (decide (o.kind = 2))) rfl ?_)
        refine RW_nil ?_
        refine W_cond (t := decide (o.kind = 2)) rfl (fun c12 => ?_) (fun c12 => ?_)
        ·
          replace c12 := of_decide_eq_true c12
          refine W_seq ?_
          refine W_regO [some 30, some 31, some 32, some 33, some 34, some 35, some 36, some 37, some 38, some 39, some 4] [] [0, 1, 3, 7, 15, 31, 15, 79, 255, 511, 1023] [pv (.pointer (some ⟨b3, 0 + 2, none⟩)), pv (.int .u8 e.kind), pv (.bool (!decide (e.kind = 4))), pv (.bool (!decide (e.kind = 4))), pg ((!decide (e.kind = 4)) == true) (.pointer (some ⟨b1, 0 + 4, none⟩)), pg ((!decide (e.kind = 4)) == true) (.int .u16 o.item), pg ((!decide (e.kind = 4)) == true) (.pointer (some ⟨b3, 0 + 4, none⟩)), pg ((!decide (e.kind = 4)) == true) (.int .u16 e.item), pg ((!decide (e.kind = 4)) == true) (.bool (decide (o.item = e.item))), pv (.bool ((!decide (e.kind = 4)) && (decide (o.item = e.item)))), pv (.bool ((!decide (e.kind = 4)) && (decide (o.item = e.item))))] (fun _ _ => _) [10] (by kernel_rfl) hs ⟨?_, ?_, ?_, ?_, ?_, ?_, ?_, ?_, ?_, ?_, ?_, trivial⟩ ?_
          · exact ob [] [] rfl rfl fun D ρ w hs => L_fieldAddr FA_33_1 rfl ⟨rfl, hs⟩
          · exact ob [0] [] rfl rfl fun D ρ w hs => L_ld (V := .int .u8 e.kind) S1_5 hs 1 rfl rfl rfl ⟨rfl, hs⟩
          · exact ob [1] [] rfl rfl fun D ρ w hs => L_neq rfl rfl ⟨rfl, hs⟩
          · exact ob [2] [] rfl rfl fun D ρ w hs => L_move (V := .bool (!decide (e.kind = 4))) rfl ⟨rfl, hs⟩
          · exact obg [3] [] (!decide (e.kind = 4)) rfl (fun _ => rfl) rfl (fun _ _ _ _ h => h) fun D ρ w hG hs => L_fieldAddr FA_33_3 rfl ⟨rfl, hs⟩
          · exact obgy [3, 4] [] [4] (!decide (e.kind = 4)) rfl (fun _ => rfl) rfl (fun _ _ _ _ h => h) (fun hG => ⟨hG, trivial⟩) fun D ρ w hG hs => L_ld (V := .int .u16 o.item) S1_31 hs 0 rfl rfl rfl ⟨rfl, hs⟩
          · exact obg [3] [] (!decide (e.kind = 4)) rfl (fun _ => rfl) rfl (fun _ _ _ _ h => h) fun D ρ w hG hs => L_fieldAddr FA_33_3 rfl ⟨rfl, hs⟩
          · exact obgy [3, 6] [] [6] (!decide (e.kind = 4)) rfl (fun _ => rfl) rfl (fun _ _ _ _ h => h) (fun hG => ⟨hG, trivial⟩) fun D ρ w hG hs => L_ld (V := .int .u16 e.item) S1_31 hs 1 rfl rfl rfl ⟨rfl, hs⟩
          · exact obgy [3, 5, 7] [] [5, 7] (!decide (e.kind = 4)) rfl (fun _ => rfl) rfl (fun _ _ _ _ h => h) (fun hG => ⟨hG, hG, trivial⟩) fun D ρ w hG hs => L_eql rfl rfl ⟨rfl, hs⟩
          · exact ob [3, 8] [] rfl rfl fun D ρ w hs => L_andC (h' := decide (o.item = e.item)) rfl rfl rfl ⟨rfl, hs⟩
          · exact ob [9] [] rfl rfl fun D ρ w hs => L_assign (V := .bool ((!decide (e.kind = 4)) && (decide (o.item = e.item)))) rfl ⟨rfl, hs⟩
          rintro ρ1 w13 ρ2 hρ hs
          replace hρ : ρ2 = upd (mix [30, 31, 32, 33, 34, 35, 36, 37, 38, 39, 4] ρ1 _) 4 (.bool ((!decide (e.kind = 4)) && (decide (o.item = e.item)))) := hρ
          subst hρ
          refine W_ret ?_
          refine ⟨_, res_one (V := .bool ((!decide (e.kind = 4)) && (decide (o.item = e.item)))) Tryz.results31 rfl, ?_⟩
          refine ⟨congrArg Ending.returned ?_, hs.take 0⟩
          rw [ends_if c8 c8rr c8r]
          refine congrArg Value.bool ?_
          simp_all
        ·
          replace c12 := of_decide_eq_false c12
          refine W_skip ?_
          refine W_seq ?_
          refine W_region ?_
          refine RW_op (L_assign (V := .bool false) rfl ?_)
          refine RW_nil ?_
          refine W_ret ?_
          refine ⟨_, res_one (V := .bool false) Tryz.results31 rfl, ?_⟩
          refine ⟨congrArg Ending.returned ?_, hs.take 0⟩
          rw [ends_if c8 c8rr c8r]
          refine congrArg Value.bool ?_
          simp_all
set_option maxRecDepth 20000 in
set_option maxHeartbeats 4000000 in
theorem rEnds_ok (w : World) (o e : Opn) (he : DotOk e.dot) : Calls Tryz.prog 39 #[.agg (oc o).toArray, .agg (oc e).toArray] w (fun r w' => r = .returned (.bool (endsB o e)) ∧ Own w no w' []) := by
  refine calls_of_Wn (n := 46) Tryz.func39 rfl Tryz.ntmps39 rfl ?_
  have hs := Own.start w
  refine W_seq ?_
  refine W_region ?_
  refine RW_op (L_box (V := .agg (oc o).toArray) (cs := oc o) rfl rfl hs fun b1 w2 hs => ?_)
  refine RW_op (L_box (V := .agg (oc e).toArray) (cs := oc e) rfl rfl hs fun b3 w4 hs => ?_)
  refine RW_op (L_assign (V := .bool false) rfl ?_)
  refine RW_nil ?_
  refine W_seq ?_
  refine W_seq ?_
  refine W_regO [some 5, some 6, some 7, some 8, some 9, some 10, some 11, some 12, some 13, some 14, some 15, some 16, some 17, some 18, some 19, some 20, some 21, some 22] [] [0, 1, 3, 7, 15, 31, 15, 79, 255, 511, 1023, 2047, 4095, 2047, 10239, 32767, 65535, 131071] [pv (.agg (oc e).toArray), pv (.bool (laysB e)), pv (.bool (!(laysB e))), pv (.bool (!(laysB e))), pg ((!(laysB e)) == false) (.pointer (some ⟨b1, 0 + 3, none⟩)), pg ((!(laysB e)) == false) (.int .u16 o.cart), pg ((!(laysB e)) == false) (.pointer (some ⟨b3, 0 + 3, none⟩)), pg ((!(laysB e)) == false) (.int .u16 e.cart), pg ((!(laysB e)) == false) (.bool (!decide (o.cart = e.cart))), pv (.bool ((!(laysB e)) || (!decide (o.cart = e.cart)))), pv (.bool ((!(laysB e)) || (!decide (o.cart = e.cart)))), pg (((!(laysB e)) || (!decide (o.cart = e.cart))) == false) (.pointer (some ⟨b1, 0 + 7, none⟩)), pg (((!(laysB e)) || (!decide (o.cart = e.cart))) == false) (.agg (vc o.ctx).toArray), pg (((!(laysB e)) || (!decide (o.cart = e.cart))) == false) (.pointer (some ⟨b3, 0 + 0, none⟩)), pg (((!(laysB e)) || (!decide (o.cart = e.cart))) == false) (.agg (dc e.dot).toArray), pg (((!(laysB e)) || (!decide (o.cart = e.cart))) == false) (.bool (hasB o.ctx e.dot)), pg (((!(laysB e)) || (!decide (o.cart = e.cart))) == false) (.bool (!(hasB o.ctx e.dot))), pv (.bool (((!(laysB e)) || (!decide (o.cart = e.cart))) || (!(hasB o.ctx e.dot))))] (fun _ _ => _) [17] (by kernel_rfl) hs ⟨?_, ?_, ?_, ?_, ?_, ?_, ?_, ?_, ?_, ?_, ?_, ?_, ?_, ?_, ?_, ?_, ?_, ?_, trivial⟩ ?_
  · exact ob [] [] rfl rfl fun D ρ w hs => L_ldW (cs := oc e) SA_33 hs 1 rfl rfl rfl ⟨rfl, hs⟩
  · exact ob [0] [] rfl rfl fun D ρ w hs => L_callP (vs := [.agg (oc e).toArray]) (V := .bool (laysB e)) EN_41 rfl rfl (rlays_ok _ e) hs fun _ hs => ⟨rfl, hs⟩
  · exact ob [1] [] rfl rfl fun D ρ w hs => L_not rfl ⟨rfl, hs⟩
  · exact ob [2] [] rfl rfl fun D ρ w hs => L_move (V := .bool (!(laysB e))) rfl ⟨rfl, hs⟩
  · exact obg [3] [] (!(laysB e)) rfl (fun _ => rfl) rfl (fun _ _ _ _ h => h) fun D ρ w hG hs => L_fieldAddr FA_33_2 rfl ⟨rfl, hs⟩
  · exact obgy [3, 4] [] [4] (!(laysB e)) rfl (fun _ => rfl) rfl (fun _ _ _ _ h => h) (fun hG => ⟨hG, trivial⟩) fun D ρ w hG hs => L_ld (V := .int .u16 o.cart) S1_31 hs 0 rfl rfl rfl ⟨rfl, hs⟩
  · exact obg [3] [] (!(laysB e)) rfl (fun _ => rfl) rfl (fun _ _ _ _ h => h) fun D ρ w hG hs => L_fieldAddr FA_33_2 rfl ⟨rfl, hs⟩
  · exact obgy [3, 6] [] [6] (!(laysB e)) rfl (fun _ => rfl) rfl (fun _ _ _ _ h => h) (fun hG => ⟨hG, trivial⟩) fun D ρ w hG hs => L_ld (V := .int .u16 e.cart) S1_31 hs 1 rfl rfl rfl ⟨rfl, hs⟩
  · exact obgy [3, 5, 7] [] [5, 7] (!(laysB e)) rfl (fun _ => rfl) rfl (fun _ _ _ _ h => h) (fun hG => ⟨hG, hG, trivial⟩) fun D ρ w hG hs => L_neq rfl rfl ⟨rfl, hs⟩
  · exact ob [3, 8] [] rfl rfl fun D ρ w hs => L_orC (h' := !decide (o.cart = e.cart)) rfl rfl rfl ⟨rfl, hs⟩
  · exact ob [9] [] rfl rfl fun D ρ w hs => L_move (V := .bool ((!(laysB e)) || (!decide (o.cart = e.cart)))) rfl ⟨rfl, hs⟩
  · exact obg [10] [] ((!(laysB e)) || (!decide (o.cart = e.cart))) rfl (fun _ => rfl) rfl (fun _ _ _ _ h => h) fun D ρ w hG hs => L_fieldAddr FA_33_6 rfl ⟨rfl, hs⟩
  · exact obgy [10, 11] [] [11] ((!(laysB e)) || (!decide (o.cart = e.cart))) rfl (fun _ => rfl) rfl (fun _ _ _ _ h => h) (fun hG => ⟨hG, trivial⟩) fun D ρ w hG hs => L_ldA (vs := vc o.ctx) SA_24 hs 0 rfl rfl rfl rfl ⟨rfl, hs⟩
  · exact obg [10] [] ((!(laysB e)) || (!decide (o.cart = e.cart))) rfl (fun _ => rfl) rfl (fun _ _ _ _ h => h) fun D ρ w hG hs => L_fieldAddr FA_33_0 rfl ⟨rfl, hs⟩
  · exact obgy [10, 13] [] [13] ((!(laysB e)) || (!decide (o.cart = e.cart))) rfl (fun _ => rfl) rfl (fun _ _ _ _ h => h) (fun hG => ⟨hG, trivial⟩) fun D ρ w hG hs => L_ldA (vs := dc e.dot) SA_30 hs 1 rfl rfl rfl rfl ⟨rfl, hs⟩
  · exact obgy [10, 12, 14] [] [12, 14] ((!(laysB e)) || (!decide (o.cart = e.cart))) rfl (fun _ => rfl) rfl (fun _ _ _ _ h => h) (fun hG => ⟨hG, hG, trivial⟩) fun D ρ w hG hs => L_callP (vs := [.agg (vc o.ctx).toArray, .agg (dc e.dot).toArray]) (V := .bool (hasB o.ctx e.dot)) EN_52 rfl rfl (rHas_ok _ o.ctx e.dot (by first | assumption | exact dotOk_mk (by omega) (by omega) (by omega) (by omega))) hs fun _ hs => ⟨rfl, hs⟩
  · exact obgy [10, 15] [] [15] ((!(laysB e)) || (!decide (o.cart = e.cart))) rfl (fun _ => rfl) rfl (fun _ _ _ _ h => h) (fun hG => ⟨hG, trivial⟩) fun D ρ w hG hs => L_not rfl ⟨rfl, hs⟩
  · exact ob [10, 16] [] rfl rfl fun D ρ w hs => L_orC (h' := !(hasB o.ctx e.dot)) rfl rfl rfl ⟨rfl, hs⟩
  rintro ρ1 w7 ρ2 hρ hs
  replace hρ : ρ2 = upd (mix [5, 6, 7, 8, 9, 10, 11, 12, 13, 14, 15, 16, 17, 18, 19, 20, 21, 22] ρ1 _) 22 (.bool (((!(laysB e)) || (!decide (o.cart = e.cart))) || (!(hasB o.ctx e.dot)))) := hρ
  subst hρ
  refine W_cond (t := ((!(laysB e)) || (!decide (o.cart = e.cart))) || (!(hasB o.ctx e.dot))) rfl (fun c8 => ?_) (fun c8 => ?_)
  ·
    refine W_seq ?_
    refine W_region ?_
    refine RW_op (L_assign (V := .bool false) rfl ?_)
    refine RW_nil ?_
    refine W_ret ?_
    refine ⟨_, res_one (V := .bool false) Tryz.results39 rfl, ?_⟩
    refine ⟨congrArg Ending.returned ?_, hs.take 0⟩
    exact congrArg Value.bool (ends_no c8).symm
  ·
    have c8r := or_r c8
    replace c8 := or_l c8
    have c8rr := or_r c8
    replace c8 := or_l c8
    replace c8 := not_f c8
    replace c8rr := not_f c8rr
    replace c8rr := of_decide_eq_true c8rr
    replace c8r := not_f c8r
    refine W_skip ?_
    refine W_seq ?_
    refine W_seq ?_
    refine W_region ?_
    refine RW_op (L_fieldAddr FA_33_1 rfl ?_)
    refine RW_op (L_ld (V := .int .u8 o.kind) S1_5 hs 0 rfl rfl rfl ?_)
    refine RW_op (L_eql rfl rfl ?_)
    refine RW_nil ?_
    refine W_cond (t := decide (o.kind = 5)) rfl (fun c9 => ?_) (fun c9 => ?_)
    ·
      replace c9 := of_decide_eq_true c9
      refine W_seq ?_
      refine W_region ?_
      refine RW_op (L_assign (V := .bool true) rfl ?_)
      refine RW_nil ?_
      refine W_ret ?_
      refine ⟨_, res_one (V := .bool true) Tryz.results39 rfl, ?_⟩
      refine ⟨congrArg Ending.returned ?_, hs.take 0⟩
      rw [ends_if c8 c8rr c8r]
      refine congrArg Value.bool ?_
      simp_all
      try exact Bool.and_assoc _ _ _
    ·
      replace c9 := of_decide_eq_false c9
      refine W_skip ?_
      refine W_seq ?_
      refine W_regO [some 26, some 27, some 28, some 29, some 30, some 31, some 32, some 33, some 34, some 35, some 36, some 37, some 38, some 39, some 40, some 41, some 42, some 43, some 44, some 45, some 4] [] [0, 1, 3, 7, 15, 31, 63, 127, 255, 511, 1023, 2047, 4095, 8191, 16383, 32767, 16383, 81919, 262143, 524287, 1048575] [pv (.pointer (some ⟨b1, 0 + 2, none⟩)), pv (.int .u8 o.kind), pv (.bool (decide (o.kind = 3))), pv (.bool (decide (o.kind = 3))), pg ((decide (o.kind = 3)) == false) (.pointer (some ⟨b1, 0 + 2, none⟩)), pg ((decide (o.kind = 3)) == false) (.int .u8 o.kind), pg ((decide (o.kind = 3)) == false) (.bool (decide (o.kind = 2))), pv (.bool ((decide (o.kind = 3)) || (decide (o.kind = 2)))), pv (.bool ((decide (o.kind = 3)) || (decide (o.kind = 2)))), pg (((decide (o.kind = 3)) || (decide (o.kind = 2))) == true) (.pointer (some ⟨b3, 0 + 2, none⟩)), pg (((decide (o.kind = 3)) || (decide (o.kind = 2))) == true) (.int .u8 e.kind), pg (((decide (o.kind = 3)) || (decide (o.kind = 2))) == true) (.bool (!decide (e.kind = 4))), pv (.bool (((decide (o.kind = 3)) || (decide (o.kind = 2))) && (!decide (e.kind = 4)))), pv (.bool (((decide (o.kind = 3)) || (decide (o.kind = 2))) && (!decide (e.kind = 4)))), pg ((((decide (o.kind = 3)) || (decide (o.kind = 2))) && (!decide (e.kind = 4))) == true) (.pointer (some ⟨b1, 0 + 4, none⟩)), pg ((((decide (o.kind = 3)) || (decide (o.kind = 2))) && (!decide (e.kind = 4))) == true) (.int .u16 o.item), pg ((((decide (o.kind = 3)) || (decide (o.kind = 2))) && (!decide (e.kind = 4))) == true) (.pointer (some ⟨b3, 0 + 4, none⟩)), pg ((((decide (o.kind = 3)) || (decide (o.kind = 2))) && (!decide (e.kind = 4))) == true) (.int .u16 e.item), pg ((((decide (o.kind = 3)) || (decide (o.kind = 2))) && (!decide (e.kind = 4))) == true) (.bool (decide (o.item = e.item))), pv (.bool ((((decide (o.kind = 3)) || (decide (o.kind = 2))) && (!decide (e.kind = 4))) && (decide (o.item = e.item)))), pv (.bool ((((decide (o.kind = 3)) || (decide (o.kind = 2))) && (!decide (e.kind = 4))) && (decide (o.item = e.item))))] (fun _ _ => _) [20] (by kernel_rfl) hs ⟨?_, ?_, ?_, ?_, ?_, ?_, ?_, ?_, ?_, ?_, ?_, ?_, ?_, ?_, ?_, ?_, ?_, ?_, ?_, ?_, ?_, trivial⟩ ?_
      · exact ob [] [] rfl rfl fun D ρ w hs => L_fieldAddr FA_33_1 rfl ⟨rfl, hs⟩
      · exact ob [0] [] rfl rfl fun D ρ w hs => L_ld (V := .int .u8 o.kind) S1_5 hs 0 rfl rfl rfl ⟨rfl, hs⟩
      · exact ob [1] [] rfl rfl fun D ρ w hs => L_eql rfl rfl ⟨rfl, hs⟩
      · exact ob [2] [] rfl rfl fun D ρ w hs => L_move (V := .bool (decide (o.kind = 3))) rfl ⟨rfl, hs⟩
      · exact obg [3] [] (decide (o.kind = 3)) rfl (fun _ => rfl) rfl (fun _ _ _ _ h => h) fun D ρ w hG hs => L_fieldAddr FA_33_1 rfl ⟨rfl, hs⟩
      · exact obgy [3, 4] [] [4] (decide (o.kind = 3)) rfl (fun _ => rfl) rfl (fun _ _ _ _ h => h) (fun hG => ⟨hG, trivial⟩) fun D ρ w hG hs => L_ld (V := .int .u8 o.kind) S1_5 hs 0 rfl rfl rfl ⟨rfl, hs⟩
      · exact obgy [3, 5] [] [5] (decide (o.kind = 3)) rfl (fun _ => rfl) rfl (fun _ _ _ _ h => h) (fun hG => ⟨hG, trivial⟩) fun D ρ w hG hs => L_eql rfl rfl ⟨rfl, hs⟩
      · exact ob [3, 6] [] rfl rfl fun D ρ w hs => L_orC (h' := decide (o.kind = 2)) rfl rfl rfl ⟨rfl, hs⟩
      · exact ob [7] [] rfl rfl fun D ρ w hs => L_move (V := .bool ((decide (o.kind = 3)) || (decide (o.kind = 2)))) rfl ⟨rfl, hs⟩
      · exact obg [8] [] ((decide (o.kind = 3)) || (decide (o.kind = 2))) rfl (fun _ => rfl) rfl (fun _ _ _ _ h => h) fun D ρ w hG hs => L_fieldAddr FA_33_1 rfl ⟨rfl, hs⟩
      · exact obgy [8, 9] [] [9] ((decide (o.kind = 3)) || (decide (o.kind = 2))) rfl (fun _ => rfl) rfl (fun _ _ _ _ h => h) (fun hG => ⟨hG, trivial⟩) fun D ρ w hG hs => L_ld (V := .int .u8 e.kind) S1_5 hs 1 rfl rfl rfl ⟨rfl, hs⟩
      · exact obgy [8, 10] [] [10] ((decide (o.kind = 3)) || (decide (o.kind = 2))) rfl (fun _ => rfl) rfl (fun _ _ _ _ h => h) (fun hG => ⟨hG, trivial⟩) fun D ρ w hG hs => L_neq rfl rfl ⟨rfl, hs⟩
      · exact ob [8, 11] [] rfl rfl fun D ρ w hs => L_andC (h' := !decide (e.kind = 4)) rfl rfl rfl ⟨rfl, hs⟩
      · exact ob [12] [] rfl rfl fun D ρ w hs => L_move (V := .bool (((decide (o.kind = 3)) || (decide (o.kind = 2))) && (!decide (e.kind = 4)))) rfl ⟨rfl, hs⟩
      · exact obg [13] [] (((decide (o.kind = 3)) || (decide (o.kind = 2))) && (!decide (e.kind = 4))) rfl (fun _ => rfl) rfl (fun _ _ _ _ h => h) fun D ρ w hG hs => L_fieldAddr FA_33_3 rfl ⟨rfl, hs⟩
      · exact obgy [13, 14] [] [14] (((decide (o.kind = 3)) || (decide (o.kind = 2))) && (!decide (e.kind = 4))) rfl (fun _ => rfl) rfl (fun _ _ _ _ h => h) (fun hG => ⟨hG, trivial⟩) fun D ρ w hG hs => L_ld (V := .int .u16 o.item) S1_31 hs 0 rfl rfl rfl ⟨rfl, hs⟩
      · exact obg [13] [] (((decide (o.kind = 3)) || (decide (o.kind = 2))) && (!decide (e.kind = 4))) rfl (fun _ => rfl) rfl (fun _ _ _ _ h => h) fun D ρ w hG hs => L_fieldAddr FA_33_3 rfl ⟨rfl, hs⟩
      · exact obgy [13, 16] [] [16] (((decide (o.kind = 3)) || (decide (o.kind = 2))) && (!decide (e.kind = 4))) rfl (fun _ => rfl) rfl (fun _ _ _ _ h => h) (fun hG => ⟨hG, trivial⟩) fun D ρ w hG hs => L_ld (V := .int .u16 e.item) S1_31 hs 1 rfl rfl rfl ⟨rfl, hs⟩
      · exact obgy [13, 15, 17] [] [15, 17] (((decide (o.kind = 3)) || (decide (o.kind = 2))) && (!decide (e.kind = 4))) rfl (fun _ => rfl) rfl (fun _ _ _ _ h => h) (fun hG => ⟨hG, hG, trivial⟩) fun D ρ w hG hs => L_eql rfl rfl ⟨rfl, hs⟩
      · exact ob [13, 18] [] rfl rfl fun D ρ w hs => L_andC (h' := decide (o.item = e.item)) rfl rfl rfl ⟨rfl, hs⟩
      · exact ob [19] [] rfl rfl fun D ρ w hs => L_assign (V := .bool ((((decide (o.kind = 3)) || (decide (o.kind = 2))) && (!decide (e.kind = 4))) && (decide (o.item = e.item)))) rfl ⟨rfl, hs⟩
      rintro ρ1 w10 ρ2 hρ hs
      replace hρ : ρ2 = upd (mix [26, 27, 28, 29, 30, 31, 32, 33, 34, 35, 36, 37, 38, 39, 40, 41, 42, 43, 44, 45, 4] ρ1 _) 4 (.bool ((((decide (o.kind = 3)) || (decide (o.kind = 2))) && (!decide (e.kind = 4))) && (decide (o.item = e.item)))) := hρ
      subst hρ
      refine W_ret ?_
      refine ⟨_, res_one (V := .bool ((((decide (o.kind = 3)) || (decide (o.kind = 2))) && (!decide (e.kind = 4))) && (decide (o.item = e.item)))) Tryz.results39 rfl, ?_⟩
      refine ⟨congrArg Ending.returned ?_, hs.take 0⟩
      rw [ends_if c8 c8rr c8r]
      refine congrArg Value.bool ?_
      simp_all
      try exact Bool.and_assoc _ _ _
set_option maxRecDepth 20000 in
set_option maxHeartbeats 4000000 in
theorem oKind_ok (w : World) (o : Opn) (ho : OpnOk o) : Calls Tryz.prog 103 #[.agg (oc o).toArray] w (fun e w' => e = .returned (.bool (kindB o)) ∧ Own w no w' []) := by
  refine calls_of_Wn (n := 28) Tryz.func103 rfl Tryz.ntmps103 rfl ?_
  have hs := Own.start w
  refine W_seq ?_
  refine W_region ?_
  refine RW_op (L_box (V := .agg (oc o).toArray) (cs := oc o) rfl rfl hs fun b1 w2 hs => ?_)
  refine RW_op (L_assign (V := .bool false) rfl ?_)
  refine RW_nil ?_
  refine W_seq ?_
  refine W_seq ?_
  refine W_region ?_
  refine RW_op (L_fieldAddr FA_33_1 rfl ?_)
  refine RW_op (L_ld (V := .int .u8 o.kind) S1_5 hs 0 rfl rfl rfl ?_)
  refine RW_nil ?_
  refine W_block ?_
  refine W_seq ?_
  refine W_region ?_
  refine RW_op (L_eql rfl rfl ?_)
  refine RW_op (L_assign (V := .bool (decide (o.kind = 1))) rfl ?_)
  refine RW_nil ?_
  refine W_cond (t := decide (o.kind = 1)) rfl (fun c3 => ?_) (fun c3 => ?_)
  ·
    replace c3 := of_decide_eq_true c3
    refine W_seq ?_
    refine W_region ?_
    refine RW_op (L_fieldAddr FA_33_4 rfl ?_)
    refine RW_op (L_ld (V := .int .u16 o.qty) S1_31 hs 0 rfl rfl rfl ?_)
    refine RW_op (L_gtr rfl rfl ?_)
    refine RW_op (L_assign (V := .bool (decide (0 < o.qty))) rfl ?_)
    refine RW_nil ?_
    refine W_ret ?_
    refine ⟨_, res_one (V := .bool (decide (0 < o.qty))) Tryz.results103 rfl, ?_⟩
    refine ⟨congrArg Ending.returned ?_, hs.take 0⟩
    refine congrArg Value.bool ?_
    unfold kindB
    have ⟨_, _, _, _, ⟨hq1, hq2⟩, _, _⟩ := ho
    simp_all
    try omega
  ·
    replace c3 := of_decide_eq_false c3
    refine W_seq ?_
    refine W_region ?_
    refine RW_op (L_eql rfl rfl ?_)
    refine RW_op (L_assign (V := .bool (decide (o.kind = 2))) rfl ?_)
    refine RW_nil ?_
    refine W_cond (t := decide (o.kind = 2)) rfl (fun c4 => ?_) (fun c4 => ?_)
    ·
      replace c4 := of_decide_eq_true c4
      refine W_seq ?_
      refine W_region ?_
      refine RW_op (L_assign (V := .bool true) rfl ?_)
      refine RW_nil ?_
      refine W_ret ?_
      refine ⟨_, res_one (V := .bool true) Tryz.results103 rfl, ?_⟩
      refine ⟨congrArg Ending.returned ?_, hs.take 0⟩
      refine congrArg Value.bool ?_
      unfold kindB
      have ⟨_, _, _, _, ⟨hq1, hq2⟩, _, _⟩ := ho
      simp_all
      try omega
    ·
      replace c4 := of_decide_eq_false c4
      refine W_seq ?_
      refine W_region ?_
      refine RW_op (L_eql rfl rfl ?_)
      refine RW_op (L_assign (V := .bool (decide (o.kind = 3))) rfl ?_)
      refine RW_nil ?_
      refine W_cond (t := decide (o.kind = 3)) rfl (fun c5 => ?_) (fun c5 => ?_)
      ·
        replace c5 := of_decide_eq_true c5
        refine W_seq ?_
        refine W_region ?_
        refine RW_op (L_fieldAddr FA_33_4 rfl ?_)
        refine RW_op (L_ld (V := .int .u16 o.qty) S1_31 hs 0 rfl rfl rfl ?_)
        refine RW_op (L_eql rfl rfl ?_)
        refine RW_op (L_assign (V := .bool (decide (o.qty = 0))) rfl ?_)
        refine RW_nil ?_
        refine W_ret ?_
        refine ⟨_, res_one (V := .bool (decide (o.qty = 0))) Tryz.results103 rfl, ?_⟩
        refine ⟨congrArg Ending.returned ?_, hs.take 0⟩
        refine congrArg Value.bool ?_
        unfold kindB
        have ⟨_, _, _, _, ⟨hq1, hq2⟩, _, _⟩ := ho
        simp_all
        try omega
      ·
        replace c5 := of_decide_eq_false c5
        refine W_seq ?_
        refine W_seq ?_
        refine W_region ?_
        refine RW_op (L_eql rfl rfl ?_)
        refine RW_op (L_assign (V := .bool (decide (o.kind = 4))) rfl ?_)
        refine RW_nil ?_
        refine W_cond (t := decide (o.kind = 4)) rfl (fun c6 => ?_) (fun c6 => ?_)
        ·
          replace c6 := of_decide_eq_true c6
          refine W_skip ?_
          refine W_condT (congrArg Value.bool (decide_eq_true c6)) ?_
          refine W_seq ?_
          refine W_regO [some 20, some 21, some 22, some 23, some 24, some 25, some 26, some 27, some 2] [] [0, 1, 3, 7, 15, 31, 63, 127, 255] [pv (.pointer (some ⟨b1, 0 + 4, none⟩)), pv (.int .u16 o.item), pv (.bool (decide (o.item = 0))), pv (.bool (decide (o.item = 0))), pg ((decide (o.item = 0)) == true) (.pointer (some ⟨b1, 0 + 5, none⟩)), pg ((decide (o.item = 0)) == true) (.int .u16 o.qty), pg ((decide (o.item = 0)) == true) (.bool (decide (o.qty = 0))), pv (.bool ((decide (o.item = 0)) && (decide (o.qty = 0)))), pv (.bool ((decide (o.item = 0)) && (decide (o.qty = 0))))] (fun _ _ => _) [8] (by kernel_rfl) hs ⟨?_, ?_, ?_, ?_, ?_, ?_, ?_, ?_, ?_, trivial⟩ ?_
          · exact ob [] [] rfl rfl fun D ρ w hs => L_fieldAddr FA_33_3 rfl ⟨rfl, hs⟩
          · exact ob [0] [] rfl rfl fun D ρ w hs => L_ld (V := .int .u16 o.item) S1_31 hs 0 rfl rfl rfl ⟨rfl, hs⟩
          · exact ob [1] [] rfl rfl fun D ρ w hs => L_eql rfl rfl ⟨rfl, hs⟩
          · exact ob [2] [] rfl rfl fun D ρ w hs => L_move (V := .bool (decide (o.item = 0))) rfl ⟨rfl, hs⟩
          · exact obg [3] [] (decide (o.item = 0)) rfl (fun _ => rfl) rfl (fun _ _ _ _ h => h) fun D ρ w hG hs => L_fieldAddr FA_33_4 rfl ⟨rfl, hs⟩
          · exact obgy [3, 4] [] [4] (decide (o.item = 0)) rfl (fun _ => rfl) rfl (fun _ _ _ _ h => h) (fun hG => ⟨hG, trivial⟩) fun D ρ w hG hs => L_ld (V := .int .u16 o.qty) S1_31 hs 0 rfl rfl rfl ⟨rfl, hs⟩
          · exact obgy [3, 5] [] [5] (decide (o.item = 0)) rfl (fun _ => rfl) rfl (fun _ _ _ _ h => h) (fun hG => ⟨hG, trivial⟩) fun D ρ w hG hs => L_eql rfl rfl ⟨rfl, hs⟩
          · exact ob [3, 6] [] rfl rfl fun D ρ w hs => L_andC (h' := decide (o.qty = 0)) rfl rfl rfl ⟨rfl, hs⟩
          · exact ob [7] [] rfl rfl fun D ρ w hs => L_assign (V := .bool ((decide (o.item = 0)) && (decide (o.qty = 0)))) rfl ⟨rfl, hs⟩
          rintro ρ1 w7 ρ2 hρ hs
          replace hρ : ρ2 = upd (mix [20, 21, 22, 23, 24, 25, 26, 27, 2] ρ1 _) 2 (.bool ((decide (o.item = 0)) && (decide (o.qty = 0)))) := hρ
          subst hρ
          refine W_ret ?_
          refine ⟨_, res_one (V := .bool ((decide (o.item = 0)) && (decide (o.qty = 0)))) Tryz.results103 rfl, ?_⟩
          refine ⟨congrArg Ending.returned ?_, hs.take 0⟩
          refine congrArg Value.bool ?_
          unfold kindB
          have ⟨_, _, _, _, ⟨hq1, hq2⟩, _, _⟩ := ho
          simp_all
          try omega
        ·
          replace c6 := of_decide_eq_false c6
          refine W_region ?_
          refine RW_op (L_eql rfl rfl ?_)
          refine RW_op (L_assign (V := .bool (decide (o.kind = 5))) rfl ?_)
          refine RW_nil ?_
          refine W_cond (t := decide (o.kind = 5)) rfl (fun c8 => ?_) (fun c8 => ?_)
          ·
            replace c8 := of_decide_eq_true c8
            refine W_seq ?_
            refine W_regO [some 20, some 21, some 22, some 23, some 24, some 25, some 26, some 27, some 2] [] [0, 1, 3, 7, 15, 31, 63, 127, 255] [pv (.pointer (some ⟨b1, 0 + 4, none⟩)), pv (.int .u16 o.item), pv (.bool (decide (o.item = 0))), pv (.bool (decide (o.item = 0))), pg ((decide (o.item = 0)) == true) (.pointer (some ⟨b1, 0 + 5, none⟩)), pg ((decide (o.item = 0)) == true) (.int .u16 o.qty), pg ((decide (o.item = 0)) == true) (.bool (decide (o.qty = 0))), pv (.bool ((decide (o.item = 0)) && (decide (o.qty = 0)))), pv (.bool ((decide (o.item = 0)) && (decide (o.qty = 0))))] (fun _ _ => _) [8] (by kernel_rfl) hs ⟨?_, ?_, ?_, ?_, ?_, ?_, ?_, ?_, ?_, trivial⟩ ?_
            · exact ob [] [] rfl rfl fun D ρ w hs => L_fieldAddr FA_33_3 rfl ⟨rfl, hs⟩
            · exact ob [0] [] rfl rfl fun D ρ w hs => L_ld (V := .int .u16 o.item) S1_31 hs 0 rfl rfl rfl ⟨rfl, hs⟩
            · exact ob [1] [] rfl rfl fun D ρ w hs => L_eql rfl rfl ⟨rfl, hs⟩
            · exact ob [2] [] rfl rfl fun D ρ w hs => L_move (V := .bool (decide (o.item = 0))) rfl ⟨rfl, hs⟩
            · exact obg [3] [] (decide (o.item = 0)) rfl (fun _ => rfl) rfl (fun _ _ _ _ h => h) fun D ρ w hG hs => L_fieldAddr FA_33_4 rfl ⟨rfl, hs⟩
            · exact obgy [3, 4] [] [4] (decide (o.item = 0)) rfl (fun _ => rfl) rfl (fun _ _ _ _ h => h) (fun hG => ⟨hG, trivial⟩) fun D ρ w hG hs => L_ld (V := .int .u16 o.qty) S1_31 hs 0 rfl rfl rfl ⟨rfl, hs⟩
            · exact obgy [3, 5] [] [5] (decide (o.item = 0)) rfl (fun _ => rfl) rfl (fun _ _ _ _ h => h) (fun hG => ⟨hG, trivial⟩) fun D ρ w hG hs => L_eql rfl rfl ⟨rfl, hs⟩
            · exact ob [3, 6] [] rfl rfl fun D ρ w hs => L_andC (h' := decide (o.qty = 0)) rfl rfl rfl ⟨rfl, hs⟩
            · exact ob [7] [] rfl rfl fun D ρ w hs => L_assign (V := .bool ((decide (o.item = 0)) && (decide (o.qty = 0)))) rfl ⟨rfl, hs⟩
            rintro ρ1 w9 ρ2 hρ hs
            replace hρ : ρ2 = upd (mix [20, 21, 22, 23, 24, 25, 26, 27, 2] ρ1 _) 2 (.bool ((decide (o.item = 0)) && (decide (o.qty = 0)))) := hρ
            subst hρ
            refine W_ret ?_
            refine ⟨_, res_one (V := .bool ((decide (o.item = 0)) && (decide (o.qty = 0)))) Tryz.results103 rfl, ?_⟩
            refine ⟨congrArg Ending.returned ?_, hs.take 0⟩
            refine congrArg Value.bool ?_
            unfold kindB
            have ⟨_, _, _, _, ⟨hq1, hq2⟩, _, _⟩ := ho
            simp_all
            try omega
          ·
            replace c8 := of_decide_eq_false c8
            refine W_skip ?_
            refine W_seq ?_
            refine W_region ?_
            refine RW_op (L_assign (V := .bool false) rfl ?_)
            refine RW_nil ?_
            refine W_ret ?_
            refine ⟨_, res_one (V := .bool false) Tryz.results103 rfl, ?_⟩
            refine ⟨congrArg Ending.returned ?_, hs.take 0⟩
            refine congrArg Value.bool ?_
            unfold kindB
            have ⟨_, _, _, _, ⟨hq1, hq2⟩, _, _⟩ := ho
            simp_all
            try omega
set_option maxRecDepth 20000 in
set_option maxHeartbeats 4000000 in
theorem rKind_ok (w : World) (o : Opn) (ho : OpnOk o) : Calls Tryz.prog 109 #[.agg (oc o).toArray] w (fun e w' => e = .returned (.bool (kindB o)) ∧ Own w no w' []) := by
  refine calls_of_Wn (n := 28) Tryz.func109 rfl Tryz.ntmps109 rfl ?_
  have hs := Own.start w
  refine W_seq ?_
  refine W_region ?_
  refine RW_op (L_box (V := .agg (oc o).toArray) (cs := oc o) rfl rfl hs fun b1 w2 hs => ?_)
  refine RW_op (L_assign (V := .bool false) rfl ?_)
  refine RW_nil ?_
  refine W_seq ?_
  refine W_seq ?_
  refine W_region ?_
  refine RW_op (L_fieldAddr FA_33_1 rfl ?_)
  refine RW_op (L_ld (V := .int .u8 o.kind) S1_5 hs 0 rfl rfl rfl ?_)
  refine RW_nil ?_
  refine W_block ?_
  refine W_seq ?_
  refine W_region ?_
  refine RW_op (L_eql rfl rfl ?_)
  refine RW_op (L_assign (V := .bool (decide (o.kind = 1))) rfl ?_)
  refine RW_nil ?_
  refine W_cond (t := decide (o.kind = 1)) rfl (fun c3 => ?_) (fun c3 => ?_)
  ·
    replace c3 := of_decide_eq_true c3
    refine W_seq ?_
    refine W_region ?_
    refine RW_op (L_fieldAddr FA_33_4 rfl ?_)
    refine RW_op (L_ld (V := .int .u16 o.qty) S1_31 hs 0 rfl rfl rfl ?_)
    refine RW_op (L_geq rfl rfl ?_)
    refine RW_op (L_assign (V := .bool (decide (1 ≤ o.qty))) rfl ?_)
    refine RW_nil ?_
    refine W_ret ?_
    refine ⟨_, res_one (V := .bool (decide (1 ≤ o.qty))) Tryz.results109 rfl, ?_⟩
    refine ⟨congrArg Ending.returned ?_, hs.take 0⟩
    refine congrArg Value.bool ?_
    unfold kindB
    have ⟨_, _, _, _, ⟨hq1, hq2⟩, _, _⟩ := ho
    simp_all
    try omega
  ·
    replace c3 := of_decide_eq_false c3
    refine W_seq ?_
    refine W_region ?_
    refine RW_op (L_eql rfl rfl ?_)
    refine RW_op (L_assign (V := .bool (decide (o.kind = 2))) rfl ?_)
    refine RW_nil ?_
    refine W_cond (t := decide (o.kind = 2)) rfl (fun c4 => ?_) (fun c4 => ?_)
    ·
      replace c4 := of_decide_eq_true c4
      refine W_seq ?_
      refine W_region ?_
      refine RW_op (L_assign (V := .bool true) rfl ?_)
      refine RW_nil ?_
      refine W_ret ?_
      refine ⟨_, res_one (V := .bool true) Tryz.results109 rfl, ?_⟩
      refine ⟨congrArg Ending.returned ?_, hs.take 0⟩
      refine congrArg Value.bool ?_
      unfold kindB
      have ⟨_, _, _, _, ⟨hq1, hq2⟩, _, _⟩ := ho
      simp_all
      try omega
    ·
      replace c4 := of_decide_eq_false c4
      refine W_seq ?_
      refine W_region ?_
      refine RW_op (L_eql rfl rfl ?_)
      refine RW_op (L_assign (V := .bool (decide (o.kind = 3))) rfl ?_)
      refine RW_nil ?_
      refine W_cond (t := decide (o.kind = 3)) rfl (fun c5 => ?_) (fun c5 => ?_)
      ·
        replace c5 := of_decide_eq_true c5
        refine W_seq ?_
        refine W_region ?_
        refine RW_op (L_fieldAddr FA_33_4 rfl ?_)
        refine RW_op (L_ld (V := .int .u16 o.qty) S1_31 hs 0 rfl rfl rfl ?_)
        refine RW_op (L_eql rfl rfl ?_)
        refine RW_op (L_assign (V := .bool (decide (o.qty = 0))) rfl ?_)
        refine RW_nil ?_
        refine W_ret ?_
        refine ⟨_, res_one (V := .bool (decide (o.qty = 0))) Tryz.results109 rfl, ?_⟩
        refine ⟨congrArg Ending.returned ?_, hs.take 0⟩
        refine congrArg Value.bool ?_
        unfold kindB
        have ⟨_, _, _, _, ⟨hq1, hq2⟩, _, _⟩ := ho
        simp_all
        try omega
      ·
        replace c5 := of_decide_eq_false c5
        refine W_seq ?_
        refine W_seq ?_
        refine W_region ?_
        refine RW_op (L_eql rfl rfl ?_)
        refine RW_op (L_assign (V := .bool (decide (o.kind = 4))) rfl ?_)
        refine RW_nil ?_
        refine W_cond (t := decide (o.kind = 4)) rfl (fun c6 => ?_) (fun c6 => ?_)
        ·
          replace c6 := of_decide_eq_true c6
          refine W_skip ?_
          refine W_condT (congrArg Value.bool (decide_eq_true c6)) ?_
          refine W_seq ?_
          refine W_regO [some 20, some 21, some 22, some 23, some 24, some 25, some 26, some 27, some 2] [] [0, 1, 3, 7, 15, 31, 63, 127, 255] [pv (.pointer (some ⟨b1, 0 + 4, none⟩)), pv (.int .u16 o.item), pv (.bool (decide (o.item = 0))), pv (.bool (decide (o.item = 0))), pg ((decide (o.item = 0)) == true) (.pointer (some ⟨b1, 0 + 5, none⟩)), pg ((decide (o.item = 0)) == true) (.int .u16 o.qty), pg ((decide (o.item = 0)) == true) (.bool (decide (o.qty = 0))), pv (.bool ((decide (o.item = 0)) && (decide (o.qty = 0)))), pv (.bool ((decide (o.item = 0)) && (decide (o.qty = 0))))] (fun _ _ => _) [8] (by kernel_rfl) hs ⟨?_, ?_, ?_, ?_, ?_, ?_, ?_, ?_, ?_, trivial⟩ ?_
          · exact ob [] [] rfl rfl fun D ρ w hs => L_fieldAddr FA_33_3 rfl ⟨rfl, hs⟩
          · exact ob [0] [] rfl rfl fun D ρ w hs => L_ld (V := .int .u16 o.item) S1_31 hs 0 rfl rfl rfl ⟨rfl, hs⟩
          · exact ob [1] [] rfl rfl fun D ρ w hs => L_eql rfl rfl ⟨rfl, hs⟩
          · exact ob [2] [] rfl rfl fun D ρ w hs => L_move (V := .bool (decide (o.item = 0))) rfl ⟨rfl, hs⟩
          · exact obg [3] [] (decide (o.item = 0)) rfl (fun _ => rfl) rfl (fun _ _ _ _ h => h) fun D ρ w hG hs => L_fieldAddr FA_33_4 rfl ⟨rfl, hs⟩
          · exact obgy [3, 4] [] [4] (decide (o.item = 0)) rfl (fun _ => rfl) rfl (fun _ _ _ _ h => h) (fun hG => ⟨hG, trivial⟩) fun D ρ w hG hs => L_ld (V := .int .u16 o.qty) S1_31 hs 0 rfl rfl rfl ⟨rfl, hs⟩
          · exact obgy [3, 5] [] [5] (decide (o.item = 0)) rfl (fun _ => rfl) rfl (fun _ _ _ _ h => h) (fun hG => ⟨hG, trivial⟩) fun D ρ w hG hs => L_eql rfl rfl ⟨rfl, hs⟩
          · exact ob [3, 6] [] rfl rfl fun D ρ w hs => L_andC (h' := decide (o.qty = 0)) rfl rfl rfl ⟨rfl, hs⟩
          · exact ob [7] [] rfl rfl fun D ρ w hs => L_assign (V := .bool ((decide (o.item = 0)) && (decide (o.qty = 0)))) rfl ⟨rfl, hs⟩
          rintro ρ1 w7 ρ2 hρ hs
          replace hρ : ρ2 = upd (mix [20, 21, 22, 23, 24, 25, 26, 27, 2] ρ1 _) 2 (.bool ((decide (o.item = 0)) && (decide (o.qty = 0)))) := hρ
          subst hρ
          refine W_ret ?_
          refine ⟨_, res_one (V := .bool ((decide (o.item = 0)) && (decide (o.qty = 0)))) Tryz.results109 rfl, ?_⟩
          refine ⟨congrArg Ending.returned ?_, hs.take 0⟩
          refine congrArg Value.bool ?_
          unfold kindB
          have ⟨_, _, _, _, ⟨hq1, hq2⟩, _, _⟩ := ho
          simp_all
          try omega
        ·
          replace c6 := of_decide_eq_false c6
          refine W_region ?_
          refine RW_op (L_eql rfl rfl ?_)
          refine RW_op (L_assign (V := .bool (decide (o.kind = 5))) rfl ?_)
          refine RW_nil ?_
          refine W_cond (t := decide (o.kind = 5)) rfl (fun c8 => ?_) (fun c8 => ?_)
          ·
            replace c8 := of_decide_eq_true c8
            refine W_seq ?_
            refine W_regO [some 20, some 21, some 22, some 23, some 24, some 25, some 26, some 27, some 2] [] [0, 1, 3, 7, 15, 31, 63, 127, 255] [pv (.pointer (some ⟨b1, 0 + 4, none⟩)), pv (.int .u16 o.item), pv (.bool (decide (o.item = 0))), pv (.bool (decide (o.item = 0))), pg ((decide (o.item = 0)) == true) (.pointer (some ⟨b1, 0 + 5, none⟩)), pg ((decide (o.item = 0)) == true) (.int .u16 o.qty), pg ((decide (o.item = 0)) == true) (.bool (decide (o.qty = 0))), pv (.bool ((decide (o.item = 0)) && (decide (o.qty = 0)))), pv (.bool ((decide (o.item = 0)) && (decide (o.qty = 0))))] (fun _ _ => _) [8] (by kernel_rfl) hs ⟨?_, ?_, ?_, ?_, ?_, ?_, ?_, ?_, ?_, trivial⟩ ?_
            · exact ob [] [] rfl rfl fun D ρ w hs => L_fieldAddr FA_33_3 rfl ⟨rfl, hs⟩
            · exact ob [0] [] rfl rfl fun D ρ w hs => L_ld (V := .int .u16 o.item) S1_31 hs 0 rfl rfl rfl ⟨rfl, hs⟩
            · exact ob [1] [] rfl rfl fun D ρ w hs => L_eql rfl rfl ⟨rfl, hs⟩
            · exact ob [2] [] rfl rfl fun D ρ w hs => L_move (V := .bool (decide (o.item = 0))) rfl ⟨rfl, hs⟩
            · exact obg [3] [] (decide (o.item = 0)) rfl (fun _ => rfl) rfl (fun _ _ _ _ h => h) fun D ρ w hG hs => L_fieldAddr FA_33_4 rfl ⟨rfl, hs⟩
            · exact obgy [3, 4] [] [4] (decide (o.item = 0)) rfl (fun _ => rfl) rfl (fun _ _ _ _ h => h) (fun hG => ⟨hG, trivial⟩) fun D ρ w hG hs => L_ld (V := .int .u16 o.qty) S1_31 hs 0 rfl rfl rfl ⟨rfl, hs⟩
            · exact obgy [3, 5] [] [5] (decide (o.item = 0)) rfl (fun _ => rfl) rfl (fun _ _ _ _ h => h) (fun hG => ⟨hG, trivial⟩) fun D ρ w hG hs => L_eql rfl rfl ⟨rfl, hs⟩
            · exact ob [3, 6] [] rfl rfl fun D ρ w hs => L_andC (h' := decide (o.qty = 0)) rfl rfl rfl ⟨rfl, hs⟩
            · exact ob [7] [] rfl rfl fun D ρ w hs => L_assign (V := .bool ((decide (o.item = 0)) && (decide (o.qty = 0)))) rfl ⟨rfl, hs⟩
            rintro ρ1 w9 ρ2 hρ hs
            replace hρ : ρ2 = upd (mix [20, 21, 22, 23, 24, 25, 26, 27, 2] ρ1 _) 2 (.bool ((decide (o.item = 0)) && (decide (o.qty = 0)))) := hρ
            subst hρ
            refine W_ret ?_
            refine ⟨_, res_one (V := .bool ((decide (o.item = 0)) && (decide (o.qty = 0)))) Tryz.results109 rfl, ?_⟩
            refine ⟨congrArg Ending.returned ?_, hs.take 0⟩
            refine congrArg Value.bool ?_
            unfold kindB
            have ⟨_, _, _, _, ⟨hq1, hq2⟩, _, _⟩ := ho
            simp_all
            try omega
          ·
            replace c8 := of_decide_eq_false c8
            refine W_skip ?_
            refine W_seq ?_
            refine W_region ?_
            refine RW_op (L_assign (V := .bool false) rfl ?_)
            refine RW_nil ?_
            refine W_ret ?_
            refine ⟨_, res_one (V := .bool false) Tryz.results109 rfl, ?_⟩
            refine ⟨congrArg Ending.returned ?_, hs.take 0⟩
            refine congrArg Value.bool ?_
            unfold kindB
            have ⟨_, _, _, _, ⟨hq1, hq2⟩, _, _⟩ := ho
            simp_all
            try omega
set_option maxRecDepth 20000 in
set_option maxHeartbeats 4000000 in
theorem oRight_ok (w : World) (o : Opn) (n : Int) (hO : OpnOk o) : Calls Tryz.prog 69 #[.agg (oc o).toArray, .int .i64 n] w (fun e w' => e = .returned (.bool (rightOn o n)) ∧ Own w no w' []) := by
  refine calls_of_Wn (n := 50) Tryz.func69 rfl Tryz.ntmps69 rfl ?_
  have hs := Own.start w
  have ⟨⟨⟨hr1, hr2⟩, hr3, hr4⟩, _, _, _, ⟨hq1, hq2⟩, _, hctx⟩ := hO
  refine W_seq ?_
  refine W_region ?_
  refine RW_op (L_box (V := .agg (oc o).toArray) (cs := oc o) rfl rfl hs fun b1 w2 hs => ?_)
  refine RW_op (L_assign (V := .bool false) rfl ?_)
  refine RW_nil ?_
  refine W_seq ?_
  refine W_seq ?_
  refine W_regO [some 6, some 7, some 8, some 9, some 10, some 11, some 12, some 13, some 14, some 15, some 16, some 17, some 18, some 19, some 20, some 21, some 22, some 23, some 24, some 25, some 26, some 27, some 28] [] [0, 1, 0, 7, 15, 31, 63, 127, 255, 511, 63, 2047, 4095, 8191, 16383, 32767, 65535, 131071, 262143, 524287, 1048575, 2097151, 4194303] [pv (.pointer (some ⟨b1, 0 + 7, none⟩)), pv (.agg (vc o.ctx).toArray), pv (.int .i64 n), pv (.bool (rightB o.ctx n)), pv (.bool (!(rightB o.ctx n))), pv (.bool (!(rightB o.ctx n))), pg ((!(rightB o.ctx n)) == false) (.pointer (some ⟨b1, 0 + 0, none⟩)), pg ((!(rightB o.ctx n)) == false) (.pointer (some ⟨b1, 0 + 0 + 0, none⟩)), pg ((!(rightB o.ctx n)) == false) (.int .u8 o.dot.rep), pg ((!(rightB o.ctx n)) == false) (.int .i64 o.dot.rep), pg ((!(rightB o.ctx n)) == false) (.int .i64 n), pg ((!(rightB o.ctx n)) == false) (.bool (decide (n ≤ o.dot.rep))), pv (.bool ((!(rightB o.ctx n)) || (decide (n ≤ o.dot.rep)))), pv (.bool ((!(rightB o.ctx n)) || (decide (n ≤ o.dot.rep)))), pg (((!(rightB o.ctx n)) || (decide (n ≤ o.dot.rep))) == false) (.pointer (some ⟨b1, 0 + 6, none⟩)), pg (((!(rightB o.ctx n)) || (decide (n ≤ o.dot.rep))) == false) (.int .u32 o.tick), pg (((!(rightB o.ctx n)) || (decide (n ≤ o.dot.rep))) == false) (.bool (decide (1073741824 < o.tick))), pv (.bool (((!(rightB o.ctx n)) || (decide (n ≤ o.dot.rep))) || (decide (1073741824 < o.tick)))), pv (.bool (((!(rightB o.ctx n)) || (decide (n ≤ o.dot.rep))) || (decide (1073741824 < o.tick)))), pg ((((!(rightB o.ctx n)) || (decide (n ≤ o.dot.rep))) || (decide (1073741824 < o.tick))) == false) (.agg (oc o).toArray), pg ((((!(rightB o.ctx n)) || (decide (n ≤ o.dot.rep))) || (decide (1073741824 < o.tick))) == false) (.bool (kindB o)), pg ((((!(rightB o.ctx n)) || (decide (n ≤ o.dot.rep))) || (decide (1073741824 < o.tick))) == false) (.bool (!(kindB o))), pv (.bool ((((!(rightB o.ctx n)) || (decide (n ≤ o.dot.rep))) || (decide (1073741824 < o.tick))) || (!(kindB o))))] (fun _ _ => _) [22] (by kernel_rfl) hs ⟨?_, ?_, ?_, ?_, ?_, ?_, ?_, ?_, ?_, ?_, ?_, ?_, ?_, ?_, ?_, ?_, ?_, ?_, ?_, ?_, ?_, ?_, ?_, trivial⟩ ?_
  · exact ob [] [] rfl rfl fun D ρ w hs => L_fieldAddr FA_33_6 rfl ⟨rfl, hs⟩
  · exact ob [0] [] rfl rfl fun D ρ w hs => L_ldA (vs := vc o.ctx) SA_24 hs 0 rfl rfl rfl rfl ⟨rfl, hs⟩
  · exact ob [] [] rfl rfl fun D ρ w hs => L_move (V := .int .i64 n) rfl ⟨rfl, hs⟩
  · exact ob [1, 2] [] rfl rfl fun D ρ w hs => L_callP (vs := [.agg (vc o.ctx).toArray, .int .i64 n]) (V := .bool (rightB o.ctx n)) EN_44 rfl rfl (vRight_ok _ o.ctx n (by first | assumption | exact vzero_ok)) hs fun _ hs => ⟨rfl, hs⟩
  · exact ob [3] [] rfl rfl fun D ρ w hs => L_not rfl ⟨rfl, hs⟩
  · exact ob [4] [] rfl rfl fun D ρ w hs => L_move (V := .bool (!(rightB o.ctx n))) rfl ⟨rfl, hs⟩
  · exact obg [5] [] (!(rightB o.ctx n)) rfl (fun _ => rfl) rfl (fun _ _ _ _ h => h) fun D ρ w hG hs => L_fieldAddr FA_33_0 rfl ⟨rfl, hs⟩
  · exact obgy [5, 6] [] [6] (!(rightB o.ctx n)) rfl (fun _ => rfl) rfl (fun _ _ _ _ h => h) (fun hG => ⟨hG, trivial⟩) fun D ρ w hG hs => L_fieldAddr FA_30_0 rfl ⟨rfl, hs⟩
  · exact obgy [5, 7] [] [7] (!(rightB o.ctx n)) rfl (fun _ => rfl) rfl (fun _ _ _ _ h => h) (fun hG => ⟨hG, trivial⟩) fun D ρ w hG hs => L_ld (V := .int .u8 o.dot.rep) S1_5 hs 0 rfl rfl rfl ⟨rfl, hs⟩
  · exact obgy [5, 8] [] [8] (!(rightB o.ctx n)) rfl (fun _ => rfl) rfl (fun _ _ _ _ h => h) (fun hG => ⟨hG, trivial⟩) fun D ρ w hG hs => L_conv UD_5 UD_3 rfl (wr_i64 (by omega) (by omega)) ⟨rfl, hs⟩
  · exact obg [5] [] (!(rightB o.ctx n)) rfl (fun _ => rfl) rfl (fun _ _ _ _ h => h) fun D ρ w hG hs => L_move (V := .int .i64 n) rfl ⟨rfl, hs⟩
  · exact obgy [5, 9, 10] [] [9, 10] (!(rightB o.ctx n)) rfl (fun _ => rfl) rfl (fun _ _ _ _ h => h) (fun hG => ⟨hG, hG, trivial⟩) fun D ρ w hG hs => L_geq rfl rfl ⟨rfl, hs⟩
  · exact ob [5, 11] [] rfl rfl fun D ρ w hs => L_orC (h' := decide (n ≤ o.dot.rep)) rfl rfl rfl ⟨rfl, hs⟩
  · exact ob [12] [] rfl rfl fun D ρ w hs => L_move (V := .bool ((!(rightB o.ctx n)) || (decide (n ≤ o.dot.rep)))) rfl ⟨rfl, hs⟩
  · exact obg [13] [] ((!(rightB o.ctx n)) || (decide (n ≤ o.dot.rep))) rfl (fun _ => rfl) rfl (fun _ _ _ _ h => h) fun D ρ w hG hs => L_fieldAddr FA_33_5 rfl ⟨rfl, hs⟩
  · exact obgy [13, 14] [] [14] ((!(rightB o.ctx n)) || (decide (n ≤ o.dot.rep))) rfl (fun _ => rfl) rfl (fun _ _ _ _ h => h) (fun hG => ⟨hG, trivial⟩) fun D ρ w hG hs => L_ld (V := .int .u32 o.tick) S1_22 hs 0 rfl rfl rfl ⟨rfl, hs⟩
  · exact obgy [13, 15] [] [15] ((!(rightB o.ctx n)) || (decide (n ≤ o.dot.rep))) rfl (fun _ => rfl) rfl (fun _ _ _ _ h => h) (fun hG => ⟨hG, trivial⟩) fun D ρ w hG hs => L_gtr rfl rfl ⟨rfl, hs⟩
  · exact ob [13, 16] [] rfl rfl fun D ρ w hs => L_orC (h' := decide (1073741824 < o.tick)) rfl rfl rfl ⟨rfl, hs⟩
  · exact ob [17] [] rfl rfl fun D ρ w hs => L_move (V := .bool (((!(rightB o.ctx n)) || (decide (n ≤ o.dot.rep))) || (decide (1073741824 < o.tick)))) rfl ⟨rfl, hs⟩
  · exact obg [18] [] (((!(rightB o.ctx n)) || (decide (n ≤ o.dot.rep))) || (decide (1073741824 < o.tick))) rfl (fun _ => rfl) rfl (fun _ _ _ _ h => h) fun D ρ w hG hs => L_ldW (cs := oc o) SA_33 hs 0 rfl rfl rfl ⟨rfl, hs⟩
  · exact obgy [18, 19] [] [19] (((!(rightB o.ctx n)) || (decide (n ≤ o.dot.rep))) || (decide (1073741824 < o.tick))) rfl (fun _ => rfl) rfl (fun _ _ _ _ h => h) (fun hG => ⟨hG, trivial⟩) fun D ρ w hG hs => L_callP (vs := [.agg (oc o).toArray]) (V := .bool (kindB o)) EN_103 rfl rfl (oKind_ok _ o (by assumption)) hs fun _ hs => ⟨rfl, hs⟩
  · exact obgy [18, 20] [] [20] (((!(rightB o.ctx n)) || (decide (n ≤ o.dot.rep))) || (decide (1073741824 < o.tick))) rfl (fun _ => rfl) rfl (fun _ _ _ _ h => h) (fun hG => ⟨hG, trivial⟩) fun D ρ w hG hs => L_not rfl ⟨rfl, hs⟩
  · exact ob [18, 21] [] rfl rfl fun D ρ w hs => L_orC (h' := !(kindB o)) rfl rfl rfl ⟨rfl, hs⟩
  rintro ρ1 w5 ρ2 hρ hs
  replace hρ : ρ2 = upd (mix [6, 7, 8, 9, 10, 11, 12, 13, 14, 15, 16, 17, 18, 19, 20, 21, 22, 23, 24, 25, 26, 27, 28] ρ1 _) 28 (.bool ((((!(rightB o.ctx n)) || (decide (n ≤ o.dot.rep))) || (decide (1073741824 < o.tick))) || (!(kindB o)))) := hρ
  subst hρ
  refine W_cond (t := (((!(rightB o.ctx n)) || (decide (n ≤ o.dot.rep))) || (decide (1073741824 < o.tick))) || (!(kindB o))) rfl (fun c6 => ?_) (fun c6 => ?_)
  ·
    refine W_seq ?_
    refine W_region ?_
    refine RW_op (L_assign (V := .bool false) rfl ?_)
    refine RW_nil ?_
    refine W_ret ?_
    refine ⟨_, res_one (V := .bool false) Tryz.results69 rfl, ?_⟩
    refine ⟨congrArg Ending.returned ?_, hs.take 0⟩
    exact congrArg Value.bool (right_no c6).symm
  ·
    have c6r := or_r c6
    replace c6 := or_l c6
    have c6rr := or_r c6
    replace c6 := or_l c6
    have c6rrr := or_r c6
    replace c6 := or_l c6
    replace c6 := not_f c6
    replace c6rrr := of_decide_eq_false c6rrr
    replace c6rr := of_decide_eq_false c6rr
    replace c6r := not_f c6r
    refine W_skip ?_
    refine W_seq ?_
    refine W_region ?_
    refine RW_op (L_fieldAddr FA_33_0 rfl ?_)
    refine RW_op (L_ldA (vs := dc o.dot) SA_30 hs 0 rfl rfl rfl rfl ?_)
    refine RW_op (L_alloc (cs := dc (⟨0, 0⟩ : Dot)) ZV_30 rfl hs fun b7 w8 hs => ?_)
    refine RW_op (L_st (V := .agg (dc o.dot).toArray) (vs := dc o.dot) (cs' := dc o.dot) SA_30.1 hs 1 rfl rfl rfl rfl rfl (Nat.le_of_ble_eq_true rfl) (dc_one _) (spl_whole rfl) fun w9 hs => ?_)
    refine RW_nil ?_
    refine W_seq ?_
    have hnn := rightB_n c6
    refine W_regD HM [some 31, some 32, some 33, some 34, some 35, some 36, some 37, some 38, some 39, some 40, some 41, some 42, some 43, some 44, some 45, some 46, some 47, some 48, some 49, some 4] [] [0, 1, 3, 7, 15, 31, 63, 127, 255, 511, 1023, 511, 4095, 8191, 511, 16895, 49663, 131071, 262143, 524287] [pv (.pointer (some ⟨b7, 0 + 1, none⟩)), pv (.int .u32 o.dot.seq), pv (.bool (decide (1 ≤ o.dot.seq))), pv (.bool (decide (1 ≤ o.dot.seq))), pg ((decide (1 ≤ o.dot.seq)) == true) (.pointer (some ⟨b7, 0 + 1, none⟩)), pg ((decide (1 ≤ o.dot.seq)) == true) (.int .u32 o.dot.seq), pg ((decide (1 ≤ o.dot.seq)) == true) (.bool (decide (o.dot.seq ≤ 1048576))), pv (.bool ((decide (1 ≤ o.dot.seq)) && (decide (o.dot.seq ≤ 1048576)))), pv (.bool ((decide (1 ≤ o.dot.seq)) && (decide (o.dot.seq ≤ 1048576)))), pg (((decide (1 ≤ o.dot.seq)) && (decide (o.dot.seq ≤ 1048576))) == true) (.pointer (some ⟨b7, 0 + 0, none⟩)), pg (((decide (1 ≤ o.dot.seq)) && (decide (o.dot.seq ≤ 1048576))) == true) (.int .u8 o.dot.rep), pg (((decide (1 ≤ o.dot.seq)) && (decide (o.dot.seq ≤ 1048576))) == true) (.pointer (some ⟨b1, 0 + 7, none⟩)), pg (((decide (1 ≤ o.dot.seq)) && (decide (o.dot.seq ≤ 1048576))) == true) (.pointer (some ⟨b1, 0 + 7 + o.dot.rep.toNat, none⟩)), pg (((decide (1 ≤ o.dot.seq)) && (decide (o.dot.seq ≤ 1048576))) == true) (.int .u32 (vat o.ctx o.dot.rep.toNat)), pg (((decide (1 ≤ o.dot.seq)) && (decide (o.dot.seq ≤ 1048576))) == true) (.pointer (some ⟨b7, 0 + 1, none⟩)), pg (((decide (1 ≤ o.dot.seq)) && (decide (o.dot.seq ≤ 1048576))) == true) (.int .u32 o.dot.seq), pg (((decide (1 ≤ o.dot.seq)) && (decide (o.dot.seq ≤ 1048576))) == true) (.int .u32 (o.dot.seq - 1)), pg (((decide (1 ≤ o.dot.seq)) && (decide (o.dot.seq ≤ 1048576))) == true) (.bool (decide (vat o.ctx o.dot.rep.toNat = o.dot.seq - 1))), pv (.bool (((decide (1 ≤ o.dot.seq)) && (decide (o.dot.seq ≤ 1048576))) && (decide (vat o.ctx o.dot.rep.toNat = o.dot.seq - 1)))), pv (.bool (((decide (1 ≤ o.dot.seq)) && (decide (o.dot.seq ≤ 1048576))) && (decide (vat o.ctx o.dot.rep.toNat = o.dot.seq - 1))))] (fun _ _ => _) [19] (by kernel_rfl) hs ⟨?_, ?_, ?_, ?_, ?_, ?_, ?_, ?_, ?_, ?_, ?_, ?_, ?_, ?_, ?_, ?_, ?_, ?_, ?_, ?_, trivial⟩ ?_
    · exact ob [] [] rfl rfl fun D ρ w hs => L_fieldAddr FA_30_1 rfl ⟨rfl, hs⟩
    · exact ob [0] [] rfl rfl fun D ρ w hs => L_ld (V := .int .u32 o.dot.seq) S1_22 hs 1 rfl rfl rfl ⟨rfl, hs⟩
    · exact ob [1] [] rfl rfl fun D ρ w hs => L_geq rfl rfl ⟨rfl, hs⟩
    · exact ob [2] [] rfl rfl fun D ρ w hs => L_move (V := .bool (decide (1 ≤ o.dot.seq))) rfl ⟨rfl, hs⟩
    · exact obg [3] [] (decide (1 ≤ o.dot.seq)) rfl (fun _ => rfl) rfl (fun _ _ _ _ h => h) fun D ρ w hG hs => L_fieldAddr FA_30_1 rfl ⟨rfl, hs⟩
    · exact obgy [3, 4] [] [4] (decide (1 ≤ o.dot.seq)) rfl (fun _ => rfl) rfl (fun _ _ _ _ h => h) (fun hG => ⟨hG, trivial⟩) fun D ρ w hG hs => L_ld (V := .int .u32 o.dot.seq) S1_22 hs 1 rfl rfl rfl ⟨rfl, hs⟩
    · exact obgy [3, 5] [] [5] (decide (1 ≤ o.dot.seq)) rfl (fun _ => rfl) rfl (fun _ _ _ _ h => h) (fun hG => ⟨hG, trivial⟩) fun D ρ w hG hs => L_leq rfl rfl ⟨rfl, hs⟩
    · exact ob [3, 6] [] rfl rfl fun D ρ w hs => L_andC (h' := decide (o.dot.seq ≤ 1048576)) rfl rfl rfl ⟨rfl, hs⟩
    · exact ob [7] [] rfl rfl fun D ρ w hs => L_move (V := .bool ((decide (1 ≤ o.dot.seq)) && (decide (o.dot.seq ≤ 1048576)))) rfl ⟨rfl, hs⟩
    · refine obg [8] [] ((decide (1 ≤ o.dot.seq)) && (decide (o.dot.seq ≤ 1048576))) rfl (fun _ => rfl) rfl (fun _ _ _ _ h => h) fun D ρ w hG hs => ?_
      have hg9 := and_l (eq_of_beq hG)
      have hgd := of_decide_eq_true hg9
      exact L_fieldAddr FA_30_0 rfl ⟨rfl, hs⟩
    · refine obgy [8, 9] [] [9] ((decide (1 ≤ o.dot.seq)) && (decide (o.dot.seq ≤ 1048576))) rfl (fun _ => rfl) rfl (fun _ _ _ _ h => h) (fun hG => ⟨hG, trivial⟩) fun D ρ w hG hs => ?_
      have hg9 := and_l (eq_of_beq hG)
      have hgd := of_decide_eq_true hg9
      exact L_ld (V := .int .u8 o.dot.rep) S1_5 hs 1 rfl rfl rfl ⟨rfl, hs⟩
    · refine obg [8] [] ((decide (1 ≤ o.dot.seq)) && (decide (o.dot.seq ≤ 1048576))) rfl (fun _ => rfl) rfl (fun _ _ _ _ h => h) fun D ρ w hG hs => ?_
      have hg9 := and_l (eq_of_beq hG)
      have hgd := of_decide_eq_true hg9
      exact L_fieldAddr FA_33_6 rfl ⟨rfl, hs⟩
    · refine obgy [8, 10, 11] [] [10, 11] ((decide (1 ≤ o.dot.seq)) && (decide (o.dot.seq ≤ 1048576))) rfl (fun _ => rfl) rfl (fun _ _ _ _ h => h) (fun hG => ⟨hG, hG, trivial⟩) fun D ρ w hG hs => ?_
      have hg9 := and_l (eq_of_beq hG)
      have hgd := of_decide_eq_true hg9
      exact L_ixArr1 UD_24 S1_22.1 rfl rfl (by omega) (by omega) ⟨rfl, hs⟩
    · refine obgy [8, 12] [] [12] ((decide (1 ≤ o.dot.seq)) && (decide (o.dot.seq ≤ 1048576))) rfl (fun _ => rfl) rfl (fun _ _ _ _ h => h) (fun hG => ⟨hG, trivial⟩) fun D ρ w hG hs => ?_
      have hg9 := and_l (eq_of_beq hG)
      have hgd := of_decide_eq_true hg9
      exact L_ld (V := .int .u32 (vat o.ctx o.dot.rep.toNat)) S1_22 hs 0 rfl rfl (oc_atO (by omega) (by omega)) ⟨rfl, hs⟩
    · refine obg [8] [] ((decide (1 ≤ o.dot.seq)) && (decide (o.dot.seq ≤ 1048576))) rfl (fun _ => rfl) rfl (fun _ _ _ _ h => h) fun D ρ w hG hs => ?_
      have hg9 := and_l (eq_of_beq hG)
      have hgd := of_decide_eq_true hg9
      exact L_fieldAddr FA_30_1 rfl ⟨rfl, hs⟩
    · refine obgy [8, 14] [] [14] ((decide (1 ≤ o.dot.seq)) && (decide (o.dot.seq ≤ 1048576))) rfl (fun _ => rfl) rfl (fun _ _ _ _ h => h) (fun hG => ⟨hG, trivial⟩) fun D ρ w hG hs => ?_
      have hg9 := and_l (eq_of_beq hG)
      have hgd := of_decide_eq_true hg9
      exact L_ld (V := .int .u32 o.dot.seq) S1_22 hs 1 rfl rfl rfl ⟨rfl, hs⟩
    · refine obgy [8, 15] [] [15] ((decide (1 ≤ o.dot.seq)) && (decide (o.dot.seq ≤ 1048576))) rfl (fun _ => rfl) rfl (fun _ _ _ _ h => h) (fun hG => ⟨hG, trivial⟩) fun D ρ w hG hs => ?_
      have hg9 := and_l (eq_of_beq hG)
      have hgd := of_decide_eq_true hg9
      exact L_sub (a := o.dot.seq) (b := 1) (c := o.dot.seq - 1) rfl rfl (wr_u32 (by omega) (by omega)) ⟨rfl, hs⟩
    · refine obgy [8, 13, 16] [] [13, 16] ((decide (1 ≤ o.dot.seq)) && (decide (o.dot.seq ≤ 1048576))) rfl (fun _ => rfl) rfl (fun _ _ _ _ h => h) (fun hG => ⟨hG, hG, trivial⟩) fun D ρ w hG hs => ?_
      have hg9 := and_l (eq_of_beq hG)
      have hgd := of_decide_eq_true hg9
      exact L_eql rfl rfl ⟨rfl, hs⟩
    · exact ob [8, 17] [] rfl rfl fun D ρ w hs => L_andC (h' := decide (vat o.ctx o.dot.rep.toNat = o.dot.seq - 1)) rfl rfl rfl ⟨rfl, hs⟩
    · exact ob [18] [] rfl rfl fun D ρ w hs => L_assign (V := .bool (((decide (1 ≤ o.dot.seq)) && (decide (o.dot.seq ≤ 1048576))) && (decide (vat o.ctx o.dot.rep.toNat = o.dot.seq - 1)))) rfl ⟨rfl, hs⟩
    rintro ρ1 w10 ρ2 hρ hs
    replace hρ : ρ2 = upd (mix [31, 32, 33, 34, 35, 36, 37, 38, 39, 40, 41, 42, 43, 44, 45, 46, 47, 48, 49, 4] ρ1 _) 4 (.bool (((decide (1 ≤ o.dot.seq)) && (decide (o.dot.seq ≤ 1048576))) && (decide (vat o.ctx o.dot.rep.toNat = o.dot.seq - 1)))) := hρ
    subst hρ
    refine W_ret ?_
    refine ⟨_, res_one (V := .bool (((decide (1 ≤ o.dot.seq)) && (decide (o.dot.seq ≤ 1048576))) && (decide (vat o.ctx o.dot.rep.toNat = o.dot.seq - 1)))) Tryz.results69 rfl, ?_⟩
    refine ⟨congrArg Ending.returned ?_, hs.take 0⟩
    exact congrArg Value.bool (right_if c6 c6rrr c6rr c6r).symm
set_option maxRecDepth 20000 in
set_option maxHeartbeats 4000000 in
theorem rRightO_ok (w : World) (o : Opn) (n : Int) (hO : OpnOk o) : Calls Tryz.prog 81 #[.agg (oc o).toArray, .int .i64 n] w (fun e w' => e = .returned (.bool (rightOn o n)) ∧ Own w no w' []) := by
  refine calls_of_Wn (n := 52) Tryz.func81 rfl Tryz.ntmps81 rfl ?_
  have hs := Own.start w
  have ⟨⟨⟨hr1, hr2⟩, hr3, hr4⟩, _, _, _, ⟨hq1, hq2⟩, _, hctx⟩ := hO
  refine W_seq ?_
  refine W_region ?_
  refine RW_op (L_box (V := .agg (oc o).toArray) (cs := oc o) rfl rfl hs fun b1 w2 hs => ?_)
  refine RW_op (L_assign (V := .bool false) rfl ?_)
  refine RW_nil ?_
  refine W_seq ?_
  refine W_seq ?_
  refine W_regO [some 5, some 6, some 7, some 8, some 9, some 10, some 11, some 12, some 13, some 14, some 15, some 16, some 17, some 18, some 19, some 20, some 21, some 22, some 23, some 24, some 25, some 26, some 27, some 28, some 29, some 30, some 31] [] [0, 1, 3, 7, 15, 31, 63, 127, 255, 511, 1023, 127, 4095, 8191, 16383, 32767, 65535, 131071, 262143, 524287, 1048575, 2097151, 4194303, 2097151, 16777215, 33554431, 67108863] [pv (.int .i64 n), pv (.bool (decide (n < 1))), pv (.bool (decide (n < 1))), pg ((decide (n < 1)) == false) (.int .i64 n), pg ((decide (n < 1)) == false) (.bool (decide (16 < n))), pv (.bool ((decide (n < 1)) || (decide (16 < n)))), pv (.bool ((decide (n < 1)) || (decide (16 < n)))), pg (((decide (n < 1)) || (decide (16 < n))) == false) (.pointer (some ⟨b1, 0 + 0, none⟩)), pg (((decide (n < 1)) || (decide (16 < n))) == false) (.pointer (some ⟨b1, 0 + 0 + 0, none⟩)), pg (((decide (n < 1)) || (decide (16 < n))) == false) (.int .u8 o.dot.rep), pg (((decide (n < 1)) || (decide (16 < n))) == false) (.int .i64 o.dot.rep), pg (((decide (n < 1)) || (decide (16 < n))) == false) (.int .i64 n), pg (((decide (n < 1)) || (decide (16 < n))) == false) (.bool (decide (n ≤ o.dot.rep))), pv (.bool (((decide (n < 1)) || (decide (16 < n))) || (decide (n ≤ o.dot.rep)))), pv (.bool (((decide (n < 1)) || (decide (16 < n))) || (decide (n ≤ o.dot.rep)))), pg ((((decide (n < 1)) || (decide (16 < n))) || (decide (n ≤ o.dot.rep))) == false) (.pointer (some ⟨b1, 0 + 0, none⟩)), pg ((((decide (n < 1)) || (decide (16 < n))) || (decide (n ≤ o.dot.rep))) == false) (.agg (dc o.dot).toArray), pg ((((decide (n < 1)) || (decide (16 < n))) || (decide (n ≤ o.dot.rep))) == false) (.bool (dotB o.dot)), pg ((((decide (n < 1)) || (decide (16 < n))) || (decide (n ≤ o.dot.rep))) == false) (.bool (!(dotB o.dot))), pv (.bool ((((decide (n < 1)) || (decide (16 < n))) || (decide (n ≤ o.dot.rep))) || (!(dotB o.dot)))), pv (.bool ((((decide (n < 1)) || (decide (16 < n))) || (decide (n ≤ o.dot.rep))) || (!(dotB o.dot)))), pg (((((decide (n < 1)) || (decide (16 < n))) || (decide (n ≤ o.dot.rep))) || (!(dotB o.dot))) == false) (.pointer (some ⟨b1, 0 + 7, none⟩)), pg (((((decide (n < 1)) || (decide (16 < n))) || (decide (n ≤ o.dot.rep))) || (!(dotB o.dot))) == false) (.agg (vc o.ctx).toArray), pg (((((decide (n < 1)) || (decide (16 < n))) || (decide (n ≤ o.dot.rep))) || (!(dotB o.dot))) == false) (.int .i64 n), pg (((((decide (n < 1)) || (decide (16 < n))) || (decide (n ≤ o.dot.rep))) || (!(dotB o.dot))) == false) (.bool (rightB o.ctx n)), pg (((((decide (n < 1)) || (decide (16 < n))) || (decide (n ≤ o.dot.rep))) || (!(dotB o.dot))) == false) (.bool (!(rightB o.ctx n))), pv (.bool (((((decide (n < 1)) || (decide (16 < n))) || (decide (n ≤ o.dot.rep))) || (!(dotB o.dot))) || (!(rightB o.ctx n))))] (fun _ _ => _) [26] (by kernel_rfl) hs ⟨?_, ?_, ?_, ?_, ?_, ?_, ?_, ?_, ?_, ?_, ?_, ?_, ?_, ?_, ?_, ?_, ?_, ?_, ?_, ?_, ?_, ?_, ?_, ?_, ?_, ?_, ?_, trivial⟩ ?_
  · exact ob [] [] rfl rfl fun D ρ w hs => L_move (V := .int .i64 n) rfl ⟨rfl, hs⟩
  · exact ob [0] [] rfl rfl fun D ρ w hs => L_lss rfl rfl ⟨rfl, hs⟩
  · exact ob [1] [] rfl rfl fun D ρ w hs => L_move (V := .bool (decide (n < 1))) rfl ⟨rfl, hs⟩
  · exact obg [2] [] (decide (n < 1)) rfl (fun _ => rfl) rfl (fun _ _ _ _ h => h) fun D ρ w hG hs => L_move (V := .int .i64 n) rfl ⟨rfl, hs⟩
  · exact obgy [2, 3] [] [3] (decide (n < 1)) rfl (fun _ => rfl) rfl (fun _ _ _ _ h => h) (fun hG => ⟨hG, trivial⟩) fun D ρ w hG hs => L_gtr rfl rfl ⟨rfl, hs⟩
  · exact ob [2, 4] [] rfl rfl fun D ρ w hs => L_orC (h' := decide (16 < n)) rfl rfl rfl ⟨rfl, hs⟩
  · exact ob [5] [] rfl rfl fun D ρ w hs => L_move (V := .bool ((decide (n < 1)) || (decide (16 < n)))) rfl ⟨rfl, hs⟩
  · exact obg [6] [] ((decide (n < 1)) || (decide (16 < n))) rfl (fun _ => rfl) rfl (fun _ _ _ _ h => h) fun D ρ w hG hs => L_fieldAddr FA_33_0 rfl ⟨rfl, hs⟩
  · exact obgy [6, 7] [] [7] ((decide (n < 1)) || (decide (16 < n))) rfl (fun _ => rfl) rfl (fun _ _ _ _ h => h) (fun hG => ⟨hG, trivial⟩) fun D ρ w hG hs => L_fieldAddr FA_30_0 rfl ⟨rfl, hs⟩
  · exact obgy [6, 8] [] [8] ((decide (n < 1)) || (decide (16 < n))) rfl (fun _ => rfl) rfl (fun _ _ _ _ h => h) (fun hG => ⟨hG, trivial⟩) fun D ρ w hG hs => L_ld (V := .int .u8 o.dot.rep) S1_5 hs 0 rfl rfl rfl ⟨rfl, hs⟩
  · exact obgy [6, 9] [] [9] ((decide (n < 1)) || (decide (16 < n))) rfl (fun _ => rfl) rfl (fun _ _ _ _ h => h) (fun hG => ⟨hG, trivial⟩) fun D ρ w hG hs => L_conv UD_5 UD_3 rfl (wr_i64 (by omega) (by omega)) ⟨rfl, hs⟩
  · exact obg [6] [] ((decide (n < 1)) || (decide (16 < n))) rfl (fun _ => rfl) rfl (fun _ _ _ _ h => h) fun D ρ w hG hs => L_move (V := .int .i64 n) rfl ⟨rfl, hs⟩
  · exact obgy [6, 10, 11] [] [10, 11] ((decide (n < 1)) || (decide (16 < n))) rfl (fun _ => rfl) rfl (fun _ _ _ _ h => h) (fun hG => ⟨hG, hG, trivial⟩) fun D ρ w hG hs => L_geq rfl rfl ⟨rfl, hs⟩
  · exact ob [6, 12] [] rfl rfl fun D ρ w hs => L_orC (h' := decide (n ≤ o.dot.rep)) rfl rfl rfl ⟨rfl, hs⟩
  · exact ob [13] [] rfl rfl fun D ρ w hs => L_move (V := .bool (((decide (n < 1)) || (decide (16 < n))) || (decide (n ≤ o.dot.rep)))) rfl ⟨rfl, hs⟩
  · exact obg [14] [] (((decide (n < 1)) || (decide (16 < n))) || (decide (n ≤ o.dot.rep))) rfl (fun _ => rfl) rfl (fun _ _ _ _ h => h) fun D ρ w hG hs => L_fieldAddr FA_33_0 rfl ⟨rfl, hs⟩
  · exact obgy [14, 15] [] [15] (((decide (n < 1)) || (decide (16 < n))) || (decide (n ≤ o.dot.rep))) rfl (fun _ => rfl) rfl (fun _ _ _ _ h => h) (fun hG => ⟨hG, trivial⟩) fun D ρ w hG hs => L_ldA (vs := dc o.dot) SA_30 hs 0 rfl rfl rfl rfl ⟨rfl, hs⟩
  · exact obgy [14, 16] [] [16] (((decide (n < 1)) || (decide (16 < n))) || (decide (n ≤ o.dot.rep))) rfl (fun _ => rfl) rfl (fun _ _ _ _ h => h) (fun hG => ⟨hG, trivial⟩) fun D ρ w hG hs => L_callP (vs := [.agg (dc o.dot).toArray]) (V := .bool (dotB o.dot)) EN_87 rfl rfl (rDot_ok _ o.dot) hs fun _ hs => ⟨rfl, hs⟩
  · exact obgy [14, 17] [] [17] (((decide (n < 1)) || (decide (16 < n))) || (decide (n ≤ o.dot.rep))) rfl (fun _ => rfl) rfl (fun _ _ _ _ h => h) (fun hG => ⟨hG, trivial⟩) fun D ρ w hG hs => L_not rfl ⟨rfl, hs⟩
  · exact ob [14, 18] [] rfl rfl fun D ρ w hs => L_orC (h' := !(dotB o.dot)) rfl rfl rfl ⟨rfl, hs⟩
  · exact ob [19] [] rfl rfl fun D ρ w hs => L_move (V := .bool ((((decide (n < 1)) || (decide (16 < n))) || (decide (n ≤ o.dot.rep))) || (!(dotB o.dot)))) rfl ⟨rfl, hs⟩
  · exact obg [20] [] ((((decide (n < 1)) || (decide (16 < n))) || (decide (n ≤ o.dot.rep))) || (!(dotB o.dot))) rfl (fun _ => rfl) rfl (fun _ _ _ _ h => h) fun D ρ w hG hs => L_fieldAddr FA_33_6 rfl ⟨rfl, hs⟩
  · exact obgy [20, 21] [] [21] ((((decide (n < 1)) || (decide (16 < n))) || (decide (n ≤ o.dot.rep))) || (!(dotB o.dot))) rfl (fun _ => rfl) rfl (fun _ _ _ _ h => h) (fun hG => ⟨hG, trivial⟩) fun D ρ w hG hs => L_ldA (vs := vc o.ctx) SA_24 hs 0 rfl rfl rfl rfl ⟨rfl, hs⟩
  · exact obg [20] [] ((((decide (n < 1)) || (decide (16 < n))) || (decide (n ≤ o.dot.rep))) || (!(dotB o.dot))) rfl (fun _ => rfl) rfl (fun _ _ _ _ h => h) fun D ρ w hG hs => L_move (V := .int .i64 n) rfl ⟨rfl, hs⟩
  · exact obgy [20, 22, 23] [] [22, 23] ((((decide (n < 1)) || (decide (16 < n))) || (decide (n ≤ o.dot.rep))) || (!(dotB o.dot))) rfl (fun _ => rfl) rfl (fun _ _ _ _ h => h) (fun hG => ⟨hG, hG, trivial⟩) fun D ρ w hG hs => L_callP (vs := [.agg (vc o.ctx).toArray, .int .i64 n]) (V := .bool (rightB o.ctx n)) EN_50 rfl rfl (rRight_ok _ o.ctx n (by first | assumption | exact vzero_ok)) hs fun _ hs => ⟨rfl, hs⟩
  · exact obgy [20, 24] [] [24] ((((decide (n < 1)) || (decide (16 < n))) || (decide (n ≤ o.dot.rep))) || (!(dotB o.dot))) rfl (fun _ => rfl) rfl (fun _ _ _ _ h => h) (fun hG => ⟨hG, trivial⟩) fun D ρ w hG hs => L_not rfl ⟨rfl, hs⟩
  · exact ob [20, 25] [] rfl rfl fun D ρ w hs => L_orC (h' := !(rightB o.ctx n)) rfl rfl rfl ⟨rfl, hs⟩
  rintro ρ1 w5 ρ2 hρ hs
  replace hρ : ρ2 = upd (mix [5, 6, 7, 8, 9, 10, 11, 12, 13, 14, 15, 16, 17, 18, 19, 20, 21, 22, 23, 24, 25, 26, 27, 28, 29, 30, 31] ρ1 _) 31 (.bool (((((decide (n < 1)) || (decide (16 < n))) || (decide (n ≤ o.dot.rep))) || (!(dotB o.dot))) || (!(rightB o.ctx n)))) := hρ
  subst hρ
  refine W_cond (t := ((((decide (n < 1)) || (decide (16 < n))) || (decide (n ≤ o.dot.rep))) || (!(dotB o.dot))) || (!(rightB o.ctx n))) rfl (fun c6 => ?_) (fun c6 => ?_)
  ·
    refine W_seq ?_
    refine W_region ?_
    refine RW_op (L_assign (V := .bool false) rfl ?_)
    refine RW_nil ?_
    refine W_ret ?_
    refine ⟨_, res_one (V := .bool false) Tryz.results81 rfl, ?_⟩
    refine ⟨congrArg Ending.returned ?_, hs.take 0⟩
    exact congrArg Value.bool (rightR_no c6).symm
  ·
    have c6r := or_r c6
    replace c6 := or_l c6
    have c6rr := or_r c6
    replace c6 := or_l c6
    have c6rrr := or_r c6
    replace c6 := or_l c6
    have c6rrrr := or_r c6
    replace c6 := or_l c6
    replace c6 := of_decide_eq_false c6
    replace c6rrrr := of_decide_eq_false c6rrrr
    replace c6rrr := of_decide_eq_false c6rrr
    replace c6rr := not_f c6rr
    replace c6r := not_f c6r
    refine W_skip ?_
    refine W_seq ?_
    have hnn := rightB_n c6r
    have hdd := dotB_spec c6rr
    refine W_regD HM [some 32, some 33, some 34, some 35, some 36, some 37, some 38, some 39, some 40, some 41, some 42, some 43, some 44, some 45, some 46, some 47, some 48, some 49, some 50, some 51, some 4] [] [0, 1, 3, 0, 15, 31, 0, 64, 192, 448, 1023, 2047, 4095, 8191, 16383, 32767, 65535, 131071, 262143, 524287, 1048575] [pv (.pointer (some ⟨b1, 0 + 0, none⟩)), pv (.pointer (some ⟨b1, 0 + 0 + 0, none⟩)), pv (.int .u8 o.dot.rep), pv (.pointer (some ⟨b1, 0 + 7, none⟩)), pv (.pointer (some ⟨b1, 0 + 7 + o.dot.rep.toNat, none⟩)), pv (.int .u32 (vat o.ctx o.dot.rep.toNat)), pv (.pointer (some ⟨b1, 0 + 0, none⟩)), pv (.pointer (some ⟨b1, 0 + 0 + 1, none⟩)), pv (.int .u32 o.dot.seq), pv (.int .u32 (o.dot.seq - 1)), pv (.bool (decide (vat o.ctx o.dot.rep.toNat = o.dot.seq - 1))), pv (.bool (decide (vat o.ctx o.dot.rep.toNat = o.dot.seq - 1))), pg ((decide (vat o.ctx o.dot.rep.toNat = o.dot.seq - 1)) == true) (.pointer (some ⟨b1, 0 + 6, none⟩)), pg ((decide (vat o.ctx o.dot.rep.toNat = o.dot.seq - 1)) == true) (.int .u32 o.tick), pg ((decide (vat o.ctx o.dot.rep.toNat = o.dot.seq - 1)) == true) (.bool (decide (o.tick ≤ 1073741824))), pv (.bool ((decide (vat o.ctx o.dot.rep.toNat = o.dot.seq - 1)) && (decide (o.tick ≤ 1073741824)))), pv (.bool ((decide (vat o.ctx o.dot.rep.toNat = o.dot.seq - 1)) && (decide (o.tick ≤ 1073741824)))), pg (((decide (vat o.ctx o.dot.rep.toNat = o.dot.seq - 1)) && (decide (o.tick ≤ 1073741824))) == true) (.agg (oc o).toArray), pg (((decide (vat o.ctx o.dot.rep.toNat = o.dot.seq - 1)) && (decide (o.tick ≤ 1073741824))) == true) (.bool (kindB o)), pv (.bool (((decide (vat o.ctx o.dot.rep.toNat = o.dot.seq - 1)) && (decide (o.tick ≤ 1073741824))) && (kindB o))), pv (.bool (((decide (vat o.ctx o.dot.rep.toNat = o.dot.seq - 1)) && (decide (o.tick ≤ 1073741824))) && (kindB o)))] (fun _ _ => _) [20] (by kernel_rfl) hs ⟨?_, ?_, ?_, ?_, ?_, ?_, ?_, ?_, ?_, ?_, ?_, ?_, ?_, ?_, ?_, ?_, ?_, ?_, ?_, ?_, ?_, trivial⟩ ?_
    · exact ob [] [] rfl rfl fun D ρ w hs => L_fieldAddr FA_33_0 rfl ⟨rfl, hs⟩
    · exact ob [0] [] rfl rfl fun D ρ w hs => L_fieldAddr FA_30_0 rfl ⟨rfl, hs⟩
    · exact ob [1] [] rfl rfl fun D ρ w hs => L_ld (V := .int .u8 o.dot.rep) S1_5 hs 0 rfl rfl rfl ⟨rfl, hs⟩
    · exact ob [] [] rfl rfl fun D ρ w hs => L_fieldAddr FA_33_6 rfl ⟨rfl, hs⟩
    · exact ob [2, 3] [] rfl rfl fun D ρ w hs => L_ixArr1 UD_24 S1_22.1 rfl rfl (by omega) (by omega) ⟨rfl, hs⟩
    · exact ob [4] [] rfl rfl fun D ρ w hs => L_ld (V := .int .u32 (vat o.ctx o.dot.rep.toNat)) S1_22 hs 0 rfl rfl (oc_atO (by omega) (by omega)) ⟨rfl, hs⟩
    · exact ob [] [] rfl rfl fun D ρ w hs => L_fieldAddr FA_33_0 rfl ⟨rfl, hs⟩
    · exact ob [6] [] rfl rfl fun D ρ w hs => L_fieldAddr FA_30_1 rfl ⟨rfl, hs⟩
    · exact ob [7] [] rfl rfl fun D ρ w hs => L_ld (V := .int .u32 o.dot.seq) S1_22 hs 0 rfl rfl rfl ⟨rfl, hs⟩
    · exact ob [8] [] rfl rfl fun D ρ w hs => L_sub (a := o.dot.seq) (b := 1) (c := o.dot.seq - 1) rfl rfl (wr_u32 (by omega) (by omega)) ⟨rfl, hs⟩
    · exact ob [5, 9] [] rfl rfl fun D ρ w hs => L_eql rfl rfl ⟨rfl, hs⟩
    · exact ob [10] [] rfl rfl fun D ρ w hs => L_move (V := .bool (decide (vat o.ctx o.dot.rep.toNat = o.dot.seq - 1))) rfl ⟨rfl, hs⟩
    · exact obg [11] [] (decide (vat o.ctx o.dot.rep.toNat = o.dot.seq - 1)) rfl (fun _ => rfl) rfl (fun _ _ _ _ h => h) fun D ρ w hG hs => L_fieldAddr FA_33_5 rfl ⟨rfl, hs⟩
    · exact obgy [11, 12] [] [12] (decide (vat o.ctx o.dot.rep.toNat = o.dot.seq - 1)) rfl (fun _ => rfl) rfl (fun _ _ _ _ h => h) (fun hG => ⟨hG, trivial⟩) fun D ρ w hG hs => L_ld (V := .int .u32 o.tick) S1_22 hs 0 rfl rfl rfl ⟨rfl, hs⟩
    · exact obgy [11, 13] [] [13] (decide (vat o.ctx o.dot.rep.toNat = o.dot.seq - 1)) rfl (fun _ => rfl) rfl (fun _ _ _ _ h => h) (fun hG => ⟨hG, trivial⟩) fun D ρ w hG hs => L_leq rfl rfl ⟨rfl, hs⟩
    · exact ob [11, 14] [] rfl rfl fun D ρ w hs => L_andC (h' := decide (o.tick ≤ 1073741824)) rfl rfl rfl ⟨rfl, hs⟩
    · exact ob [15] [] rfl rfl fun D ρ w hs => L_move (V := .bool ((decide (vat o.ctx o.dot.rep.toNat = o.dot.seq - 1)) && (decide (o.tick ≤ 1073741824)))) rfl ⟨rfl, hs⟩
    · exact obg [16] [] ((decide (vat o.ctx o.dot.rep.toNat = o.dot.seq - 1)) && (decide (o.tick ≤ 1073741824))) rfl (fun _ => rfl) rfl (fun _ _ _ _ h => h) fun D ρ w hG hs => L_ldW (cs := oc o) SA_33 hs 0 rfl rfl rfl ⟨rfl, hs⟩
    · exact obgy [16, 17] [] [17] ((decide (vat o.ctx o.dot.rep.toNat = o.dot.seq - 1)) && (decide (o.tick ≤ 1073741824))) rfl (fun _ => rfl) rfl (fun _ _ _ _ h => h) (fun hG => ⟨hG, trivial⟩) fun D ρ w hG hs => L_callP (vs := [.agg (oc o).toArray]) (V := .bool (kindB o)) EN_109 rfl rfl (rKind_ok _ o (by assumption)) hs fun _ hs => ⟨rfl, hs⟩
    · exact ob [16, 18] [] rfl rfl fun D ρ w hs => L_andC (h' := kindB o) rfl rfl rfl ⟨rfl, hs⟩
    · exact ob [19] [] rfl rfl fun D ρ w hs => L_assign (V := .bool (((decide (vat o.ctx o.dot.rep.toNat = o.dot.seq - 1)) && (decide (o.tick ≤ 1073741824))) && (kindB o))) rfl ⟨rfl, hs⟩
    rintro ρ1 w8 ρ2 hρ hs
    replace hρ : ρ2 = upd (mix [32, 33, 34, 35, 36, 37, 38, 39, 40, 41, 42, 43, 44, 45, 46, 47, 48, 49, 50, 51, 4] ρ1 _) 4 (.bool (((decide (vat o.ctx o.dot.rep.toNat = o.dot.seq - 1)) && (decide (o.tick ≤ 1073741824))) && (kindB o))) := hρ
    subst hρ
    refine W_ret ?_
    refine ⟨_, res_one (V := .bool (((decide (vat o.ctx o.dot.rep.toNat = o.dot.seq - 1)) && (decide (o.tick ≤ 1073741824))) && (kindB o))) Tryz.results81 rfl, ?_⟩
    refine ⟨congrArg Ending.returned ?_, hs.take 0⟩
    exact congrArg Value.bool (rightR_if c6rrr c6rr c6r).symm
set_option maxRecDepth 20000 in
set_option maxHeartbeats 4000000 in
theorem oReady_ok (w : World) (known : Vec) (o : Opn) (hO : OpnOk o) : Calls Tryz.prog 27 #[.agg (vc known).toArray, .agg (oc o).toArray] w (fun e w' => e = .returned (.int .i64 (readyI known o)) ∧ Own w no w' []) := by
  refine calls_of_Wn (n := 20) Tryz.func27 rfl Tryz.ntmps27 rfl ?_
  have hs := Own.start w
  have hdo := hO.1
  refine W_seq ?_
  refine W_region ?_
  refine RW_op (L_box (V := .agg (vc known).toArray) (cs := vc known) rfl rfl hs fun b1 w2 hs => ?_)
  refine RW_op (L_box (V := .agg (oc o).toArray) (cs := oc o) rfl rfl hs fun b3 w4 hs => ?_)
  refine RW_op (L_assign (V := .int .i64 0) rfl ?_)
  refine RW_nil ?_
  refine W_seq ?_
  refine W_block ?_
  refine W_seq ?_
  refine W_region ?_
  refine RW_op (L_ldW (cs := oc o) SA_33 hs 1 rfl rfl rfl ?_)
  refine RW_op (L_callP (vs := [.agg (oc o).toArray, .int .i64 16]) (V := .bool (rightOn o 16)) EN_69 rfl rfl ?hc hs fun w5 hs => ?_)
  case hc => exact (oRight_ok _ o 16 (by assumption))
  refine RW_op (L_not rfl ?_)
  refine RW_op (L_assign (V := .bool (!(rightOn o 16))) rfl ?_)
  refine RW_nil ?_
  refine W_cond (t := !(rightOn o 16)) rfl (fun c6 => ?_) (fun c6 => ?_)
  ·
    replace c6 := not_t c6
    refine W_seq ?_
    refine W_region ?_
    refine RW_op (L_assign (V := .int .i64 2) rfl ?_)
    refine RW_nil ?_
    refine W_ret ?_
    refine ⟨_, res_one (V := .int .i64 2) Tryz.results27 rfl, ?_⟩
    refine ⟨congrArg Ending.returned ?_, hs.take 0⟩
    refine congrArg (Value.int IntKind.i64) ?_
    unfold readyI
    rw [← rightOn_16]
    simp_all
  ·
    replace c6 := not_f c6
    refine W_seq ?_
    refine W_region ?_
    refine RW_op (L_ldW (cs := vc known) SA_24 hs 0 rfl rfl rfl ?_)
    refine RW_op (L_fieldAddr FA_33_0 rfl ?_)
    refine RW_op (L_ldA (vs := dc o.dot) SA_30 hs 1 rfl rfl rfl rfl ?_)
    refine RW_op (L_callP (vs := [.agg (vc known).toArray, .agg (dc o.dot).toArray]) (V := .bool (hasB known o.dot)) EN_47 rfl rfl ?hc hs fun w7 hs => ?_)
    case hc => exact (vHas_ok _ known o.dot (by first | assumption | exact dotOk_mk (by omega) (by omega) (by omega) (by omega)))
    refine RW_op (L_assign (V := .bool (hasB known o.dot)) rfl ?_)
    refine RW_nil ?_
    refine W_cond (t := hasB known o.dot) rfl (fun c8 => ?_) (fun c8 => ?_)
    ·
      refine W_seq ?_
      refine W_region ?_
      refine RW_op (L_assign (V := .int .i64 8) rfl ?_)
      refine RW_nil ?_
      refine W_ret ?_
      refine ⟨_, res_one (V := .int .i64 8) Tryz.results27 rfl, ?_⟩
      refine ⟨congrArg Ending.returned ?_, hs.take 0⟩
      refine congrArg (Value.int IntKind.i64) ?_
      unfold readyI
      rw [← rightOn_16]
      simp_all
    ·
      refine W_seq ?_
      refine W_region ?_
      refine RW_op (L_fieldAddr FA_33_6 rfl ?_)
      refine RW_op (L_ldA (vs := vc o.ctx) SA_24 hs 1 rfl rfl rfl rfl ?_)
      refine RW_op (L_ldW (cs := vc known) SA_24 hs 0 rfl rfl rfl ?_)
      refine RW_op (L_callP (vs := [.agg (vc o.ctx).toArray, .agg (vc known).toArray]) (V := .bool (vle o.ctx known)) EN_70 rfl rfl ?hc hs fun w9 hs => ?_)
      case hc => exact (vBelow_ok _ o.ctx known)
      refine RW_op (L_not rfl ?_)
      refine RW_op (L_assign (V := .bool (!(vle o.ctx known))) rfl ?_)
      refine RW_nil ?_
      refine W_cond (t := !(vle o.ctx known)) rfl (fun c10 => ?_) (fun c10 => ?_)
      ·
        replace c10 := not_t c10
        refine W_seq ?_
        refine W_region ?_
        refine RW_op (L_assign (V := .int .i64 9) rfl ?_)
        refine RW_nil ?_
        refine W_ret ?_
        refine ⟨_, res_one (V := .int .i64 9) Tryz.results27 rfl, ?_⟩
        refine ⟨congrArg Ending.returned ?_, hs.take 0⟩
        refine congrArg (Value.int IntKind.i64) ?_
        unfold readyI
        rw [← rightOn_16]
        simp_all
      ·
        replace c10 := not_f c10
        refine W_skip ?_
        refine W_seq ?_
        refine W_region ?_
        refine RW_op (L_assign (V := .int .i64 0) rfl ?_)
        refine RW_nil ?_
        refine W_ret ?_
        refine ⟨_, res_one (V := .int .i64 0) Tryz.results27 rfl, ?_⟩
        refine ⟨congrArg Ending.returned ?_, hs.take 0⟩
        refine congrArg (Value.int IntKind.i64) ?_
        unfold readyI
        rw [← rightOn_16]
        simp_all
set_option maxRecDepth 20000 in
set_option maxHeartbeats 4000000 in
theorem rReady_ok (w : World) (known : Vec) (o : Opn) (hO : OpnOk o) : Calls Tryz.prog 38 #[.agg (vc known).toArray, .agg (oc o).toArray] w (fun e w' => e = .returned (.int .i64 (readyI known o)) ∧ Own w no w' []) := by
  refine calls_of_Wn (n := 20) Tryz.func38 rfl Tryz.ntmps38 rfl ?_
  have hs := Own.start w
  have hdo := hO.1
  refine W_seq ?_
  refine W_region ?_
  refine RW_op (L_box (V := .agg (vc known).toArray) (cs := vc known) rfl rfl hs fun b1 w2 hs => ?_)
  refine RW_op (L_box (V := .agg (oc o).toArray) (cs := oc o) rfl rfl hs fun b3 w4 hs => ?_)
  refine RW_op (L_assign (V := .int .i64 0) rfl ?_)
  refine RW_nil ?_
  refine W_seq ?_
  refine W_block ?_
  refine W_seq ?_
  refine W_region ?_
  refine RW_op (L_ldW (cs := oc o) SA_33 hs 1 rfl rfl rfl ?_)
  refine RW_op (L_callP (vs := [.agg (oc o).toArray, .int .i64 16]) (V := .bool (rightOn o 16)) EN_81 rfl rfl ?hc hs fun w5 hs => ?_)
  case hc => exact (rRightO_ok _ o 16 (by assumption))
  refine RW_op (L_not rfl ?_)
  refine RW_op (L_assign (V := .bool (!(rightOn o 16))) rfl ?_)
  refine RW_nil ?_
  refine W_cond (t := !(rightOn o 16)) rfl (fun c6 => ?_) (fun c6 => ?_)
  ·
    replace c6 := not_t c6
    refine W_seq ?_
    refine W_region ?_
    refine RW_op (L_assign (V := .int .i64 2) rfl ?_)
    refine RW_nil ?_
    refine W_ret ?_
    refine ⟨_, res_one (V := .int .i64 2) Tryz.results38 rfl, ?_⟩
    refine ⟨congrArg Ending.returned ?_, hs.take 0⟩
    refine congrArg (Value.int IntKind.i64) ?_
    unfold readyI
    rw [← rightOn_16]
    simp_all
  ·
    replace c6 := not_f c6
    refine W_seq ?_
    refine W_region ?_
    refine RW_op (L_ldW (cs := vc known) SA_24 hs 0 rfl rfl rfl ?_)
    refine RW_op (L_fieldAddr FA_33_0 rfl ?_)
    refine RW_op (L_ldA (vs := dc o.dot) SA_30 hs 1 rfl rfl rfl rfl ?_)
    refine RW_op (L_callP (vs := [.agg (vc known).toArray, .agg (dc o.dot).toArray]) (V := .bool (hasB known o.dot)) EN_52 rfl rfl ?hc hs fun w7 hs => ?_)
    case hc => exact (rHas_ok _ known o.dot (by first | assumption | exact dotOk_mk (by omega) (by omega) (by omega) (by omega)))
    refine RW_op (L_assign (V := .bool (hasB known o.dot)) rfl ?_)
    refine RW_nil ?_
    refine W_cond (t := hasB known o.dot) rfl (fun c8 => ?_) (fun c8 => ?_)
    ·
      refine W_seq ?_
      refine W_region ?_
      refine RW_op (L_assign (V := .int .i64 8) rfl ?_)
      refine RW_nil ?_
      refine W_ret ?_
      refine ⟨_, res_one (V := .int .i64 8) Tryz.results38 rfl, ?_⟩
      refine ⟨congrArg Ending.returned ?_, hs.take 0⟩
      refine congrArg (Value.int IntKind.i64) ?_
      unfold readyI
      rw [← rightOn_16]
      simp_all
    ·
      refine W_seq ?_
      refine W_region ?_
      refine RW_op (L_fieldAddr FA_33_6 rfl ?_)
      refine RW_op (L_ldA (vs := vc o.ctx) SA_24 hs 1 rfl rfl rfl rfl ?_)
      refine RW_op (L_ldW (cs := vc known) SA_24 hs 0 rfl rfl rfl ?_)
      refine RW_op (L_callP (vs := [.agg (vc o.ctx).toArray, .agg (vc known).toArray]) (V := .bool (vle o.ctx known)) EN_53 rfl rfl ?hc hs fun w9 hs => ?_)
      case hc => exact (rBelow_ok _ o.ctx known)
      refine RW_op (L_not rfl ?_)
      refine RW_op (L_assign (V := .bool (!(vle o.ctx known))) rfl ?_)
      refine RW_nil ?_
      refine W_cond (t := !(vle o.ctx known)) rfl (fun c10 => ?_) (fun c10 => ?_)
      ·
        replace c10 := not_t c10
        refine W_seq ?_
        refine W_region ?_
        refine RW_op (L_assign (V := .int .i64 9) rfl ?_)
        refine RW_nil ?_
        refine W_ret ?_
        refine ⟨_, res_one (V := .int .i64 9) Tryz.results38 rfl, ?_⟩
        refine ⟨congrArg Ending.returned ?_, hs.take 0⟩
        refine congrArg (Value.int IntKind.i64) ?_
        unfold readyI
        rw [← rightOn_16]
        simp_all
      ·
        replace c10 := not_f c10
        refine W_skip ?_
        refine W_seq ?_
        refine W_region ?_
        refine RW_op (L_assign (V := .int .i64 0) rfl ?_)
        refine RW_nil ?_
        refine W_ret ?_
        refine ⟨_, res_one (V := .int .i64 0) Tryz.results38 rfl, ?_⟩
        refine ⟨congrArg Ending.returned ?_, hs.take 0⟩
        refine congrArg (Value.int IntKind.i64) ?_
        unfold readyI
        rw [← rightOn_16]
        simp_all
end Tt
end Go.Proofs
namespace Go.Proofs
open Go Go.Vx Go.RowKit
namespace Tt
set_option maxRecDepth 20000 in
set_option maxHeartbeats 4000000 in
theorem sOwn_ok (w : World) (s : Sta) (a1 : Option Addr) (c1 : Nat) (a2 : Option Addr) (c2 : Nat) (hok : StaOk s) (hle : s.ents.length ≤ 1000) (hlt : s.ticks.length ≤ 1000) (hr1 : Rd w (.slice a1 s.ents.length c1) 7 (s.ents.map cec)) (hr2 : Rd w (.slice a2 s.ticks.length c2) 2 (s.ticks.map lsc)) : Calls Tryz.prog 28 #[.agg ((vc s.known) ++ [(.slice a1 s.ents.length c1 : Value), (.slice a2 s.ticks.length c2 : Value) ]).toArray] w (fun e w' => ∃ x : (Option Addr × Nat) × (Option Addr × Nat), e = .returned (.agg (vc (s).known ++ [(.slice x.1.1 (s).ents.length x.1.2 : Value), (.slice x.2.1 (s).ticks.length x.2.2 : Value)]).toArray) ∧ Own w no w' [row (.slice x.1.1 (s).ents.length x.1.2) ((s).ents.map cec) 59 7, row (.slice x.2.1 (s).ticks.length x.2.2) ((s).ticks.map lsc) 87 2] ∧ True) := by
  refine calls_of_Wn (n := 12) Tryz.func28 rfl Tryz.ntmps28 rfl ?_
  have hs := Own.start w
  refine W_seq ?_
  refine W_region ?_
  refine RW_op (L_box (V := .agg ((vc s.known) ++ [(.slice a1 s.ents.length c1 : Value), (.slice a2 s.ticks.length c2 : Value) ]).toArray) (cs := (vc s.known) ++ [(.slice a1 s.ents.length c1 : Value), (.slice a2 s.ticks.length c2 : Value) ]) rfl rfl hs fun b1 w2 hs => ?_)
  refine RW_op (L_alloc (cs := (vc vzero) ++ [(.slice none 0 0 : Value), (.slice none 0 0 : Value) ]) ZV_39 rfl hs fun b3 w4 hs => ?_)
  refine RW_nil ?_
  refine W_seq ?_
  replace hs := hs.more emp trivial
  replace hs := hs.more emp trivial
  refine W_regD HM [some 3, some 4, some 5, some 6, some 7, some 8, some 9, some 10, some 11, none] [[], [], [], [], [7], [], [], [10], [7, 10]] [0, 1, 0, 4, 12, 0, 32, 124, 255, 511] [pv (.pointer (some ⟨b1, 0 + 0, none⟩)), pv (.agg (vc s.known).toArray), pv (.pointer (some ⟨b1, 0 + 16, none⟩)), pv (.slice a1 s.ents.length c1), (true, fun ρ => .slice (aOf (ρ 7)) ((s.ents).length) (cOf (ρ 7))), pv (.pointer (some ⟨b1, 0 + 17, none⟩)), pv (.slice a2 s.ticks.length c2), (true, fun ρ => .slice (aOf (ρ 10)) ((s.ticks).length) (cOf (ρ 10))), (true, fun ρ => .agg ((vc s.known) ++ [(.slice (aOf (ρ 7)) ((s.ents).length) (cOf (ρ 7)) : Value), (.slice (aOf (ρ 10)) ((s.ticks).length) (cOf (ρ 10)) : Value) ]).toArray), pn] (fun D ρ => [blk b1 ((vc s.known) ++ [(.slice a1 s.ents.length c1 : Value), (.slice a2 s.ticks.length c2 : Value) ]) 39, cond (D 9) (blk b3 ((vc s.known) ++ [(.slice (aOf (ρ 7)) ((s.ents).length) (cOf (ρ 7)) : Value), (.slice (aOf (ρ 10)) ((s.ticks).length) (cOf (ρ 10)) : Value) ]) 39) (blk b3 ((vc vzero) ++ [(.slice none 0 0 : Value), (.slice none 0 0 : Value) ]) 39), cond (D 4) (row (.slice (aOf (ρ 7)) ((s.ents).length) (cOf (ρ 7))) (s.ents.map cec) 59 7) (emp), cond (D 7) (row (.slice (aOf (ρ 10)) ((s.ticks).length) (cOf (ρ 10))) (s.ticks.map lsc) 87 2) (emp)]) [] (by kernel_rfl) hs ⟨?_, ?_, ?_, ?_, ?_, ?_, ?_, ?_, ?_, ?_, trivial⟩ ?_
  · exact ob [] [] rfl rfl fun D ρ w hs => L_fieldAddr FA_39_0 rfl ⟨rfl, hs⟩
  · exact ob [0] [] rfl rfl fun D ρ w hs => L_ldA (vs := vc s.known) SA_24 hs 0 rfl rfl rfl rfl ⟨rfl, hs⟩
  · exact ob [] [] rfl rfl fun D ρ w hs => L_fieldAddr FA_39_1 rfl ⟨rfl, hs⟩
  · exact ob [2] [] rfl rfl fun D ρ w hs => L_ld (V := .slice a1 s.ents.length c1) S1_36 hs 0 rfl rfl rfl ⟨rfl, hs⟩
  · exact ob [3] [9] rfl rfl fun D ρ w hs => L_callX (vs := [.slice a1 s.ents.length c1]) (V := fun x : Option Addr × Nat => .slice x.1 (s.ents).length x.2) EN_71 rfl rfl (cln59_ok _ a1 c1 s.ents (by omega) (Rd.own' hr1 hs)) hs fun _ _ hs _ => ⟨rfl, hs.put 2 (Nat.le_of_ble_eq_true rfl)⟩
  · exact ob [] [] rfl rfl fun D ρ w hs => L_fieldAddr FA_39_2 rfl ⟨rfl, hs⟩
  · exact ob [5] [] rfl rfl fun D ρ w hs => L_ld (V := .slice a2 s.ticks.length c2) S1_37 hs 0 rfl rfl rfl ⟨rfl, hs⟩
  · exact ob [6] [9] rfl rfl fun D ρ w hs => L_callX (vs := [.slice a2 s.ticks.length c2]) (V := fun x : Option Addr × Nat => .slice x.1 (s.ticks).length x.2) EN_67 rfl rfl (cln87_ok _ a2 c2 s.ticks (by omega) (Rd.own' hr2 hs)) hs fun _ _ hs _ => ⟨rfl, hs.put 3 (Nat.le_of_ble_eq_true rfl)⟩
  · exact ob [1, 4, 7] [] rfl rfl fun D ρ w hs => L_buildP (vs := [(0, .agg (vc s.known).toArray), (1, .slice (aOf (ρ 7)) ((s.ents).length) (cOf (ρ 7))), (2, .slice (aOf (ρ 10)) ((s.ticks).length) (cOf (ρ 10)))]) (cs := (vc s.known) ++ [(.slice (aOf (ρ 7)) ((s.ents).length) (cOf (ρ 7)) : Value), (.slice (aOf (ρ 10)) ((s.ticks).length) (cOf (ρ 10)) : Value) ]) [vc vzero, [(.slice none 0 0 : Value)], [(.slice none 0 0 : Value)]] [vc s.known, [(.slice (aOf (ρ 7)) ((s.ents).length) (cOf (ρ 7)) : Value)], [(.slice (aOf (ρ 10)) ((s.ticks).length) (cOf (ρ 10)) : Value)]] BT_39 rfl (rfl) rfl rfl ⟨rfl, hs⟩
  · exact ob [8] [] rfl rfl fun D ρ w hs => L_st (V := .agg ((vc s.known) ++ [(.slice (aOf (ρ 7)) ((s.ents).length) (cOf (ρ 7)) : Value), (.slice (aOf (ρ 10)) ((s.ticks).length) (cOf (ρ 10)) : Value) ]).toArray) (vs := (vc s.known) ++ [(.slice (aOf (ρ 7)) ((s.ents).length) (cOf (ρ 7)) : Value), (.slice (aOf (ρ 10)) ((s.ticks).length) (cOf (ρ 10)) : Value) ]) (cs' := (vc s.known) ++ [(.slice (aOf (ρ 7)) ((s.ents).length) (cOf (ρ 7)) : Value), (.slice (aOf (ρ 10)) ((s.ticks).length) (cOf (ρ 10)) : Value) ]) SA_39.1 hs 1 rfl rfl rfl rfl rfl (Nat.le_of_ble_eq_true rfl) (one_app (vc_one _) (one_cons rfl (one_cons rfl one_nil))) (spl_whole rfl) fun _ hs => ⟨trivial, hs⟩
  rintro ρ1 w8 ρ2 hρ hs
  replace hρ : ρ2 = mix [3, 4, 5, 6, 7, 8, 9, 10, 11] ρ1 _ := hρ
  replace hs : Own w no w8 [blk b1 ((vc s.known) ++ [(.slice a1 s.ents.length c1 : Value), (.slice a2 s.ticks.length c2 : Value) ]) 39, blk b3 ((vc s.known) ++ [(.slice (aOf (ρ1 7)) ((s.ents).length) (cOf (ρ1 7)) : Value), (.slice (aOf (ρ1 10)) ((s.ticks).length) (cOf (ρ1 10)) : Value) ]) 39, row (.slice (aOf (ρ1 7)) ((s.ents).length) (cOf (ρ1 7))) (s.ents.map cec) 59 7, row (.slice (aOf (ρ1 10)) ((s.ticks).length) (cOf (ρ1 10))) (s.ticks.map lsc) 87 2] := hs
  generalize (aOf (ρ1 7)) = a9 at hs
  generalize (cOf (ρ1 7)) = c10 at hs
  generalize (aOf (ρ1 10)) = a11 at hs
  generalize (cOf (ρ1 10)) = c12 at hs
  subst hρ
  refine W_ret ?_
  refine ⟨_, res_cell (cs := (vc s.known) ++ [(.slice a9 ((s.ents).length) c10 : Value), (.slice a11 ((s.ticks).length) c12 : Value) ]) Tryz.results28 SA_39 hs 1 rfl rfl rfl, ?_⟩
  exact ⟨((a9, c10), (a11, c12)), rfl, hs.two 2 3 (by decide) rfl rfl, trivial⟩
set_option maxRecDepth 20000 in
set_option maxHeartbeats 4000000 in
theorem laid_ok (w : World) (x : Cen) : Calls Tryz.prog 32 #[.agg (cec x).toArray] w (fun e w' => e = .returned (.agg (oc (laidO x)).toArray) ∧ Own w no w' []) := by
  refine calls_of_Wn (n := 14) Tryz.func32 rfl Tryz.ntmps32 rfl ?_
  have hs := Own.start w
  refine W_seq ?_
  refine W_region ?_
  refine RW_op (L_box (V := .agg (cec x).toArray) (cs := cec x) rfl rfl hs fun b1 w2 hs => ?_)
  refine RW_op (L_alloc (cs := oc (⟨(⟨0, 0⟩ : Dot), 0, 0, 0, 0, 0, vzero⟩ : Opn)) ZV_33 rfl hs fun b3 w4 hs => ?_)
  refine RW_nil ?_
  refine W_seq ?_
  refine W_region ?_
  refine RW_op (L_fieldAddr FA_59_4 rfl ?_)
  refine RW_op (L_ldA (vs := dc x.dot) SA_30 hs 0 rfl rfl rfl rfl ?_)
  refine RW_op (L_fieldAddr FA_59_3 rfl ?_)
  refine RW_op (L_ld (V := .int .u8 x.kind) S1_5 hs 0 rfl rfl rfl ?_)
  refine RW_op (L_fieldAddr FA_59_0 rfl ?_)
  refine RW_op (L_ld (V := .int .u16 x.cart) S1_31 hs 0 rfl rfl rfl ?_)
  refine RW_op (L_fieldAddr FA_59_1 rfl ?_)
  refine RW_op (L_ld (V := .int .u16 x.item) S1_31 hs 0 rfl rfl rfl ?_)
  refine RW_op (L_fieldAddr FA_59_2 rfl ?_)
  refine RW_op (L_ld (V := .int .u16 x.qty) S1_31 hs 0 rfl rfl rfl ?_)
  refine RW_op (L_buildP (vs := [(0, .agg (dc x.dot).toArray), (1, .int .u8 x.kind), (2, .int .u16 x.cart), (3, .int .u16 x.item), (4, .int .u16 x.qty)]) (cs := oc (⟨x.dot, x.kind, x.cart, x.item, x.qty, 0, vzero⟩ : Opn)) [dc (⟨0, 0⟩ : Dot), [(.int .u8 0 : Value)], [(.int .u16 0 : Value)], [(.int .u16 0 : Value)], [(.int .u16 0 : Value)], [(.int .u32 0 : Value)], vc vzero] [dc x.dot, [(.int .u8 x.kind : Value)], [(.int .u16 x.cart : Value)], [(.int .u16 x.item : Value)], [(.int .u16 x.qty : Value)], [(.int .u32 0 : Value)], vc vzero] BT_33 rfl (rfl) rfl rfl ?_)
  refine RW_op (L_st (V := .agg (oc (⟨x.dot, x.kind, x.cart, x.item, x.qty, 0, vzero⟩ : Opn)).toArray) (vs := oc (⟨x.dot, x.kind, x.cart, x.item, x.qty, 0, vzero⟩ : Opn)) (cs' := oc (⟨x.dot, x.kind, x.cart, x.item, x.qty, 0, vzero⟩ : Opn)) SA_33.1 hs 1 rfl rfl rfl rfl rfl (Nat.le_of_ble_eq_true rfl) (oc_one _) (spl_whole rfl) fun w5 hs => ?_)
  refine RW_nil ?_
  refine W_ret ?_
  refine ⟨_, res_cell (cs := oc (⟨x.dot, x.kind, x.cart, x.item, x.qty, 0, vzero⟩ : Opn)) Tryz.results32 SA_33 hs 1 rfl rfl rfl, ?_⟩
  refine ⟨congrArg Ending.returned ?_, hs.take 0⟩
  rfl
set_option maxRecDepth 20000 in
set_option maxHeartbeats 4000000 in
theorem apply1_ok (w : World) (x : Cen) (o : Opn) (bx : Nat) (hx : DotOk x.dot) (hc : CellsF w bx (oc o)) : Calls Tryz.prog 30 #[.agg (cec x).toArray, .pointer (some ⟨bx, 0, none⟩)] w (fun e w' => e = .returned (.bool (endsB o (laidO x))) ∧ Own w no w' []) := by
  refine calls_of_Wn (n := 8) Tryz.func30 rfl Tryz.ntmps30 rfl ?_
  have hs := Own.start w
  refine W_seq ?_
  refine W_region ?_
  refine RW_op (L_box (V := .agg (cec x).toArray) (cs := cec x) rfl rfl hs fun b1 w2 hs => ?_)
  refine RW_op (L_assign (V := .bool false) rfl ?_)
  refine RW_nil ?_
  refine W_seq ?_
  refine W_regD HM [some 4, some 5, some 6, some 7, some 3] [] [0, 0, 2, 7, 15] [pv (.agg (oc o).toArray), pv (.agg (cec x).toArray), pv (.agg (oc (laidO x)).toArray), pv (.bool (endsB o (laidO x))), pv (.bool (endsB o (laidO x)))] (fun _ _ => _) [4] (by kernel_rfl) hs ⟨?_, ?_, ?_, ?_, ?_, trivial⟩ ?_
  · exact ob [] [] rfl rfl fun D ρ w hs => L_ldFA (vs := oc o) SA_33 (hc.own' hs) rfl rfl rfl ⟨rfl, hs⟩
  · exact ob [] [] rfl rfl fun D ρ w hs => L_ldW (cs := cec x) SA_59 hs 0 rfl rfl rfl ⟨rfl, hs⟩
  · exact ob [1] [] rfl rfl fun D ρ w hs => L_callP (vs := [.agg (cec x).toArray]) (V := .agg (oc (laidO x)).toArray) EN_32 rfl rfl (laid_ok _ x) hs fun _ hs => ⟨rfl, hs⟩
  · exact ob [0, 2] [] rfl rfl fun D ρ w hs => L_callP (vs := [.agg (oc o).toArray, .agg (oc (laidO x)).toArray]) (V := .bool (endsB o (laidO x))) EN_31 rfl rfl (oEnds_ok _ o (laidO x) hx) hs fun _ hs => ⟨rfl, hs⟩
  · exact ob [3] [] rfl rfl fun D ρ w hs => L_assign (V := .bool (endsB o (laidO x))) rfl ⟨rfl, hs⟩
  rintro ρ1 w5 ρ2 hρ hs
  replace hρ : ρ2 = upd (mix [4, 5, 6, 7, 3] ρ1 _) 3 (.bool (endsB o (laidO x))) := hρ
  subst hρ
  refine W_ret ?_
  refine ⟨_, res_one (V := .bool (endsB o (laidO x))) Tryz.results30 rfl, ?_⟩
  refine ⟨congrArg Ending.returned ?_, hs.take 0⟩
  rfl
end Tt
end Go.Proofs
namespace Go.Proofs
open Go Go.Vx Go.RowKit
namespace Tt
set_option maxRecDepth 20000 in
set_option maxHeartbeats 4000000 in
theorem ixf59_ok (w : World) (a : Option Addr) (c : Nat) (l : List Cen) (g : Nat) (caps : List Value) (hg : En Tryz.prog g) (p : Cen → Bool) (hp : ∀ (w1 : World) (L1 : List Res), Own w no w1 L1 → ∀ x ∈ l, Calls Tryz.prog g ([(.agg (cec x).toArray : Value)] ++ caps).toArray w1 (fun e w' => e = .returned (.bool (p x)) ∧ Own w1 no w' [])) (hr : Rd w (.slice a l.length c) 7 (l.map cec)) : Calls Tryz.prog 72 #[.slice a l.length c, .func (.func g) #[] caps.toArray] w (fun e w' => e = .returned (.int .i64 (fstB p l)) ∧ Own w no w' []) := by
  refine calls_of_Wn (n := 19) Tryz.func72 rfl Tryz.ntmps72 rfl ?_
  have hs := Own.start w
  have hn := hr.sml
  refine W_seq ?_
  refine W_region ?_
  refine RW_op (L_assign (V := .int .i64 0) rfl ?_)
  refine RW_nil ?_
  refine W_seq ?_
  refine W_seq ?_
  refine W_region ?_
  refine RW_op (L_move (V := .slice a l.length c) rfl ?_)
  refine RW_op (L_lenR (n := l.length) UD_36 (Rd.own' hr hs) (by simp) rfl ?_)
  refine RW_op (L_move (V := .int .i64 0) rfl ?_)
  refine RW_nil ?_
  refine W_block ?_
  refine W_loopI (fun ρ μ ρ' w' => ∃ (ρo : Env) (k : Nat), ρ' = upd (mix [4, 5, 8, 9, 10, 11, 12, 13, 14, 15, 16, 17, 18] ρo ρ) 8 (.int .i64 (k : Int)) ∧ (k ≤ l.length) ∧ (∀ j : Nat, j < k → p (gd l j) = false) ∧ μ = l.length - k ∧ Own w no w' []) ?_ ?_
  · exact ⟨_, _, 0, upd_of (mix_of (ds := [4, 5, 8, 9, 10, 11, 12, 13, 14, 15, 16, 17, 18]) (Agr.refl _ _)) rfl, (by omega), (fun j hj => absurd hj (Nat.not_lt_zero j)), rfl, hs⟩
  · rintro μ ρ' w1 ⟨ρo, k, rfl, hk, hno, rfl, hs⟩
    refine W_seq ?_
    refine W_region ?_
    refine RW_op (L_lss rfl rfl ?_)
    refine RW_nil ?_
    refine W_seq ?_
    refine W_cond (t := decide ((k : Int) < ((l.length : Nat) : Int))) rfl (fun c2 => ?_) (fun c2 => ?_)
    ·
      replace c2 := of_decide_eq_true c2
      refine W_skip ?_
      refine W_seq ?_
      refine W_block ?_
      refine W_seq ?_
      refine W_region ?_
      refine RW_op (L_move (V := .int .i64 (k : Int)) rfl ?_)
      refine RW_op (L_assign (V := .int .i64 (k : Int)) rfl ?_)
      refine RW_nil ?_
      refine W_seq ?_
      refine W_region ?_
      refine RW_op (L_move (V := .func (.func g) #[] caps.toArray) rfl ?_)
      refine RW_op (L_move (V := .slice a l.length c) rfl ?_)
      refine RW_op (L_move (V := .int .i64 (k : Int)) rfl ?_)
      refine RW_op (L_ixR UD_36 SA_59.1 (Rd.own' hr hs) rfl rfl (by omega) (by rw [List.length_map]; omega) ?_)
      refine RW_op (L_ldRA (j := 0) (vs := cec (gd l k)) k SA_59 (Rd.own' hr hs) (gd_at (by omega)) rfl rfl rfl (by omega) ?_)
      refine RW_op (L_fnP (vs := [.agg (cec (gd l k)).toArray]) (cs := caps) (V := .bool (p (gd l k))) hg rfl rfl (hp _ _ hs (gd l k) (gd_mem (by omega))) hs fun w3 hs => ?_)
      refine RW_nil ?_
      refine W_cond (t := p (gd l k)) rfl (fun c4 => ?_) (fun c4 => ?_)
      ·
        refine W_seq ?_
        refine W_region ?_
        refine RW_op (L_move (V := .int .i64 (k : Int)) rfl ?_)
        refine RW_op (L_assign (V := .int .i64 (k : Int)) rfl ?_)
        refine RW_nil ?_
        refine W_ret ?_
        refine ⟨_, res_one (V := .int .i64 (k : Int)) Tryz.results72 rfl, ?_⟩
        refine ⟨congrArg Ending.returned ?_, hs.take 0⟩
        exact congrArg (Value.int .i64) (fst_yes (by omega) hno c4).symm
      ·
        refine W_skip ?_
        refine W_region ?_
        refine RW_op (L_add (a := (k : Int)) (b := 1) (c := (k : Int) + 1) rfl rfl (wr_i64 (by omega) (by omega)) ?_)
        refine RW_op (L_move (V := .int .i64 ((k : Int) + 1)) rfl ?_)
        refine RW_nil ?_
        refine ⟨_, ?_, _, k + 1, upd_of (mix_of (ds := [4, 5, 8, 9, 10, 11, 12, 13, 14, 15, 16, 17, 18]) (by repeat (first | exact Agr.refl _ _ | refine Agr.upd ?_ rfl | refine Agr.mix ?_ rfl))) rfl, (by omega), (no_step2 hno c4), rfl, hs.take 0⟩
        omega
    ·
      replace c2 := of_decide_eq_false c2
      refine W_exit ?_
      refine W_seq ?_
      refine W_region ?_
      refine RW_op (L_assign (V := .int .i64 (-1)) rfl ?_)
      refine RW_nil ?_
      refine W_ret ?_
      refine ⟨_, res_one (V := .int .i64 (-1)) Tryz.results72 rfl, ?_⟩
      refine ⟨congrArg Ending.returned ?_, hs.take 0⟩
      exact congrArg (Value.int .i64) (fst_no fun j hj => hno j (by omega)).symm
end Tt
end Go.Proofs
namespace Go.Proofs
open Go Go.Vx Go.RowKit
namespace Tt
set_option maxRecDepth 20000 in
set_option maxHeartbeats 4000000 in
theorem dlf59_ok (w : World) (S : Nat → Prop) (a : Option Addr) (c : Nat) (l : List Cen) (g : Nat) (caps : List Value) (hg : En Tryz.prog g) (p : Cen → Bool) (hp : ∀ (w1 : World) (L1 : List Res), Own w S w1 L1 → ∀ x ∈ l, Calls Tryz.prog g ([(.agg (cec x).toArray : Value)] ++ caps).toArray w1 (fun e w' => e = .returned (.bool (p x)) ∧ Own w1 no w' [])) (hR : (row (.slice a l.length c) (l.map cec) 59 7).holds w S) (hlt : ∀ b, S b → b < w.heap.size) : Calls Tryz.prog 29 #[.slice a l.length c, .func (.func g) #[] caps.toArray] w (fun e w' => ∃ x : Unit, e = .returned (.slice a (l.filter fun x => !p x).length c) ∧ Own w S w' [row (.slice a (l.filter fun x => !p x).length c) ((l.filter fun x => !p x).map cec) 59 7] ∧ True) := by
  refine calls_of_Wn (n := 42) Tryz.func29 rfl Tryz.ntmps29 rfl ?_
  have hs := Own.lent hR hlt
  have hn := (hs.rd 0 rfl).sml
  have hlc := (hs.rd 0 rfl).roomM
  refine W_seq ?_
  refine W_region ?_
  refine RW_op (L_assign (V := .slice none 0 0) rfl ?_)
  refine RW_nil ?_
  refine W_seq ?_
  refine W_region ?_
  refine RW_op (L_move (V := .slice a l.length c) rfl ?_)
  refine RW_op (L_move (V := .func (.func g) #[] caps.toArray) rfl ?_)
  refine RW_op (L_callP (vs := [.slice a l.length c, .func (.func g) #[] caps.toArray]) (V := .int .i64 (fstB p l)) EN_72 rfl rfl ?hc hs fun w1 hs => ?_)
  case hc => exact (ixf59_ok _ a c l g caps hg p (fun w1 L1 h => hp w1 _ (hs.call h)) (hs.rd 0 rfl))
  refine RW_op (L_assign (V := .int .i64 (fstB p l)) rfl ?_)
  refine RW_nil ?_
  refine W_seq ?_
  refine W_seq ?_
  rcases fst_spec (p := p) (l := l) with hk2 | hk2
  ·
    obtain ⟨hf1, hfl⟩ := hk2
    refine W_region ?_
    refine RW_op (opW_to (V := .int .i64 (fstB p l)) (V' := .int .i64 (-1)) (L_move (V := .int .i64 (fstB p l)) rfl ⟨rfl, rfl⟩) (congrArg (Value.int .i64) hf1) ?_)
    refine RW_op (opW_to (V := .bool (decide ((-1 : Int) = -1))) (V' := .bool true) (L_eql rfl rfl ⟨rfl, rfl⟩) (congrArg Value.bool (decide_eq_true rfl)) ?_)
    refine RW_nil ?_
    refine W_condT rfl ?_
    refine W_seq ?_
    refine W_region ?_
    refine RW_op (L_move (V := .slice a l.length c) rfl ?_)
    refine RW_op (L_assign (V := .slice a l.length c) rfl ?_)
    refine RW_nil ?_
    refine W_ret ?_
    refine ⟨_, res_one (V := .slice a l.length c) Tryz.results29 rfl, ?_⟩
    rw [hfl]
    exact ⟨(), rfl, hs.take 1, trivial⟩
  ·
    obtain ⟨k0, hf1, hk0l, hpk, hft⟩ := hk2
    refine W_region ?_
    refine RW_op (opW_to (V := .int .i64 (fstB p l)) (V' := .int .i64 ((k0 : Nat) : Int)) (L_move (V := .int .i64 (fstB p l)) rfl ⟨rfl, rfl⟩) (congrArg (Value.int .i64) hf1) ?_)
    refine RW_op (opW_to (V := .bool (decide (((k0 : Nat) : Int) = -1))) (V' := .bool false) (L_eql rfl rfl ⟨rfl, rfl⟩) (congrArg Value.bool (decide_eq_false (by omega))) ?_)
    refine RW_nil ?_
    refine W_condF rfl ?_
    refine W_skip ?_
    refine W_seq ?_
    refine W_seq ?_
    refine W_region ?_
    refine RW_op (opW_to (V := .int .i64 (fstB p l)) (V' := .int .i64 ((k0 : Nat) : Int)) (L_move (V := .int .i64 (fstB p l)) rfl ⟨rfl, rfl⟩) (congrArg (Value.int .i64) hf1) ?_)
    refine RW_op (L_add (a := ((k0 : Nat) : Int)) (b := 1) (c := ((k0 + 1 : Nat) : Int)) rfl rfl (nat_i64 (by omega) (by omega)) ?_)
    refine RW_op (L_assign (V := .int .i64 ((k0 + 1 : Nat) : Int)) rfl ?_)
    refine RW_nil ?_
    refine W_block ?_
    refine W_loopI (fun ρ μ ρ' w' => ∃ (ρo : Env) (i : Nat) (j : Nat) (m : List Cen), ρ' = upd (upd (mix [5, 6, 7, 16, 17, 18, 19, 20, 21, 22, 23, 24, 25, 26, 27, 28, 29, 30, 31, 32, 33, 34, 35] ρo ρ) 5 (.int .i64 ((i : Nat) : Int))) 6 (.int .i64 ((j : Nat) : Int)) ∧ (i < j) ∧ (j ≤ l.length) ∧ (Moved p l m i j) ∧ μ = l.length - j ∧ Own w S w' [row (.slice a l.length c) (m.map cec) 59 7]) ?_ ?_
    · exact ⟨_, _, k0, k0 + 1, l, upd_of (upd_of (mix_of (ds := [5, 6, 7, 16, 17, 18, 19, 20, 21, 22, 23, 24, 25, 26, 27, 28, 29, 30, 31, 32, 33, 34, 35]) (Agr.refl _ _)) (congrArg (Value.int .i64) hf1)) rfl, (by omega), (by omega), (moved_start hk0l hpk hft), rfl, hs⟩
    · rintro μ ρ' w2 ⟨ρo, i, j, m, rfl, hij, hj, hmv, rfl, hs⟩
      have hml := hmv.1
      refine W_seq ?_
      refine W_seq ?_
      refine W_region ?_
      refine RW_op (L_move (V := .int .i64 ((j : Nat) : Int)) rfl ?_)
      refine RW_op (L_move (V := .slice a l.length c) rfl ?_)
      refine RW_op (L_lenR (n := l.length) UD_36 (hs.rd 0 rfl) (by simp [hmv.1]) rfl ?_)
      refine RW_op (L_lss rfl rfl ?_)
      refine RW_nil ?_
      refine W_cond (t := decide (((j : Nat) : Int) < ((l.length : Nat) : Int))) rfl (fun c3 => ?_) (fun c3 => ?_)
      ·
        replace c3 := of_decide_eq_true c3
        refine W_skip ?_
        refine W_seq ?_
        refine W_block ?_
        refine W_seq ?_
        refine W_region ?_
        refine RW_op (L_move (V := .slice a l.length c) rfl ?_)
        refine RW_op (L_move (V := .int .i64 ((j : Nat) : Int)) rfl ?_)
        refine RW_op (L_ixR UD_36 SA_59.1 (hs.rd 0 rfl) rfl rfl (by omega) (by rw [List.length_map]; omega) ?_)
        refine RW_op (L_ldRA (j := 0) (vs := cec (gd m j)) j SA_59 (hs.rd 0 rfl) (gd_at (by omega)) rfl rfl rfl (by omega) ?_)
        refine RW_op (L_alloc (cs := cec (⟨0, 0, 0, 0, (⟨0, 0⟩ : Dot), 0⟩ : Cen)) ZV_59 rfl hs fun b4 w5 hs => ?_)
        refine RW_op (L_st (V := .agg (cec (gd m j)).toArray) (vs := cec (gd m j)) (cs' := cec (gd m j)) SA_59.1 hs 1 rfl rfl rfl rfl rfl (Nat.le_of_ble_eq_true rfl) (cec_one _) (spl_whole rfl) fun w6 hs => ?_)
        refine RW_nil ?_
        refine W_seq ?_
        refine W_region ?_
        refine RW_op (L_move (V := .func (.func g) #[] caps.toArray) rfl ?_)
        refine RW_op (L_ldW (cs := cec (gd m j)) SA_59 hs 1 rfl rfl rfl ?_)
        refine RW_op (L_fnP (vs := [.agg (cec (gd m j)).toArray]) (cs := caps) (V := .bool (p (gd m j))) hg rfl rfl (hp _ _ hs (gd m j) (by rw [hmv.2.2 _ (Nat.le_refl _)]; exact gd_mem (by omega))) hs fun w7 hs => ?_)
        refine RW_op (L_not rfl ?_)
        refine RW_nil ?_
        refine W_cond (t := !(p (gd m j))) rfl (fun c8 => ?_) (fun c8 => ?_)
        ·
          replace c8 := not_t c8
          refine W_seq ?_
          refine W_region ?_
          refine RW_op (L_move (V := .slice a l.length c) rfl ?_)
          refine RW_op (L_move (V := .int .i64 ((i : Nat) : Int)) rfl ?_)
          refine RW_op (L_ldW (cs := cec (gd m j)) SA_59 hs 1 rfl rfl rfl ?_)
          refine RW_op (L_ixR UD_36 SA_59.1 (hs.rd 0 rfl) rfl rfl (by omega) (by rw [List.length_map]; omega) ?_)
          refine RW_op (L_stE (z := gd m j) i SA_59.1 hs 0 rfl rfl rfl (by first | omega | (simp only [List.length_set]; omega)) rfl rfl rfl (cec_one _) fun w9 hs => ?_)
          replace hs : Own w S w9 [row (.slice a l.length c) ((m.set i (gd m j)).map cec) 59 7, blk b4 (cec (gd m j)) 59] := hs
          refine RW_nil ?_
          refine W_region ?_
          refine RW_op (L_move (V := .int .i64 ((i : Nat) : Int)) rfl ?_)
          refine RW_op (L_add (a := ((i : Nat) : Int)) (b := 1) (c := ((i + 1 : Nat) : Int)) rfl rfl (nat_i64 (by omega) (by omega)) ?_)
          refine RW_op (L_assign (V := .int .i64 ((i + 1 : Nat) : Int)) rfl ?_)
          refine RW_nil ?_
          refine W_region ?_
          refine RW_op (L_move (V := .int .i64 ((j : Nat) : Int)) rfl ?_)
          refine RW_op (L_add (a := ((j : Nat) : Int)) (b := 1) (c := ((j + 1 : Nat) : Int)) rfl rfl (nat_i64 (by omega) (by omega)) ?_)
          refine RW_op (L_assign (V := .int .i64 ((j + 1 : Nat) : Int)) rfl ?_)
          refine RW_nil ?_
          refine ⟨_, ?_, _, i + 1, j + 1, m.set i (gd m j), upd_of (upd_of (mix_of (ds := [5, 6, 7, 16, 17, 18, 19, 20, 21, 22, 23, 24, 25, 26, 27, 28, 29, 30, 31, 32, 33, 34, 35]) (by repeat (first | exact Agr.refl _ _ | refine Agr.upd ?_ rfl | refine Agr.mix ?_ rfl))) rfl) rfl, (by omega), (by omega), (moved_keep hmv (by omega) (by omega) c8), rfl, hs.take 1⟩
          omega
        ·
          replace c8 := not_f c8
          refine W_skip ?_
          refine W_region ?_
          refine RW_op (L_move (V := .int .i64 ((j : Nat) : Int)) rfl ?_)
          refine RW_op (L_add (a := ((j : Nat) : Int)) (b := 1) (c := ((j + 1 : Nat) : Int)) rfl rfl (nat_i64 (by omega) (by omega)) ?_)
          refine RW_op (L_assign (V := .int .i64 ((j + 1 : Nat) : Int)) rfl ?_)
          refine RW_nil ?_
          refine ⟨_, ?_, _, i, j + 1, m, upd_of (upd_of (mix_of (ds := [5, 6, 7, 16, 17, 18, 19, 20, 21, 22, 23, 24, 25, 26, 27, 28, 29, 30, 31, 32, 33, 34, 35]) (by repeat (first | exact Agr.refl _ _ | refine Agr.upd ?_ rfl | refine Agr.mix ?_ rfl))) rfl) rfl, (by omega), (by omega), (moved_skip hmv (by omega) c8), rfl, hs.take 1⟩
          omega
      ·
        replace c3 := of_decide_eq_false c3
        refine W_exit ?_
        refine W_seq ?_
        refine W_region ?_
        refine RW_op (L_move (V := .slice a l.length c) rfl ?_)
        refine RW_op (L_move (V := .int .i64 ((i : Nat) : Int)) rfl ?_)
        refine RW_op (L_sl (l := i) (h := l.length) (m := c) (n' := (m.drop i).length) UDR_36 SA_59.1 (hs.rd 0 rfl) rfl (.inr ⟨_, _, rfl, rfl⟩) (.inl ⟨rfl, rfl⟩) (.inl ⟨rfl, rfl⟩) (by omega) (by omega) (Nat.le_trans (show l.length ≤ m.length by omega) (Rd.roomM (hs.rd 0 rfl))) (Nat.le_refl _) (by simp only [List.length_take, List.length_drop] <;> omega) ?_)
        refine RW_op (L_clearT EL_36 hs 0 rfl rfl (by rw [List.length_map] <;> omega) (by simp only [List.length_map, List.length_drop] <;> omega) (by intro v hv; have e := Zv_uniq hv ZV_59; subst e; exact (cec_one _)) fun w10 hs => ?_)
        refine RW_nil ?_
        refine W_seq ?_
        refine W_region ?_
        refine RW_op (L_move (V := .slice a l.length c) rfl ?_)
        refine RW_op (L_move (V := .int .i64 ((i : Nat) : Int)) rfl ?_)
        refine RW_op (L_slV (l := 0) (h := i) (n' := i) UDR_36 SA_59.1 (by omega) rfl (.inl ⟨rfl, rfl⟩) (.inr ⟨_, _, rfl, rfl⟩) (by omega) (by omega) (by omega) ?_)
        refine RW_op (L_assign (V := .slice (sla a 0 c 7) i (c - 0)) rfl ?_)
        refine RW_nil ?_
        refine W_ret ?_
        refine ⟨_, res_one (V := .slice (sla a 0 c 7) i (c - 0)) Tryz.results29 rfl, ?_⟩
        have he := moved_end hmv (by omega)
        have hil : i = (l.filter fun x => !p x).length := by rw [← he, List.length_take, hmv.1]; omega
        replace hs := hs.take 1
        simp only [List.set_cons_zero, List.take_succ_cons, List.take_zero, ← List.map_take, he] at hs
        rw [← hil]
        refine ⟨(), ?_, hs, trivial⟩
        rw [sla_zero, Nat.sub_zero]
end Tt
end Go.Proofs
namespace Go.Proofs
open Go Go.Vx Go.RowKit
namespace Tt
set_option maxRecDepth 20000 in
set_option maxHeartbeats 4000000 in
theorem ins59_ok (w : World) (S : Nat → Prop) (a : Option Addr) (c : Nat) (l : List Cen) (i : Nat) (hi : i ≤ l.length) (x : Cen) (b : Option Addr) (c2 : Nat) (hv : Rd w (.slice b 1 c2) 7 (List.map cec [x])) (hpl : PlainR w (.slice b 1 c2)) (hnS : ¬ S (bkS (.slice b 1 c2))) (hvb : bkS (.slice b 1 c2) < w.heap.size) (hN : (l.length + 1) * 25 ≤ 140737488355328) (hR : (row (.slice a l.length c) (l.map cec) 59 7).holds w S) (hlt : ∀ b, S b → b < w.heap.size) : Calls Tryz.prog 36 #[.slice a l.length c, .int .i64 ((i : Nat) : Int), .slice b 1 c2] w (fun e w' => ∃ x' : Option Addr × Nat, e = .returned (.slice x'.1 (insL l i x).length x'.2) ∧ Own w S w' [row (.slice x'.1 (insL l i x).length x'.2) ((insL l i x).map cec) 59 7] ∧ True) := by
  refine calls_of_Wn (n := 95) Tryz.func36 rfl Tryz.ntmps36 rfl ?_
  have hs := Own.lent hR hlt
  have hn := (hs.rd 0 rfl).sml
  have hlc := (hs.rd 0 rfl).roomM
  have hvo : ∀ (w1 : World) (L1 : List Res), Own w S w1 L1 → Rd w1 (.slice b 1 c2) 7 (List.map cec [x]) := fun w1 L1 h => hv.own h hnS
  refine W_seq ?_
  refine W_region ?_
  refine RW_op (L_assign (V := .slice none 0 0) rfl ?_)
  refine RW_nil ?_
  refine W_seq ?_
  refine W_region ?_
  refine RW_op (L_move (V := .slice a l.length c) rfl ?_)
  refine RW_op (L_move (V := .int .i64 ((i : Nat) : Int)) rfl ?_)
  refine RW_op (L_sl (l := i) (h := l.length) (m := c) (n' := (l.drop i).length) UDR_36 SA_59.1 (hs.rd 0 rfl) rfl (.inr ⟨_, _, rfl, rfl⟩) (.inl ⟨rfl, rfl⟩) (.inl ⟨rfl, rfl⟩) (by omega) (by omega) (Nat.le_trans (show l.length ≤ l.length by omega) (Rd.roomM (hs.rd 0 rfl))) (Nat.le_refl _) (by simp only [List.length_take, List.length_drop] <;> omega) ?_)
  refine RW_nil ?_
  refine W_seq ?_
  refine W_region ?_
  refine RW_op (L_move (V := .slice b 1 c2) rfl ?_)
  refine RW_op (opW_to (V := .int .i64 ((1 : Nat) : Int)) (V' := .int .i64 1) (L_lenR (n := 1) UD_36 (hvo _ _ hs) (by simp) rfl ⟨rfl, rfl⟩) rfl ?_)
  refine RW_op (L_assign (V := .int .i64 1) rfl ?_)
  refine RW_nil ?_
  refine W_seq ?_
  refine W_seq ?_
  refine W_region ?_
  refine RW_op (L_move (V := .int .i64 1) rfl ?_)
  refine RW_op (opW_to (V := .bool (decide ((1 : Int) = 0))) (V' := .bool false) (L_eql rfl rfl ⟨rfl, rfl⟩) (congrArg Value.bool (by decide)) ?_)
  refine RW_nil ?_
  refine W_condF rfl ?_
  refine W_skip ?_
  refine W_seq ?_
  refine W_region ?_
  refine RW_op (L_move (V := .slice a l.length c) rfl ?_)
  refine RW_op (L_lenR (n := l.length) UD_36 (hs.rd 0 rfl) (by simp) rfl ?_)
  refine RW_op (L_assign (V := .int .i64 ((l.length : Nat) : Int)) rfl ?_)
  refine RW_nil ?_
  refine W_seq ?_
  refine W_seq ?_
  refine W_region ?_
  refine RW_op (L_move (V := .int .i64 ((i : Nat) : Int)) rfl ?_)
  refine RW_op (L_move (V := .int .i64 ((l.length : Nat) : Int)) rfl ?_)
  refine RW_op (L_eql rfl rfl ?_)
  refine RW_nil ?_
  refine W_cond (t := decide (((i : Nat) : Int) = ((l.length : Nat) : Int))) rfl (fun c1 => ?_) (fun c1 => ?_)
  ·
    replace c1 := of_decide_eq_true c1
    refine W_seq ?_
    refine W_region ?_
    refine RW_op (L_move (V := .slice a l.length c) rfl ?_)
    refine RW_op (L_move (V := .slice b 1 c2) rfl ?_)
    refine RW_op (L_appN (ls' := (l ++ [x]).map cec) (n := (l ++ [x]).length) EL_36 hs 0 rfl rfl rfl (hvo _ _ hs) (one_map cec_one _) (by simp only [List.length_map, List.length_append, List.length_cons, List.length_nil]; omega) (by simp) (by simp) fun a2 c2 w3 hs => ?_)
    refine RW_op (L_assign (V := .slice a2 ((l ++ [x]).length) c2) rfl ?_)
    refine RW_nil ?_
    refine W_ret ?_
    refine ⟨_, res_one (V := .slice a2 ((l ++ [x]).length) c2) Tryz.results36 rfl, ?_⟩
    have hX : l ++ [x] = insL l i x := ins_end' (by omega)
    rw [hX] at hs
    exact ⟨(a2, c2), by rw [← hX], hs.only 0 rfl, trivial⟩
  ·
    replace c1 := of_decide_eq_false c1
    refine W_skip ?_
    refine W_seq ?_
    refine W_seq ?_
    refine W_region ?_
    refine RW_op (L_move (V := .int .i64 ((l.length : Nat) : Int)) rfl ?_)
    refine RW_op (L_move (V := .int .i64 1) rfl ?_)
    refine RW_op (L_add (a := ((l.length : Nat) : Int)) (b := 1) (c := ((l.length + 1 : Nat) : Int)) rfl rfl (nat_i64 (by omega) (by omega)) ?_)
    refine RW_op (L_move (V := .slice a l.length c) rfl ?_)
    refine RW_op (L_capS UD_36 rfl ?_)
    refine RW_op (L_gtr rfl rfl ?_)
    refine RW_nil ?_
    refine W_cond (t := decide (((c : Nat) : Int) < ((l.length + 1 : Nat) : Int))) rfl (fun c4 => ?_) (fun c4 => ?_)
    ·
      replace c4 := of_decide_eq_true c4
      refine W_seq ?_
      refine W_region ?_
      refine RW_op (L_move (V := .slice a l.length c) rfl ?_)
      refine RW_op (L_move (V := .int .i64 ((i : Nat) : Int)) rfl ?_)
      refine RW_op (L_slV (l := 0) (h := i) (n' := i) UDR_36 SA_59.1 (by omega) rfl (.inl ⟨rfl, rfl⟩) (.inr ⟨_, _, rfl, rfl⟩) (by omega) (by omega) (by omega) ?_)
      refine RW_op (L_move (V := .int .i64 ((l.length : Nat) : Int)) rfl ?_)
      refine RW_op (L_move (V := .int .i64 1) rfl ?_)
      refine RW_op (L_add (a := ((l.length : Nat) : Int)) (b := 1) (c := ((l.length + 1 : Nat) : Int)) rfl rfl (nat_i64 (by omega) (by omega)) ?_)
      refine RW_op (L_move (V := .int .i64 ((i : Nat) : Int)) rfl ?_)
      refine RW_op (L_sub (a := ((l.length + 1 : Nat) : Int)) (b := ((i : Nat) : Int)) (c := (((l.length + 1) - i : Nat) : Int)) rfl rfl (nat_i64 (by omega) (by omega)) ?_)
      refine RW_op (L_appZ (zl := cec (⟨0, 0, 0, 0, (⟨0, 0⟩ : Dot), 0⟩ : Cen)) (ls' := (l.take i ++ List.replicate ((l.length + 1) - i) (⟨0, 0, 0, 0, (⟨0, 0⟩ : Dot), 0⟩ : Cen)).map cec) EL_36 UDR_3 (.inl ZV_59) hs (hs.rd 0 rfl) rfl rfl (by rw [List.length_map]; omega) (by rw [List.length_map]; omega) (by omega) (by omega) (one_map cec_one _) (cec_one _) rfl (by omega) (by simp only [List.map_append, List.map_take, List.map_replicate]) (l.take i ++ List.replicate ((l.length + 1) - i) (⟨0, 0, 0, 0, (⟨0, 0⟩ : Dot), 0⟩ : Cen)).length (by rw [List.length_map]) fun a5 c5 w6 hs => ?_)
      refine RW_op (L_assign (V := .slice a5 ((l.take i ++ List.replicate ((l.length + 1) - i) (⟨0, 0, 0, 0, (⟨0, 0⟩ : Dot), 0⟩ : Cen)).length) c5) rfl ?_)
      refine RW_nil ?_
      refine W_seq ?_
      have hq9 : (l.take i ++ List.replicate ((l.length + 1) - i) (⟨0, 0, 0, 0, (⟨0, 0⟩ : Dot), 0⟩ : Cen)).length = l.length + 1 := by simp only [List.length_append, List.length_take, List.length_replicate]; omega
      have hr9 := (hs.rd 1 rfl).roomM
      refine W_region ?_
      refine RW_op (L_move (V := .slice a5 ((l.take i ++ List.replicate ((l.length + 1) - i) (⟨0, 0, 0, 0, (⟨0, 0⟩ : Dot), 0⟩ : Cen)).length) c5) rfl ?_)
      refine RW_op (L_move (V := .int .i64 ((i : Nat) : Int)) rfl ?_)
      refine RW_op (L_slV (l := i) (h := (l.take i ++ List.replicate ((l.length + 1) - i) (⟨0, 0, 0, 0, (⟨0, 0⟩ : Dot), 0⟩ : Cen)).length) (n' := ((l.take i ++ List.replicate ((l.length + 1) - i) (⟨0, 0, 0, 0, (⟨0, 0⟩ : Dot), 0⟩ : Cen)).length) - i) UDR_36 SA_59.1 (by omega) rfl (.inr ⟨_, _, rfl, rfl⟩) (.inl ⟨rfl, rfl⟩) (by omega) (by omega) (by omega) ?_)
      refine RW_op (L_move (V := .slice b 1 c2) rfl ?_)
      refine RW_op (L_copyTo (lo := i) (ms := [x].map cec) (ls' := ((l.take i ++ List.replicate ((l.length + 1) - i) (⟨0, 0, 0, 0, (⟨0, 0⟩ : Dot), 0⟩ : Cen)).take i ++ [x] ++ (l.take i ++ List.replicate ((l.length + 1) - i) (⟨0, 0, 0, 0, (⟨0, 0⟩ : Dot), 0⟩ : Cen)).drop (i + [x].length)).map cec) (n' := ((l.take i ++ List.replicate ((l.length + 1) - i) (⟨0, 0, 0, 0, (⟨0, 0⟩ : Dot), 0⟩ : Cen)).take i ++ [x] ++ (l.take i ++ List.replicate ((l.length + 1) - i) (⟨0, 0, 0, 0, (⟨0, 0⟩ : Dot), 0⟩ : Cen)).drop (i + [x].length)).length) EL_36 hs 1 rfl rfl rfl (by simp only [List.length_map, List.length_drop, List.length_take, List.length_cons, List.length_nil, List.length_append, List.length_replicate]; omega) (Rd.srcs (hvo _ _ hs)) (len_map (enc := cec) (fun _ => rfl) _) (one_map cec_one _) (by simp only [List.length_map, List.length_drop, List.length_take, List.length_cons, List.length_nil, List.length_append, List.length_replicate]; omega) (by simp only [List.length_map, List.length_drop, List.length_take, List.length_cons, List.length_nil, List.length_append, List.length_replicate]; omega) (by simp only [List.map_append, List.map_take, List.map_drop, List.map_cons, List.map_nil, List.length_map, List.length_drop, List.length_take, List.length_cons, List.length_nil]) (by rw [List.length_map]) fun w7 hs => ?_)
      refine RW_nil ?_
      refine W_seq ?_
      refine W_regD HM [some 46, some 47, some 48, some 49, some 50, some 51, some 52, some 53, some 54] [] [0, 0, 0, 6, 15, 0, 0, 96, 255] [pv (.slice a5 ((l.take i ++ List.replicate ((l.length + 1) - i) (⟨0, 0, 0, 0, (⟨0, 0⟩ : Dot), 0⟩ : Cen)).length) c5), pv (.int .i64 ((i : Nat) : Int)), pv (.int .i64 1), pv (.int .i64 ((i + 1 : Nat) : Int)), pv (.slice (sla a5 (i + 1) c5 7) (((l.take i ++ List.replicate ((l.length + 1) - i) (⟨0, 0, 0, 0, (⟨0, 0⟩ : Dot), 0⟩ : Cen)).length) - (i + 1)) (c5 - (i + 1))), pv (.slice a l.length c), pv (.int .i64 ((i : Nat) : Int)), pv (.slice (sla a i c 7) ((l.drop i).length) (c - i)), pv (.int .i64 (((List.map cec (l.drop i)).length : Nat) : Int))] (fun D ρ => [row (.slice a l.length c) (l.map cec) 59 7, cond (D 8) (row (.slice a5 ((((l.take i ++ List.replicate ((l.length + 1) - i) (⟨0, 0, 0, 0, (⟨0, 0⟩ : Dot), 0⟩ : Cen)).take i ++ [x] ++ (l.take i ++ List.replicate ((l.length + 1) - i) (⟨0, 0, 0, 0, (⟨0, 0⟩ : Dot), 0⟩ : Cen)).drop (i + [x].length)).take (i + 1) ++ l.drop i ++ ((l.take i ++ List.replicate ((l.length + 1) - i) (⟨0, 0, 0, 0, (⟨0, 0⟩ : Dot), 0⟩ : Cen)).take i ++ [x] ++ (l.take i ++ List.replicate ((l.length + 1) - i) (⟨0, 0, 0, 0, (⟨0, 0⟩ : Dot), 0⟩ : Cen)).drop (i + [x].length)).drop (i + 1 + (l.drop i).length)).length) c5) ((((l.take i ++ List.replicate ((l.length + 1) - i) (⟨0, 0, 0, 0, (⟨0, 0⟩ : Dot), 0⟩ : Cen)).take i ++ [x] ++ (l.take i ++ List.replicate ((l.length + 1) - i) (⟨0, 0, 0, 0, (⟨0, 0⟩ : Dot), 0⟩ : Cen)).drop (i + [x].length)).take (i + 1) ++ l.drop i ++ ((l.take i ++ List.replicate ((l.length + 1) - i) (⟨0, 0, 0, 0, (⟨0, 0⟩ : Dot), 0⟩ : Cen)).take i ++ [x] ++ (l.take i ++ List.replicate ((l.length + 1) - i) (⟨0, 0, 0, 0, (⟨0, 0⟩ : Dot), 0⟩ : Cen)).drop (i + [x].length)).drop (i + 1 + (l.drop i).length)).map cec) 59 7) (row (.slice a5 (((l.take i ++ List.replicate ((l.length + 1) - i) (⟨0, 0, 0, 0, (⟨0, 0⟩ : Dot), 0⟩ : Cen)).take i ++ [x] ++ (l.take i ++ List.replicate ((l.length + 1) - i) (⟨0, 0, 0, 0, (⟨0, 0⟩ : Dot), 0⟩ : Cen)).drop (i + [x].length)).length) c5) (((l.take i ++ List.replicate ((l.length + 1) - i) (⟨0, 0, 0, 0, (⟨0, 0⟩ : Dot), 0⟩ : Cen)).take i ++ [x] ++ (l.take i ++ List.replicate ((l.length + 1) - i) (⟨0, 0, 0, 0, (⟨0, 0⟩ : Dot), 0⟩ : Cen)).drop (i + [x].length)).map cec) 59 7)]) [] (by kernel_rfl) hs ⟨?_, ?_, ?_, ?_, ?_, ?_, ?_, ?_, ?_, trivial⟩ ?_
      · exact ob [] [] rfl rfl fun D ρ w hs => L_move (V := .slice a5 ((l.take i ++ List.replicate ((l.length + 1) - i) (⟨0, 0, 0, 0, (⟨0, 0⟩ : Dot), 0⟩ : Cen)).length) c5) rfl ⟨rfl, hs⟩
      · exact ob [] [] rfl rfl fun D ρ w hs => L_move (V := .int .i64 ((i : Nat) : Int)) rfl ⟨rfl, hs⟩
      · exact ob [] [] rfl rfl fun D ρ w hs => L_move (V := .int .i64 1) rfl ⟨rfl, hs⟩
      · exact ob [1, 2] [] rfl rfl fun D ρ w hs => L_add (a := ((i : Nat) : Int)) (b := 1) (c := ((i + 1 : Nat) : Int)) rfl rfl (nat_i64 (by omega) (by omega)) ⟨rfl, hs⟩
      · exact ob [0, 3] [] rfl rfl fun D ρ w hs => L_slV (l := i + 1) (h := (l.take i ++ List.replicate ((l.length + 1) - i) (⟨0, 0, 0, 0, (⟨0, 0⟩ : Dot), 0⟩ : Cen)).length) (n' := ((l.take i ++ List.replicate ((l.length + 1) - i) (⟨0, 0, 0, 0, (⟨0, 0⟩ : Dot), 0⟩ : Cen)).length) - (i + 1)) UDR_36 SA_59.1 (by omega) rfl (.inr ⟨_, _, rfl, rfl⟩) (.inl ⟨rfl, rfl⟩) (by omega) (by omega) (by omega) ⟨rfl, hs⟩
      · exact ob [] [] rfl rfl fun D ρ w hs => L_move (V := .slice a l.length c) rfl ⟨rfl, hs⟩
      · exact ob [] [] rfl rfl fun D ρ w hs => L_move (V := .int .i64 ((i : Nat) : Int)) rfl ⟨rfl, hs⟩
      · exact ob [5, 6] [] rfl rfl fun D ρ w hs => L_sl (l := i) (h := l.length) (m := c) (n' := (l.drop i).length) UDR_36 SA_59.1 (hs.rd 0 rfl) rfl (.inr ⟨_, _, rfl, rfl⟩) (.inl ⟨rfl, rfl⟩) (.inl ⟨rfl, rfl⟩) (by omega) (by omega) (Nat.le_trans (show l.length ≤ l.length by omega) (Rd.roomM (hs.rd 0 rfl))) (Nat.le_refl _) (by simp only [List.length_take, List.length_drop] <;> omega) ⟨rfl, hs⟩
      · exact ob [4, 7] [] rfl rfl fun D ρ w hs => L_copyTo (lo := i + 1) (ms := (l.drop i).map cec) (ls' := (((l.take i ++ List.replicate ((l.length + 1) - i) (⟨0, 0, 0, 0, (⟨0, 0⟩ : Dot), 0⟩ : Cen)).take i ++ [x] ++ (l.take i ++ List.replicate ((l.length + 1) - i) (⟨0, 0, 0, 0, (⟨0, 0⟩ : Dot), 0⟩ : Cen)).drop (i + [x].length)).take (i + 1) ++ l.drop i ++ ((l.take i ++ List.replicate ((l.length + 1) - i) (⟨0, 0, 0, 0, (⟨0, 0⟩ : Dot), 0⟩ : Cen)).take i ++ [x] ++ (l.take i ++ List.replicate ((l.length + 1) - i) (⟨0, 0, 0, 0, (⟨0, 0⟩ : Dot), 0⟩ : Cen)).drop (i + [x].length)).drop (i + 1 + (l.drop i).length)).map cec) (n' := (((l.take i ++ List.replicate ((l.length + 1) - i) (⟨0, 0, 0, 0, (⟨0, 0⟩ : Dot), 0⟩ : Cen)).take i ++ [x] ++ (l.take i ++ List.replicate ((l.length + 1) - i) (⟨0, 0, 0, 0, (⟨0, 0⟩ : Dot), 0⟩ : Cen)).drop (i + [x].length)).take (i + 1) ++ l.drop i ++ ((l.take i ++ List.replicate ((l.length + 1) - i) (⟨0, 0, 0, 0, (⟨0, 0⟩ : Dot), 0⟩ : Cen)).take i ++ [x] ++ (l.take i ++ List.replicate ((l.length + 1) - i) (⟨0, 0, 0, 0, (⟨0, 0⟩ : Dot), 0⟩ : Cen)).drop (i + [x].length)).drop (i + 1 + (l.drop i).length)).length) EL_36 hs 1 rfl rfl rfl (by simp only [List.length_map, List.length_drop, List.length_take, List.length_cons, List.length_nil, List.length_append, List.length_replicate]; omega) (Rd.srcs (Rd.dropM (hs.rd 0 rfl) i hi _ rfl)) (len_map (enc := cec) (fun _ => rfl) _) (one_map cec_one _) (by simp only [List.length_map, List.length_drop, List.length_take, List.length_cons, List.length_nil, List.length_append, List.length_replicate]; omega) (by simp only [List.length_map, List.length_drop, List.length_take, List.length_cons, List.length_nil, List.length_append, List.length_replicate]; omega) (by simp only [List.map_append, List.map_take, List.map_drop, List.map_cons, List.map_nil, List.length_map, List.length_drop, List.length_take, List.length_cons, List.length_nil]) (by rw [List.length_map]) fun _ hs => ⟨rfl, hs⟩
      rintro ρ1 w9 ρ2 hρ hs
      replace hρ : ρ2 = mix [46, 47, 48, 49, 50, 51, 52, 53, 54] ρ1 _ := hρ
      replace hs : Own w S w9 [row (.slice a l.length c) (l.map cec) 59 7, row (.slice a5 ((((l.take i ++ List.replicate ((l.length + 1) - i) (⟨0, 0, 0, 0, (⟨0, 0⟩ : Dot), 0⟩ : Cen)).take i ++ [x] ++ (l.take i ++ List.replicate ((l.length + 1) - i) (⟨0, 0, 0, 0, (⟨0, 0⟩ : Dot), 0⟩ : Cen)).drop (i + [x].length)).take (i + 1) ++ l.drop i ++ ((l.take i ++ List.replicate ((l.length + 1) - i) (⟨0, 0, 0, 0, (⟨0, 0⟩ : Dot), 0⟩ : Cen)).take i ++ [x] ++ (l.take i ++ List.replicate ((l.length + 1) - i) (⟨0, 0, 0, 0, (⟨0, 0⟩ : Dot), 0⟩ : Cen)).drop (i + [x].length)).drop (i + 1 + (l.drop i).length)).length) c5) ((((l.take i ++ List.replicate ((l.length + 1) - i) (⟨0, 0, 0, 0, (⟨0, 0⟩ : Dot), 0⟩ : Cen)).take i ++ [x] ++ (l.take i ++ List.replicate ((l.length + 1) - i) (⟨0, 0, 0, 0, (⟨0, 0⟩ : Dot), 0⟩ : Cen)).drop (i + [x].length)).take (i + 1) ++ l.drop i ++ ((l.take i ++ List.replicate ((l.length + 1) - i) (⟨0, 0, 0, 0, (⟨0, 0⟩ : Dot), 0⟩ : Cen)).take i ++ [x] ++ (l.take i ++ List.replicate ((l.length + 1) - i) (⟨0, 0, 0, 0, (⟨0, 0⟩ : Dot), 0⟩ : Cen)).drop (i + [x].length)).drop (i + 1 + (l.drop i).length)).map cec) 59 7] := hs
      subst hρ
      refine W_seq ?_
      refine W_region ?_
      refine RW_op (L_move (V := .slice a5 ((l.take i ++ List.replicate ((l.length + 1) - i) (⟨0, 0, 0, 0, (⟨0, 0⟩ : Dot), 0⟩ : Cen)).length) c5) rfl ?_)
      refine RW_op (L_assign (V := .slice a5 ((l.take i ++ List.replicate ((l.length + 1) - i) (⟨0, 0, 0, 0, (⟨0, 0⟩ : Dot), 0⟩ : Cen)).length) c5) rfl ?_)
      refine RW_nil ?_
      refine W_ret ?_
      refine ⟨_, res_one (V := .slice a5 ((l.take i ++ List.replicate ((l.length + 1) - i) (⟨0, 0, 0, 0, (⟨0, 0⟩ : Dot), 0⟩ : Cen)).length) c5) Tryz.results36 rfl, ?_⟩
      have hX : ((l.take i ++ List.replicate ((l.length + 1) - i) (⟨0, 0, 0, 0, (⟨0, 0⟩ : Dot), 0⟩ : Cen)).take i ++ [x] ++ (l.take i ++ List.replicate ((l.length + 1) - i) (⟨0, 0, 0, 0, (⟨0, 0⟩ : Dot), 0⟩ : Cen)).drop (i + [x].length)).take (i + 1) ++ l.drop i ++ ((l.take i ++ List.replicate ((l.length + 1) - i) (⟨0, 0, 0, 0, (⟨0, 0⟩ : Dot), 0⟩ : Cen)).take i ++ [x] ++ (l.take i ++ List.replicate ((l.length + 1) - i) (⟨0, 0, 0, 0, (⟨0, 0⟩ : Dot), 0⟩ : Cen)).drop (i + [x].length)).drop (i + 1 + (l.drop i).length) = insL l i x := ins_grow hi
      rw [hX] at hs
      exact ⟨(a5, c5), by rw [hq9, insL_len hi], hs.only 1 rfl, trivial⟩
    ·
      replace c4 := of_decide_eq_false c4
      refine W_skip ?_
      refine W_seq ?_
      refine W_region ?_
      refine RW_op (L_move (V := .slice a l.length c) rfl ?_)
      refine RW_op (L_move (V := .int .i64 ((l.length : Nat) : Int)) rfl ?_)
      refine RW_op (L_move (V := .int .i64 1) rfl ?_)
      refine RW_op (L_add (a := ((l.length : Nat) : Int)) (b := 1) (c := ((l.length + 1 : Nat) : Int)) rfl rfl (nat_i64 (by omega) (by omega)) ?_)
      refine RW_op (opW_to (V := .slice (sla a 0 c 7) (l.length + 1) (c - 0)) (V' := .slice a (l.length + 1) c) (L_slV (l := 0) (h := l.length + 1) (n' := l.length + 1) UDR_36 SA_59.1 (by omega) rfl (.inl ⟨rfl, rfl⟩) (.inr ⟨_, _, rfl, rfl⟩) (by omega) (by omega) (by omega) ⟨rfl, rfl⟩) (by rw [sla_zero]; rfl) ?_)
      refine RW_op (L_assign (V := .slice a (l.length + 1) c) rfl ?_)
      refine RW_nil ?_
      refine W_seq ?_
      refine W_seq ?_
      refine W_region ?_
      refine RW_op (L_move (V := .slice b 1 c2) rfl ?_)
      refine RW_op (L_move (V := .slice a (l.length + 1) c) rfl ?_)
      refine RW_op (L_move (V := .int .i64 ((i : Nat) : Int)) rfl ?_)
      refine RW_op (L_move (V := .int .i64 1) rfl ?_)
      refine RW_op (L_add (a := ((i : Nat) : Int)) (b := 1) (c := ((i + 1 : Nat) : Int)) rfl rfl (nat_i64 (by omega) (by omega)) ?_)
      refine RW_op (L_slV (l := i + 1) (h := l.length + 1) (n' := (l.length + 1) - (i + 1)) UDR_36 SA_59.1 (by omega) rfl (.inr ⟨_, _, rfl, rfl⟩) (.inl ⟨rfl, rfl⟩) (by omega) (by omega) (by omega) ?_)
      refine RW_op (L_overA (f := 78) (tR := 4) (lo := i + 1) Tryz.func78 (by kernel_rfl) (by kernel_rfl) (by kernel_rfl) (by kernel_rfl) UDR_36 SA_59.1 rfl hs 0 rfl (by rw [List.length_map]; omega) (by decide) rfl (hpl.own hs hnS) hnS hvb (by omega) rfl ?_)
      refine RW_op (L_not rfl ?_)
      refine RW_nil ?_
      refine W_condT rfl ?_
      refine W_seq ?_
      refine W_regD HM [some 69, some 70, some 71, some 72, some 73, some 74, some 75, some 76, some 77] [] [0, 0, 0, 6, 15, 0, 0, 96, 255] [pv (.slice a (l.length + 1) c), pv (.int .i64 ((i : Nat) : Int)), pv (.int .i64 1), pv (.int .i64 ((i + 1 : Nat) : Int)), pv (.slice (sla a (i + 1) c 7) ((l.length + 1) - (i + 1)) (c - (i + 1))), pv (.slice a (l.length + 1) c), pv (.int .i64 ((i : Nat) : Int)), pv (.slice (sla a i c 7) ((l.length + 1) - i) (c - i)), pv (.int .i64 (((List.map cec (l.drop i)).length : Nat) : Int))] (fun D ρ => [cond (D 8) (row (.slice a ((l.take (i + 1) ++ l.drop i ++ l.drop (i + 1 + (l.drop i).length)).length) c) ((l.take (i + 1) ++ l.drop i ++ l.drop (i + 1 + (l.drop i).length)).map cec) 59 7) (row (.slice a l.length c) (l.map cec) 59 7)]) [] (by kernel_rfl) hs ⟨?_, ?_, ?_, ?_, ?_, ?_, ?_, ?_, ?_, trivial⟩ ?_
      · exact ob [] [] rfl rfl fun D ρ w hs => L_move (V := .slice a (l.length + 1) c) rfl ⟨rfl, hs⟩
      · exact ob [] [] rfl rfl fun D ρ w hs => L_move (V := .int .i64 ((i : Nat) : Int)) rfl ⟨rfl, hs⟩
      · exact ob [] [] rfl rfl fun D ρ w hs => L_move (V := .int .i64 1) rfl ⟨rfl, hs⟩
      · exact ob [1, 2] [] rfl rfl fun D ρ w hs => L_add (a := ((i : Nat) : Int)) (b := 1) (c := ((i + 1 : Nat) : Int)) rfl rfl (nat_i64 (by omega) (by omega)) ⟨rfl, hs⟩
      · exact ob [0, 3] [] rfl rfl fun D ρ w hs => L_slV (l := i + 1) (h := l.length + 1) (n' := (l.length + 1) - (i + 1)) UDR_36 SA_59.1 (by omega) rfl (.inr ⟨_, _, rfl, rfl⟩) (.inl ⟨rfl, rfl⟩) (by omega) (by omega) (by omega) ⟨rfl, hs⟩
      · exact ob [] [] rfl rfl fun D ρ w hs => L_move (V := .slice a (l.length + 1) c) rfl ⟨rfl, hs⟩
      · exact ob [] [] rfl rfl fun D ρ w hs => L_move (V := .int .i64 ((i : Nat) : Int)) rfl ⟨rfl, hs⟩
      · exact ob [5, 6] [] rfl rfl fun D ρ w hs => L_slV (l := i) (h := l.length + 1) (n' := (l.length + 1) - i) UDR_36 SA_59.1 (by omega) rfl (.inr ⟨_, _, rfl, rfl⟩) (.inl ⟨rfl, rfl⟩) (by omega) (by omega) (by omega) ⟨rfl, hs⟩
      · exact ob [4, 7] [] rfl rfl fun D ρ w hs => L_copyTo (lo := i + 1) (ms := (l.drop i).map cec) (ls' := (l.take (i + 1) ++ l.drop i ++ l.drop (i + 1 + (l.drop i).length)).map cec) (n' := (l.take (i + 1) ++ l.drop i ++ l.drop (i + 1 + (l.drop i).length)).length) EL_36 hs 0 rfl rfl rfl (by simp only [List.length_map, List.length_drop, List.length_take, List.length_cons, List.length_nil, List.length_append, List.length_replicate]; omega) (Rd.srcs (Rd.dropM (hs.rd 0 rfl) i hi _ rfl)) (len_map (enc := cec) (fun _ => rfl) _) (one_map cec_one _) (by simp only [List.length_map, List.length_drop, List.length_take, List.length_cons, List.length_nil, List.length_append, List.length_replicate]; omega) (by simp only [List.length_map, List.length_drop, List.length_take, List.length_cons, List.length_nil, List.length_append, List.length_replicate]; omega) (by simp only [List.map_append, List.map_take, List.map_drop, List.map_cons, List.map_nil, List.length_map, List.length_drop, List.length_take, List.length_cons, List.length_nil]) (by rw [List.length_map]) fun _ hs => ⟨rfl, hs⟩
      rintro ρ1 w11 ρ2 hρ hs
      replace hρ : ρ2 = mix [69, 70, 71, 72, 73, 74, 75, 76, 77] ρ1 _ := hρ
      replace hs : Own w S w11 [row (.slice a ((l.take (i + 1) ++ l.drop i ++ l.drop (i + 1 + (l.drop i).length)).length) c) ((l.take (i + 1) ++ l.drop i ++ l.drop (i + 1 + (l.drop i).length)).map cec) 59 7] := hs
      subst hρ
      refine W_seq ?_
      refine W_region ?_
      refine RW_op (L_move (V := .slice a (l.length + 1) c) rfl ?_)
      refine RW_op (L_move (V := .int .i64 ((i : Nat) : Int)) rfl ?_)
      refine RW_op (L_slV (l := i) (h := l.length + 1) (n' := (l.length + 1) - i) UDR_36 SA_59.1 (by omega) rfl (.inr ⟨_, _, rfl, rfl⟩) (.inl ⟨rfl, rfl⟩) (by omega) (by omega) (by omega) ?_)
      refine RW_op (L_move (V := .slice b 1 c2) rfl ?_)
      refine RW_op (L_copyTo (lo := i) (ms := [x].map cec) (ls' := ((l.take (i + 1) ++ l.drop i ++ l.drop (i + 1 + (l.drop i).length)).take i ++ [x] ++ (l.take (i + 1) ++ l.drop i ++ l.drop (i + 1 + (l.drop i).length)).drop (i + [x].length)).map cec) (n' := ((l.take (i + 1) ++ l.drop i ++ l.drop (i + 1 + (l.drop i).length)).take i ++ [x] ++ (l.take (i + 1) ++ l.drop i ++ l.drop (i + 1 + (l.drop i).length)).drop (i + [x].length)).length) EL_36 hs 0 rfl rfl rfl (by simp only [List.length_map, List.length_drop, List.length_take, List.length_cons, List.length_nil, List.length_append, List.length_replicate]; omega) (Rd.srcs (hvo _ _ hs)) (len_map (enc := cec) (fun _ => rfl) _) (one_map cec_one _) (by simp only [List.length_map, List.length_drop, List.length_take, List.length_cons, List.length_nil, List.length_append, List.length_replicate]; omega) (by simp only [List.length_map, List.length_drop, List.length_take, List.length_cons, List.length_nil, List.length_append, List.length_replicate]; omega) (by simp only [List.map_append, List.map_take, List.map_drop, List.map_cons, List.map_nil, List.length_map, List.length_drop, List.length_take, List.length_cons, List.length_nil]) (by rw [List.length_map]) fun w12 hs => ?_)
      refine RW_nil ?_
      refine W_seq ?_
      refine W_region ?_
      refine RW_op (L_move (V := .slice a (l.length + 1) c) rfl ?_)
      refine RW_op (L_assign (V := .slice a (l.length + 1) c) rfl ?_)
      refine RW_nil ?_
      refine W_ret ?_
      refine ⟨_, res_one (V := .slice a (l.length + 1) c) Tryz.results36 rfl, ?_⟩
      have hX : (l.take (i + 1) ++ l.drop i ++ l.drop (i + 1 + (l.drop i).length)).take i ++ [x] ++ (l.take (i + 1) ++ l.drop i ++ l.drop (i + 1 + (l.drop i).length)).drop (i + [x].length) = insL l i x := ins_room (by omega)
      rw [hX] at hs
      exact ⟨(a, c), by rw [insL_len hi], hs.only 0 rfl, trivial⟩
end Tt
end Go.Proofs
namespace Go.Proofs
open Go Go.Vx Go.RowKit
namespace Tt
set_option maxRecDepth 20000 in
set_option maxHeartbeats 4000000 in
theorem cApply_ok (w : World) (s : Sta) (a1 : Option Addr) (c1 : Nat) (a2 : Option Addr) (c2 : Nat) (o : Opn) (hO : OpnOk o) (hok : StaOk s) (hle : s.ents.length ≤ 1000) (hlt : s.ticks.length ≤ 1000) (hr1 : Rd w (.slice a1 s.ents.length c1) 7 (s.ents.map cec)) (hr2 : Rd w (.slice a2 s.ticks.length c2) 2 (s.ticks.map lsc)) : Calls Tryz.prog 7 #[.agg ((vc s.known) ++ [(.slice a1 s.ents.length c1 : Value), (.slice a2 s.ticks.length c2 : Value) ]).toArray, .agg (oc o).toArray] w (fun e w' => ∃ x : (Option Addr × Nat) × (Option Addr × Nat), e = .returned (.tuple #[.agg (vc (applyR s o).known ++ [(.slice x.1.1 (applyR s o).ents.length x.1.2 : Value), (.slice x.2.1 (applyR s o).ticks.length x.2.2 : Value)]).toArray, .int .i64 (applyI s o)]) ∧ Own w no w' [row (.slice x.1.1 (applyR s o).ents.length x.1.2) ((applyR s o).ents.map cec) 59 7, row (.slice x.2.1 (applyR s o).ticks.length x.2.2) ((applyR s o).ticks.map lsc) 87 2] ∧ True) := by
  refine calls_of_Wn (n := 85) Tryz.func7 rfl Tryz.ntmps7 rfl ?_
  have hs := Own.start w
  have ⟨hdo, _, _, _, _, _, hctx⟩ := hO
  have ⟨hv0, hE0, hT0⟩ := hok
  refine W_seq ?_
  refine W_region ?_
  refine RW_op (L_box (V := .agg ((vc s.known) ++ [(.slice a1 s.ents.length c1 : Value), (.slice a2 s.ticks.length c2 : Value) ]).toArray) (cs := (vc s.known) ++ [(.slice a1 s.ents.length c1 : Value), (.slice a2 s.ticks.length c2 : Value) ]) rfl rfl hs fun b1 w2 hs => ?_)
  refine RW_op (L_box (V := .agg (oc o).toArray) (cs := oc o) rfl rfl hs fun b3 w4 hs => ?_)
  refine RW_op (L_alloc (cs := (vc vzero) ++ [(.slice none 0 0 : Value), (.slice none 0 0 : Value) ]) ZV_39 rfl hs fun b5 w6 hs => ?_)
  refine RW_op (L_assign (V := .int .i64 0) rfl ?_)
  refine RW_nil ?_
  refine W_seq ?_
  refine W_seq ?_
  refine W_region ?_
  refine RW_op (L_ldW (cs := (vc s.known) ++ [(.slice a1 s.ents.length c1 : Value), (.slice a2 s.ticks.length c2 : Value) ]) SA_39 hs 0 rfl rfl rfl ?_)
  refine RW_op (L_callP (vs := [.agg ((vc s.known) ++ [(.slice a1 s.ents.length c1 : Value), (.slice a2 s.ticks.length c2 : Value) ]).toArray]) (V := .bool (rightS s)) EN_10 rfl rfl ?hc hs fun w7 hs => ?_)
  case hc => exact (cRight_ok _ s a1 c1 a2 c2 hok (by omega) (by omega) (Rd.own' hr1 hs) (Rd.own' hr2 hs))
  refine RW_op (L_not rfl ?_)
  refine RW_nil ?_
  refine W_cond (t := !(rightS s)) rfl (fun c8 => ?_) (fun c8 => ?_)
  ·
    replace c8 := not_t c8
    refine W_seq ?_
    refine W_region ?_
    refine RW_op (L_buildP (vs := []) (cs := (vc vzero) ++ [(.slice none 0 0 : Value), (.slice none 0 0 : Value) ]) [vc vzero, [(.slice none 0 0 : Value)], [(.slice none 0 0 : Value)]] [vc vzero, [(.slice none 0 0 : Value)], [(.slice none 0 0 : Value)]] BT_39 rfl (rfl) rfl rfl ?_)
    refine RW_op (L_st (V := .agg ((vc vzero) ++ [(.slice none 0 0 : Value), (.slice none 0 0 : Value) ]).toArray) (vs := (vc vzero) ++ [(.slice none 0 0 : Value), (.slice none 0 0 : Value) ]) (cs' := (vc vzero) ++ [(.slice none 0 0 : Value), (.slice none 0 0 : Value) ]) SA_39.1 hs 2 rfl rfl rfl rfl rfl (Nat.le_of_ble_eq_true rfl) (one_app (vc_one _) (one_cons rfl (one_cons rfl one_nil))) (spl_whole rfl) fun w9 hs => ?_)
    replace hs : Own w no w9 [blk b1 ((vc s.known) ++ [(.slice a1 s.ents.length c1 : Value), (.slice a2 s.ticks.length c2 : Value) ]) 39, blk b3 (oc o) 33, blk b5 ((vc vzero) ++ [(.slice none 0 0 : Value), (.slice none 0 0 : Value) ]) 39] := hs
    refine RW_op (L_assign (V := .int .i64 2) rfl ?_)
    refine RW_nil ?_
    refine W_ret ?_
    refine ⟨_, res_cell2 (cs := (vc vzero) ++ [(.slice none 0 0 : Value), (.slice none 0 0 : Value) ]) (V := .int .i64 2) Tryz.results7 SA_39 hs 2 rfl rfl rfl rfl, ?_⟩
    have hI : applyI s o = 2 := by unfold applyI; rw [if_neg (by rw [c8]; decide)]
    have hR : applyR s o = szero := by unfold applyR; rw [if_neg (by rw [hI]; decide)]
    rw [hI, hR]
    exact ⟨((none, 0), (none, 0)), rfl, ((hs.take 0).more _ (row_nil _ _ 59 7)).more _ (row_nil _ _ 87 2), trivial⟩
  ·
    replace c8 := not_f c8
    refine W_skip ?_
    refine W_seq ?_
    refine W_seq ?_
    refine W_region ?_
    refine RW_op (L_fieldAddr FA_39_0 rfl ?_)
    refine RW_op (L_ldA (vs := vc s.known) SA_24 hs 0 rfl rfl rfl rfl ?_)
    refine RW_op (L_ldW (cs := oc o) SA_33 hs 1 rfl rfl rfl ?_)
    refine RW_op (L_callP (vs := [.agg (vc s.known).toArray, .agg (oc o).toArray]) (V := .int .i64 (readyI s.known o)) EN_27 rfl rfl ?hc hs fun w10 hs => ?_)
    case hc => exact (oReady_ok _ s.known o (by assumption))
    refine RW_op (L_assign (V := .int .i64 (readyI s.known o)) rfl ?_)
    refine RW_nil ?_
    refine W_seq ?_
    refine W_region ?_
    refine RW_op (L_move (V := .int .i64 (readyI s.known o)) rfl ?_)
    refine RW_op (L_neq rfl rfl ?_)
    refine RW_nil ?_
    refine W_cond (t := !decide (readyI s.known o = 0)) rfl (fun c11 => ?_) (fun c11 => ?_)
    ·
      replace c11 := not_t c11
      replace c11 := of_decide_eq_false c11
      refine W_seq ?_
      refine W_region ?_
      refine RW_op (L_buildP (vs := []) (cs := (vc vzero) ++ [(.slice none 0 0 : Value), (.slice none 0 0 : Value) ]) [vc vzero, [(.slice none 0 0 : Value)], [(.slice none 0 0 : Value)]] [vc vzero, [(.slice none 0 0 : Value)], [(.slice none 0 0 : Value)]] BT_39 rfl (rfl) rfl rfl ?_)
      refine RW_op (L_move (V := .int .i64 (readyI s.known o)) rfl ?_)
      refine RW_op (L_st (V := .agg ((vc vzero) ++ [(.slice none 0 0 : Value), (.slice none 0 0 : Value) ]).toArray) (vs := (vc vzero) ++ [(.slice none 0 0 : Value), (.slice none 0 0 : Value) ]) (cs' := (vc vzero) ++ [(.slice none 0 0 : Value), (.slice none 0 0 : Value) ]) SA_39.1 hs 2 rfl rfl rfl rfl rfl (Nat.le_of_ble_eq_true rfl) (one_app (vc_one _) (one_cons rfl (one_cons rfl one_nil))) (spl_whole rfl) fun w12 hs => ?_)
      replace hs : Own w no w12 [blk b1 ((vc s.known) ++ [(.slice a1 s.ents.length c1 : Value), (.slice a2 s.ticks.length c2 : Value) ]) 39, blk b3 (oc o) 33, blk b5 ((vc vzero) ++ [(.slice none 0 0 : Value), (.slice none 0 0 : Value) ]) 39] := hs
      refine RW_op (L_assign (V := .int .i64 (readyI s.known o)) rfl ?_)
      refine RW_nil ?_
      refine W_ret ?_
      refine ⟨_, res_cell2 (cs := (vc vzero) ++ [(.slice none 0 0 : Value), (.slice none 0 0 : Value) ]) (V := .int .i64 (readyI s.known o)) Tryz.results7 SA_39 hs 2 rfl rfl rfl rfl, ?_⟩
      have hI : applyI s o = readyI s.known o := by unfold applyI; rw [if_pos c8]
      have hR : applyR s o = szero := by unfold applyR; rw [if_neg (by rw [hI]; exact c11)]
      rw [hI, hR]
      exact ⟨((none, 0), (none, 0)), rfl, ((hs.take 0).more _ (row_nil _ _ 59 7)).more _ (row_nil _ _ 87 2), trivial⟩
    ·
      replace c11 := not_f c11
      replace c11 := of_decide_eq_true c11
      refine W_skip ?_
      refine W_seq ?_
      refine W_region ?_
      refine RW_op (L_ldW (cs := (vc s.known) ++ [(.slice a1 s.ents.length c1 : Value), (.slice a2 s.ticks.length c2 : Value) ]) SA_39 hs 0 rfl rfl rfl ?_)
      refine RW_op (L_callX (α := (Option Addr × Nat) × (Option Addr × Nat)) (vs := [.agg ((vc s.known) ++ [(.slice a1 s.ents.length c1 : Value), (.slice a2 s.ticks.length c2 : Value) ]).toArray]) EN_28 rfl rfl (sOwn_ok _ s a1 c1 a2 c2 hok (by omega) (by omega) (Rd.own' hr1 hs) (Rd.own' hr2 hs)) hs fun x13 w14 hs _ => ?_)
      replace hs : Own w no w14 [blk b1 ((vc s.known) ++ [(.slice a1 s.ents.length c1 : Value), (.slice a2 s.ticks.length c2 : Value) ]) 39, blk b3 (oc o) 33, blk b5 ((vc vzero) ++ [(.slice none 0 0 : Value), (.slice none 0 0 : Value) ]) 39, row (.slice x13.1.1 s.ents.length x13.1.2) (s.ents.map cec) 59 7, row (.slice x13.2.1 s.ticks.length x13.2.2) (s.ticks.map lsc) 87 2] := hs
      refine RW_op (L_alloc (cs := (vc vzero) ++ [(.slice none 0 0 : Value), (.slice none 0 0 : Value) ]) ZV_39 rfl hs fun b15 w16 hs => ?_)
      refine RW_op (L_st (V := .agg ((vc s.known) ++ [(.slice x13.1.1 s.ents.length x13.1.2 : Value), (.slice x13.2.1 s.ticks.length x13.2.2 : Value) ]).toArray) (vs := (vc s.known) ++ [(.slice x13.1.1 s.ents.length x13.1.2 : Value), (.slice x13.2.1 s.ticks.length x13.2.2 : Value) ]) (cs' := (vc s.known) ++ [(.slice x13.1.1 s.ents.length x13.1.2 : Value), (.slice x13.2.1 s.ticks.length x13.2.2 : Value) ]) SA_39.1 hs 5 rfl rfl rfl rfl rfl (Nat.le_of_ble_eq_true rfl) (one_app (vc_one _) (one_cons rfl (one_cons rfl one_nil))) (spl_whole rfl) fun w17 hs => ?_)
      refine RW_nil ?_
      refine W_seq ?_
      have hrc := rightS_iff.1 c8
      have hrd := readyI_dot hO c11
      have ⟨hd0, hd1, hd2, hd3⟩ := hrd.1
      have hfd := fresh_dot hrc hrd.2
      refine W_region ?_
      refine RW_op (L_fieldAddr FA_33_0 rfl ?_)
      refine RW_op (L_fieldAddr FA_30_0 rfl ?_)
      refine RW_op (L_ld (V := .int .u8 o.dot.rep) S1_5 hs 1 rfl rfl rfl ?_)
      refine RW_op (L_fieldAddr FA_33_0 rfl ?_)
      refine RW_op (L_fieldAddr FA_30_1 rfl ?_)
      refine RW_op (L_ld (V := .int .u32 o.dot.seq) S1_22 hs 1 rfl rfl rfl ?_)
      refine RW_op (L_fieldAddr FA_39_0 rfl ?_)
      refine RW_op (L_ixArr1 UD_24 S1_22.1 rfl rfl (by omega) (by omega) ?_)
      refine RW_op (L_st1 (V := .int .u32 o.dot.seq) (cs' := (vc (vset s.known o.dot.rep.toNat o.dot.seq)) ++ [(.slice x13.1.1 s.ents.length x13.1.2 : Value), (.slice x13.2.1 s.ticks.length x13.2.2 : Value) ]) S1_22 hs 5 rfl rfl rfl rfl (vc_ltA (by omega)) (vc_setA (by omega) (by omega)) fun w18 hs => ?_)
      refine RW_nil ?_
      refine W_seq ?_
      refine W_region ?_
      refine RW_op (L_fieldAddr FA_39_1 rfl ?_)
      refine RW_op (L_ld (V := .slice x13.1.1 s.ents.length x13.1.2) S1_36 hs 5 rfl rfl rfl ?_)
      refine RW_op (L_makeFunc (cs := [.pointer (some ⟨b3, 0, none⟩)]) rfl rfl ?_)
      refine RW_op (L_callE (α := Unit) (vs := [.slice x13.1.1 s.ents.length x13.1.2, .func (.func 30) #[] #[.pointer (some ⟨b3, 0, none⟩)]]) (V := fun _ => .slice x13.1.1 (s.ents.filter fun x => !(fun x => endsB o (laidO x)) x).length x13.1.2) (R := row (.slice x13.1.1 s.ents.length x13.1.2) (s.ents.map cec) 59 7) (R' := fun _ => row (.slice x13.1.1 (s.ents.filter fun x => !(fun x => endsB o (laidO x)) x).length x13.1.2) ((s.ents.filter fun x => !(fun x => endsB o (laidO x)) x).map cec) 59 7) (Lo := fun _ => []) (F := fun _ _ => True) EN_29 rfl rfl hs 3 1 (by decide) rfl rfl (fun S hS hlS hSb hc => dlf59_ok _ S x13.1.1 x13.1.2 s.ents 30 [.pointer (some ⟨b3, 0, none⟩)] EN_30 (fun x => endsB o (laidO x)) (fun w1 L1 h x hx => apply1_ok w1 x o b3 (hE0 x hx).2.2.2.2.1 (hc.own h hSb)) hS hlS) fun _ w19 hs _ => ?_)
      replace hs : Own w no w19 [blk b1 ((vc s.known) ++ [(.slice a1 s.ents.length c1 : Value), (.slice a2 s.ticks.length c2 : Value) ]) 39, blk b3 (oc o) 33, blk b5 ((vc vzero) ++ [(.slice none 0 0 : Value), (.slice none 0 0 : Value) ]) 39, row (.slice x13.1.1 ((s.ents.filter fun x => !(fun x => endsB o (laidO x)) x).length) x13.1.2) ((s.ents.filter fun x => !(fun x => endsB o (laidO x)) x).map cec) 59 7, row (.slice x13.2.1 s.ticks.length x13.2.2) (s.ticks.map lsc) 87 2, blk b15 ((vc (vset s.known o.dot.rep.toNat o.dot.seq)) ++ [(.slice x13.1.1 s.ents.length x13.1.2 : Value), (.slice x13.2.1 s.ticks.length x13.2.2 : Value) ]) 39] := hs
      refine RW_op (L_fieldAddr FA_39_1 rfl ?_)
      refine RW_op (L_st1 (V := .slice x13.1.1 ((s.ents.filter fun x => !(fun x => endsB o (laidO x)) x).length) x13.1.2) (cs' := (vc (vset s.known o.dot.rep.toNat o.dot.seq)) ++ [(.slice x13.1.1 ((s.ents.filter fun x => !(fun x => endsB o (laidO x)) x).length) x13.1.2 : Value), (.slice x13.2.1 s.ticks.length x13.2.2 : Value) ]) S1_36 hs 5 rfl rfl rfl rfl (Nat.le_of_ble_eq_true rfl) rfl fun w20 hs => ?_)
      refine RW_nil ?_
      refine W_seq ?_
      refine W_seq ?_
      refine W_regO [some 38, some 39, some 40, some 41, some 42, some 43, some 44, some 45, some 46, some 47, some 48, some 49, some 50] [] [0, 1, 3, 7, 15, 31, 63, 127, 255, 511, 1023, 2047, 4095] [pv (.pointer (some ⟨b3, 0 + 2, none⟩)), pv (.int .u8 o.kind), pv (.bool (decide (o.kind = 1))), pv (.bool (decide (o.kind = 1))), pg ((decide (o.kind = 1)) == false) (.pointer (some ⟨b3, 0 + 2, none⟩)), pg ((decide (o.kind = 1)) == false) (.int .u8 o.kind), pg ((decide (o.kind = 1)) == false) (.bool (decide (o.kind = 2))), pv (.bool ((decide (o.kind = 1)) || (decide (o.kind = 2)))), pv (.bool ((decide (o.kind = 1)) || (decide (o.kind = 2)))), pg (((decide (o.kind = 1)) || (decide (o.kind = 2))) == false) (.pointer (some ⟨b3, 0 + 2, none⟩)), pg (((decide (o.kind = 1)) || (decide (o.kind = 2))) == false) (.int .u8 o.kind), pg (((decide (o.kind = 1)) || (decide (o.kind = 2))) == false) (.bool (decide (o.kind = 4))), pv (.bool (laysB o))] (fun _ _ => _) [12] (by kernel_rfl) hs ⟨?_, ?_, ?_, ?_, ?_, ?_, ?_, ?_, ?_, ?_, ?_, ?_, ?_, trivial⟩ ?_
      · exact ob [] [] rfl rfl fun D ρ w hs => L_fieldAddr FA_33_1 rfl ⟨rfl, hs⟩
      · exact ob [0] [] rfl rfl fun D ρ w hs => L_ld (V := .int .u8 o.kind) S1_5 hs 1 rfl rfl rfl ⟨rfl, hs⟩
      · exact ob [1] [] rfl rfl fun D ρ w hs => L_eql rfl rfl ⟨rfl, hs⟩
      · exact ob [2] [] rfl rfl fun D ρ w hs => L_move (V := .bool (decide (o.kind = 1))) rfl ⟨rfl, hs⟩
      · exact obg [3] [] (decide (o.kind = 1)) rfl (fun _ => rfl) rfl (fun _ _ _ _ h => h) fun D ρ w hG hs => L_fieldAddr FA_33_1 rfl ⟨rfl, hs⟩
      · exact obgy [3, 4] [] [4] (decide (o.kind = 1)) rfl (fun _ => rfl) rfl (fun _ _ _ _ h => h) (fun hG => ⟨hG, trivial⟩) fun D ρ w hG hs => L_ld (V := .int .u8 o.kind) S1_5 hs 1 rfl rfl rfl ⟨rfl, hs⟩
      · exact obgy [3, 5] [] [5] (decide (o.kind = 1)) rfl (fun _ => rfl) rfl (fun _ _ _ _ h => h) (fun hG => ⟨hG, trivial⟩) fun D ρ w hG hs => L_eql rfl rfl ⟨rfl, hs⟩
      · exact ob [3, 6] [] rfl rfl fun D ρ w hs => L_orC (h' := decide (o.kind = 2)) rfl rfl rfl ⟨rfl, hs⟩
      · exact ob [7] [] rfl rfl fun D ρ w hs => L_move (V := .bool ((decide (o.kind = 1)) || (decide (o.kind = 2)))) rfl ⟨rfl, hs⟩
      · exact obg [8] [] ((decide (o.kind = 1)) || (decide (o.kind = 2))) rfl (fun _ => rfl) rfl (fun _ _ _ _ h => h) fun D ρ w hG hs => L_fieldAddr FA_33_1 rfl ⟨rfl, hs⟩
      · exact obgy [8, 9] [] [9] ((decide (o.kind = 1)) || (decide (o.kind = 2))) rfl (fun _ => rfl) rfl (fun _ _ _ _ h => h) (fun hG => ⟨hG, trivial⟩) fun D ρ w hG hs => L_ld (V := .int .u8 o.kind) S1_5 hs 1 rfl rfl rfl ⟨rfl, hs⟩
      · exact obgy [8, 10] [] [10] ((decide (o.kind = 1)) || (decide (o.kind = 2))) rfl (fun _ => rfl) rfl (fun _ _ _ _ h => h) (fun hG => ⟨hG, trivial⟩) fun D ρ w hG hs => L_eql rfl rfl ⟨rfl, hs⟩
      · exact ob [8, 11] [] rfl rfl fun D ρ w hs => opW_to (V := .bool (((decide (o.kind = 1)) || (decide (o.kind = 2))) || (decide (o.kind = 4)))) (V' := .bool (laysB o)) (L_orC (h' := decide (o.kind = 4)) rfl rfl rfl ⟨rfl, rfl⟩) (congrArg Value.bool (lays_or o)) ⟨rfl, hs⟩
      rintro ρ1 w21 ρ2 hρ hs
      replace hρ : ρ2 = upd (mix [38, 39, 40, 41, 42, 43, 44, 45, 46, 47, 48, 49, 50] ρ1 _) 50 (.bool (laysB o)) := hρ
      subst hρ
      refine W_mid (fun ρ ρ' w' => ∃ (ρo : Env) (a9 : Option Addr) (c9 : Nat) (L9 : List Cen), ρ' = mix [8, 9, 10, 51, 52, 53, 54, 55, 56, 57, 58, 59, 60, 61, 62, 63, 64, 65, 66, 67, 68, 69, 70, 71, 72, 73, 74, 75, 76, 77] ρo ρ ∧ (L9 = (applyE s o).ents) ∧ Own w no w' [blk b1 ((vc s.known) ++ [(.slice a1 s.ents.length c1 : Value), (.slice a2 s.ticks.length c2 : Value) ]) 39, blk b3 (oc o) 33, blk b5 ((vc vzero) ++ [(.slice none 0 0 : Value), (.slice none 0 0 : Value) ]) 39, row (.slice a9 L9.length c9) (L9.map cec) 59 7, row (.slice x13.2.1 s.ticks.length x13.2.2) (s.ticks.map lsc) 87 2, blk b15 ((vc (vset s.known o.dot.rep.toNat o.dot.seq)) ++ [(.slice a9 L9.length c9 : Value), (.slice x13.2.1 s.ticks.length x13.2.2 : Value) ]) 39]) ?_ ?_
      ·
        refine W_cond (t := laysB o) rfl (fun c22 => ?_) (fun c22 => ?_)
        ·
          refine W_seq ?_
          replace hs := hs.more emp trivial
          refine W_regD HM [some 51, some 52, some 53, some 54, some 55, some 56, some 57, some 58, some 59, some 60, some 61, some 62, some 63, some 8, none] [[], [], [], [], [], [], [], [], [], [], [], [], [], [8]] [0, 1, 0, 4, 0, 16, 0, 64, 0, 256, 0, 1024, 4095, 0, 16383] [pv (.pointer (some ⟨b3, 0 + 3, none⟩)), pv (.int .u16 o.cart), pv (.pointer (some ⟨b3, 0 + 4, none⟩)), pv (.int .u16 o.item), pv (.pointer (some ⟨b3, 0 + 5, none⟩)), pv (.int .u16 o.qty), pv (.pointer (some ⟨b3, 0 + 2, none⟩)), pv (.int .u8 o.kind), pv (.pointer (some ⟨b3, 0 + 0, none⟩)), pv (.agg (dc o.dot).toArray), pv (.agg (oc o).toArray), pv (.int .u64 (cntO o)), pv (.agg (cec (⟨o.cart, o.item, o.qty, o.kind, o.dot, cntO o⟩ : Cen)).toArray), (true, fun ρ => .pointer (some ⟨(bOf (ρ 8)), 0, none⟩)), pn] (fun D ρ => [blk b1 ((vc s.known) ++ [(.slice a1 s.ents.length c1 : Value), (.slice a2 s.ticks.length c2 : Value) ]) 39, blk b3 (oc o) 33, blk b5 ((vc vzero) ++ [(.slice none 0 0 : Value), (.slice none 0 0 : Value) ]) 39, row (.slice x13.1.1 ((s.ents.filter fun x => !(fun x => endsB o (laidO x)) x).length) x13.1.2) ((s.ents.filter fun x => !(fun x => endsB o (laidO x)) x).map cec) 59 7, row (.slice x13.2.1 s.ticks.length x13.2.2) (s.ticks.map lsc) 87 2, blk b15 ((vc (vset s.known o.dot.rep.toNat o.dot.seq)) ++ [(.slice x13.1.1 ((s.ents.filter fun x => !(fun x => endsB o (laidO x)) x).length) x13.1.2 : Value), (.slice x13.2.1 s.ticks.length x13.2.2 : Value) ]) 39, cond (D 14) (blk (bOf (ρ 8)) (cec (⟨o.cart, o.item, o.qty, o.kind, o.dot, cntO o⟩ : Cen)) 59) (cond (D 13) (blk (bOf (ρ 8)) (cec (⟨0, 0, 0, 0, (⟨0, 0⟩ : Dot), 0⟩ : Cen)) 59) (emp))]) [13] (by kernel_rfl) hs ⟨?_, ?_, ?_, ?_, ?_, ?_, ?_, ?_, ?_, ?_, ?_, ?_, ?_, ?_, ?_, trivial⟩ ?_
          · exact ob [] [] rfl rfl fun D ρ w hs => L_fieldAddr FA_33_2 rfl ⟨rfl, hs⟩
          · exact ob [0] [] rfl rfl fun D ρ w hs => L_ld (V := .int .u16 o.cart) S1_31 hs 1 rfl rfl rfl ⟨rfl, hs⟩
          · exact ob [] [] rfl rfl fun D ρ w hs => L_fieldAddr FA_33_3 rfl ⟨rfl, hs⟩
          · exact ob [2] [] rfl rfl fun D ρ w hs => L_ld (V := .int .u16 o.item) S1_31 hs 1 rfl rfl rfl ⟨rfl, hs⟩
          · exact ob [] [] rfl rfl fun D ρ w hs => L_fieldAddr FA_33_4 rfl ⟨rfl, hs⟩
          · exact ob [4] [] rfl rfl fun D ρ w hs => L_ld (V := .int .u16 o.qty) S1_31 hs 1 rfl rfl rfl ⟨rfl, hs⟩
          · exact ob [] [] rfl rfl fun D ρ w hs => L_fieldAddr FA_33_1 rfl ⟨rfl, hs⟩
          · exact ob [6] [] rfl rfl fun D ρ w hs => L_ld (V := .int .u8 o.kind) S1_5 hs 1 rfl rfl rfl ⟨rfl, hs⟩
          · exact ob [] [] rfl rfl fun D ρ w hs => L_fieldAddr FA_33_0 rfl ⟨rfl, hs⟩
          · exact ob [8] [] rfl rfl fun D ρ w hs => L_ldA (vs := dc o.dot) SA_30 hs 1 rfl rfl rfl rfl ⟨rfl, hs⟩
          · exact ob [] [] rfl rfl fun D ρ w hs => L_ldW (cs := oc o) SA_33 hs 1 rfl rfl rfl ⟨rfl, hs⟩
          · exact ob [10] [] rfl rfl fun D ρ w hs => L_callP (vs := [.agg (oc o).toArray]) (V := .int .u64 (cntO o)) EN_33 rfl rfl (oCount_ok _ o (by assumption)) hs fun _ hs => ⟨rfl, hs⟩
          · exact ob [1, 3, 5, 7, 9, 11] [] rfl rfl fun D ρ w hs => L_build (vs := [(0, .int .u16 o.cart), (1, .int .u16 o.item), (2, .int .u16 o.qty), (3, .int .u8 o.kind), (4, .agg (dc o.dot).toArray), (5, .int .u64 (cntO o))]) (cs := cec (⟨o.cart, o.item, o.qty, o.kind, o.dot, cntO o⟩ : Cen)) BT_59 (rfl) rfl ⟨rfl, hs⟩
          · exact ob [] [14] rfl rfl fun D ρ w hs => L_alloc (cs := cec (⟨0, 0, 0, 0, (⟨0, 0⟩ : Dot), 0⟩ : Cen)) ZV_59 rfl hs fun _ _ hs => ⟨rfl, hs.put 6 (Nat.le_of_ble_eq_true rfl)⟩
          · exact ob [12, 13] [] rfl rfl fun D ρ w hs => L_st (V := .agg (cec (⟨o.cart, o.item, o.qty, o.kind, o.dot, cntO o⟩ : Cen)).toArray) (vs := cec (⟨o.cart, o.item, o.qty, o.kind, o.dot, cntO o⟩ : Cen)) (cs' := cec (⟨o.cart, o.item, o.qty, o.kind, o.dot, cntO o⟩ : Cen)) SA_59.1 hs 6 rfl rfl rfl rfl rfl (Nat.le_of_ble_eq_true rfl) (cec_one _) (spl_whole rfl) fun _ hs => ⟨trivial, hs⟩
          rintro ρ1 w26 ρ2 hρ hs
          replace hρ : ρ2 = upd (mix [51, 52, 53, 54, 55, 56, 57, 58, 59, 60, 61, 62, 63, 8] ρ1 _) 8 (.pointer (some ⟨(bOf (ρ1 8)), 0, none⟩)) := hρ
          replace hs : Own w no w26 [blk b1 ((vc s.known) ++ [(.slice a1 s.ents.length c1 : Value), (.slice a2 s.ticks.length c2 : Value) ]) 39, blk b3 (oc o) 33, blk b5 ((vc vzero) ++ [(.slice none 0 0 : Value), (.slice none 0 0 : Value) ]) 39, row (.slice x13.1.1 ((s.ents.filter fun x => !(fun x => endsB o (laidO x)) x).length) x13.1.2) ((s.ents.filter fun x => !(fun x => endsB o (laidO x)) x).map cec) 59 7, row (.slice x13.2.1 s.ticks.length x13.2.2) (s.ticks.map lsc) 87 2, blk b15 ((vc (vset s.known o.dot.rep.toNat o.dot.seq)) ++ [(.slice x13.1.1 ((s.ents.filter fun x => !(fun x => endsB o (laidO x)) x).length) x13.1.2 : Value), (.slice x13.2.1 s.ticks.length x13.2.2 : Value) ]) 39, blk (bOf (ρ1 8)) (cec (⟨o.cart, o.item, o.qty, o.kind, o.dot, cntO o⟩ : Cen)) 59] := hs
          generalize (bOf (ρ1 8)) = b27 at hρ hs
          subst hρ
          refine W_seq ?_
          have hfl := List.length_filter_le (fun x => !(fun x => endsB o (laidO x)) x) s.ents
          refine W_region ?_
          refine RW_op (L_fieldAddr FA_39_1 rfl ?_)
          refine RW_op (L_ld (V := .slice x13.1.1 ((s.ents.filter fun x => !(fun x => endsB o (laidO x)) x).length) x13.1.2) S1_36 hs 5 rfl rfl rfl ?_)
          refine RW_op (L_ldW (cs := cec (⟨o.cart, o.item, o.qty, o.kind, o.dot, cntO o⟩ : Cen)) SA_59 hs 6 rfl rfl rfl ?_)
          refine RW_op (L_callPV (vs := [.slice x13.1.1 ((s.ents.filter fun x => !(fun x => endsB o (laidO x)) x).length) x13.1.2, .agg (cec (⟨o.cart, o.item, o.qty, o.kind, o.dot, cntO o⟩ : Cen)).toArray, .func (.func 35) #[] #[]]) (V := .tuple #[.int .i64 ((posB (fun x => decide ((fun x : Cen => placeI x (⟨o.cart, o.item, o.qty, o.kind, o.dot, cntO o⟩ : Cen)) x < 0)) (s.ents.filter fun x => !(fun x => endsB o (laidO x)) x) : Nat) : Int), .bool (decide (posB (fun x => decide ((fun x : Cen => placeI x (⟨o.cart, o.item, o.qty, o.kind, o.dot, cntO o⟩ : Cen)) x < 0)) (s.ents.filter fun x => !(fun x => endsB o (laidO x)) x) < (s.ents.filter fun x => !(fun x => endsB o (laidO x)) x).length) && decide ((fun x : Cen => placeI x (⟨o.cart, o.item, o.qty, o.kind, o.dot, cntO o⟩ : Cen)) (gd (s.ents.filter fun x => !(fun x => endsB o (laidO x)) x) (posB (fun x => decide ((fun x : Cen => placeI x (⟨o.cart, o.item, o.qty, o.kind, o.dot, cntO o⟩ : Cen)) x < 0)) (s.ents.filter fun x => !(fun x => endsB o (laidO x)) x))) = 0))]) (V' := .tuple #[.int .i64 ((posB (befE (⟨o.cart, o.item, o.qty, o.kind, o.dot, cntO o⟩ : Cen)) (s.ents.filter fun x => !(fun x => endsB o (laidO x)) x) : Nat) : Int), .bool (decide (posB (befE (⟨o.cart, o.item, o.qty, o.kind, o.dot, cntO o⟩ : Cen)) (s.ents.filter fun x => !(fun x => endsB o (laidO x)) x) < (s.ents.filter fun x => !(fun x => endsB o (laidO x)) x).length) && decide (placeI (gd (s.ents.filter fun x => !(fun x => endsB o (laidO x)) x) (posB (befE (⟨o.cart, o.item, o.qty, o.kind, o.dot, cntO o⟩ : Cen)) (s.ents.filter fun x => !(fun x => endsB o (laidO x)) x))) (⟨o.cart, o.item, o.qty, o.kind, o.dot, cntO o⟩ : Cen) = 0))]) rfl EN_34 rfl rfl (bsf59_ok _ x13.1.1 x13.1.2 (s.ents.filter fun x => !(fun x => endsB o (laidO x)) x) (⟨o.cart, o.item, o.qty, o.kind, o.dot, cntO o⟩ : Cen) (by omega) 35 EN_35 (fun x : Cen => placeI x (⟨o.cart, o.item, o.qty, o.kind, o.dot, cntO o⟩ : Cen)) (fun w x => place_ok w x (⟨o.cart, o.item, o.qty, o.kind, o.dot, cntO o⟩ : Cen)) (posE_mono (List.Pairwise.sublist List.filter_sublist hrc.re) (⟨o.cart, o.item, o.qty, o.kind, o.dot, cntO o⟩ : Cen)) (hs.rd 3 rfl)) hs fun w28 hs => ?_)
          refine RW_op (L_move (V := .tuple #[.int .i64 ((posB (befE (⟨o.cart, o.item, o.qty, o.kind, o.dot, cntO o⟩ : Cen)) (s.ents.filter fun x => !(fun x => endsB o (laidO x)) x) : Nat) : Int), .bool (decide (posB (befE (⟨o.cart, o.item, o.qty, o.kind, o.dot, cntO o⟩ : Cen)) (s.ents.filter fun x => !(fun x => endsB o (laidO x)) x) < (s.ents.filter fun x => !(fun x => endsB o (laidO x)) x).length) && decide (placeI (gd (s.ents.filter fun x => !(fun x => endsB o (laidO x)) x) (posB (befE (⟨o.cart, o.item, o.qty, o.kind, o.dot, cntO o⟩ : Cen)) (s.ents.filter fun x => !(fun x => endsB o (laidO x)) x))) (⟨o.cart, o.item, o.qty, o.kind, o.dot, cntO o⟩ : Cen) = 0))]) rfl ?_)
          refine RW_op (L_extract (V := .int .i64 ((posB (befE (⟨o.cart, o.item, o.qty, o.kind, o.dot, cntO o⟩ : Cen)) (s.ents.filter fun x => !(fun x => endsB o (laidO x)) x) : Nat) : Int)) rfl rfl ?_)
          refine RW_op (L_extract (V := .bool (decide (posB (befE (⟨o.cart, o.item, o.qty, o.kind, o.dot, cntO o⟩ : Cen)) (s.ents.filter fun x => !(fun x => endsB o (laidO x)) x) < (s.ents.filter fun x => !(fun x => endsB o (laidO x)) x).length) && decide (placeI (gd (s.ents.filter fun x => !(fun x => endsB o (laidO x)) x) (posB (befE (⟨o.cart, o.item, o.qty, o.kind, o.dot, cntO o⟩ : Cen)) (s.ents.filter fun x => !(fun x => endsB o (laidO x)) x))) (⟨o.cart, o.item, o.qty, o.kind, o.dot, cntO o⟩ : Cen) = 0))) rfl rfl ?_)
          refine RW_op (L_assign (V := .int .i64 ((posB (befE (⟨o.cart, o.item, o.qty, o.kind, o.dot, cntO o⟩ : Cen)) (s.ents.filter fun x => !(fun x => endsB o (laidO x)) x) : Nat) : Int)) rfl ?_)
          refine RW_op (L_assign (V := .bool (decide (posB (befE (⟨o.cart, o.item, o.qty, o.kind, o.dot, cntO o⟩ : Cen)) (s.ents.filter fun x => !(fun x => endsB o (laidO x)) x) < (s.ents.filter fun x => !(fun x => endsB o (laidO x)) x).length) && decide (placeI (gd (s.ents.filter fun x => !(fun x => endsB o (laidO x)) x) (posB (befE (⟨o.cart, o.item, o.qty, o.kind, o.dot, cntO o⟩ : Cen)) (s.ents.filter fun x => !(fun x => endsB o (laidO x)) x))) (⟨o.cart, o.item, o.qty, o.kind, o.dot, cntO o⟩ : Cen) = 0))) rfl ?_)
          refine RW_nil ?_
          have hpe := posB_len (f := befE (⟨o.cart, o.item, o.qty, o.kind, o.dot, cntO o⟩ : Cen)) (l := s.ents.filter fun x => !(fun x => endsB o (laidO x)) x)
          refine W_region ?_
          refine RW_op (L_fieldAddr FA_39_1 rfl ?_)
          refine RW_op (L_ld (V := .slice x13.1.1 ((s.ents.filter fun x => !(fun x => endsB o (laidO x)) x).length) x13.1.2) S1_36 hs 5 rfl rfl rfl ?_)
          refine RW_op (L_move (V := .int .i64 ((posB (befE (⟨o.cart, o.item, o.qty, o.kind, o.dot, cntO o⟩ : Cen)) (s.ents.filter fun x => !(fun x => endsB o (laidO x)) x) : Nat) : Int)) rfl ?_)
          refine RW_op (L_ldW (cs := cec (⟨o.cart, o.item, o.qty, o.kind, o.dot, cntO o⟩ : Cen)) SA_59 hs 6 rfl rfl rfl ?_)
          refine RW_op (L_bs (vals := [.agg (cec (⟨o.cart, o.item, o.qty, o.kind, o.dot, cntO o⟩ : Cen)).toArray]) (ls := List.map cec ([(⟨o.cart, o.item, o.qty, o.kind, o.dot, cntO o⟩ : Cen)] : List Cen)) EL_36 rfl rfl rfl (len_map (enc := cec) (fun _ => rfl) _) (one_map cec_one _) (Nat.le_of_ble_eq_true rfl) hs fun b29 w30 hs => ?_)
          refine RW_op (L_callD (α := Option Addr × Nat) (vs := [.slice x13.1.1 ((s.ents.filter fun x => !(fun x => endsB o (laidO x)) x).length) x13.1.2, .int .i64 ((posB (befE (⟨o.cart, o.item, o.qty, o.kind, o.dot, cntO o⟩ : Cen)) (s.ents.filter fun x => !(fun x => endsB o (laidO x)) x) : Nat) : Int), .slice (some ⟨b29, 0, none⟩) 1 1]) (V := fun x => .slice x.1 (insL (s.ents.filter fun x => !(fun x => endsB o (laidO x)) x) (posB (befE (⟨o.cart, o.item, o.qty, o.kind, o.dot, cntO o⟩ : Cen)) (s.ents.filter fun x => !(fun x => endsB o (laidO x)) x)) (⟨o.cart, o.item, o.qty, o.kind, o.dot, cntO o⟩ : Cen)).length x.2) (R := row (.slice x13.1.1 ((s.ents.filter fun x => !(fun x => endsB o (laidO x)) x).length) x13.1.2) ((s.ents.filter fun x => !(fun x => endsB o (laidO x)) x).map cec) 59 7) (R' := fun x => row (.slice x.1 (insL (s.ents.filter fun x => !(fun x => endsB o (laidO x)) x) (posB (befE (⟨o.cart, o.item, o.qty, o.kind, o.dot, cntO o⟩ : Cen)) (s.ents.filter fun x => !(fun x => endsB o (laidO x)) x)) (⟨o.cart, o.item, o.qty, o.kind, o.dot, cntO o⟩ : Cen)).length x.2) ((insL (s.ents.filter fun x => !(fun x => endsB o (laidO x)) x) (posB (befE (⟨o.cart, o.item, o.qty, o.kind, o.dot, cntO o⟩ : Cen)) (s.ents.filter fun x => !(fun x => endsB o (laidO x)) x)) (⟨o.cart, o.item, o.qty, o.kind, o.dot, cntO o⟩ : Cen)).map cec) 59 7) (Lo := fun _ => []) (F := fun _ _ => True) EN_36 rfl rfl hs 3 7 (by decide) rfl rfl (Nat.le_of_ble_eq_true rfl) (fun S hS hlt hnS hpl9 => ins59_ok _ S x13.1.1 x13.1.2 (s.ents.filter fun x => !(fun x => endsB o (laidO x)) x) (posB (befE (⟨o.cart, o.item, o.qty, o.kind, o.dot, cntO o⟩ : Cen)) (s.ents.filter fun x => !(fun x => endsB o (laidO x)) x)) hpe (⟨o.cart, o.item, o.qty, o.kind, o.dot, cntO o⟩ : Cen) (some ⟨b29, 0, none⟩) 1 (hs.rd 7 rfl) hpl9 hnS hpl9.lt (by omega) hS hlt) fun x32 w31 hs _ => ?_)
          refine RW_op (L_fieldAddr FA_39_1 rfl ?_)
          refine RW_op (L_st1 (V := .slice x32.1 ((insL (s.ents.filter fun x => !(fun x => endsB o (laidO x)) x) (posB (befE (⟨o.cart, o.item, o.qty, o.kind, o.dot, cntO o⟩ : Cen)) (s.ents.filter fun x => !(fun x => endsB o (laidO x)) x)) (⟨o.cart, o.item, o.qty, o.kind, o.dot, cntO o⟩ : Cen)).length) x32.2) (cs' := (vc (vset s.known o.dot.rep.toNat o.dot.seq)) ++ [(.slice x32.1 ((insL (s.ents.filter fun x => !(fun x => endsB o (laidO x)) x) (posB (befE (⟨o.cart, o.item, o.qty, o.kind, o.dot, cntO o⟩ : Cen)) (s.ents.filter fun x => !(fun x => endsB o (laidO x)) x)) (⟨o.cart, o.item, o.qty, o.kind, o.dot, cntO o⟩ : Cen)).length) x32.2 : Value), (.slice x13.2.1 s.ticks.length x13.2.2 : Value) ]) S1_36 hs 5 rfl rfl rfl rfl (Nat.le_of_ble_eq_true rfl) rfl fun w33 hs => ?_)
          replace hs : Own w no w33 [blk b1 ((vc s.known) ++ [(.slice a1 s.ents.length c1 : Value), (.slice a2 s.ticks.length c2 : Value) ]) 39, blk b3 (oc o) 33, blk b5 ((vc vzero) ++ [(.slice none 0 0 : Value), (.slice none 0 0 : Value) ]) 39, row (.slice x32.1 ((insL (s.ents.filter fun x => !(fun x => endsB o (laidO x)) x) (posB (befE (⟨o.cart, o.item, o.qty, o.kind, o.dot, cntO o⟩ : Cen)) (s.ents.filter fun x => !(fun x => endsB o (laidO x)) x)) (⟨o.cart, o.item, o.qty, o.kind, o.dot, cntO o⟩ : Cen)).length) x32.2) ((insL (s.ents.filter fun x => !(fun x => endsB o (laidO x)) x) (posB (befE (⟨o.cart, o.item, o.qty, o.kind, o.dot, cntO o⟩ : Cen)) (s.ents.filter fun x => !(fun x => endsB o (laidO x)) x)) (⟨o.cart, o.item, o.qty, o.kind, o.dot, cntO o⟩ : Cen)).map cec) 59 7, row (.slice x13.2.1 s.ticks.length x13.2.2) (s.ticks.map lsc) 87 2, blk b15 ((vc (vset s.known o.dot.rep.toNat o.dot.seq)) ++ [(.slice x32.1 ((insL (s.ents.filter fun x => !(fun x => endsB o (laidO x)) x) (posB (befE (⟨o.cart, o.item, o.qty, o.kind, o.dot, cntO o⟩ : Cen)) (s.ents.filter fun x => !(fun x => endsB o (laidO x)) x)) (⟨o.cart, o.item, o.qty, o.kind, o.dot, cntO o⟩ : Cen)).length) x32.2 : Value), (.slice x13.2.1 s.ticks.length x13.2.2 : Value) ]) 39, blk b27 (cec (⟨o.cart, o.item, o.qty, o.kind, o.dot, cntO o⟩ : Cen)) 59, row (.slice (some ⟨b29, 0, none⟩) 1 1) ([(⟨o.cart, o.item, o.qty, o.kind, o.dot, cntO o⟩ : Cen)].map cec) 59 7] := hs
          refine RW_nil ?_
          exact ⟨_, x32.1, x32.2, insL (s.ents.filter fun x => !(fun x => endsB o (laidO x)) x) (posB (befE (⟨o.cart, o.item, o.qty, o.kind, o.dot, cntO o⟩ : Cen)) (s.ents.filter fun x => !(fun x => endsB o (laidO x)) x)) (⟨o.cart, o.item, o.qty, o.kind, o.dot, cntO o⟩ : Cen), mix_of (ds := [8, 9, 10, 51, 52, 53, 54, 55, 56, 57, 58, 59, 60, 61, 62, 63, 64, 65, 66, 67, 68, 69, 70, 71, 72, 73, 74, 75, 76, 77]) (by repeat (first | exact Agr.refl _ _ | refine Agr.upd ?_ rfl | refine Agr.mix ?_ rfl)), (by unfold applyE; rw [if_pos c22]; exact (putE_ins (fun hm => hfd (filt_dots hm))).symm), hs.take 6⟩
        ·
          refine W_skip ?_
          exact ⟨_, x13.1.1, x13.1.2, (s.ents.filter fun x => !(fun x => endsB o (laidO x)) x), mix_of (ds := [8, 9, 10, 51, 52, 53, 54, 55, 56, 57, 58, 59, 60, 61, 62, 63, 64, 65, 66, 67, 68, 69, 70, 71, 72, 73, 74, 75, 76, 77]) (by repeat (first | exact Agr.refl _ _ | refine Agr.upd ?_ rfl | refine Agr.mix ?_ rfl)), (by unfold applyE; rw [if_neg (by rw [c22]; decide)]), hs.take 6⟩
      · rintro ρ' w34 ⟨ρo, a9, c9, L9, rfl, hL9, hs⟩
        refine W_seq ?_
        refine W_region ?_
        refine RW_op (L_fieldAddr FA_33_2 rfl ?_)
        refine RW_op (L_ld (V := .int .u16 o.cart) S1_31 hs 1 rfl rfl rfl ?_)
        refine RW_op (L_fieldAddr FA_33_5 rfl ?_)
        refine RW_op (L_ld (V := .int .u32 o.tick) S1_22 hs 1 rfl rfl rfl ?_)
        refine RW_op (L_build (vs := [(0, .int .u16 o.cart), (1, .int .u32 o.tick)]) (cs := lsc (⟨o.cart, o.tick⟩ : Lst)) BT_87 (rfl) rfl ?_)
        replace hs := hs.join 5 4 (by decide) rfl rfl
        refine RW_op (L_callB (α := Option Addr × Nat) (vs := [.pointer (some ⟨b15, 0, none⟩), .agg (lsc (⟨o.cart, o.tick⟩ : Lst)).toArray]) (V := fun _ => .tuple #[]) (R := star [blk b15 (vc (vset s.known o.dot.rep.toNat o.dot.seq) ++ [(.slice a9 L9.length c9 : Value), (.slice x13.2.1 s.ticks.length x13.2.2 : Value)]) 39, row (.slice x13.2.1 s.ticks.length x13.2.2) (s.ticks.map lsc) 87 2]) (R' := fun x => star [blk b15 (vc (vset s.known o.dot.rep.toNat o.dot.seq) ++ [(.slice a9 L9.length c9 : Value), (.slice x.1 (putT o.cart o.tick s.ticks).length x.2 : Value)]) 39, row (.slice x.1 (putT o.cart o.tick s.ticks).length x.2) ((putT o.cart o.tick s.ticks).map lsc) 87 2]) (Lo := fun _ => []) (F := fun _ _ => True) EN_37 rfl rfl hs 5 rfl (fun S hS hlS => tick_ok _ S b15 (vset s.known o.dot.rep.toNat o.dot.seq) (.slice a9 L9.length c9) x13.2.1 x13.2.2 s.ticks (⟨o.cart, o.tick⟩ : Lst) (by omega) hrc.rt hS hlS) fun x35 w36 hs _ => ?_)
        replace hs := hs.split 5 rfl
        replace hs := hs.put 4 (Nat.le_of_ble_eq_true rfl)
        refine RW_nil ?_
        refine W_seq ?_
        refine W_region ?_
        refine RW_op (L_ldW (cs := (vc (vset s.known o.dot.rep.toNat o.dot.seq)) ++ [(.slice a9 L9.length c9 : Value), (.slice x35.1 ((putT o.cart o.tick s.ticks).length) x35.2 : Value) ]) SA_39 hs 5 rfl rfl rfl ?_)
        refine RW_op (L_st (V := .agg ((vc (vset s.known o.dot.rep.toNat o.dot.seq)) ++ [(.slice a9 L9.length c9 : Value), (.slice x35.1 ((putT o.cart o.tick s.ticks).length) x35.2 : Value) ]).toArray) (vs := (vc (vset s.known o.dot.rep.toNat o.dot.seq)) ++ [(.slice a9 L9.length c9 : Value), (.slice x35.1 ((putT o.cart o.tick s.ticks).length) x35.2 : Value) ]) (cs' := (vc (vset s.known o.dot.rep.toNat o.dot.seq)) ++ [(.slice a9 L9.length c9 : Value), (.slice x35.1 ((putT o.cart o.tick s.ticks).length) x35.2 : Value) ]) SA_39.1 hs 2 rfl rfl rfl rfl rfl (Nat.le_of_ble_eq_true rfl) (one_app (vc_one _) (one_cons rfl (one_cons rfl one_nil))) (spl_whole rfl) fun w37 hs => ?_)
        refine RW_op (L_assign (V := .int .i64 0) rfl ?_)
        refine RW_nil ?_
        refine W_ret ?_
        refine ⟨_, res_cell2 (cs := (vc (vset s.known o.dot.rep.toNat o.dot.seq)) ++ [(.slice a9 L9.length c9 : Value), (.slice x35.1 ((putT o.cart o.tick s.ticks).length) x35.2 : Value) ]) (V := .int .i64 0) Tryz.results7 SA_39 hs 2 rfl rfl rfl rfl, ?_⟩
        have hI : applyI s o = 0 := by unfold applyI; rw [if_pos c8]; exact c11
        have hR : applyR s o = (⟨vset s.known o.dot.rep.toNat o.dot.seq, L9, putT o.cart o.tick s.ticks⟩ : Sta) := by unfold applyR; rw [if_pos hI, hL9]; rfl
        rw [hI, hR]
        exact ⟨((a9, c9), (x35.1, x35.2)), rfl, hs.two 3 4 (by decide) rfl rfl, trivial⟩
end Tt
end Go.Proofs
namespace Go.Proofs
open Go Go.Vx Go.RowKit
namespace Tt
set_option maxRecDepth 20000 in
set_option maxHeartbeats 4000000 in
theorem age_ok (w : World) (x y : Cen) : Calls Tryz.prog 92 #[.agg (cec x).toArray, .agg (cec y).toArray] w (fun e w' => e = .returned (.int .i64 (ageI x y)) ∧ Own w no w' []) := by
  refine calls_of_Wn (n := 26) Tryz.func92 rfl Tryz.ntmps92 rfl ?_
  have hs := Own.start w
  refine W_seq ?_
  refine W_region ?_
  refine RW_op (L_box (V := .agg (cec x).toArray) (cs := cec x) rfl rfl hs fun b1 w2 hs => ?_)
  refine RW_op (L_box (V := .agg (cec y).toArray) (cs := cec y) rfl rfl hs fun b3 w4 hs => ?_)
  refine RW_op (L_assign (V := .int .i64 0) rfl ?_)
  refine RW_nil ?_
  refine W_seq ?_
  replace hs := hs.more emp trivial
  refine W_regD HM [some 5, some 6, some 7, some 8, some 9, some 10, some 11, some 12, some 13, some 14, some 15, some 16, some 17, some 18, some 19, some 20, some 21, some 22, some 23, some 24, some 25, some 4] [[], [], [], [], [], [], [], [], [], [], [], [], [], [], [], [], [], [], [], [24]] [0, 1, 0, 4, 15, 0, 32, 96, 0, 256, 768, 2047, 0, 4096, 12288, 0, 32768, 98304, 262143, 524287, 1048575, 2097151] [pv (.pointer (some ⟨b1, 0 + 6, none⟩)), pv (.int .u64 x.count), pv (.pointer (some ⟨b3, 0 + 6, none⟩)), pv (.int .u64 y.count), pv (.int .i64 (cmpI x.count y.count)), pv (.pointer (some ⟨b1, 0 + 4, none⟩)), pv (.pointer (some ⟨b1, 0 + 4 + 0, none⟩)), pv (.int .u8 x.dot.rep), pv (.pointer (some ⟨b3, 0 + 4, none⟩)), pv (.pointer (some ⟨b3, 0 + 4 + 0, none⟩)), pv (.int .u8 y.dot.rep), pv (.int .i64 (cmpI x.dot.rep y.dot.rep)), pv (.pointer (some ⟨b1, 0 + 4, none⟩)), pv (.pointer (some ⟨b1, 0 + 4 + 1, none⟩)), pv (.int .u32 x.dot.seq), pv (.pointer (some ⟨b3, 0 + 4, none⟩)), pv (.pointer (some ⟨b3, 0 + 4 + 1, none⟩)), pv (.int .u32 y.dot.seq), pv (.int .i64 (cmpI x.dot.seq y.dot.seq)), (true, fun ρ => .slice (some ⟨(bOf (ρ 24)), 0, none⟩) 3 3), pv (.int .i64 (orI [cmpI x.count y.count, cmpI x.dot.rep y.dot.rep, cmpI x.dot.seq y.dot.seq])), pv (.int .i64 (orI [cmpI x.count y.count, cmpI x.dot.rep y.dot.rep, cmpI x.dot.seq y.dot.seq]))] (fun D ρ => [blk b1 (cec x) 59, blk b3 (cec y) 59, cond (D 19) (row (.slice (some ⟨(bOf (ρ 24)), 0, none⟩) 3 3) ([cmpI x.count y.count, cmpI x.dot.rep y.dot.rep, cmpI x.dot.seq y.dot.seq].map (ic .i64)) 3 1) (emp)]) [21] (by kernel_rfl) hs ⟨?_, ?_, ?_, ?_, ?_, ?_, ?_, ?_, ?_, ?_, ?_, ?_, ?_, ?_, ?_, ?_, ?_, ?_, ?_, ?_, ?_, ?_, trivial⟩ ?_
  · exact ob [] [] rfl rfl fun D ρ w hs => L_fieldAddr FA_59_5 rfl ⟨rfl, hs⟩
  · exact ob [0] [] rfl rfl fun D ρ w hs => L_ld (V := .int .u64 x.count) S1_54 hs 0 rfl rfl rfl ⟨rfl, hs⟩
  · exact ob [] [] rfl rfl fun D ρ w hs => L_fieldAddr FA_59_5 rfl ⟨rfl, hs⟩
  · exact ob [2] [] rfl rfl fun D ρ w hs => L_ld (V := .int .u64 y.count) S1_54 hs 1 rfl rfl rfl ⟨rfl, hs⟩
  · exact ob [1, 3] [] rfl rfl fun D ρ w hs => L_callP (vs := [.int .u64 x.count, .int .u64 y.count]) (V := .int .i64 (cmpI x.count y.count)) EN_112 rfl rfl (cmp_uint64_ok _ x.count y.count) hs fun _ hs => ⟨rfl, hs⟩
  · exact ob [] [] rfl rfl fun D ρ w hs => L_fieldAddr FA_59_4 rfl ⟨rfl, hs⟩
  · exact ob [5] [] rfl rfl fun D ρ w hs => L_fieldAddr FA_30_0 rfl ⟨rfl, hs⟩
  · exact ob [6] [] rfl rfl fun D ρ w hs => L_ld (V := .int .u8 x.dot.rep) S1_5 hs 0 rfl rfl rfl ⟨rfl, hs⟩
  · exact ob [] [] rfl rfl fun D ρ w hs => L_fieldAddr FA_59_4 rfl ⟨rfl, hs⟩
  · exact ob [8] [] rfl rfl fun D ρ w hs => L_fieldAddr FA_30_0 rfl ⟨rfl, hs⟩
  · exact ob [9] [] rfl rfl fun D ρ w hs => L_ld (V := .int .u8 y.dot.rep) S1_5 hs 1 rfl rfl rfl ⟨rfl, hs⟩
  · exact ob [7, 10] [] rfl rfl fun D ρ w hs => L_callP (vs := [.int .u8 x.dot.rep, .int .u8 y.dot.rep]) (V := .int .i64 (cmpI x.dot.rep y.dot.rep)) EN_76 rfl rfl (cmp_uint8_ok _ x.dot.rep y.dot.rep) hs fun _ hs => ⟨rfl, hs⟩
  · exact ob [] [] rfl rfl fun D ρ w hs => L_fieldAddr FA_59_4 rfl ⟨rfl, hs⟩
  · exact ob [12] [] rfl rfl fun D ρ w hs => L_fieldAddr FA_30_1 rfl ⟨rfl, hs⟩
  · exact ob [13] [] rfl rfl fun D ρ w hs => L_ld (V := .int .u32 x.dot.seq) S1_22 hs 0 rfl rfl rfl ⟨rfl, hs⟩
  · exact ob [] [] rfl rfl fun D ρ w hs => L_fieldAddr FA_59_4 rfl ⟨rfl, hs⟩
  · exact ob [15] [] rfl rfl fun D ρ w hs => L_fieldAddr FA_30_1 rfl ⟨rfl, hs⟩
  · exact ob [16] [] rfl rfl fun D ρ w hs => L_ld (V := .int .u32 y.dot.seq) S1_22 hs 1 rfl rfl rfl ⟨rfl, hs⟩
  · exact ob [14, 17] [] rfl rfl fun D ρ w hs => L_callP (vs := [.int .u32 x.dot.seq, .int .u32 y.dot.seq]) (V := .int .i64 (cmpI x.dot.seq y.dot.seq)) EN_77 rfl rfl (cmp_uint32_ok _ x.dot.seq y.dot.seq) hs fun _ hs => ⟨rfl, hs⟩
  · exact ob [4, 11, 18] [] rfl rfl fun D ρ w hs => L_bs (vals := [.int .i64 (cmpI x.count y.count), .int .i64 (cmpI x.dot.rep y.dot.rep), .int .i64 (cmpI x.dot.seq y.dot.seq)]) (ls := List.map (ic .i64) ([cmpI x.count y.count, cmpI x.dot.rep y.dot.rep, cmpI x.dot.seq y.dot.seq] : List Int)) EL_149 rfl rfl rfl (len_map (enc := (ic .i64)) (fun _ => rfl) _) (one_map (ic_one .i64) _) (Nat.le_of_ble_eq_true rfl) hs fun _ _ hs => ⟨rfl, hs.put 2 (Nat.le_of_ble_eq_true rfl)⟩
  · exact ob [19] [] rfl rfl fun D ρ w hs => L_callP (vs := [.slice (some ⟨(bOf (ρ 24)), 0, none⟩) 3 3]) (V := .int .i64 (orI [cmpI x.count y.count, cmpI x.dot.rep y.dot.rep, cmpI x.dot.seq y.dot.seq])) EN_75 rfl rfl (or_ok _ (some ⟨(bOf (ρ 24)), 0, none⟩) 3 [cmpI x.count y.count, cmpI x.dot.rep y.dot.rep, cmpI x.dot.seq y.dot.seq] (hs.rd 2 rfl)) hs fun _ hs => ⟨rfl, hs⟩
  · exact ob [20] [] rfl rfl fun D ρ w hs => L_assign (V := .int .i64 (orI [cmpI x.count y.count, cmpI x.dot.rep y.dot.rep, cmpI x.dot.seq y.dot.seq])) rfl ⟨rfl, hs⟩
  rintro ρ1 w10 ρ2 hρ hs
  replace hρ : ρ2 = upd (mix [5, 6, 7, 8, 9, 10, 11, 12, 13, 14, 15, 16, 17, 18, 19, 20, 21, 22, 23, 24, 25, 4] ρ1 _) 4 (.int .i64 (orI [cmpI x.count y.count, cmpI x.dot.rep y.dot.rep, cmpI x.dot.seq y.dot.seq])) := hρ
  replace hs : Own w no w10 [blk b1 (cec x) 59, blk b3 (cec y) 59, row (.slice (some ⟨(bOf (ρ1 24)), 0, none⟩) 3 3) ([cmpI x.count y.count, cmpI x.dot.rep y.dot.rep, cmpI x.dot.seq y.dot.seq].map (ic .i64)) 3 1] := hs
  generalize (bOf (ρ1 24)) = b11 at hs
  subst hρ
  refine W_ret ?_
  refine ⟨_, res_one (V := .int .i64 (orI [cmpI x.count y.count, cmpI x.dot.rep y.dot.rep, cmpI x.dot.seq y.dot.seq])) Tryz.results92 rfl, ?_⟩
  refine ⟨congrArg Ending.returned ?_, hs.take 0⟩
  rfl
set_option maxRecDepth 20000 in
set_option maxHeartbeats 4000000 in
theorem view1_ok (w : World) (x y : Cen) : Calls Tryz.prog 56 #[.agg (cec x).toArray, .agg (cec y).toArray] w (fun e w' => e = .returned (.int .i64 (cmpI x.item y.item)) ∧ Own w no w' []) := by
  refine calls_of_Wn (n := 10) Tryz.func56 rfl Tryz.ntmps56 rfl ?_
  have hs := Own.start w
  refine W_seq ?_
  refine W_region ?_
  refine RW_op (L_box (V := .agg (cec x).toArray) (cs := cec x) rfl rfl hs fun b1 w2 hs => ?_)
  refine RW_op (L_box (V := .agg (cec y).toArray) (cs := cec y) rfl rfl hs fun b3 w4 hs => ?_)
  refine RW_op (L_assign (V := .int .i64 0) rfl ?_)
  refine RW_nil ?_
  refine W_seq ?_
  refine W_region ?_
  refine RW_op (L_fieldAddr FA_59_1 rfl ?_)
  refine RW_op (L_ld (V := .int .u16 x.item) S1_31 hs 0 rfl rfl rfl ?_)
  refine RW_op (L_fieldAddr FA_59_1 rfl ?_)
  refine RW_op (L_ld (V := .int .u16 y.item) S1_31 hs 1 rfl rfl rfl ?_)
  refine RW_op (L_callP (vs := [.int .u16 x.item, .int .u16 y.item]) (V := .int .i64 (cmpI x.item y.item)) EN_57 rfl rfl ?hc hs fun w5 hs => ?_)
  case hc => exact (cmp_uint16_ok _ x.item y.item)
  refine RW_op (L_assign (V := .int .i64 (cmpI x.item y.item)) rfl ?_)
  refine RW_nil ?_
  refine W_ret ?_
  refine ⟨_, res_one (V := .int .i64 (cmpI x.item y.item)) Tryz.results56 rfl, ?_⟩
  refine ⟨congrArg Ending.returned ?_, hs.take 0⟩
  rfl
set_option maxRecDepth 20000 in
set_option maxHeartbeats 4000000 in
theorem line_ok (w : World) (item : Int) (a : Option Addr) (c : Nat) (l : List Cen) (hl : ∀ e ∈ l, CenOk e ∧ 1 ≤ e.count) (hr : Rd w (.slice a l.length c) 7 (l.map cec)) : Calls Tryz.prog 58 #[.int .u16 item, .slice a l.length c] w (fun e w' => e = .returned (.agg (lc ⟨item, qtyL l⟩).toArray) ∧ Own w no w' []) := by
  refine calls_of_Wn (n := 38) Tryz.func58 rfl Tryz.ntmps58 rfl ?_
  have hs := Own.start w
  have hn1 := hr.sml
  refine W_seq ?_
  refine W_region ?_
  refine RW_op (L_alloc (cs := lc (⟨0, 0⟩ : Line)) ZV_74 rfl hs fun b1 w2 hs => ?_)
  refine RW_nil ?_
  refine W_seq ?_
  refine W_region ?_
  refine RW_op (L_alloc (cs := cec (⟨0, 0, 0, 0, (⟨0, 0⟩ : Dot), 0⟩ : Cen)) ZV_59 rfl hs fun b3 w4 hs => ?_)
  refine RW_nil ?_
  refine W_seq ?_
  refine W_region ?_
  refine RW_op (L_assign (V := .int .u32 0) rfl ?_)
  refine RW_nil ?_
  refine W_seq ?_
  refine W_seq ?_
  refine W_region ?_
  refine RW_op (L_move (V := .slice a l.length c) rfl ?_)
  refine RW_op (L_lenR (n := l.length) UD_36 (Rd.own' hr hs) (by simp) rfl ?_)
  refine RW_op (L_move (V := .int .i64 0) rfl ?_)
  refine RW_nil ?_
  refine W_block ?_
  refine W_loopI (fun ρ μ ρ' w' => ∃ (ρo : Env) (k : Nat) (sm : Int) (u : Cen), ρ' = upd (upd (mix [6, 8, 11, 12, 13, 14, 15, 16, 17, 18, 19, 20, 21, 22, 23, 24, 25, 26, 27, 28, 29, 30] ρo ρ) 11 (.int .i64 ((k : Nat) : Int))) 6 (.int .u32 sm) ∧ (k ≤ l.length) ∧ (sm = sumE (l.take k)) ∧ (u = (l.take k).foldl setF cz) ∧ μ = l.length - k ∧ Own w no w' [blk b1 (lc (⟨0, 0⟩ : Line)) 74, blk b3 (cec u) 59]) ?_ ?_
  · exact ⟨_, _, 0, 0, cz, upd_of (upd_of (mix_of (ds := [6, 8, 11, 12, 13, 14, 15, 16, 17, 18, 19, 20, 21, 22, 23, 24, 25, 26, 27, 28, 29, 30]) (Agr.refl _ _)) rfl) rfl, (by omega), rfl, rfl, rfl, hs⟩
  · rintro μ ρ' w5 ⟨ρo, k, sm, u, rfl, hk, hsm, hset, rfl, hs⟩
    refine W_seq ?_
    refine W_region ?_
    refine RW_op (L_lss rfl rfl ?_)
    refine RW_nil ?_
    refine W_seq ?_
    refine W_cond (t := decide (((k : Nat) : Int) < ((l.length : Nat) : Int))) rfl (fun c6 => ?_) (fun c6 => ?_)
    ·
      replace c6 := of_decide_eq_true c6
      refine W_skip ?_
      refine W_seq ?_
      refine W_block ?_
      refine W_seq ?_
      refine W_region ?_
      refine RW_op (L_ixR UD_36 SA_59.1 (Rd.own' hr hs) rfl rfl (by omega) (by rw [List.length_map]; omega) ?_)
      refine RW_op (L_ldRA (j := 0) (vs := cec (gd l k)) k SA_59 (Rd.own' hr hs) (gd_at (by omega)) rfl rfl rfl (by omega) ?_)
      refine RW_op (L_alloc (cs := cec (⟨0, 0, 0, 0, (⟨0, 0⟩ : Dot), 0⟩ : Cen)) ZV_59 rfl hs fun b7 w8 hs => ?_)
      refine RW_op (L_st (V := .agg (cec (gd l k)).toArray) (vs := cec (gd l k)) (cs' := cec (gd l k)) SA_59.1 hs 2 rfl rfl rfl rfl rfl (Nat.le_of_ble_eq_true rfl) (cec_one _) (spl_whole rfl) fun w9 hs => ?_)
      replace hs : Own w no w9 [blk b1 (lc (⟨0, 0⟩ : Line)) 74, blk b3 (cec u) 59, blk b7 (cec (gd l k)) 59] := hs
      refine RW_nil ?_
      refine W_block ?_
      refine W_seq ?_
      refine W_region ?_
      refine RW_op (L_fieldAddr FA_59_3 rfl ?_)
      refine RW_op (L_ld (V := .int .u8 ((gd l k).kind)) S1_5 hs 2 rfl rfl rfl ?_)
      refine RW_op (L_eql rfl rfl ?_)
      refine RW_op (L_assign (V := .bool (decide ((gd l k).kind = 1))) rfl ?_)
      refine RW_nil ?_
      refine W_cond (t := decide ((gd l k).kind = 1)) rfl (fun c10 => ?_) (fun c10 => ?_)
      ·
        replace c10 := of_decide_eq_true c10
        have ⟨hq1, hq2⟩ := (hl _ (gd_mem (l := l) (i := k) (by omega))).1.2.2.1
        refine W_region ?_
        refine RW_op (L_move (V := .int .u32 sm) rfl ?_)
        refine RW_op (L_fieldAddr FA_59_2 rfl ?_)
        refine RW_op (L_ld (V := .int .u16 ((gd l k).qty)) S1_31 hs 2 rfl rfl rfl ?_)
        refine RW_op (L_conv UD_31 UD_22 rfl (wr_u32 (by omega) (by omega)) ?_)
        refine RW_op (L_add (a := sm) (b := (gd l k).qty) (c := (sm + ((gd l k).qty)) % 4294967296) rfl rfl (wm_u32 _) ?_)
        refine RW_op (L_assign (V := .int .u32 ((sm + ((gd l k).qty)) % 4294967296)) rfl ?_)
        refine RW_nil ?_
        refine W_region ?_
        refine RW_op (L_add (a := ((k : Nat) : Int)) (b := 1) (c := ((k + 1 : Nat) : Int)) rfl rfl (nat_i64 (by omega) (by omega)) ?_)
        refine RW_op (L_move (V := .int .i64 ((k + 1 : Nat) : Int)) rfl ?_)
        refine RW_nil ?_
        refine ⟨_, ?_, _, k + 1, (sm + ((gd l k).qty)) % 4294967296, u, upd_of (upd_of (mix_of (ds := [6, 8, 11, 12, 13, 14, 15, 16, 17, 18, 19, 20, 21, 22, 23, 24, 25, 26, 27, 28, 29, 30]) (by repeat (first | exact Agr.refl _ _ | refine Agr.upd ?_ rfl | refine Agr.mix ?_ rfl))) rfl) rfl, (by omega), (sumE_yes hsm (by omega) c10), (by rw [← setF_next hset (by omega), setF_kind c10]), rfl, hs.take 2⟩
        omega
      ·
        replace c10 := of_decide_eq_false c10
        refine W_seq ?_
        refine W_region ?_
        refine RW_op (L_ldW (cs := cec (gd l k)) SA_59 hs 2 rfl rfl rfl ?_)
        refine RW_op (L_ldW (cs := cec u) SA_59 hs 1 rfl rfl rfl ?_)
        refine RW_op (L_callP (vs := [.agg (cec (gd l k)).toArray, .agg (cec u).toArray]) (V := .int .i64 (ageI (gd l k) u)) EN_92 rfl rfl ?hc hs fun w11 hs => ?_)
        case hc => exact (age_ok _ (gd l k) u)
        refine RW_op (opW_to (V := .bool (decide (0 < ageI (gd l k) u))) (V' := .bool (lessC u (gd l k))) (L_gtr rfl rfl ⟨rfl, rfl⟩) (congrArg Value.bool (age_gt _ _)) ?_)
        refine RW_op (L_assign (V := .bool (lessC u (gd l k))) rfl ?_)
        refine RW_nil ?_
        refine W_cond (t := lessC u (gd l k)) rfl (fun c12 => ?_) (fun c12 => ?_)
        ·
          refine W_region ?_
          refine RW_op (L_ldW (cs := cec (gd l k)) SA_59 hs 2 rfl rfl rfl ?_)
          refine RW_op (L_st (V := .agg (cec (gd l k)).toArray) (vs := cec (gd l k)) (cs' := cec (gd l k)) SA_59.1 hs 1 rfl rfl rfl rfl rfl (Nat.le_of_ble_eq_true rfl) (cec_one _) (spl_whole rfl) fun w13 hs => ?_)
          refine RW_nil ?_
          refine W_region ?_
          refine RW_op (L_add (a := ((k : Nat) : Int)) (b := 1) (c := ((k + 1 : Nat) : Int)) rfl rfl (nat_i64 (by omega) (by omega)) ?_)
          refine RW_op (L_move (V := .int .i64 ((k + 1 : Nat) : Int)) rfl ?_)
          refine RW_nil ?_
          refine ⟨_, ?_, _, k + 1, sm, gd l k, upd_of (upd_of (mix_of (ds := [6, 8, 11, 12, 13, 14, 15, 16, 17, 18, 19, 20, 21, 22, 23, 24, 25, 26, 27, 28, 29, 30]) (by repeat (first | exact Agr.refl _ _ | refine Agr.upd ?_ rfl | refine Agr.mix ?_ rfl))) rfl) rfl, (by omega), (sumE_no hsm (by omega) c10), (by rw [← setF_next hset (by omega), setF_yes c10 c12]), rfl, hs.take 2⟩
          omega
        ·
          refine W_skip ?_
          refine W_region ?_
          refine RW_op (L_add (a := ((k : Nat) : Int)) (b := 1) (c := ((k + 1 : Nat) : Int)) rfl rfl (nat_i64 (by omega) (by omega)) ?_)
          refine RW_op (L_move (V := .int .i64 ((k + 1 : Nat) : Int)) rfl ?_)
          refine RW_nil ?_
          refine ⟨_, ?_, _, k + 1, sm, u, upd_of (upd_of (mix_of (ds := [6, 8, 11, 12, 13, 14, 15, 16, 17, 18, 19, 20, 21, 22, 23, 24, 25, 26, 27, 28, 29, 30]) (by repeat (first | exact Agr.refl _ _ | refine Agr.upd ?_ rfl | refine Agr.mix ?_ rfl))) rfl) rfl, (by omega), (sumE_no hsm (by omega) c10), (by rw [← setF_next hset (by omega), setF_no c10 c12]), rfl, hs.take 2⟩
          omega
    ·
      replace c6 := of_decide_eq_false c6
      refine W_exit ?_
      refine W_seq ?_
      have ⟨hq1, hq2⟩ : 0 ≤ u.qty ∧ u.qty < 65536 := by rw [hset]; exact setF_qty fun e he => (hl e (List.mem_of_mem_take he)).1
      refine W_region ?_
      refine RW_op (L_move (V := .int .u16 item) rfl ?_)
      refine RW_op (L_move (V := .int .u32 sm) rfl ?_)
      refine RW_op (L_fieldAddr FA_59_2 rfl ?_)
      refine RW_op (L_ld (V := .int .u16 u.qty) S1_31 hs 1 rfl rfl rfl ?_)
      refine RW_op (L_conv UD_31 UD_22 rfl (wr_u32 (by omega) (by omega)) ?_)
      refine RW_op (L_add (a := sm) (b := u.qty) (c := (sm + u.qty) % 4294967296) rfl rfl (wm_u32 _) ?_)
      refine RW_op (L_build (vs := [(0, .int .u16 item), (1, .int .u32 ((sm + u.qty) % 4294967296))]) (cs := lc (⟨item, (sm + u.qty) % 4294967296⟩ : Line)) BT_74 (rfl) rfl ?_)
      refine RW_op (L_st (V := .agg (lc (⟨item, (sm + u.qty) % 4294967296⟩ : Line)).toArray) (vs := lc (⟨item, (sm + u.qty) % 4294967296⟩ : Line)) (cs' := lc (⟨item, (sm + u.qty) % 4294967296⟩ : Line)) SA_74.1 hs 0 rfl rfl rfl rfl rfl (Nat.le_of_ble_eq_true rfl) (lc_one _) (spl_whole rfl) fun w14 hs => ?_)
      refine RW_nil ?_
      refine W_ret ?_
      refine ⟨_, res_cell (cs := lc (⟨item, (sm + u.qty) % 4294967296⟩ : Line)) Tryz.results58 SA_74 hs 0 rfl rfl rfl, ?_⟩
      refine ⟨congrArg Ending.returned ?_, hs.take 0⟩
      have hT := take_all (l := l) (k := k) (by omega)
      rw [hT] at hsm hset
      subst hsm hset
      rw [qtyL_set fun e he => (hl e he).2]
end Tt
end Go.Proofs
namespace Go.Proofs
open Go Go.Vx Go.RowKit
namespace Tt
set_option maxRecDepth 20000 in
set_option maxHeartbeats 4000000 in
theorem isS_ok (w : World) (S : Nat → Prop) (a : Option Addr) (N c : Nat) (l : List Cen) (hz : l.length = N) (hN : N ≤ 2305843009213693951) (lo hi : Nat) (hlo : lo ≤ hi) (hhi : hi ≤ N) (g : Nat) (hg : En Tryz.prog g) (cf : Cen → Cen → Int) (hc : CmpO cf) (hcmp : ∀ (w : World) (x y : Cen), Calls Tryz.prog g #[.agg (cec x).toArray, .agg (cec y).toArray] w (fun e w' => e = .returned (.int .i64 (cf x y)) ∧ Own w no w' [])) (hR : (row (.slice a N c) (l.map cec) 59 7).holds w S) (hlt : ∀ b, S b → b < w.heap.size) : Calls Tryz.prog 110 #[.slice a N c, .int .i64 ((lo : Nat) : Int), .int .i64 ((hi : Nat) : Int), .func (.func g) #[] #[]] w (fun e w' => ∃ x : List Cen, e = .returned (.tuple #[]) ∧ Own w S w' [row (.slice a N c) (x.map cec) 59 7] ∧ (x.length = N ∧ Merged cf l x lo hi)) := by
  refine calls_of_Wn (n := 53) Tryz.func110 rfl Tryz.ntmps110 rfl ?_
  have hs := Own.lent hR hlt
  refine W_seq ?_
  refine W_region ?_
  refine RW_op (L_move (V := .int .i64 ((lo : Nat) : Int)) rfl ?_)
  refine RW_op (L_add (a := ((lo : Nat) : Int)) (b := 1) (c := ((lo + 1 : Nat) : Int)) rfl rfl (nat_i64 (by omega) (by omega)) ?_)
  refine RW_op (L_assign (V := .int .i64 ((lo + 1 : Nat) : Int)) rfl ?_)
  refine RW_nil ?_
  refine W_block ?_
  refine W_loopI (fun ρ μ ρ' w' => ∃ (ρo : Env) (k : Nat) (m : List Cen), ρ' = upd (mix [8, 9, 12, 13, 14, 15, 16, 17, 18, 19, 20, 21, 22, 23, 24, 25, 26, 27, 28, 29, 30, 31, 32, 33, 34, 35, 36, 37, 38, 39, 40, 41, 42, 43, 44, 45, 46, 47, 48, 49, 50, 51, 52] ρo ρ) 8 (.int .i64 ((k : Nat) : Int)) ∧ (lo + 1 ≤ k) ∧ (k ≤ hi ∨ k = lo + 1) ∧ (m.length = N) ∧ (PermSeg l m lo hi) ∧ (OrdSeg cf m lo k) ∧ μ = hi - k ∧ Own w S w' [row (.slice a N c) (m.map cec) 59 7]) ?_ ?_
  · exact ⟨_, _, lo + 1, l, upd_of (mix_of (ds := [8, 9, 12, 13, 14, 15, 16, 17, 18, 19, 20, 21, 22, 23, 24, 25, 26, 27, 28, 29, 30, 31, 32, 33, 34, 35, 36, 37, 38, 39, 40, 41, 42, 43, 44, 45, 46, 47, 48, 49, 50, 51, 52]) (Agr.refl _ _)) rfl, (Nat.le_refl _), (Or.inr rfl), hz, (PermSeg.refl l hlo (by omega)), (OrdSeg.small (Nat.le_refl _)), rfl, hs⟩
  · rintro μ ρ' w1 ⟨ρo, k, m, rfl, hk0, hk, hz1, hpm, hor, rfl, hs⟩
    refine W_seq ?_
    refine W_seq ?_
    refine W_region ?_
    refine RW_op (L_move (V := .int .i64 ((k : Nat) : Int)) rfl ?_)
    refine RW_op (L_move (V := .int .i64 ((hi : Nat) : Int)) rfl ?_)
    refine RW_op (L_lss rfl rfl ?_)
    refine RW_nil ?_
    refine W_cond (t := decide (((k : Nat) : Int) < ((hi : Nat) : Int))) rfl (fun c2 => ?_) (fun c2 => ?_)
    ·
      replace c2 := of_decide_eq_true c2
      refine W_skip ?_
      refine W_seq ?_
      refine W_block ?_
      refine W_seq ?_
      refine W_region ?_
      refine RW_op (L_move (V := .int .i64 ((k : Nat) : Int)) rfl ?_)
      refine RW_op (L_assign (V := .int .i64 ((k : Nat) : Int)) rfl ?_)
      refine RW_nil ?_
      refine W_block ?_
      refine W_loopI (fun ρ μ ρ' w' => ∃ (ρo : Env) (j : Nat) (m2 : List Cen), ρ' = upd (mix [9, 18, 19, 20, 21, 22, 23, 24, 25, 26, 27, 28, 29, 30, 31, 32, 33, 34, 35, 36, 37, 38, 39, 40, 41, 42, 43, 44, 45, 46, 47, 48, 49, 50, 51, 52] ρo ρ) 9 (.int .i64 ((j : Nat) : Int)) ∧ (lo ≤ j) ∧ (j ≤ k) ∧ (m2.length = N) ∧ (PermSeg l m2 lo hi) ∧ (InsI cf m2 lo k j) ∧ μ = j + 1 ∧ Own w S w' [row (.slice a N c) (m2.map cec) 59 7]) ?_ ?_
      · exact ⟨_, _, k, m, upd_of (mix_of (ds := [9, 18, 19, 20, 21, 22, 23, 24, 25, 26, 27, 28, 29, 30, 31, 32, 33, 34, 35, 36, 37, 38, 39, 40, 41, 42, 43, 44, 45, 46, 47, 48, 49, 50, 51, 52]) (Agr.refl _ _)) rfl, (by omega), (Nat.le_refl _), hz1, hpm, (ins_start hor), rfl, hs⟩
      · rintro μ ρ' w3 ⟨ρo, j, m2, rfl, hj0, hj, hz2, hpm2, hin, rfl, hs⟩
        refine W_seq ?_
        refine W_seq ?_
        refine W_regD HM [some 18, some 19, some 20, some 21, some 22, some 23, some 24, some 25, some 26, some 27, some 28, some 29, some 30, some 31, some 32, some 33, some 34] [] [0, 0, 3, 7, 15, 15, 15, 111, 239, 15, 15, 1039, 3599, 7695, 16383, 32767, 65535] [pv (.int .i64 ((j : Nat) : Int)), pv (.int .i64 ((lo : Nat) : Int)), pv (.bool (decide (((lo : Nat) : Int) < ((j : Nat) : Int)))), pv (.bool (decide (((lo : Nat) : Int) < ((j : Nat) : Int)))), pg ((decide (((lo : Nat) : Int) < ((j : Nat) : Int))) == true) (.func (.func g) #[] #[]), pg ((decide (((lo : Nat) : Int) < ((j : Nat) : Int))) == true) (.slice a N c), pg ((decide (((lo : Nat) : Int) < ((j : Nat) : Int))) == true) (.int .i64 ((j : Nat) : Int)), pg ((decide (((lo : Nat) : Int) < ((j : Nat) : Int))) == true) (.pointer (some ⟨bkS (.slice a N c), ofS (.slice a N c) + ((j : Nat) : Int).toNat * 7, none⟩)), pg ((decide (((lo : Nat) : Int) < ((j : Nat) : Int))) == true) (.agg (cec (gd m2 j)).toArray), pg ((decide (((lo : Nat) : Int) < ((j : Nat) : Int))) == true) (.slice a N c), pg ((decide (((lo : Nat) : Int) < ((j : Nat) : Int))) == true) (.int .i64 ((j : Nat) : Int)), pg ((decide (((lo : Nat) : Int) < ((j : Nat) : Int))) == true) (.int .i64 ((j - 1 : Nat) : Int)), pg ((decide (((lo : Nat) : Int) < ((j : Nat) : Int))) == true) (.pointer (some ⟨bkS (.slice a N c), ofS (.slice a N c) + ((j - 1 : Nat) : Int).toNat * 7, none⟩)), pg ((decide (((lo : Nat) : Int) < ((j : Nat) : Int))) == true) (.agg (cec (gd m2 (j - 1))).toArray), pg ((decide (((lo : Nat) : Int) < ((j : Nat) : Int))) == true) (.int .i64 (cf (gd m2 j) (gd m2 (j - 1)))), pg ((decide (((lo : Nat) : Int) < ((j : Nat) : Int))) == true) (.bool (decide (cf (gd m2 j) (gd m2 (j - 1)) < 0))), pv (.bool ((decide (((lo : Nat) : Int) < ((j : Nat) : Int))) && (decide (cf (gd m2 j) (gd m2 (j - 1)) < 0))))] (fun _ _ => _) [16] (by kernel_rfl) hs ⟨?_, ?_, ?_, ?_, ?_, ?_, ?_, ?_, ?_, ?_, ?_, ?_, ?_, ?_, ?_, ?_, ?_, trivial⟩ ?_
        · exact ob [] [] rfl rfl fun D ρ w hs => L_move (V := .int .i64 ((j : Nat) : Int)) rfl ⟨rfl, hs⟩
        · exact ob [] [] rfl rfl fun D ρ w hs => L_move (V := .int .i64 ((lo : Nat) : Int)) rfl ⟨rfl, hs⟩
        · exact ob [0, 1] [] rfl rfl fun D ρ w hs => L_gtr rfl rfl ⟨rfl, hs⟩
        · exact ob [2] [] rfl rfl fun D ρ w hs => L_move (V := .bool (decide (((lo : Nat) : Int) < ((j : Nat) : Int)))) rfl ⟨rfl, hs⟩
        · exact obg [3] [] (decide (((lo : Nat) : Int) < ((j : Nat) : Int))) rfl (fun _ => rfl) rfl (fun _ _ _ _ h => h) fun D ρ w hG hs => L_move (V := .func (.func g) #[] #[]) rfl ⟨rfl, hs⟩
        · exact obg [3] [] (decide (((lo : Nat) : Int) < ((j : Nat) : Int))) rfl (fun _ => rfl) rfl (fun _ _ _ _ h => h) fun D ρ w hG hs => L_move (V := .slice a N c) rfl ⟨rfl, hs⟩
        · exact obg [3] [] (decide (((lo : Nat) : Int) < ((j : Nat) : Int))) rfl (fun _ => rfl) rfl (fun _ _ _ _ h => h) fun D ρ w hG hs => L_move (V := .int .i64 ((j : Nat) : Int)) rfl ⟨rfl, hs⟩
        · refine obgy [3, 5, 6] [] [5, 6] (decide (((lo : Nat) : Int) < ((j : Nat) : Int))) rfl (fun _ => rfl) rfl (fun _ _ _ _ h => h) (fun hG => ⟨hG, hG, trivial⟩) fun D ρ w hG hs => ?_
          have hgd := of_decide_eq_true (eq_of_beq (hG))
          exact L_ixR UD_36 SA_59.1 (hs.rd 0 rfl) rfl rfl (by omega) (by rw [List.length_map]; omega) ⟨rfl, hs⟩
        · refine obgy [3, 7] [] [7] (decide (((lo : Nat) : Int) < ((j : Nat) : Int))) rfl (fun _ => rfl) rfl (fun _ _ _ _ h => h) (fun hG => ⟨hG, trivial⟩) fun D ρ w hG hs => ?_
          have hgd := of_decide_eq_true (eq_of_beq (hG))
          exact L_ldRA (j := 0) (vs := cec (gd m2 j)) j SA_59 (hs.rd 0 rfl) (gd_at (by omega)) rfl rfl rfl (by omega) ⟨rfl, hs⟩
        · exact obg [3] [] (decide (((lo : Nat) : Int) < ((j : Nat) : Int))) rfl (fun _ => rfl) rfl (fun _ _ _ _ h => h) fun D ρ w hG hs => L_move (V := .slice a N c) rfl ⟨rfl, hs⟩
        · exact obg [3] [] (decide (((lo : Nat) : Int) < ((j : Nat) : Int))) rfl (fun _ => rfl) rfl (fun _ _ _ _ h => h) fun D ρ w hG hs => L_move (V := .int .i64 ((j : Nat) : Int)) rfl ⟨rfl, hs⟩
        · refine obgy [3, 10] [] [10] (decide (((lo : Nat) : Int) < ((j : Nat) : Int))) rfl (fun _ => rfl) rfl (fun _ _ _ _ h => h) (fun hG => ⟨hG, trivial⟩) fun D ρ w hG hs => ?_
          have hgd := of_decide_eq_true (eq_of_beq (hG))
          exact L_sub (a := ((j : Nat) : Int)) (b := 1) (c := ((j - 1 : Nat) : Int)) rfl rfl (nat_i64 (by omega) (by omega)) ⟨rfl, hs⟩
        · refine obgy [3, 9, 11] [] [9, 11] (decide (((lo : Nat) : Int) < ((j : Nat) : Int))) rfl (fun _ => rfl) rfl (fun _ _ _ _ h => h) (fun hG => ⟨hG, hG, trivial⟩) fun D ρ w hG hs => ?_
          have hgd := of_decide_eq_true (eq_of_beq (hG))
          exact L_ixR UD_36 SA_59.1 (hs.rd 0 rfl) rfl rfl (by omega) (by rw [List.length_map]; omega) ⟨rfl, hs⟩
        · refine obgy [3, 12] [] [12] (decide (((lo : Nat) : Int) < ((j : Nat) : Int))) rfl (fun _ => rfl) rfl (fun _ _ _ _ h => h) (fun hG => ⟨hG, trivial⟩) fun D ρ w hG hs => ?_
          have hgd := of_decide_eq_true (eq_of_beq (hG))
          exact L_ldRA (j := 0) (vs := cec (gd m2 (j - 1))) (j - 1) SA_59 (hs.rd 0 rfl) (gd_at (by omega)) rfl rfl rfl (by omega) ⟨rfl, hs⟩
        · exact obgy [3, 4, 8, 13] [] [4, 8, 13] (decide (((lo : Nat) : Int) < ((j : Nat) : Int))) rfl (fun _ => rfl) rfl (fun _ _ _ _ h => h) (fun hG => ⟨hG, hG, hG, trivial⟩) fun D ρ w hG hs => L_fnP (vs := [.agg (cec (gd m2 j)).toArray, .agg (cec (gd m2 (j - 1))).toArray]) (cs := []) (V := .int .i64 (cf (gd m2 j) (gd m2 (j - 1)))) hg rfl rfl (hcmp _ (gd m2 j) (gd m2 (j - 1))) hs fun _ hs => ⟨rfl, hs⟩
        · exact obgy [3, 14] [] [14] (decide (((lo : Nat) : Int) < ((j : Nat) : Int))) rfl (fun _ => rfl) rfl (fun _ _ _ _ h => h) (fun hG => ⟨hG, trivial⟩) fun D ρ w hG hs => L_lss rfl rfl ⟨rfl, hs⟩
        · exact ob [3, 15] [] rfl rfl fun D ρ w hs => L_andC (h' := decide (cf (gd m2 j) (gd m2 (j - 1)) < 0)) rfl rfl rfl ⟨rfl, hs⟩
        rintro ρ1 w5 ρ2 hρ hs
        replace hρ : ρ2 = upd (mix [18, 19, 20, 21, 22, 23, 24, 25, 26, 27, 28, 29, 30, 31, 32, 33, 34] ρ1 _) 34 (.bool ((decide (((lo : Nat) : Int) < ((j : Nat) : Int))) && (decide (cf (gd m2 j) (gd m2 (j - 1)) < 0)))) := hρ
        subst hρ
        refine W_cond (t := (decide (((lo : Nat) : Int) < ((j : Nat) : Int))) && (decide (cf (gd m2 j) (gd m2 (j - 1)) < 0))) rfl (fun c6 => ?_) (fun c6 => ?_)
        ·
          have c6r := and_r c6
          replace c6 := and_l c6
          replace c6 := of_decide_eq_true c6
          replace c6r := of_decide_eq_true c6r
          refine W_skip ?_
          refine W_seq ?_
          refine W_block ?_
          refine W_regD HM [some 37, some 38, some 39, some 40, some 41, some 42, some 43, some 44, some 45, some 46, some 47, some 48, some 49, some 50, some 51, none, some 52, none] [] [0, 0, 0, 0, 8, 0, 0, 64, 224, 480, 0, 0, 3072, 7168, 16355, 32739, 65535, 131071] [pv (.slice a N c), pv (.int .i64 ((j : Nat) : Int)), pv (.slice a N c), pv (.int .i64 ((j : Nat) : Int)), pv (.int .i64 ((j - 1 : Nat) : Int)), pv (.slice a N c), pv (.int .i64 ((j : Nat) : Int)), pv (.int .i64 ((j - 1 : Nat) : Int)), pv (.pointer (some ⟨bkS (.slice a N c), ofS (.slice a N c) + ((j - 1 : Nat) : Int).toNat * 7, none⟩)), pv (.agg (cec (gd m2 (j - 1))).toArray), pv (.slice a N c), pv (.int .i64 ((j : Nat) : Int)), pv (.pointer (some ⟨bkS (.slice a N c), ofS (.slice a N c) + ((j : Nat) : Int).toNat * 7, none⟩)), pv (.agg (cec (gd m2 j)).toArray), pv (.pointer (some ⟨bkS (.slice a N c), ofS (.slice a N c) + ((j : Nat) : Int).toNat * 7, none⟩)), pn, pv (.pointer (some ⟨bkS (.slice a N c), ofS (.slice a N c) + ((j - 1 : Nat) : Int).toNat * 7, none⟩)), pn] (fun D ρ => [cond (D 17) (row (.slice a N c) (((m2.set j (gd m2 (j - 1))).set (j - 1) (gd m2 j)).map cec) 59 7) (cond (D 15) (row (.slice a N c) ((m2.set j (gd m2 (j - 1))).map cec) 59 7) (row (.slice a N c) (m2.map cec) 59 7))]) [] (by kernel_rfl) hs ⟨?_, ?_, ?_, ?_, ?_, ?_, ?_, ?_, ?_, ?_, ?_, ?_, ?_, ?_, ?_, ?_, ?_, ?_, trivial⟩ ?_
          · exact ob [] [] rfl rfl fun D ρ w hs => L_move (V := .slice a N c) rfl ⟨rfl, hs⟩
          · exact ob [] [] rfl rfl fun D ρ w hs => L_move (V := .int .i64 ((j : Nat) : Int)) rfl ⟨rfl, hs⟩
          · exact ob [] [] rfl rfl fun D ρ w hs => L_move (V := .slice a N c) rfl ⟨rfl, hs⟩
          · exact ob [] [] rfl rfl fun D ρ w hs => L_move (V := .int .i64 ((j : Nat) : Int)) rfl ⟨rfl, hs⟩
          · exact ob [3] [] rfl rfl fun D ρ w hs => L_sub (a := ((j : Nat) : Int)) (b := 1) (c := ((j - 1 : Nat) : Int)) rfl rfl (nat_i64 (by omega) (by omega)) ⟨rfl, hs⟩
          · exact ob [] [] rfl rfl fun D ρ w hs => L_move (V := .slice a N c) rfl ⟨rfl, hs⟩
          · exact ob [] [] rfl rfl fun D ρ w hs => L_move (V := .int .i64 ((j : Nat) : Int)) rfl ⟨rfl, hs⟩
          · exact ob [6] [] rfl rfl fun D ρ w hs => L_sub (a := ((j : Nat) : Int)) (b := 1) (c := ((j - 1 : Nat) : Int)) rfl rfl (nat_i64 (by omega) (by omega)) ⟨rfl, hs⟩
          · exact ob [5, 7] [15, 17] rfl rfl fun D ρ w hs => L_ixR UD_36 SA_59.1 (hs.rd 0 rfl) rfl rfl (by omega) (by rw [List.length_map]; omega) ⟨rfl, hs⟩
          · exact ob [8] [15, 17] rfl rfl fun D ρ w hs => L_ldRA (j := 0) (vs := cec (gd m2 (j - 1))) (j - 1) SA_59 (hs.rd 0 rfl) (gd_at (by omega)) rfl rfl rfl (by omega) ⟨rfl, hs⟩
          · exact ob [] [] rfl rfl fun D ρ w hs => L_move (V := .slice a N c) rfl ⟨rfl, hs⟩
          · exact ob [] [] rfl rfl fun D ρ w hs => L_move (V := .int .i64 ((j : Nat) : Int)) rfl ⟨rfl, hs⟩
          · exact ob [10, 11] [15, 17] rfl rfl fun D ρ w hs => L_ixR UD_36 SA_59.1 (hs.rd 0 rfl) rfl rfl (by omega) (by rw [List.length_map]; omega) ⟨rfl, hs⟩
          · exact ob [12] [15, 17] rfl rfl fun D ρ w hs => L_ldRA (j := 0) (vs := cec (gd m2 j)) j SA_59 (hs.rd 0 rfl) (gd_at (by omega)) rfl rfl rfl (by omega) ⟨rfl, hs⟩
          · exact ob [0, 1] [15, 17] rfl rfl fun D ρ w hs => L_ixR UD_36 SA_59.1 (hs.rd 0 rfl) rfl rfl (by omega) (by rw [List.length_map]; omega) ⟨rfl, hs⟩
          · exact ob [9, 14] [17] rfl rfl fun D ρ w hs => L_stE (z := gd m2 (j - 1)) j SA_59.1 hs 0 rfl rfl rfl (by first | omega | (simp only [List.length_set]; omega)) rfl rfl rfl (cec_one _) fun _ hs => ⟨trivial, hs⟩
          · exact ob [2, 4, 15] [17] rfl rfl fun D ρ w hs => L_ixR UD_36 SA_59.1 (hs.rd 0 rfl) rfl rfl (by omega) (by simp only [List.length_map, List.length_set]; omega) ⟨rfl, hs⟩
          · exact ob [13, 15, 16] [] rfl rfl fun D ρ w hs => L_stE (z := gd m2 j) (j - 1) SA_59.1 hs 0 rfl rfl rfl (by first | omega | (simp only [List.length_set]; omega)) rfl rfl rfl (cec_one _) fun _ hs => ⟨trivial, hs⟩
          rintro ρ1 w9 ρ2 hρ hs
          replace hρ : ρ2 = mix [37, 38, 39, 40, 41, 42, 43, 44, 45, 46, 47, 48, 49, 50, 51, 52] ρ1 _ := hρ
          replace hs : Own w S w9 [row (.slice a N c) (((m2.set j (gd m2 (j - 1))).set (j - 1) (gd m2 j)).map cec) 59 7] := hs
          subst hρ
          replace hs : Own w S _ [row (.slice a N c) ((swL m2 j (j - 1)).map cec) 59 7] := hs.take 1
          refine W_region ?_
          refine RW_op (L_move (V := .int .i64 ((j : Nat) : Int)) rfl ?_)
          refine RW_op (L_sub (a := ((j : Nat) : Int)) (b := 1) (c := ((j - 1 : Nat) : Int)) rfl rfl (nat_i64 (by omega) (by omega)) ?_)
          refine RW_op (L_assign (V := .int .i64 ((j - 1 : Nat) : Int)) rfl ?_)
          refine RW_nil ?_
          refine ⟨_, ?_, _, j - 1, swL m2 j (j - 1), upd_of (mix_of (ds := [9, 18, 19, 20, 21, 22, 23, 24, 25, 26, 27, 28, 29, 30, 31, 32, 33, 34, 35, 36, 37, 38, 39, 40, 41, 42, 43, 44, 45, 46, 47, 48, 49, 50, 51, 52]) (by repeat (first | exact Agr.refl _ _ | refine Agr.upd ?_ rfl | refine Agr.mix ?_ rfl))) rfl, (by omega), (by omega), (by rw [swL_len]; exact hz2), (hpm2.trans (perm_sw (by omega) (by omega) (by omega) (by omega) (by omega))), (ins_next hc hin (by omega) (by omega) (by omega) c6r), rfl, hs.take 1⟩
          omega
        ·
          refine W_exit ?_
          have hor2 : OrdSeg cf m2 lo (k + 1) := ins_end hc hin hj0 (by
            have ht := c6
            rcases Nat.lt_or_ge lo j with q | q
            · right; intro h; simp [q, h] at ht
            · left; omega)
          refine W_region ?_
          refine RW_op (L_move (V := .int .i64 ((k : Nat) : Int)) rfl ?_)
          refine RW_op (L_add (a := ((k : Nat) : Int)) (b := 1) (c := ((k + 1 : Nat) : Int)) rfl rfl (nat_i64 (by omega) (by omega)) ?_)
          refine RW_op (L_assign (V := .int .i64 ((k + 1 : Nat) : Int)) rfl ?_)
          refine RW_nil ?_
          refine ⟨_, ?_, _, k + 1, m2, upd_of (mix_of (ds := [8, 9, 12, 13, 14, 15, 16, 17, 18, 19, 20, 21, 22, 23, 24, 25, 26, 27, 28, 29, 30, 31, 32, 33, 34, 35, 36, 37, 38, 39, 40, 41, 42, 43, 44, 45, 46, 47, 48, 49, 50, 51, 52]) (by repeat (first | exact Agr.refl _ _ | refine Agr.upd ?_ rfl | refine Agr.mix ?_ rfl))) rfl, (by omega), (by omega), hz2, hpm2, hor2, rfl, hs.take 1⟩
          omega
    ·
      replace c2 := of_decide_eq_false c2
      refine W_exit ?_
      refine ⟨_, res_none Tryz.results110, ?_⟩
      refine ⟨m, rfl, hs.take 1, hz1, hpm, ?_⟩
      rcases Nat.lt_or_ge k hi with q | q
      · omega
      · exact hor.sub (Nat.le_refl _) q
end Tt
end Go.Proofs
namespace Go.Proofs
open Go Go.Vx Go.RowKit
namespace Tt
set_option maxRecDepth 20000 in
set_option maxHeartbeats 4000000 in
theorem srS_ok (w : World) (S : Nat → Prop) (a : Option Addr) (N c : Nat) (l : List Cen) (hz : l.length = N) (hN : N ≤ 2305843009213693951) (p q n : Nat) (hp : p + n ≤ N) (hq : q + n ≤ N) (g : Nat) (hg : En Tryz.prog g) (cf : Cen → Cen → Int) (hc : CmpO cf) (hcmp : ∀ (w : World) (x y : Cen), Calls Tryz.prog g #[.agg (cec x).toArray, .agg (cec y).toArray] w (fun e w' => e = .returned (.int .i64 (cf x y)) ∧ Own w no w' [])) (hR : (row (.slice a N c) (l.map cec) 59 7).holds w S) (hlt : ∀ b, S b → b < w.heap.size) : Calls Tryz.prog 144 #[.slice a N c, .int .i64 ((p : Nat) : Int), .int .i64 ((q : Nat) : Int), .int .i64 ((n : Nat) : Int), .func (.func g) #[] #[]] w (fun e w' => ∃ x : List Cen, e = .returned (.tuple #[]) ∧ Own w S w' [row (.slice a N c) (x.map cec) 59 7] ∧ (x.length = N ∧ x = swN l p q n)) := by
  refine calls_of_Wn (n := 38) Tryz.func144 rfl Tryz.ntmps144 rfl ?_
  have hs := Own.lent hR hlt
  refine W_seq ?_
  refine W_region ?_
  refine RW_op (L_assign (V := .int .i64 0) rfl ?_)
  refine RW_nil ?_
  refine W_block ?_
  refine W_loopI (fun ρ μ ρ' w' => ∃ (ρo : Env) (k : Nat) (m : List Cen), ρ' = upd (mix [10, 11, 12, 13, 14, 15, 16, 17, 18, 19, 20, 21, 22, 23, 24, 25, 26, 27, 28, 29, 30, 31, 32, 33, 34, 35, 36, 37] ρo ρ) 10 (.int .i64 ((k : Nat) : Int)) ∧ (k ≤ n) ∧ (m.length = N) ∧ (m = swN l p q k) ∧ μ = n - k ∧ Own w S w' [row (.slice a N c) (m.map cec) 59 7]) ?_ ?_
  · exact ⟨_, _, 0, l, upd_of (mix_of (ds := [10, 11, 12, 13, 14, 15, 16, 17, 18, 19, 20, 21, 22, 23, 24, 25, 26, 27, 28, 29, 30, 31, 32, 33, 34, 35, 36, 37]) (Agr.refl _ _)) rfl, (Nat.zero_le _), hz, rfl, rfl, hs⟩
  · rintro μ ρ' w1 ⟨ρo, k, m, rfl, hk, hz1, hm, rfl, hs⟩
    refine W_seq ?_
    refine W_seq ?_
    refine W_region ?_
    refine RW_op (L_move (V := .int .i64 ((k : Nat) : Int)) rfl ?_)
    refine RW_op (L_move (V := .int .i64 ((n : Nat) : Int)) rfl ?_)
    refine RW_op (L_lss rfl rfl ?_)
    refine RW_nil ?_
    refine W_cond (t := decide (((k : Nat) : Int) < ((n : Nat) : Int))) rfl (fun c2 => ?_) (fun c2 => ?_)
    ·
      replace c2 := of_decide_eq_true c2
      refine W_skip ?_
      refine W_seq ?_
      refine W_block ?_
      refine W_regD HM [some 16, some 17, some 18, some 19, some 20, some 21, some 22, some 23, some 24, some 25, some 26, some 27, some 28, some 29, some 30, some 31, some 32, some 33, some 34, some 35, some 36, none, some 37, none] [] [0, 0, 0, 6, 0, 0, 0, 96, 0, 0, 0, 1536, 3840, 7936, 0, 0, 0, 98304, 245760, 507904, 1048335, 2096911, 4194303, 8388607] [pv (.slice a N c), pv (.int .i64 ((p : Nat) : Int)), pv (.int .i64 ((k : Nat) : Int)), pv (.int .i64 ((p + k : Nat) : Int)), pv (.slice a N c), pv (.int .i64 ((q : Nat) : Int)), pv (.int .i64 ((k : Nat) : Int)), pv (.int .i64 ((q + k : Nat) : Int)), pv (.slice a N c), pv (.int .i64 ((q : Nat) : Int)), pv (.int .i64 ((k : Nat) : Int)), pv (.int .i64 ((q + k : Nat) : Int)), pv (.pointer (some ⟨bkS (.slice a N c), ofS (.slice a N c) + ((q + k : Nat) : Int).toNat * 7, none⟩)), pv (.agg (cec (gd m (q + k))).toArray), pv (.slice a N c), pv (.int .i64 ((p : Nat) : Int)), pv (.int .i64 ((k : Nat) : Int)), pv (.int .i64 ((p + k : Nat) : Int)), pv (.pointer (some ⟨bkS (.slice a N c), ofS (.slice a N c) + ((p + k : Nat) : Int).toNat * 7, none⟩)), pv (.agg (cec (gd m (p + k))).toArray), pv (.pointer (some ⟨bkS (.slice a N c), ofS (.slice a N c) + ((p + k : Nat) : Int).toNat * 7, none⟩)), pn, pv (.pointer (some ⟨bkS (.slice a N c), ofS (.slice a N c) + ((q + k : Nat) : Int).toNat * 7, none⟩)), pn] (fun D ρ => [cond (D 23) (row (.slice a N c) (((m.set (p + k) (gd m (q + k))).set (q + k) (gd m (p + k))).map cec) 59 7) (cond (D 21) (row (.slice a N c) ((m.set (p + k) (gd m (q + k))).map cec) 59 7) (row (.slice a N c) (m.map cec) 59 7))]) [] (by kernel_rfl) hs ⟨?_, ?_, ?_, ?_, ?_, ?_, ?_, ?_, ?_, ?_, ?_, ?_, ?_, ?_, ?_, ?_, ?_, ?_, ?_, ?_, ?_, ?_, ?_, ?_, trivial⟩ ?_
      · exact ob [] [] rfl rfl fun D ρ w hs => L_move (V := .slice a N c) rfl ⟨rfl, hs⟩
      · exact ob [] [] rfl rfl fun D ρ w hs => L_move (V := .int .i64 ((p : Nat) : Int)) rfl ⟨rfl, hs⟩
      · exact ob [] [] rfl rfl fun D ρ w hs => L_move (V := .int .i64 ((k : Nat) : Int)) rfl ⟨rfl, hs⟩
      · exact ob [1, 2] [] rfl rfl fun D ρ w hs => L_add (a := ((p : Nat) : Int)) (b := ((k : Nat) : Int)) (c := ((p + k : Nat) : Int)) rfl rfl (nat_i64 (by omega) (by omega)) ⟨rfl, hs⟩
      · exact ob [] [] rfl rfl fun D ρ w hs => L_move (V := .slice a N c) rfl ⟨rfl, hs⟩
      · exact ob [] [] rfl rfl fun D ρ w hs => L_move (V := .int .i64 ((q : Nat) : Int)) rfl ⟨rfl, hs⟩
      · exact ob [] [] rfl rfl fun D ρ w hs => L_move (V := .int .i64 ((k : Nat) : Int)) rfl ⟨rfl, hs⟩
      · exact ob [5, 6] [] rfl rfl fun D ρ w hs => L_add (a := ((q : Nat) : Int)) (b := ((k : Nat) : Int)) (c := ((q + k : Nat) : Int)) rfl rfl (nat_i64 (by omega) (by omega)) ⟨rfl, hs⟩
      · exact ob [] [] rfl rfl fun D ρ w hs => L_move (V := .slice a N c) rfl ⟨rfl, hs⟩
      · exact ob [] [] rfl rfl fun D ρ w hs => L_move (V := .int .i64 ((q : Nat) : Int)) rfl ⟨rfl, hs⟩
      · exact ob [] [] rfl rfl fun D ρ w hs => L_move (V := .int .i64 ((k : Nat) : Int)) rfl ⟨rfl, hs⟩
      · exact ob [9, 10] [] rfl rfl fun D ρ w hs => L_add (a := ((q : Nat) : Int)) (b := ((k : Nat) : Int)) (c := ((q + k : Nat) : Int)) rfl rfl (nat_i64 (by omega) (by omega)) ⟨rfl, hs⟩
      · exact ob [8, 11] [21, 23] rfl rfl fun D ρ w hs => L_ixR UD_36 SA_59.1 (hs.rd 0 rfl) rfl rfl (by omega) (by rw [List.length_map]; omega) ⟨rfl, hs⟩
      · exact ob [12] [21, 23] rfl rfl fun D ρ w hs => L_ldRA (j := 0) (vs := cec (gd m (q + k))) (q + k) SA_59 (hs.rd 0 rfl) (gd_at (by omega)) rfl rfl rfl (by omega) ⟨rfl, hs⟩
      · exact ob [] [] rfl rfl fun D ρ w hs => L_move (V := .slice a N c) rfl ⟨rfl, hs⟩
      · exact ob [] [] rfl rfl fun D ρ w hs => L_move (V := .int .i64 ((p : Nat) : Int)) rfl ⟨rfl, hs⟩
      · exact ob [] [] rfl rfl fun D ρ w hs => L_move (V := .int .i64 ((k : Nat) : Int)) rfl ⟨rfl, hs⟩
      · exact ob [15, 16] [] rfl rfl fun D ρ w hs => L_add (a := ((p : Nat) : Int)) (b := ((k : Nat) : Int)) (c := ((p + k : Nat) : Int)) rfl rfl (nat_i64 (by omega) (by omega)) ⟨rfl, hs⟩
      · exact ob [14, 17] [21, 23] rfl rfl fun D ρ w hs => L_ixR UD_36 SA_59.1 (hs.rd 0 rfl) rfl rfl (by omega) (by rw [List.length_map]; omega) ⟨rfl, hs⟩
      · exact ob [18] [21, 23] rfl rfl fun D ρ w hs => L_ldRA (j := 0) (vs := cec (gd m (p + k))) (p + k) SA_59 (hs.rd 0 rfl) (gd_at (by omega)) rfl rfl rfl (by omega) ⟨rfl, hs⟩
      · exact ob [0, 3] [21, 23] rfl rfl fun D ρ w hs => L_ixR UD_36 SA_59.1 (hs.rd 0 rfl) rfl rfl (by omega) (by rw [List.length_map]; omega) ⟨rfl, hs⟩
      · exact ob [13, 20] [23] rfl rfl fun D ρ w hs => L_stE (z := gd m (q + k)) (p + k) SA_59.1 hs 0 rfl rfl rfl (by first | omega | (simp only [List.length_set]; omega)) rfl rfl rfl (cec_one _) fun _ hs => ⟨trivial, hs⟩
      · exact ob [4, 7, 21] [23] rfl rfl fun D ρ w hs => L_ixR UD_36 SA_59.1 (hs.rd 0 rfl) rfl rfl (by omega) (by simp only [List.length_map, List.length_set]; omega) ⟨rfl, hs⟩
      · exact ob [19, 21, 22] [] rfl rfl fun D ρ w hs => L_stE (z := gd m (p + k)) (q + k) SA_59.1 hs 0 rfl rfl rfl (by first | omega | (simp only [List.length_set]; omega)) rfl rfl rfl (cec_one _) fun _ hs => ⟨trivial, hs⟩
      rintro ρ1 w5 ρ2 hρ hs
      replace hρ : ρ2 = mix [16, 17, 18, 19, 20, 21, 22, 23, 24, 25, 26, 27, 28, 29, 30, 31, 32, 33, 34, 35, 36, 37] ρ1 _ := hρ
      replace hs : Own w S w5 [row (.slice a N c) (((m.set (p + k) (gd m (q + k))).set (q + k) (gd m (p + k))).map cec) 59 7] := hs
      subst hρ
      replace hs : Own w S _ [row (.slice a N c) ((swL m (p + k) (q + k)).map cec) 59 7] := hs.take 1
      refine W_region ?_
      refine RW_op (L_move (V := .int .i64 ((k : Nat) : Int)) rfl ?_)
      refine RW_op (L_add (a := ((k : Nat) : Int)) (b := 1) (c := ((k + 1 : Nat) : Int)) rfl rfl (nat_i64 (by omega) (by omega)) ?_)
      refine RW_op (L_assign (V := .int .i64 ((k + 1 : Nat) : Int)) rfl ?_)
      refine RW_nil ?_
      refine ⟨_, ?_, _, k + 1, swL m (p + k) (q + k), upd_of (mix_of (ds := [10, 11, 12, 13, 14, 15, 16, 17, 18, 19, 20, 21, 22, 23, 24, 25, 26, 27, 28, 29, 30, 31, 32, 33, 34, 35, 36, 37]) (by repeat (first | exact Agr.refl _ _ | refine Agr.upd ?_ rfl | refine Agr.mix ?_ rfl))) rfl, (by omega), (by rw [swL_len]; exact hz1), (by rw [swN_succ, ← hm]), rfl, hs.take 1⟩
      omega
    ·
      replace c2 := of_decide_eq_false c2
      refine W_exit ?_
      refine ⟨_, res_none Tryz.results144, ?_⟩
      exact ⟨m, rfl, hs.take 1, hz1, by rw [hm, show k = n by omega]⟩
set_option maxRecDepth 20000 in
set_option maxHeartbeats 4000000 in
theorem rtS_ok (w : World) (S : Nat → Prop) (a : Option Addr) (N c : Nat) (l : List Cen) (hz : l.length = N) (hN : N ≤ 2305843009213693951) (lo mid hi : Nat) (h1 : lo < mid) (h2 : mid < hi) (h3 : hi ≤ N) (g : Nat) (hg : En Tryz.prog g) (cf : Cen → Cen → Int) (hc : CmpO cf) (hcmp : ∀ (w : World) (x y : Cen), Calls Tryz.prog g #[.agg (cec x).toArray, .agg (cec y).toArray] w (fun e w' => e = .returned (.int .i64 (cf x y)) ∧ Own w no w' [])) (hR : (row (.slice a N c) (l.map cec) 59 7).holds w S) (hlt : ∀ b, S b → b < w.heap.size) : Calls Tryz.prog 127 #[.slice a N c, .int .i64 ((lo : Nat) : Int), .int .i64 ((mid : Nat) : Int), .int .i64 ((hi : Nat) : Int), .func (.func g) #[] #[]] w (fun e w' => ∃ x : List Cen, e = .returned (.tuple #[]) ∧ Own w S w' [row (.slice a N c) (x.map cec) 59 7] ∧ (x.length = N ∧ RotSeg l x lo mid hi)) := by
  refine calls_of_Wn (n := 58) Tryz.func127 rfl Tryz.ntmps127 rfl ?_
  have hs := Own.lent hR hlt
  obtain ⟨t, hrt, hro0⟩ := rotTo_start (l := l) (a := lo) (m := mid) (b := hi) (by omega) (by omega) (by omega)
  refine W_seq ?_
  refine W_region ?_
  refine RW_op (L_move (V := .int .i64 ((mid : Nat) : Int)) rfl ?_)
  refine RW_op (L_move (V := .int .i64 ((lo : Nat) : Int)) rfl ?_)
  refine RW_op (L_sub (a := ((mid : Nat) : Int)) (b := ((lo : Nat) : Int)) (c := ((mid - lo : Nat) : Int)) rfl rfl (nat_i64 (by omega) (by omega)) ?_)
  refine RW_op (L_assign (V := .int .i64 ((mid - lo : Nat) : Int)) rfl ?_)
  refine RW_nil ?_
  refine W_seq ?_
  refine W_region ?_
  refine RW_op (L_move (V := .int .i64 ((hi : Nat) : Int)) rfl ?_)
  refine RW_op (L_move (V := .int .i64 ((mid : Nat) : Int)) rfl ?_)
  refine RW_op (L_sub (a := ((hi : Nat) : Int)) (b := ((mid : Nat) : Int)) (c := ((hi - mid : Nat) : Int)) rfl rfl (nat_i64 (by omega) (by omega)) ?_)
  refine RW_op (L_assign (V := .int .i64 ((hi - mid : Nat) : Int)) rfl ?_)
  refine RW_nil ?_
  refine W_seq ?_
  refine W_block ?_
  refine W_loopI (fun ρ μ ρ' w' => ∃ (ρo : Env) (i : Nat) (j : Nat) (m : List Cen), ρ' = upd (upd (mix [10, 11, 18, 19, 20, 21, 22, 23, 24, 25, 26, 27, 28, 29, 30, 31, 32, 33, 34, 35, 36, 37, 38, 39, 40, 41, 42, 43, 44, 45, 46, 47, 48, 49] ρo ρ) 10 (.int .i64 ((i : Nat) : Int))) 11 (.int .i64 ((j : Nat) : Int)) ∧ (0 < i) ∧ (0 < j) ∧ (m.length = N) ∧ (RotTo m t mid i j) ∧ μ = i + j ∧ Own w S w' [row (.slice a N c) (m.map cec) 59 7]) ?_ ?_
  · exact ⟨_, _, mid - lo, hi - mid, l, upd_of (upd_of (mix_of (ds := [10, 11, 18, 19, 20, 21, 22, 23, 24, 25, 26, 27, 28, 29, 30, 31, 32, 33, 34, 35, 36, 37, 38, 39, 40, 41, 42, 43, 44, 45, 46, 47, 48, 49]) (Agr.refl _ _)) rfl) rfl, (by omega), (by omega), hz, hro0, rfl, hs⟩
  · rintro μ ρ' w1 ⟨ρo, i, j, m, rfl, hi0, hj0, hz1, hro, rfl, hs⟩
    have hrl := rotTo_len hro
    refine W_seq ?_
    refine W_seq ?_
    refine W_region ?_
    refine RW_op (L_move (V := .int .i64 ((i : Nat) : Int)) rfl ?_)
    refine RW_op (L_move (V := .int .i64 ((j : Nat) : Int)) rfl ?_)
    refine RW_op (L_neq rfl rfl ?_)
    refine RW_nil ?_
    refine W_cond (t := !decide (((i : Nat) : Int) = ((j : Nat) : Int))) rfl (fun c2 => ?_) (fun c2 => ?_)
    ·
      replace c2 := not_t c2
      replace c2 := of_decide_eq_false c2
      refine W_skip ?_
      refine W_block ?_
      refine W_seq ?_
      refine W_region ?_
      refine RW_op (L_move (V := .int .i64 ((i : Nat) : Int)) rfl ?_)
      refine RW_op (L_move (V := .int .i64 ((j : Nat) : Int)) rfl ?_)
      refine RW_op (L_gtr rfl rfl ?_)
      refine RW_nil ?_
      refine W_cond (t := decide (((j : Nat) : Int) < ((i : Nat) : Int))) rfl (fun c3 => ?_) (fun c3 => ?_)
      ·
        replace c3 := of_decide_eq_true c3
        refine W_seq ?_
        refine W_region ?_
        refine RW_op (L_move (V := .slice a N c) rfl ?_)
        refine RW_op (L_move (V := .int .i64 ((mid : Nat) : Int)) rfl ?_)
        refine RW_op (L_move (V := .int .i64 ((i : Nat) : Int)) rfl ?_)
        refine RW_op (L_sub (a := ((mid : Nat) : Int)) (b := ((i : Nat) : Int)) (c := ((mid - i : Nat) : Int)) rfl rfl (nat_i64 (by omega) (by omega)) ?_)
        refine RW_op (L_move (V := .int .i64 ((mid : Nat) : Int)) rfl ?_)
        refine RW_op (L_move (V := .int .i64 ((j : Nat) : Int)) rfl ?_)
        refine RW_op (L_move (V := .func (.func g) #[] #[]) rfl ?_)
        refine RW_op (L_callB (α := List Cen) (vs := [.slice a N c, .int .i64 ((mid - i : Nat) : Int), .int .i64 ((mid : Nat) : Int), .int .i64 ((j : Nat) : Int), .func (.func g) #[] #[]]) (V := fun _ => .tuple #[]) (R := row (.slice a N c) (m.map cec) 59 7) (R' := fun x => row (.slice a N c) (x.map cec) 59 7) (Lo := fun _ => []) (F := fun x _ => x.length = N ∧ x = swN m (mid - i) mid j) EN_144 rfl rfl hs 0 rfl (fun S hS hlt => srS_ok _ S a N c m (by first | assumption | omega) hN (mid - i) mid j (by omega) (by omega) g hg cf hc hcmp hS hlt) fun mz4 w5 hs hF6 => ?_)
        refine RW_nil ?_
        refine W_region ?_
        refine RW_op (L_move (V := .int .i64 ((i : Nat) : Int)) rfl ?_)
        refine RW_op (L_move (V := .int .i64 ((j : Nat) : Int)) rfl ?_)
        refine RW_op (L_sub (a := ((i : Nat) : Int)) (b := ((j : Nat) : Int)) (c := ((i - j : Nat) : Int)) rfl rfl (nat_i64 (by omega) (by omega)) ?_)
        refine RW_op (L_assign (V := .int .i64 ((i - j : Nat) : Int)) rfl ?_)
        refine RW_nil ?_
        refine ⟨_, ?_, _, i - j, j, mz4, upd_of (upd_of (mix_of (ds := [10, 11, 18, 19, 20, 21, 22, 23, 24, 25, 26, 27, 28, 29, 30, 31, 32, 33, 34, 35, 36, 37, 38, 39, 40, 41, 42, 43, 44, 45, 46, 47, 48, 49]) (by repeat (first | exact Agr.refl _ _ | refine Agr.upd ?_ rfl | refine Agr.mix ?_ rfl))) rfl) rfl, (by omega), (by omega), hF6.1, (by rw [hF6.2]; exact rotTo_gt hro (by omega)), rfl, hs.take 1⟩
        omega
      ·
        replace c3 := of_decide_eq_false c3
        refine W_seq ?_
        refine W_region ?_
        refine RW_op (L_move (V := .slice a N c) rfl ?_)
        refine RW_op (L_move (V := .int .i64 ((mid : Nat) : Int)) rfl ?_)
        refine RW_op (L_move (V := .int .i64 ((i : Nat) : Int)) rfl ?_)
        refine RW_op (L_sub (a := ((mid : Nat) : Int)) (b := ((i : Nat) : Int)) (c := ((mid - i : Nat) : Int)) rfl rfl (nat_i64 (by omega) (by omega)) ?_)
        refine RW_op (L_move (V := .int .i64 ((mid : Nat) : Int)) rfl ?_)
        refine RW_op (L_move (V := .int .i64 ((j : Nat) : Int)) rfl ?_)
        refine RW_op (L_add (a := ((mid : Nat) : Int)) (b := ((j : Nat) : Int)) (c := ((mid + j : Nat) : Int)) rfl rfl (nat_i64 (by omega) (by omega)) ?_)
        refine RW_op (L_move (V := .int .i64 ((i : Nat) : Int)) rfl ?_)
        refine RW_op (L_sub (a := ((mid + j : Nat) : Int)) (b := ((i : Nat) : Int)) (c := (((mid + j) - i : Nat) : Int)) rfl rfl (nat_i64 (by omega) (by omega)) ?_)
        refine RW_op (L_move (V := .int .i64 ((i : Nat) : Int)) rfl ?_)
        refine RW_op (L_move (V := .func (.func g) #[] #[]) rfl ?_)
        refine RW_op (L_callB (α := List Cen) (vs := [.slice a N c, .int .i64 ((mid - i : Nat) : Int), .int .i64 (((mid + j) - i : Nat) : Int), .int .i64 ((i : Nat) : Int), .func (.func g) #[] #[]]) (V := fun _ => .tuple #[]) (R := row (.slice a N c) (m.map cec) 59 7) (R' := fun x => row (.slice a N c) (x.map cec) 59 7) (Lo := fun _ => []) (F := fun x _ => x.length = N ∧ x = swN m (mid - i) ((mid + j) - i) i) EN_144 rfl rfl hs 0 rfl (fun S hS hlt => srS_ok _ S a N c m (by first | assumption | omega) hN (mid - i) ((mid + j) - i) i (by omega) (by omega) g hg cf hc hcmp hS hlt) fun mz7 w8 hs hF9 => ?_)
        refine RW_nil ?_
        refine W_region ?_
        refine RW_op (L_move (V := .int .i64 ((j : Nat) : Int)) rfl ?_)
        refine RW_op (L_move (V := .int .i64 ((i : Nat) : Int)) rfl ?_)
        refine RW_op (L_sub (a := ((j : Nat) : Int)) (b := ((i : Nat) : Int)) (c := ((j - i : Nat) : Int)) rfl rfl (nat_i64 (by omega) (by omega)) ?_)
        refine RW_op (L_assign (V := .int .i64 ((j - i : Nat) : Int)) rfl ?_)
        refine RW_nil ?_
        refine ⟨_, ?_, _, i, j - i, mz7, upd_of (upd_of (mix_of (ds := [10, 11, 18, 19, 20, 21, 22, 23, 24, 25, 26, 27, 28, 29, 30, 31, 32, 33, 34, 35, 36, 37, 38, 39, 40, 41, 42, 43, 44, 45, 46, 47, 48, 49]) (by repeat (first | exact Agr.refl _ _ | refine Agr.upd ?_ rfl | refine Agr.mix ?_ rfl))) rfl) rfl, (by omega), (by omega), hF9.1, (by rw [hF9.2]; exact rotTo_lt hro (by omega)), rfl, hs.take 1⟩
        omega
    ·
      replace c2 := not_f c2
      replace c2 := of_decide_eq_true c2
      refine W_exit ?_
      have hrl := rotTo_len hro
      have hij : i = j := by omega
      refine W_region ?_
      refine RW_op (L_move (V := .slice a N c) rfl ?_)
      refine RW_op (L_move (V := .int .i64 ((mid : Nat) : Int)) rfl ?_)
      refine RW_op (L_move (V := .int .i64 ((i : Nat) : Int)) rfl ?_)
      refine RW_op (L_sub (a := ((mid : Nat) : Int)) (b := ((i : Nat) : Int)) (c := ((mid - i : Nat) : Int)) rfl rfl (nat_i64 (by omega) (by omega)) ?_)
      refine RW_op (L_move (V := .int .i64 ((mid : Nat) : Int)) rfl ?_)
      refine RW_op (L_move (V := .int .i64 ((i : Nat) : Int)) rfl ?_)
      refine RW_op (L_move (V := .func (.func g) #[] #[]) rfl ?_)
      refine RW_op (L_callB (α := List Cen) (vs := [.slice a N c, .int .i64 ((mid - i : Nat) : Int), .int .i64 ((mid : Nat) : Int), .int .i64 ((i : Nat) : Int), .func (.func g) #[] #[]]) (V := fun _ => .tuple #[]) (R := row (.slice a N c) (m.map cec) 59 7) (R' := fun x => row (.slice a N c) (x.map cec) 59 7) (Lo := fun _ => []) (F := fun x _ => x.length = N ∧ x = swN m (mid - i) mid i) EN_144 rfl rfl hs 0 rfl (fun S hS hlt => srS_ok _ S a N c m (by first | assumption | omega) hN (mid - i) mid i (by omega) (by omega) g hg cf hc hcmp hS hlt) fun mz10 w11 hs hF12 => ?_)
      refine RW_nil ?_
      refine ⟨_, res_none Tryz.results127, ?_⟩
      have hxt : mz10 = t := by rw [hF12.2]; exact rotTo_eq hro (by omega)
      rw [hxt] at hs
      exact ⟨t, rfl, hs.take 1, by rw [← hxt]; exact hF12.1, hrt⟩
end Tt
end Go.Proofs
