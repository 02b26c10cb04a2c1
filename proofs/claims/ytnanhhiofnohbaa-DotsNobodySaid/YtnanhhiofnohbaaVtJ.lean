/- A part of a proof: what functions of the program compute, and plain facts on that. -/
import Derived.Test.YtnanhhiofnohbaaVtI
namespace Go.Proofs
open Go Go.Vx Go.RowKit
namespace Tt
set_option maxRecDepth 20000 in
theorem EQ_24 (a b : Vec) : EqF Try.prog 2 24 (.agg (vc a).toArray) (.agg (vc b).toArray) (decide (a = b)) := EqF_vec Try.underlying24 Try.type22 rfl Try.runUnderlying22 ⟨Try.sizeOf22, Try.isAgg22⟩ a b
theorem EN_16 : En Try.prog 16 := Try.call16
theorem EN_21 : En Try.prog 21 := Try.call21
theorem EN_22 : En Try.prog 22 := Try.call22
theorem EN_27 : En Try.prog 27 := Try.call27
theorem gLoose2_ok (w : World) (b r : Nat) (g : Grp) (hN : g.l.length ≤ 1000000) (hsort : SortC Try.prog 64 51 dc 34 2 sortD) (hc : CellsF w b (gcs r g)) (hm : MapF w r dv uv g.l) : Calls Try.prog 25 #[.pointer (some ⟨b, 0, none⟩)] w (fun e w' => ∃ x : Option Addr × Nat, e = .returned (.slice x.1 (looseL g).length x.2) ∧ Own w no w' [row (.slice x.1 (looseL g).length x.2) ((looseL g).map dc) 34 2] ∧ True) :=
  (gLoose_ok w b r g hN hsort hc hm).mono fun e w' ⟨x, he, ho, hl⟩ => by
    have := loose_eq hl
    rw [this] at he ho
    exact ⟨(x.2.1, x.2.2), he, ho, trivial⟩
theorem gMissing2_ok (w : World) (b r : Nat) (g : Grp) (hg : GOk g) (hN : g.l.length ≤ 1000000) (hsort : SortC Try.prog 64 51 dc 34 2 sortD) (hc : CellsF w b (gcs r g)) (hm : MapF w r dv uv g.l) : Calls Try.prog 27 #[.pointer (some ⟨b, 0, none⟩)] w (fun e w' => ∃ x : Option Addr × Nat, e = .returned (.slice x.1 (missL g).length x.2) ∧ Own w no w' [row (.slice x.1 (missL g).length x.2) ((missL g).map dc) 34 2] ∧ True) :=
  (gMissing_ok w b r g hg hN hsort hc hm).mono fun e w' ⟨x, he, ho, m, hl, hx⟩ => by
    have h1 := loose_eq hl
    subst h1
    have h2 : x.1 = missL g := hx
    rw [h2] at he ho
    exact ⟨(x.2.1, x.2.2), he, ho, trivial⟩
theorem gNew_yes (w : World) (v : Vec) (hv : VecOk v) (h : rightB v 16 = true) : Calls Try.prog 16 #[.agg (vc v).toArray] w (fun e w' => ∃ x : Nat × Nat, e = .returned (.pointer (some ⟨x.1, 0, none⟩)) ∧ Own w no w' [gR 52 x.1 x.2 ⟨v, []⟩] ∧ True) :=
  (gNew_ok w v hv).mono fun e w' ⟨x, he, ho, _⟩ => by rw [h] at he ho; exact ⟨x, he, ho, trivial⟩
theorem gNew_no (w : World) (v : Vec) (hv : VecOk v) (h : rightB v 16 = false) : Calls Try.prog 16 #[.agg (vc v).toArray] w (fun e w' => e = .returned (.pointer none) ∧ Own w no w' []) :=
  (gNew_ok w v hv).mono fun e w' ⟨x, he, ho, _⟩ => by rw [h] at he; exact ⟨he, ho.take 0⟩
set_option maxRecDepth 20000 in
set_option maxHeartbeats 4000000 in
theorem alive5_ok (w : World) (hsort : SortC Try.prog 64 51 dc 34 2 sortD) : Calls Try.prog 15 #[] w (fun e w' => e = .returned (.bool true) ∧ Own w no w' []) := by
  refine calls_of_Wn (n := 57) Try.func15 rfl Try.ntmps15 rfl ?_
  have hs := Own.start w
  refine W_seq ?_
  refine W_region ?_
  refine RW_op (L_assign (V := .bool false) rfl ?_)
  refine RW_nil ?_
  refine W_seq ?_
  refine W_region ?_
  refine RW_op (L_build (vs := [(0, .int .u32 2)]) (cs := vc (vset vzero 0 2)) BT_24 (rfl) rfl ?_)
  refine RW_op (L_callX (vs := [.agg (vc (vset vzero 0 2)).toArray]) EN_16 rfl rfl (gNew_yes _ (vset vzero 0 2) (VOk_vset0 (by decide) (by decide)).ok (by decide)) hs fun x2 w1 hs _ => ?_)
  refine RW_op (L_assign (V := .pointer (some ⟨x2.1, 0, none⟩)) rfl ?_)
  refine RW_nil ?_
  refine W_seq ?_
  refine W_seq ?_
  refine W_region ?_
  refine RW_op (L_move (V := .pointer (some ⟨x2.1, 0, none⟩)) rfl ?_)
  refine RW_op (L_ptrnil UD_27 rfl rfl ?_)
  refine RW_op (L_move (V := .bool false) rfl ?_)
  refine RW_gy rfl (L_move (V := .pointer (some ⟨x2.1, 0, none⟩)) rfl ?_)
  refine RW_gy rfl (L_build (vs := [(1, .int .u32 4)]) (cs := dc (⟨0, 4⟩ : Dot)) BT_34 (rfl) rfl ?_)
  refine RW_gy rfl (L_callB (vs := [.pointer (some ⟨x2.1, 0, none⟩), .agg (dc (⟨0, 4⟩ : Dot)).toArray]) (V := fun _ : Unit => .int .i64 (gAddE (⟨vset vzero 0 2, []⟩ : Grp) (⟨0, 4⟩ : Dot))) (R := gR 52 x2.1 x2.2 (⟨vset vzero 0 2, []⟩ : Grp)) (R' := fun _ => gR 52 x2.1 x2.2 (gAddG (⟨vset vzero 0 2, []⟩ : Grp) (⟨0, 4⟩ : Dot))) (Lo := fun _ => []) (F := fun _ _ => True) EN_21 rfl rfl hs 0 rfl (fun S hS hlt => gAdd_ok _ S _ _ _ _ (by first | assumption | exact dotOk_mk (by omega) (by omega) (by omega) (by omega)) (gNew_okg (VOk_vset0 (by decide) (by decide)).ok (by decide)) hS hlt) fun _ w3 hs _ => ?_)
  refine RW_gy rfl (opW_to (V := .bool (!decide (gAddE (⟨vset vzero 0 2, []⟩ : Grp) (⟨0, 4⟩ : Dot) = 0))) (V' := .bool false) (L_neq rfl rfl ⟨rfl, rfl⟩) (congrArg Value.bool (by decide)) ?_)
  refine RW_op (L_pick (V := .bool false) rfl rfl ?_)
  refine RW_op (L_move (V := .bool false) rfl ?_)
  refine RW_gy rfl (L_move (V := .pointer (some ⟨x2.1, 0, none⟩)) rfl ?_)
  refine RW_gy rfl (L_callP (vs := [.pointer (some ⟨x2.1, 0, none⟩)]) (V := .agg (vc ((gAddG (⟨vset vzero 0 2, []⟩ : Grp) (⟨0, 4⟩ : Dot)).v)).toArray) EN_22 rfl rfl (gClosed_ok _ x2.1 x2.2 (gAddG (⟨vset vzero 0 2, []⟩ : Grp) (⟨0, 4⟩ : Dot))  (hs.gcells 0 rfl) (hs.gmap 0 rfl)) hs fun w4 hs => ?_)
  refine RW_gy rfl (L_build (vs := [(0, .int .u32 2)]) (cs := vc (vset vzero 0 2)) BT_24 (rfl) rfl ?_)
  refine RW_gy rfl (opW_to (V := .bool (!decide ((gAddG (⟨vset vzero 0 2, []⟩ : Grp) (⟨0, 4⟩ : Dot)).v = vset vzero 0 2))) (V' := .bool false) (L_neA (xs := vc ((gAddG (⟨vset vzero 0 2, []⟩ : Grp) (⟨0, 4⟩ : Dot)).v)) (ys := vc (vset vzero 0 2)) Try.eqGuardType24 (EQ_24 ((gAddG (⟨vset vzero 0 2, []⟩ : Grp) (⟨0, 4⟩ : Dot)).v) (vset vzero 0 2)) rfl rfl rfl ⟨rfl, rfl⟩) (congrArg Value.bool (by decide)) ?_)
  refine RW_op (L_pick (V := .bool false) rfl rfl ?_)
  refine RW_op (L_move (V := .bool false) rfl ?_)
  refine RW_gy rfl (L_move (V := .pointer (some ⟨x2.1, 0, none⟩)) rfl ?_)
  refine RW_gy rfl (L_callX (vs := [.pointer (some ⟨x2.1, 0, none⟩)]) (V := fun x : Option Addr × Nat => .slice x.1 (looseL (gAddG (⟨vset vzero 0 2, []⟩ : Grp) (⟨0, 4⟩ : Dot))).length x.2) EN_25 rfl rfl (gLoose2_ok _ x2.1 x2.2 (gAddG (⟨vset vzero 0 2, []⟩ : Grp) (⟨0, 4⟩ : Dot)) (by decide) hsort (hs.gcells 0 rfl) (hs.gmap 0 rfl)) hs fun x6 w5 hs _ => ?_)
  refine RW_gy rfl (L_lenR (n := (looseL (gAddG (⟨vset vzero 0 2, []⟩ : Grp) (⟨0, 4⟩ : Dot))).length) UD_25 (hs.rd 1 rfl) (by simp) rfl ?_)
  refine RW_gy rfl (opW_to (V := .bool (!decide ((((looseL (gAddG (⟨vset vzero 0 2, []⟩ : Grp) (⟨0, 4⟩ : Dot))).length : Nat) : Int) = 1))) (V' := .bool false) (L_neq rfl rfl ⟨rfl, rfl⟩) (congrArg Value.bool (by rw [looseL_len]; decide)) ?_)
  refine RW_op (L_pick (V := .bool false) rfl rfl ?_)
  refine RW_op (L_move (V := .bool false) rfl ?_)
  refine RW_gy rfl (L_move (V := .pointer (some ⟨x2.1, 0, none⟩)) rfl ?_)
  refine RW_gy rfl (L_callX (vs := [.pointer (some ⟨x2.1, 0, none⟩)]) (V := fun x : Option Addr × Nat => .slice x.1 (missL (gAddG (⟨vset vzero 0 2, []⟩ : Grp) (⟨0, 4⟩ : Dot))).length x.2) EN_27 rfl rfl (gMissing2_ok _ x2.1 x2.2 (gAddG (⟨vset vzero 0 2, []⟩ : Grp) (⟨0, 4⟩ : Dot)) (gAddG_ok (gNew_okg (VOk_vset0 (by decide) (by decide)).ok (by decide)) (by first | assumption | exact dotOk_mk (by omega) (by omega) (by omega) (by omega))) (by decide) hsort (hs.gcells 0 rfl) (hs.gmap 0 rfl)) hs fun x8 w7 hs _ => ?_)
  refine RW_gy rfl (L_lenR (n := (missL (gAddG (⟨vset vzero 0 2, []⟩ : Grp) (⟨0, 4⟩ : Dot))).length) UD_25 (hs.rd 2 rfl) (by simp) rfl ?_)
  refine RW_gy rfl (opW_to (V := .bool (!decide ((((missL (gAddG (⟨vset vzero 0 2, []⟩ : Grp) (⟨0, 4⟩ : Dot))).length : Nat) : Int) = 1))) (V' := .bool false) (L_neq rfl rfl ⟨rfl, rfl⟩) (congrArg Value.bool (by rw [alive_miss]; decide)) ?_)
  refine RW_op (L_pick (V := .bool false) rfl rfl ?_)
  refine RW_nil ?_
  refine W_condF rfl ?_
  refine W_skip ?_
  refine W_seq ?_
  refine W_region ?_
  refine RW_op (L_move (V := .pointer (some ⟨x2.1, 0, none⟩)) rfl ?_)
  refine RW_op (L_build (vs := [(1, .int .u32 3)]) (cs := dc (⟨0, 3⟩ : Dot)) BT_34 (rfl) rfl ?_)
  refine RW_op (L_callB (vs := [.pointer (some ⟨x2.1, 0, none⟩), .agg (dc (⟨0, 3⟩ : Dot)).toArray]) (V := fun _ : Unit => .int .i64 (gAddE (gAddG (⟨vset vzero 0 2, []⟩ : Grp) (⟨0, 4⟩ : Dot)) (⟨0, 3⟩ : Dot))) (R := gR 52 x2.1 x2.2 (gAddG (⟨vset vzero 0 2, []⟩ : Grp) (⟨0, 4⟩ : Dot))) (R' := fun _ => gR 52 x2.1 x2.2 (gAddG (gAddG (⟨vset vzero 0 2, []⟩ : Grp) (⟨0, 4⟩ : Dot)) (⟨0, 3⟩ : Dot))) (Lo := fun _ => []) (F := fun _ _ => True) EN_21 rfl rfl hs 0 rfl (fun S hS hlt => gAdd_ok _ S _ _ _ _ (by first | assumption | exact dotOk_mk (by omega) (by omega) (by omega) (by omega)) (gAddG_ok (gNew_okg (VOk_vset0 (by decide) (by decide)).ok (by decide)) (by first | assumption | exact dotOk_mk (by omega) (by omega) (by omega) (by omega))) hS hlt) fun _ w9 hs _ => ?_)
  refine RW_op (opW_to (V := .bool (decide (gAddE (gAddG (⟨vset vzero 0 2, []⟩ : Grp) (⟨0, 4⟩ : Dot)) (⟨0, 3⟩ : Dot) = 0))) (V' := .bool true) (L_eql rfl rfl ⟨rfl, rfl⟩) (congrArg Value.bool (by decide)) ?_)
  refine RW_op (L_move (V := .bool true) rfl ?_)
  refine RW_gy rfl (L_move (V := .pointer (some ⟨x2.1, 0, none⟩)) rfl ?_)
  refine RW_gy rfl (L_callP (vs := [.pointer (some ⟨x2.1, 0, none⟩)]) (V := .agg (vc ((gAddG (gAddG (⟨vset vzero 0 2, []⟩ : Grp) (⟨0, 4⟩ : Dot)) (⟨0, 3⟩ : Dot)).v)).toArray) EN_22 rfl rfl (gClosed_ok _ x2.1 x2.2 (gAddG (gAddG (⟨vset vzero 0 2, []⟩ : Grp) (⟨0, 4⟩ : Dot)) (⟨0, 3⟩ : Dot))  (hs.gcells 0 rfl) (hs.gmap 0 rfl)) hs fun w10 hs => ?_)
  refine RW_gy rfl (L_build (vs := [(0, .int .u32 4)]) (cs := vc (vset vzero 0 4)) BT_24 (rfl) rfl ?_)
  refine RW_gy rfl (opW_to (V := .bool (decide ((gAddG (gAddG (⟨vset vzero 0 2, []⟩ : Grp) (⟨0, 4⟩ : Dot)) (⟨0, 3⟩ : Dot)).v = vset vzero 0 4))) (V' := .bool true) (L_eqA (xs := vc ((gAddG (gAddG (⟨vset vzero 0 2, []⟩ : Grp) (⟨0, 4⟩ : Dot)) (⟨0, 3⟩ : Dot)).v)) (ys := vc (vset vzero 0 4)) Try.eqGuardType24 (EQ_24 ((gAddG (gAddG (⟨vset vzero 0 2, []⟩ : Grp) (⟨0, 4⟩ : Dot)) (⟨0, 3⟩ : Dot)).v) (vset vzero 0 4)) rfl rfl rfl ⟨rfl, rfl⟩) (congrArg Value.bool (by decide)) ?_)
  refine RW_op (L_pick (V := .bool true) rfl rfl ?_)
  refine RW_op (L_move (V := .bool true) rfl ?_)
  refine RW_gy rfl (L_move (V := .pointer (some ⟨x2.1, 0, none⟩)) rfl ?_)
  refine RW_gy rfl (L_build (vs := [(1, .int .u32 3)]) (cs := dc (⟨0, 3⟩ : Dot)) BT_34 (rfl) rfl ?_)
  refine RW_gy rfl (L_callB (vs := [.pointer (some ⟨x2.1, 0, none⟩), .agg (dc (⟨0, 3⟩ : Dot)).toArray]) (V := fun _ : Unit => .int .i64 (gAddE (gAddG (gAddG (⟨vset vzero 0 2, []⟩ : Grp) (⟨0, 4⟩ : Dot)) (⟨0, 3⟩ : Dot)) (⟨0, 3⟩ : Dot))) (R := gR 52 x2.1 x2.2 (gAddG (gAddG (⟨vset vzero 0 2, []⟩ : Grp) (⟨0, 4⟩ : Dot)) (⟨0, 3⟩ : Dot))) (R' := fun _ => gR 52 x2.1 x2.2 (gAddG (gAddG (gAddG (⟨vset vzero 0 2, []⟩ : Grp) (⟨0, 4⟩ : Dot)) (⟨0, 3⟩ : Dot)) (⟨0, 3⟩ : Dot))) (Lo := fun _ => []) (F := fun _ _ => True) EN_21 rfl rfl hs 0 rfl (fun S hS hlt => gAdd_ok _ S _ _ _ _ (by first | assumption | exact dotOk_mk (by omega) (by omega) (by omega) (by omega)) (gAddG_ok (gAddG_ok (gNew_okg (VOk_vset0 (by decide) (by decide)).ok (by decide)) (by first | assumption | exact dotOk_mk (by omega) (by omega) (by omega) (by omega))) (by first | assumption | exact dotOk_mk (by omega) (by omega) (by omega) (by omega))) hS hlt) fun _ w11 hs _ => ?_)
  refine RW_gy rfl (opW_to (V := .bool (decide (gAddE (gAddG (gAddG (⟨vset vzero 0 2, []⟩ : Grp) (⟨0, 4⟩ : Dot)) (⟨0, 3⟩ : Dot)) (⟨0, 3⟩ : Dot) = 8))) (V' := .bool true) (L_eql rfl rfl ⟨rfl, rfl⟩) (congrArg Value.bool (by decide)) ?_)
  refine RW_op (L_pick (V := .bool true) rfl rfl ?_)
  refine RW_op (L_move (V := .bool true) rfl ?_)
  refine RW_gy rfl (L_move (V := .pointer (some ⟨x2.1, 0, none⟩)) rfl ?_)
  refine RW_gy rfl (L_build (vs := [(1, .int .u32 1)]) (cs := dc (⟨0, 1⟩ : Dot)) BT_34 (rfl) rfl ?_)
  refine RW_gy rfl (L_callP (vs := [.pointer (some ⟨x2.1, 0, none⟩), .agg (dc (⟨0, 1⟩ : Dot)).toArray]) (V := .bool (gHas (gAddG (gAddG (gAddG (⟨vset vzero 0 2, []⟩ : Grp) (⟨0, 4⟩ : Dot)) (⟨0, 3⟩ : Dot)) (⟨0, 3⟩ : Dot)) (⟨0, 1⟩ : Dot))) EN_18 rfl rfl (gHas_ok _ x2.1 x2.2 (gAddG (gAddG (gAddG (⟨vset vzero 0 2, []⟩ : Grp) (⟨0, 4⟩ : Dot)) (⟨0, 3⟩ : Dot)) (⟨0, 3⟩ : Dot)) (⟨0, 1⟩ : Dot) (by first | assumption | exact dotOk_mk (by omega) (by omega) (by omega) (by omega)) (hs.gcells 0 rfl) (hs.gmap 0 rfl)) hs fun w12 hs => ?_)
  refine RW_op (opW_to (V := .bool (gHas (gAddG (gAddG (gAddG (⟨vset vzero 0 2, []⟩ : Grp) (⟨0, 4⟩ : Dot)) (⟨0, 3⟩ : Dot)) (⟨0, 3⟩ : Dot)) (⟨0, 1⟩ : Dot))) (V' := .bool true) (L_pick (V := .bool (gHas (gAddG (gAddG (gAddG (⟨vset vzero 0 2, []⟩ : Grp) (⟨0, 4⟩ : Dot)) (⟨0, 3⟩ : Dot)) (⟨0, 3⟩ : Dot)) (⟨0, 1⟩ : Dot))) rfl rfl ⟨rfl, rfl⟩) (congrArg Value.bool (by decide)) ?_)
  refine RW_op (L_move (V := .bool true) rfl ?_)
  refine RW_gy rfl (L_move (V := .pointer (some ⟨x2.1, 0, none⟩)) rfl ?_)
  refine RW_gy rfl (L_callX (vs := [.pointer (some ⟨x2.1, 0, none⟩)]) (V := fun x : Option Addr × Nat => .slice x.1 (looseL (gAddG (gAddG (gAddG (⟨vset vzero 0 2, []⟩ : Grp) (⟨0, 4⟩ : Dot)) (⟨0, 3⟩ : Dot)) (⟨0, 3⟩ : Dot))).length x.2) EN_25 rfl rfl (gLoose2_ok _ x2.1 x2.2 (gAddG (gAddG (gAddG (⟨vset vzero 0 2, []⟩ : Grp) (⟨0, 4⟩ : Dot)) (⟨0, 3⟩ : Dot)) (⟨0, 3⟩ : Dot)) (by decide) hsort (hs.gcells 0 rfl) (hs.gmap 0 rfl)) hs fun x14 w13 hs _ => ?_)
  refine RW_gy rfl (L_lenR (n := (looseL (gAddG (gAddG (gAddG (⟨vset vzero 0 2, []⟩ : Grp) (⟨0, 4⟩ : Dot)) (⟨0, 3⟩ : Dot)) (⟨0, 3⟩ : Dot))).length) UD_25 (hs.rd 3 rfl) (by simp) rfl ?_)
  refine RW_gy rfl (opW_to (V := .bool (decide ((((looseL (gAddG (gAddG (gAddG (⟨vset vzero 0 2, []⟩ : Grp) (⟨0, 4⟩ : Dot)) (⟨0, 3⟩ : Dot)) (⟨0, 3⟩ : Dot))).length : Nat) : Int) = 0))) (V' := .bool true) (L_eql rfl rfl ⟨rfl, rfl⟩) (congrArg Value.bool (by rw [looseL_len]; decide)) ?_)
  refine RW_op (L_pick (V := .bool true) rfl rfl ?_)
  refine RW_op (L_assign (V := .bool true) rfl ?_)
  refine RW_nil ?_
  refine W_ret ?_
  refine ⟨_, res_one (V := .bool true) Try.results15 rfl, ?_⟩
  refine ⟨congrArg Ending.returned ?_, hs.take 0⟩
  rfl
end Tt
end Go.Proofs
