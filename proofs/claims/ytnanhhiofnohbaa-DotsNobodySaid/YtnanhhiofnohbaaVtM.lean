/- A part of a proof: what functions of the program compute, and plain facts on that. -/
import Derived.Test.YtnanhhiofnohbaaVtL
namespace Go.Proofs
open Go Go.Vx Go.RowKit
namespace Tt
theorem EN_30 : En Try.prog 30 := Try.call30
theorem EN_31 : En Try.prog 31 := Try.call31
set_option maxRecDepth 20000 in
set_option maxHeartbeats 4000000 in
theorem dotsGrow_yes (w : World) (v : Vec) (a : Option Addr) (c : Nat) (l : List Dot) (hv : VecOk v) (hl : ∀ d ∈ l, DotOk d) (hr : Rd w (.slice a l.length c) 2 (l.map dc)) (hsort : SortC Try.prog 64 51 dc 34 2 sortD) (hB : rightB v 16 = true) : Calls Try.prog 7 #[.agg (vc v).toArray, .slice a l.length c] w (fun e w' => e = .returned (.bool true) ∧ Own w no w' []) := by
  refine calls_of_Wn (n := 89) Try.func7 rfl Try.ntmps7 rfl ?_
  have hs := Own.start w
  have hn := hr.sml
  refine W_seq ?_
  refine W_region ?_
  refine RW_op (L_box (V := .agg (vc v).toArray) (cs := vc v) rfl rfl hs fun b1 w2 hs => ?_)
  refine RW_op (L_assign (V := .bool false) rfl ?_)
  refine RW_nil ?_
  refine W_seq ?_
  refine W_seq ?_
  refine W_region ?_
  refine RW_op (L_callP (vs := []) (V := .bool true) EN_15 rfl rfl (alive5_ok _ hsort) hs fun w3 hs => ?_)
  refine RW_op (L_not rfl ?_)
  refine RW_nil ?_
  refine W_condF rfl ?_
  refine W_skip ?_
  refine W_seq ?_
  refine W_region ?_
  refine RW_op (L_ldW (cs := vc v) SA_24 hs 0 rfl rfl rfl ?_)
  refine RW_op (L_callX (vs := [.agg (vc v).toArray]) EN_16 rfl rfl (gNew_yes _ v hv hB) hs fun x5 w4 hs _ => ?_)
  refine RW_op (L_assign (V := .pointer (some ⟨x5.1, 0, none⟩)) rfl ?_)
  refine RW_nil ?_
  refine W_seq ?_
  refine W_seq ?_
  refine W_region ?_
  refine RW_op (L_move (V := .pointer (some ⟨x5.1, 0, none⟩)) rfl ?_)
  refine RW_op (L_ptrnil UD_27 rfl rfl ?_)
  refine RW_nil ?_
  refine W_condF rfl ?_
  refine W_skip ?_
  refine W_seq ?_
  refine W_region ?_
  refine RW_op (L_assign (V := .slice none 0 0) rfl ?_)
  refine RW_nil ?_
  refine W_seq ?_
  refine W_seq ?_
  refine W_region ?_
  refine RW_op (L_assign (V := .int .i64 0) rfl ?_)
  refine RW_nil ?_
  refine W_block ?_
  replace hs := hs.more (row (.slice none 0 0) (List.map dc []) 34 2) (row_nil _ _ _ _)
  refine W_loopI (fun ρ m ρ' w' => ∃ (ρo : Env) (k : Nat) (g : Grp) (a1 : Option Addr) (c1 : Nat) (inn : List Dot), ρ' = upd (upd (mix [4, 6, 7, 8, 9, 11, 21, 22, 23, 24, 25, 26, 27, 28, 29, 30, 31, 32, 33, 34, 35, 36, 37, 38, 39, 40, 41, 42, 43, 44, 45, 46, 47, 48, 49, 50, 51, 52, 53, 54, 55, 56, 57, 58, 59, 60, 61, 62, 63, 64, 65, 66, 67, 68, 69, 70, 71, 72, 73] ρo ρ) 7 (.int .i64 (k : Int))) 6 (.slice a1 inn.length c1) ∧ (k ≤ l.length) ∧ (k ≤ 60) ∧ (GInv g) ∧ (g.l.length ≤ k) ∧ (vsum g.v + g.l.length = vsum v + inn.length) ∧ (inn.length ≤ k) ∧ (∀ x ∈ inn, DotOk x ∧ gHas g x = true) ∧ m = l.length - k ∧ Own w no w' [blk b1 (vc v) 24, gR 52 x5.1 x5.2 g, row (.slice a1 inn.length c1) (inn.map dc) 34 2]) ?_ ?_
  · exact ⟨_, _, 0, (⟨v, []⟩ : Grp), none, 0, [], upd_of (upd_of (mix_of (ds := [4, 6, 7, 8, 9, 11, 21, 22, 23, 24, 25, 26, 27, 28, 29, 30, 31, 32, 33, 34, 35, 36, 37, 38, 39, 40, 41, 42, 43, 44, 45, 46, 47, 48, 49, 50, 51, 52, 53, 54, 55, 56, 57, 58, 59, 60, 61, 62, 63, 64, 65, 66, 67, 68, 69, 70, 71, 72, 73]) (Agr.refl _ _)) rfl) rfl, (by omega), (by omega), (gInv_new hv hB), (Nat.le_refl _), rfl, (Nat.le_refl _), (fun x hx => by simp at hx), rfl, hs⟩
  · rintro m ρ' w6 ⟨ρo, k, g, a1, c1, inn, rfl, hk, hk60, hgi, hgl, hsum, hil, hin, rfl, hs⟩
    refine W_seq ?_
    refine W_seq ?_
    refine W_inv2 [21, 22, 23, 24, 25, 26, 27, 28] [[], [], [1], [0, 2], [3], [4], [5, 4], [4, 6]] (fun D ρ wx => Own w no wx [blk b1 (vc v) 24, gR 52 x5.1 x5.2 g, row (.slice a1 inn.length c1) (inn.map dc) 34 2] ∧ (D 0 = true → ρ 21 = .int .i64 (k : Int)) ∧ (D 1 = true → ρ 22 = .slice a l.length c) ∧ (D 2 = true → ρ 23 = .int .i64 ((l.length : Nat) : Int)) ∧ (D 3 = true → ρ 24 = .bool (decide ((k : Int) < ((l.length : Nat) : Int)))) ∧ (D 4 = true → ρ 25 = .bool (decide ((k : Int) < ((l.length : Nat) : Int)))) ∧ (D 5 = true → ρ 26 = cond ((decide ((k : Int) < ((l.length : Nat) : Int))) == true) (.int .i64 (k : Int)) undef) ∧ (D 6 = true → ρ 27 = cond ((decide ((k : Int) < ((l.length : Nat) : Int))) == true) (.bool (decide ((k : Int) < 60))) undef) ∧ (D 7 = true → ρ 28 = .bool ((decide ((k : Int) < ((l.length : Nat) : Int))) && (decide ((k : Int) < 60))))) rfl rfl rfl ⟨hs, fun h => absurd h Bool.false_ne_true, fun h => absurd h Bool.false_ne_true, fun h => absurd h Bool.false_ne_true, fun h => absurd h Bool.false_ne_true, fun h => absurd h Bool.false_ne_true, fun h => absurd h Bool.false_ne_true, fun h => absurd h Bool.false_ne_true, fun h => absurd h Bool.false_ne_true⟩ ⟨?_, ?_, ?_, ?_, ?_, ?_, ?_, ?_, trivial⟩ ?_
    · rintro D ρ wx hD hd hdc hf ⟨hs, f0, f1, f2, f3, f4, f5, f6, f7⟩
      have r7 : ρ 7 = .int .i64 (k : Int) := outD hf 7 rfl
      exact .inl ⟨rfl, L_move (V := .int .i64 (k : Int)) r7 ⟨hs, fun _ => rfl, f1, f2, f3, f4, f5, f6, f7⟩⟩
    · rintro D ρ wx hD hd hdc hf ⟨hs, f0, f1, f2, f3, f4, f5, f6, f7⟩
      have r1 : ρ 1 = .slice a l.length c := outD hf 1 rfl
      exact .inl ⟨rfl, L_move (V := .slice a l.length c) r1 ⟨hs, f0, fun _ => rfl, f2, f3, f4, f5, f6, f7⟩⟩
    · rintro D ρ wx hD hd hdc hf ⟨hs, f0, f1, f2, f3, f4, f5, f6, f7⟩
      have g1 := f1 (doneD hd 1 rfl)
      exact .inl ⟨rfl, L_lenR (n := l.length) UD_25 (Rd.own' hr hs) (by simp) g1 ⟨hs, f0, f1, fun _ => rfl, f3, f4, f5, f6, f7⟩⟩
    · rintro D ρ wx hD hd hdc hf ⟨hs, f0, f1, f2, f3, f4, f5, f6, f7⟩
      have g0 := f0 (doneD hd 0 rfl)
      have g2 := f2 (doneD hd 2 rfl)
      exact .inl ⟨rfl, L_lss g0 g2 ⟨hs, f0, f1, f2, fun _ => rfl, f4, f5, f6, f7⟩⟩
    · rintro D ρ wx hD hd hdc hf ⟨hs, f0, f1, f2, f3, f4, f5, f6, f7⟩
      have g3 := f3 (doneD hd 3 rfl)
      exact .inl ⟨rfl, L_move (V := .bool (decide ((k : Int) < ((l.length : Nat) : Int)))) g3 ⟨hs, f0, f1, f2, f3, fun _ => rfl, f5, f6, f7⟩⟩
    · rintro D ρ wx hD hd hdc hf ⟨hs, f0, f1, f2, f3, f4, f5, f6, f7⟩
      have r7 : ρ 7 = .int .i64 (k : Int) := outD hf 7 rfl
      rcases Bool.eq_false_or_eq_true ((decide ((k : Int) < ((l.length : Nat) : Int))) == true) with hG | hG
      rotate_left
      · exact .inr ⟨(Eq.trans (wantG1 (j := 4) rfl (f4 (doneD hd 4 rfl))) hG), ⟨hs, f0, f1, f2, f3, f4, fun _ => (condF hG).symm, f6, f7⟩⟩
      ·
        exact .inl ⟨(Eq.trans (wantG1 (j := 4) rfl (f4 (doneD hd 4 rfl))) hG), L_move (V := .int .i64 (k : Int)) r7 ⟨hs, f0, f1, f2, f3, f4, fun _ => (condT hG).symm, f6, f7⟩⟩
    · rintro D ρ wx hD hd hdc hf ⟨hs, f0, f1, f2, f3, f4, f5, f6, f7⟩
      have g5 := f5 (doneD hd 5 rfl)
      rcases Bool.eq_false_or_eq_true ((decide ((k : Int) < ((l.length : Nat) : Int))) == true) with hG | hG
      rotate_left
      · exact .inr ⟨(Eq.trans (wantG1 (j := 4) rfl (f4 (doneD hd 4 rfl))) hG), ⟨hs, f0, f1, f2, f3, f4, f5, fun _ => (condF hG).symm, f7⟩⟩
      ·
        exact .inl ⟨(Eq.trans (wantG1 (j := 4) rfl (f4 (doneD hd 4 rfl))) hG), L_lss ((g5).trans (condT (by exact hG))) rfl ⟨hs, f0, f1, f2, f3, f4, f5, fun _ => (condT hG).symm, f7⟩⟩
    · rintro D ρ wx hD hd hdc hf ⟨hs, f0, f1, f2, f3, f4, f5, f6, f7⟩
      have g4 := f4 (doneD hd 4 rfl)
      have g6 := f6 (doneD hd 6 rfl)
      exact .inl ⟨rfl, L_and g4 rfl (fun hg => ((g6).trans (condT (by first | exact beqT hg | rfl)))) ⟨hs, f0, f1, f2, f3, f4, f5, f6, fun _ => rfl⟩⟩
    · rintro ρ1 w1 D hD hf ⟨hs, f0, f1, f2, f3, f4, f5, f6, f7⟩
      have e7 := f7 (hD 7 rfl)
      clear f0 f1 f2 f3 f4 f5 f6 f7
      obtain ⟨ρ2, hρ⟩ : ∃ ρ2, ρ1 = upd (mix [21, 22, 23, 24, 25, 26, 27, 28] ρ2 _) 28 (.bool ((decide ((k : Int) < ((l.length : Nat) : Int))) && (decide ((k : Int) < 60)))) := ⟨ρ1, upd_of (mix_of (ds := [21, 22, 23, 24, 25, 26, 27, 28]) hf) e7⟩
      clear hf hD e7
      subst hρ
      refine W_cond (t := (decide ((k : Int) < ((l.length : Nat) : Int))) && (decide ((k : Int) < 60))) rfl (fun c8 => ?_) (fun c8 => ?_)
      ·
        have c8r := and_r c8
        replace c8 := and_l c8
        replace c8 := of_decide_eq_true c8
        replace c8r := of_decide_eq_true c8r
        refine W_skip ?_
        refine W_seq ?_
        refine W_block ?_
        refine W_seq ?_
        refine W_region ?_
        refine RW_op (L_move (V := .pointer (some ⟨x5.1, 0, none⟩)) rfl ?_)
        refine RW_op (L_callP (vs := [.pointer (some ⟨x5.1, 0, none⟩)]) (V := .agg (vc g.v).toArray) EN_22 rfl rfl (gClosed_ok _ x5.1 x5.2 g  (hs.gcells 1 rfl) (hs.gmap 1 rfl)) hs fun w9 hs => ?_)
        refine RW_op (L_alloc (cs := vc vzero) ZV_24 rfl hs fun b10 w11 hs => ?_)
        refine RW_op (L_st (V := .agg (vc g.v).toArray) (vs := vc g.v) (cs' := vc g.v) SA_24.1 hs 3 rfl rfl rfl rfl rfl (Nat.le_of_ble_eq_true rfl) (vc_one _) (spl_whole rfl) fun w12 hs => ?_)
        refine RW_nil ?_
        refine W_seq ?_
        have hdk := hl _ (gd_mem (l := l) (i := k) (by omega))
        have hgr := add_grows hgi hdk
        refine W_region ?_
        refine RW_op (L_move (V := .pointer (some ⟨x5.1, 0, none⟩)) rfl ?_)
        refine RW_op (L_move (V := .slice a l.length c) rfl ?_)
        refine RW_op (L_move (V := .int .i64 (k : Int)) rfl ?_)
        refine RW_op (L_ixR UD_25 SA_34.1 (Rd.own' hr hs) rfl rfl (by omega) (by rw [List.length_map]; omega) ?_)
        refine RW_op (L_ldRA (j := 0) (vs := dc (gd l k)) k SA_34 (Rd.own' hr hs) (gd_at (by omega)) rfl rfl rfl (by omega) ?_)
        refine RW_op (L_callB (vs := [.pointer (some ⟨x5.1, 0, none⟩), .agg (dc (gd l k)).toArray]) (V := fun _ : Unit => .int .i64 (gAddE g (gd l k))) (R := gR 52 x5.1 x5.2 g) (R' := fun _ => gR 52 x5.1 x5.2 (gAddG g (gd l k))) (Lo := fun _ => []) (F := fun _ _ => True) EN_21 rfl rfl hs 1 rfl (fun S hS hlt => gAdd_ok _ S _ _ _ _ (by first | assumption | exact dotOk_mk (by omega) (by omega) (by omega) (by omega)) hgi.ok hS hlt) fun _ w13 hs _ => ?_)
        refine RW_op (L_assign (V := .int .i64 (gAddE g (gd l k))) rfl ?_)
        refine RW_nil ?_
        refine W_seq ?_
        refine W_seq ?_
        refine W_region ?_
        refine RW_op (L_move (V := .int .i64 (gAddE g (gd l k))) rfl ?_)
        refine RW_op (L_eql rfl rfl ?_)
        refine RW_nil ?_
        refine W_cond (t := decide (gAddE g (gd l k) = 0)) rfl (fun c14 => ?_) (fun c14 => ?_)
        ·
          replace c14 := of_decide_eq_true c14
          refine W_region ?_
          refine RW_op (L_move (V := .slice a1 inn.length c1) rfl ?_)
          refine RW_op (L_move (V := .slice a l.length c) rfl ?_)
          refine RW_op (L_move (V := .int .i64 (k : Int)) rfl ?_)
          refine RW_op (L_ixR UD_25 SA_34.1 (Rd.own' hr hs) rfl rfl (by omega) (by rw [List.length_map]; omega) ?_)
          refine RW_op (L_ldRA (j := 0) (vs := dc (gd l k)) k SA_34 (Rd.own' hr hs) (gd_at (by omega)) rfl rfl rfl (by omega) ?_)
          refine RW_op (L_bs (vals := [.agg (dc (gd l k)).toArray]) (ls := List.map dc ([gd l k] : List Dot)) EL_25 rfl rfl rfl (len_map (enc := dc) (fun _ => rfl) _) (one_map dc_one _) (Nat.le_of_ble_eq_true rfl) hs fun b15 w16 hs => ?_)
          refine RW_op (L_appN (ls' := (inn ++ [gd l k]).map dc) (n := (inn ++ [gd l k]).length) EL_25 hs 2 rfl rfl rfl (hs.rd 4 rfl) (one_map dc_one _) (by simp only [List.length_map, List.length_append, List.length_cons, List.length_nil]; omega) (by simp) (by simp) fun a17 c17 w18 hs => ?_)
          refine RW_op (L_assign (V := .slice a17 ((inn ++ [gd l k]).length) c17) rfl ?_)
          refine RW_nil ?_
          refine W_seq ?_
          refine W_seq ?_
          replace hs := hs.drew
          refine W_draw2 HM [48, 49, 50, 51, 52, 53, 54, 55, 56, 57, 58, 59, 60, 61, 62] [[], [], [1], [0, 2, 2], [3], [4, 3], [5], [6, 5], [7, 5, 5], [8], [9, 8, 8], [8], [10, 11, 8], [8, 12, 5], [5, 13]] (fun D ρ wx => Own w no wx [blk b1 (vc v) 24, gR 52 x5.1 x5.2 (gAddG g (gd l k)), row (.slice a17 ((inn ++ [gd l k]).length) c17) ((inn ++ [gd l k]).map dc) 34 2, blk b10 (vc g.v) 24, row (.slice (some ⟨b15, 0, none⟩) 1 1) ([gd l k].map dc) 34 2] ∧ (D 0 = true → ρ 48 = .agg (vc g.v).toArray) ∧ (D 1 = true → ρ 49 = .pointer (some ⟨x5.1, 0, none⟩)) ∧ (D 2 = true → ρ 50 = .agg (vc ((gAddG g (gd l k)).v)).toArray) ∧ (D 3 = true → ρ 51 = .bool (vle g.v ((gAddG g (gd l k)).v))) ∧ (D 4 = true → ρ 52 = .bool (!(vle g.v ((gAddG g (gd l k)).v)))) ∧ (D 5 = true → ρ 53 = .bool (!(vle g.v ((gAddG g (gd l k)).v)))) ∧ (D 6 = true → ρ 54 = cond ((!(vle g.v ((gAddG g (gd l k)).v))) == false) (.int .i64 (gAddE g (gd l k))) undef) ∧ (D 7 = true → ρ 55 = cond ((!(vle g.v ((gAddG g (gd l k)).v))) == false) (.bool (!decide (gAddE g (gd l k) = 0))) undef) ∧ (D 8 = true → ρ 56 = cond ((!(vle g.v ((gAddG g (gd l k)).v))) == false) (.bool (!decide (gAddE g (gd l k) = 0))) undef) ∧ (D 9 = true → ρ 57 = cond (((!(vle g.v ((gAddG g (gd l k)).v))) == false) && ((!decide (gAddE g (gd l k) = 0)) == true)) (.pointer (some ⟨x5.1, 0, none⟩)) undef) ∧ (D 10 = true → ρ 58 = cond (((!(vle g.v ((gAddG g (gd l k)).v))) == false) && ((!decide (gAddE g (gd l k) = 0)) == true)) (.agg (vc ((gAddG g (gd l k)).v)).toArray) undef) ∧ (D 11 = true → ρ 59 = cond (((!(vle g.v ((gAddG g (gd l k)).v))) == false) && ((!decide (gAddE g (gd l k) = 0)) == true)) (.agg (vc g.v).toArray) undef) ∧ (D 12 = true → ρ 60 = cond (((!(vle g.v ((gAddG g (gd l k)).v))) == false) && ((!decide (gAddE g (gd l k) = 0)) == true)) (.bool (!decide ((gAddG g (gd l k)).v = g.v))) undef) ∧ (D 13 = true → ρ 61 = cond ((!(vle g.v ((gAddG g (gd l k)).v))) == false) (.bool ((!decide (gAddE g (gd l k) = 0)) && (!decide ((gAddG g (gd l k)).v = g.v)))) undef) ∧ (D 14 = true → ρ 62 = .bool ((!(vle g.v ((gAddG g (gd l k)).v))) || ((!decide (gAddE g (gd l k) = 0)) && (!decide ((gAddG g (gd l k)).v = g.v)))))) rfl rfl rfl ⟨hs, fun h => absurd h Bool.false_ne_true, fun h => absurd h Bool.false_ne_true, fun h => absurd h Bool.false_ne_true, fun h => absurd h Bool.false_ne_true, fun h => absurd h Bool.false_ne_true, fun h => absurd h Bool.false_ne_true, fun h => absurd h Bool.false_ne_true, fun h => absurd h Bool.false_ne_true, fun h => absurd h Bool.false_ne_true, fun h => absurd h Bool.false_ne_true, fun h => absurd h Bool.false_ne_true, fun h => absurd h Bool.false_ne_true, fun h => absurd h Bool.false_ne_true, fun h => absurd h Bool.false_ne_true, fun h => absurd h Bool.false_ne_true⟩ ⟨?_, ?_, ?_, ?_, ?_, ?_, ?_, ?_, ?_, ?_, ?_, ?_, ?_, ?_, ?_, trivial⟩ ?_
          · rintro D ρ wx hD hd hdc hf ⟨hs, f0, f1, f2, f3, f4, f5, f6, f7, f8, f9, f10, f11, f12, f13, f14⟩
            have r8 : ρ 8 = .pointer (some ⟨b10, 0, none⟩) := outD hf 8 rfl
            exact .inl ⟨rfl, L_ldW (cs := vc g.v) SA_24 hs 3 rfl r8 rfl ⟨hs, fun _ => rfl, f1, f2, f3, f4, f5, f6, f7, f8, f9, f10, f11, f12, f13, f14⟩⟩
          · rintro D ρ wx hD hd hdc hf ⟨hs, f0, f1, f2, f3, f4, f5, f6, f7, f8, f9, f10, f11, f12, f13, f14⟩
            have r5 : ρ 5 = .pointer (some ⟨x5.1, 0, none⟩) := outD hf 5 rfl
            exact .inl ⟨rfl, L_move (V := .pointer (some ⟨x5.1, 0, none⟩)) r5 ⟨hs, f0, fun _ => rfl, f2, f3, f4, f5, f6, f7, f8, f9, f10, f11, f12, f13, f14⟩⟩
          · rintro D ρ wx hD hd hdc hf ⟨hs, f0, f1, f2, f3, f4, f5, f6, f7, f8, f9, f10, f11, f12, f13, f14⟩
            have g1 := f1 (doneD hd 1 rfl)
            exact .inl ⟨rfl, L_callP (vs := [.pointer (some ⟨x5.1, 0, none⟩)]) (V := .agg (vc ((gAddG g (gd l k)).v)).toArray) EN_22 rfl (mapc g1 rfl) (gClosed_ok _ x5.1 x5.2 (gAddG g (gd l k))  (hs.gcells 1 rfl) (hs.gmap 1 rfl)) hs fun _ hs0 => ⟨hs0, f0, f1, fun _ => rfl, f3, f4, f5, f6, f7, f8, f9, f10, f11, f12, f13, f14⟩⟩
          · rintro D ρ wx hD hd hdc hf ⟨hs, f0, f1, f2, f3, f4, f5, f6, f7, f8, f9, f10, f11, f12, f13, f14⟩
            have g0 := f0 (doneD hd 0 rfl)
            have g2 := f2 (doneD hd 2 rfl)
            exact .inl ⟨rfl, L_callP (vs := [.agg (vc g.v).toArray, .agg (vc ((gAddG g (gd l k)).v)).toArray]) (V := .bool (vle g.v ((gAddG g (gd l k)).v))) EN_30 rfl (mapc g0 (mapc g2 rfl)) (rBelow_ok _ g.v ((gAddG g (gd l k)).v)) hs fun _ hs0 => ⟨hs0, f0, f1, f2, fun _ => rfl, f4, f5, f6, f7, f8, f9, f10, f11, f12, f13, f14⟩⟩
          · rintro D ρ wx hD hd hdc hf ⟨hs, f0, f1, f2, f3, f4, f5, f6, f7, f8, f9, f10, f11, f12, f13, f14⟩
            have g3 := f3 (doneD hd 3 rfl)
            exact .inl ⟨rfl, L_not g3 ⟨hs, f0, f1, f2, f3, fun _ => rfl, f5, f6, f7, f8, f9, f10, f11, f12, f13, f14⟩⟩
          · rintro D ρ wx hD hd hdc hf ⟨hs, f0, f1, f2, f3, f4, f5, f6, f7, f8, f9, f10, f11, f12, f13, f14⟩
            have g4 := f4 (doneD hd 4 rfl)
            exact .inl ⟨rfl, L_move (V := .bool (!(vle g.v ((gAddG g (gd l k)).v)))) g4 ⟨hs, f0, f1, f2, f3, f4, fun _ => rfl, f6, f7, f8, f9, f10, f11, f12, f13, f14⟩⟩
          · rintro D ρ wx hD hd hdc hf ⟨hs, f0, f1, f2, f3, f4, f5, f6, f7, f8, f9, f10, f11, f12, f13, f14⟩
            have r9 : ρ 9 = .int .i64 (gAddE g (gd l k)) := outD hf 9 rfl
            rcases Bool.eq_false_or_eq_true ((!(vle g.v ((gAddG g (gd l k)).v))) == false) with hG | hG
            rotate_left
            · exact .inr ⟨(Eq.trans (wantG1 (j := 5) rfl (f5 (doneD hd 5 rfl))) hG), ⟨hs, f0, f1, f2, f3, f4, f5, fun _ => (condF hG).symm, f7, f8, f9, f10, f11, f12, f13, f14⟩⟩
            ·
              exact .inl ⟨(Eq.trans (wantG1 (j := 5) rfl (f5 (doneD hd 5 rfl))) hG), L_move (V := .int .i64 (gAddE g (gd l k))) r9 ⟨hs, f0, f1, f2, f3, f4, f5, fun _ => (condT hG).symm, f7, f8, f9, f10, f11, f12, f13, f14⟩⟩
          · rintro D ρ wx hD hd hdc hf ⟨hs, f0, f1, f2, f3, f4, f5, f6, f7, f8, f9, f10, f11, f12, f13, f14⟩
            have g6 := f6 (doneD hd 6 rfl)
            rcases Bool.eq_false_or_eq_true ((!(vle g.v ((gAddG g (gd l k)).v))) == false) with hG | hG
            rotate_left
            · exact .inr ⟨(Eq.trans (wantG1 (j := 5) rfl (f5 (doneD hd 5 rfl))) hG), ⟨hs, f0, f1, f2, f3, f4, f5, f6, fun _ => (condF hG).symm, f8, f9, f10, f11, f12, f13, f14⟩⟩
            ·
              exact .inl ⟨(Eq.trans (wantG1 (j := 5) rfl (f5 (doneD hd 5 rfl))) hG), L_neq ((g6).trans (condT (by exact hG))) rfl ⟨hs, f0, f1, f2, f3, f4, f5, f6, fun _ => (condT hG).symm, f8, f9, f10, f11, f12, f13, f14⟩⟩
          · rintro D ρ wx hD hd hdc hf ⟨hs, f0, f1, f2, f3, f4, f5, f6, f7, f8, f9, f10, f11, f12, f13, f14⟩
            have g7 := f7 (doneD hd 7 rfl)
            rcases Bool.eq_false_or_eq_true ((!(vle g.v ((gAddG g (gd l k)).v))) == false) with hG | hG
            rotate_left
            · exact .inr ⟨(Eq.trans (wantG1 (j := 5) rfl (f5 (doneD hd 5 rfl))) hG), ⟨hs, f0, f1, f2, f3, f4, f5, f6, f7, fun _ => (condF hG).symm, f9, f10, f11, f12, f13, f14⟩⟩
            ·
              exact .inl ⟨(Eq.trans (wantG1 (j := 5) rfl (f5 (doneD hd 5 rfl))) hG), L_move (V := .bool (!decide (gAddE g (gd l k) = 0))) ((g7).trans (condT (by exact hG))) ⟨hs, f0, f1, f2, f3, f4, f5, f6, f7, fun _ => (condT hG).symm, f9, f10, f11, f12, f13, f14⟩⟩
          · rintro D ρ wx hD hd hdc hf ⟨hs, f0, f1, f2, f3, f4, f5, f6, f7, f8, f9, f10, f11, f12, f13, f14⟩
            have r5 : ρ 5 = .pointer (some ⟨x5.1, 0, none⟩) := outD hf 5 rfl
            rcases Bool.eq_false_or_eq_true (((!(vle g.v ((gAddG g (gd l k)).v))) == false) && ((!decide (gAddE g (gd l k) = 0)) == true)) with hG | hG
            rotate_left
            · exact .inr ⟨(Eq.trans (wantG (j := 8) rfl (f8 (doneD hd 8 rfl))) hG), ⟨hs, f0, f1, f2, f3, f4, f5, f6, f7, f8, fun _ => (condF hG).symm, f10, f11, f12, f13, f14⟩⟩
            ·
              exact .inl ⟨(Eq.trans (wantG (j := 8) rfl (f8 (doneD hd 8 rfl))) hG), L_move (V := .pointer (some ⟨x5.1, 0, none⟩)) r5 ⟨hs, f0, f1, f2, f3, f4, f5, f6, f7, f8, fun _ => (condT hG).symm, f10, f11, f12, f13, f14⟩⟩
          · rintro D ρ wx hD hd hdc hf ⟨hs, f0, f1, f2, f3, f4, f5, f6, f7, f8, f9, f10, f11, f12, f13, f14⟩
            have g9 := f9 (doneD hd 9 rfl)
            rcases Bool.eq_false_or_eq_true (((!(vle g.v ((gAddG g (gd l k)).v))) == false) && ((!decide (gAddE g (gd l k) = 0)) == true)) with hG | hG
            rotate_left
            · exact .inr ⟨(Eq.trans (wantG (j := 8) rfl (f8 (doneD hd 8 rfl))) hG), ⟨hs, f0, f1, f2, f3, f4, f5, f6, f7, f8, f9, fun _ => (condF hG).symm, f11, f12, f13, f14⟩⟩
            ·
              exact .inl ⟨(Eq.trans (wantG (j := 8) rfl (f8 (doneD hd 8 rfl))) hG), L_callP (vs := [.pointer (some ⟨x5.1, 0, none⟩)]) (V := .agg (vc ((gAddG g (gd l k)).v)).toArray) EN_22 rfl (mapc ((g9).trans (condT (by exact hG))) rfl) (gClosed_ok _ x5.1 x5.2 (gAddG g (gd l k))  (hs.gcells 1 rfl) (hs.gmap 1 rfl)) hs fun _ hs0 => ⟨hs0, f0, f1, f2, f3, f4, f5, f6, f7, f8, f9, fun _ => (condT hG).symm, f11, f12, f13, f14⟩⟩
          · rintro D ρ wx hD hd hdc hf ⟨hs, f0, f1, f2, f3, f4, f5, f6, f7, f8, f9, f10, f11, f12, f13, f14⟩
            have r8 : ρ 8 = .pointer (some ⟨b10, 0, none⟩) := outD hf 8 rfl
            rcases Bool.eq_false_or_eq_true (((!(vle g.v ((gAddG g (gd l k)).v))) == false) && ((!decide (gAddE g (gd l k) = 0)) == true)) with hG | hG
            rotate_left
            · exact .inr ⟨(Eq.trans (wantG (j := 8) rfl (f8 (doneD hd 8 rfl))) hG), ⟨hs, f0, f1, f2, f3, f4, f5, f6, f7, f8, f9, f10, fun _ => (condF hG).symm, f12, f13, f14⟩⟩
            ·
              exact .inl ⟨(Eq.trans (wantG (j := 8) rfl (f8 (doneD hd 8 rfl))) hG), L_ldW (cs := vc g.v) SA_24 hs 3 rfl r8 rfl ⟨hs, f0, f1, f2, f3, f4, f5, f6, f7, f8, f9, f10, fun _ => (condT hG).symm, f12, f13, f14⟩⟩
          · rintro D ρ wx hD hd hdc hf ⟨hs, f0, f1, f2, f3, f4, f5, f6, f7, f8, f9, f10, f11, f12, f13, f14⟩
            have g10 := f10 (doneD hd 10 rfl)
            have g11 := f11 (doneD hd 11 rfl)
            rcases Bool.eq_false_or_eq_true (((!(vle g.v ((gAddG g (gd l k)).v))) == false) && ((!decide (gAddE g (gd l k) = 0)) == true)) with hG | hG
            rotate_left
            · exact .inr ⟨(Eq.trans (wantG (j := 8) rfl (f8 (doneD hd 8 rfl))) hG), ⟨hs, f0, f1, f2, f3, f4, f5, f6, f7, f8, f9, f10, f11, fun _ => (condF hG).symm, f13, f14⟩⟩
            ·
              exact .inl ⟨(Eq.trans (wantG (j := 8) rfl (f8 (doneD hd 8 rfl))) hG), L_neA (xs := vc ((gAddG g (gd l k)).v)) (ys := vc g.v) Try.eqGuardType24 (EQ_24 ((gAddG g (gd l k)).v) g.v) rfl ((g10).trans (condT (by exact hG))) ((g11).trans (condT (by exact hG))) ⟨hs, f0, f1, f2, f3, f4, f5, f6, f7, f8, f9, f10, f11, fun _ => (condT hG).symm, f13, f14⟩⟩
          · rintro D ρ wx hD hd hdc hf ⟨hs, f0, f1, f2, f3, f4, f5, f6, f7, f8, f9, f10, f11, f12, f13, f14⟩
            have g8 := f8 (doneD hd 8 rfl)
            have g12 := f12 (doneD hd 12 rfl)
            rcases Bool.eq_false_or_eq_true ((!(vle g.v ((gAddG g (gd l k)).v))) == false) with hG | hG
            rotate_left
            · exact .inr ⟨(Eq.trans (wantG1 (j := 5) rfl (f5 (doneD hd 5 rfl))) hG), ⟨hs, f0, f1, f2, f3, f4, f5, f6, f7, f8, f9, f10, f11, f12, fun _ => (condF hG).symm, f14⟩⟩
            ·
              exact .inl ⟨(Eq.trans (wantG1 (j := 5) rfl (f5 (doneD hd 5 rfl))) hG), L_and ((g8).trans (condT (by exact hG))) rfl (fun hg => ((g12).trans (condT (by exact and_mk hG (beqT hg))))) ⟨hs, f0, f1, f2, f3, f4, f5, f6, f7, f8, f9, f10, f11, f12, fun _ => (condT hG).symm, f14⟩⟩
          · rintro D ρ wx hD hd hdc hf ⟨hs, f0, f1, f2, f3, f4, f5, f6, f7, f8, f9, f10, f11, f12, f13, f14⟩
            have g5 := f5 (doneD hd 5 rfl)
            have g13 := f13 (doneD hd 13 rfl)
            exact .inl ⟨rfl, L_or g5 rfl (fun hg => ((g13).trans (condT (by first | exact beqT hg | rfl)))) ⟨hs, f0, f1, f2, f3, f4, f5, f6, f7, f8, f9, f10, f11, f12, f13, fun _ => rfl⟩⟩
          · rintro ρ1 w1 D hD hf ⟨hs, f0, f1, f2, f3, f4, f5, f6, f7, f8, f9, f10, f11, f12, f13, f14⟩
            have e14 := f14 (hD 14 rfl)
            clear f0 f1 f2 f3 f4 f5 f6 f7 f8 f9 f10 f11 f12 f13 f14
            obtain ⟨ρ2, hρ⟩ : ∃ ρ2, ρ1 = upd (mix [48, 49, 50, 51, 52, 53, 54, 55, 56, 57, 58, 59, 60, 61, 62] ρ2 _) 62 (.bool ((!(vle g.v ((gAddG g (gd l k)).v))) || ((!decide (gAddE g (gd l k) = 0)) && (!decide ((gAddG g (gd l k)).v = g.v))))) := ⟨ρ1, upd_of (mix_of (ds := [48, 49, 50, 51, 52, 53, 54, 55, 56, 57, 58, 59, 60, 61, 62]) hf) e14⟩
            clear hf hD e14
            subst hρ
            have h14 : ((!(vle g.v ((gAddG g (gd l k)).v))) || ((!decide (gAddE g (gd l k) = 0)) && (!decide ((gAddG g (gd l k)).v = g.v)))) = false := by simp [vle_of hgr.le, c14]
            refine W_condF (congrArg Value.bool h14) ?_
            refine W_skip ?_
            refine W_seq ?_
            refine W_region ?_
            refine RW_op (L_move (V := .slice a17 ((inn ++ [gd l k]).length) c17) rfl ?_)
            refine RW_op (L_lenR (n := (inn ++ [gd l k]).length) UD_25 (hs.rd 2 rfl) (by simp) rfl ?_)
            refine RW_op (L_move (V := .int .i64 0) rfl ?_)
            refine RW_nil ?_
            refine W_block ?_
            refine W_loopI (fun ρ m ρ' w' => ∃ (ρo : Env) (i2 : Nat), ρ' = upd (mix [4, 11, 65, 66, 67, 68, 69, 70, 71, 72, 73] ρo ρ) 65 (.int .i64 (i2 : Int)) ∧ (i2 ≤ (inn ++ [gd l k]).length) ∧ m = (inn ++ [gd l k]).length - i2 ∧ Own w no w' [blk b1 (vc v) 24, gR 52 x5.1 x5.2 (gAddG g (gd l k)), row (.slice a17 ((inn ++ [gd l k]).length) c17) ((inn ++ [gd l k]).map dc) 34 2, blk b10 (vc g.v) 24, row (.slice (some ⟨b15, 0, none⟩) 1 1) ([gd l k].map dc) 34 2]) ?_ ?_
            · exact ⟨_, _, 0, upd_of (mix_of (ds := [4, 11, 65, 66, 67, 68, 69, 70, 71, 72, 73]) (Agr.refl _ _)) rfl, (by omega), rfl, hs⟩
            · rintro m ρ' w23 ⟨ρo, i2, rfl, hi2, rfl, hs⟩
              have hkk2 := (grow_in_yes hin hgr hdk c14)
              have hlx : (inn ++ [gd l k]).length ≤ 61 := by simp only [List.length_append, List.length_cons, List.length_nil]; omega
              refine W_seq ?_
              refine W_region ?_
              refine RW_op (L_lss rfl rfl ?_)
              refine RW_nil ?_
              refine W_seq ?_
              refine W_cond (t := decide ((i2 : Int) < (((inn ++ [gd l k]).length : Nat) : Int))) rfl (fun c24 => ?_) (fun c24 => ?_)
              ·
                replace c24 := of_decide_eq_true c24
                refine W_skip ?_
                refine W_seq ?_
                refine W_block ?_
                refine W_seq ?_
                refine W_region ?_
                refine RW_op (L_ixR UD_25 SA_34.1 (hs.rd 2 rfl) rfl rfl (by omega) (by rw [List.length_map]; omega) ?_)
                refine RW_op (L_ldRA (j := 0) (vs := dc (gd (inn ++ [gd l k]) i2)) i2 SA_34 (hs.rd 2 rfl) (gd_at (by omega)) rfl rfl rfl (by omega) ?_)
                refine RW_op (L_alloc (cs := dc (⟨0, 0⟩ : Dot)) ZV_34 rfl hs fun b25 w26 hs => ?_)
                refine RW_op (L_st (V := .agg (dc (gd (inn ++ [gd l k]) i2)).toArray) (vs := dc (gd (inn ++ [gd l k]) i2)) (cs' := dc (gd (inn ++ [gd l k]) i2)) SA_34.1 hs 5 rfl rfl rfl rfl rfl (Nat.le_of_ble_eq_true rfl) (dc_one _) (spl_whole rfl) fun w27 hs => ?_)
                refine RW_nil ?_
                refine W_seq ?_
                have hdx := (hkk2 _ (gd_mem (l := inn ++ [gd l k]) (i := i2) (by omega))).1
                refine W_region ?_
                refine RW_op (L_move (V := .pointer (some ⟨x5.1, 0, none⟩)) rfl ?_)
                refine RW_op (L_ldW (cs := dc (gd (inn ++ [gd l k]) i2)) SA_34 hs 5 rfl rfl rfl ?_)
                refine RW_op (L_callP (vs := [.pointer (some ⟨x5.1, 0, none⟩), .agg (dc (gd (inn ++ [gd l k]) i2)).toArray]) (V := .bool (gHas (gAddG g (gd l k)) (gd (inn ++ [gd l k]) i2))) EN_18 rfl rfl (gHas_ok _ x5.1 x5.2 (gAddG g (gd l k)) (gd (inn ++ [gd l k]) i2) (by first | assumption | exact dotOk_mk (by omega) (by omega) (by omega) (by omega)) (hs.gcells 1 rfl) (hs.gmap 1 rfl)) hs fun w28 hs => ?_)
                refine RW_op (L_not rfl ?_)
                refine RW_nil ?_
                have h19 : (!(gHas (gAddG g (gd l k)) (gd (inn ++ [gd l k]) i2))) = false := by rw [(hkk2 _ (gd_mem (l := inn ++ [gd l k]) (i := i2) (by omega))).2]; rfl
                refine W_condF (congrArg Value.bool h19) ?_
                refine W_skip ?_
                refine W_region ?_
                refine RW_op (L_add (a := (i2 : Int)) (b := 1) (c := (i2 : Int) + 1) rfl rfl (wr_i64 (by omega) (by omega)) ?_)
                refine RW_op (L_move (V := .int .i64 ((i2 : Int) + 1)) rfl ?_)
                refine RW_nil ?_
                refine ⟨_, ?_, _, i2 + 1, upd_of (mix_of (ds := [4, 11, 65, 66, 67, 68, 69, 70, 71, 72, 73]) (by repeat (first | exact Agr.refl _ _ | refine Agr.upd ?_ rfl | refine Agr.mix ?_ rfl))) rfl, (by omega), rfl, hs.take 5⟩
                omega
              ·
                replace c24 := of_decide_eq_false c24
                refine W_exit ?_
                refine W_region ?_
                refine RW_op (L_move (V := .int .i64 (k : Int)) rfl ?_)
                refine RW_op (L_add (a := (k : Int)) (b := 1) (c := (k : Int) + 1) rfl rfl (wr_i64 (by omega) (by omega)) ?_)
                refine RW_op (L_assign (V := .int .i64 ((k : Int) + 1)) rfl ?_)
                refine RW_nil ?_
                refine ⟨_, ?_, _, k + 1, gAddG g (gd l k), a17, c17, inn ++ [gd l k], upd_of (upd_of (mix_of (ds := [4, 6, 7, 8, 9, 11, 21, 22, 23, 24, 25, 26, 27, 28, 29, 30, 31, 32, 33, 34, 35, 36, 37, 38, 39, 40, 41, 42, 43, 44, 45, 46, 47, 48, 49, 50, 51, 52, 53, 54, 55, 56, 57, 58, 59, 60, 61, 62, 63, 64, 65, 66, 67, 68, 69, 70, 71, 72, 73]) (by repeat (first | exact Agr.refl _ _ | refine Agr.upd ?_ rfl | refine Agr.mix ?_ rfl))) rfl) rfl, (by omega), (by omega), hgr.inv, (Nat.le_trans (gAddG_len _ _) (by omega)), (by have h := hgr.sum; rw [if_pos c14] at h; simp only [List.length_append, List.length_cons, List.length_nil]; omega), (by simp only [List.length_append, List.length_cons, List.length_nil]; omega), (grow_in_yes hin hgr hdk c14), rfl, hs.take 3⟩
                omega
        ·
          replace c14 := of_decide_eq_false c14
          refine W_skip ?_
          refine W_seq ?_
          refine W_seq ?_
          replace hs := hs.drew
          refine W_draw2 HM [48, 49, 50, 51, 52, 53, 54, 55, 56, 57, 58, 59, 60, 61, 62] [[], [], [1], [0, 2, 2], [3], [4, 3], [5], [6, 5], [7, 5, 5], [8], [9, 8, 8], [8], [10, 11, 8], [8, 12, 5], [5, 13]] (fun D ρ wx => Own w no wx [blk b1 (vc v) 24, gR 52 x5.1 x5.2 (gAddG g (gd l k)), row (.slice a1 inn.length c1) (inn.map dc) 34 2, blk b10 (vc g.v) 24] ∧ (D 0 = true → ρ 48 = .agg (vc g.v).toArray) ∧ (D 1 = true → ρ 49 = .pointer (some ⟨x5.1, 0, none⟩)) ∧ (D 2 = true → ρ 50 = .agg (vc ((gAddG g (gd l k)).v)).toArray) ∧ (D 3 = true → ρ 51 = .bool (vle g.v ((gAddG g (gd l k)).v))) ∧ (D 4 = true → ρ 52 = .bool (!(vle g.v ((gAddG g (gd l k)).v)))) ∧ (D 5 = true → ρ 53 = .bool (!(vle g.v ((gAddG g (gd l k)).v)))) ∧ (D 6 = true → ρ 54 = cond ((!(vle g.v ((gAddG g (gd l k)).v))) == false) (.int .i64 (gAddE g (gd l k))) undef) ∧ (D 7 = true → ρ 55 = cond ((!(vle g.v ((gAddG g (gd l k)).v))) == false) (.bool (!decide (gAddE g (gd l k) = 0))) undef) ∧ (D 8 = true → ρ 56 = cond ((!(vle g.v ((gAddG g (gd l k)).v))) == false) (.bool (!decide (gAddE g (gd l k) = 0))) undef) ∧ (D 9 = true → ρ 57 = cond (((!(vle g.v ((gAddG g (gd l k)).v))) == false) && ((!decide (gAddE g (gd l k) = 0)) == true)) (.pointer (some ⟨x5.1, 0, none⟩)) undef) ∧ (D 10 = true → ρ 58 = cond (((!(vle g.v ((gAddG g (gd l k)).v))) == false) && ((!decide (gAddE g (gd l k) = 0)) == true)) (.agg (vc ((gAddG g (gd l k)).v)).toArray) undef) ∧ (D 11 = true → ρ 59 = cond (((!(vle g.v ((gAddG g (gd l k)).v))) == false) && ((!decide (gAddE g (gd l k) = 0)) == true)) (.agg (vc g.v).toArray) undef) ∧ (D 12 = true → ρ 60 = cond (((!(vle g.v ((gAddG g (gd l k)).v))) == false) && ((!decide (gAddE g (gd l k) = 0)) == true)) (.bool (!decide ((gAddG g (gd l k)).v = g.v))) undef) ∧ (D 13 = true → ρ 61 = cond ((!(vle g.v ((gAddG g (gd l k)).v))) == false) (.bool ((!decide (gAddE g (gd l k) = 0)) && (!decide ((gAddG g (gd l k)).v = g.v)))) undef) ∧ (D 14 = true → ρ 62 = .bool ((!(vle g.v ((gAddG g (gd l k)).v))) || ((!decide (gAddE g (gd l k) = 0)) && (!decide ((gAddG g (gd l k)).v = g.v)))))) rfl rfl rfl ⟨hs, fun h => absurd h Bool.false_ne_true, fun h => absurd h Bool.false_ne_true, fun h => absurd h Bool.false_ne_true, fun h => absurd h Bool.false_ne_true, fun h => absurd h Bool.false_ne_true, fun h => absurd h Bool.false_ne_true, fun h => absurd h Bool.false_ne_true, fun h => absurd h Bool.false_ne_true, fun h => absurd h Bool.false_ne_true, fun h => absurd h Bool.false_ne_true, fun h => absurd h Bool.false_ne_true, fun h => absurd h Bool.false_ne_true, fun h => absurd h Bool.false_ne_true, fun h => absurd h Bool.false_ne_true, fun h => absurd h Bool.false_ne_true⟩ ⟨?_, ?_, ?_, ?_, ?_, ?_, ?_, ?_, ?_, ?_, ?_, ?_, ?_, ?_, ?_, trivial⟩ ?_
          · rintro D ρ wx hD hd hdc hf ⟨hs, f0, f1, f2, f3, f4, f5, f6, f7, f8, f9, f10, f11, f12, f13, f14⟩
            have r8 : ρ 8 = .pointer (some ⟨b10, 0, none⟩) := outD hf 8 rfl
            exact .inl ⟨rfl, L_ldW (cs := vc g.v) SA_24 hs 3 rfl r8 rfl ⟨hs, fun _ => rfl, f1, f2, f3, f4, f5, f6, f7, f8, f9, f10, f11, f12, f13, f14⟩⟩
          · rintro D ρ wx hD hd hdc hf ⟨hs, f0, f1, f2, f3, f4, f5, f6, f7, f8, f9, f10, f11, f12, f13, f14⟩
            have r5 : ρ 5 = .pointer (some ⟨x5.1, 0, none⟩) := outD hf 5 rfl
            exact .inl ⟨rfl, L_move (V := .pointer (some ⟨x5.1, 0, none⟩)) r5 ⟨hs, f0, fun _ => rfl, f2, f3, f4, f5, f6, f7, f8, f9, f10, f11, f12, f13, f14⟩⟩
          · rintro D ρ wx hD hd hdc hf ⟨hs, f0, f1, f2, f3, f4, f5, f6, f7, f8, f9, f10, f11, f12, f13, f14⟩
            have g1 := f1 (doneD hd 1 rfl)
            exact .inl ⟨rfl, L_callP (vs := [.pointer (some ⟨x5.1, 0, none⟩)]) (V := .agg (vc ((gAddG g (gd l k)).v)).toArray) EN_22 rfl (mapc g1 rfl) (gClosed_ok _ x5.1 x5.2 (gAddG g (gd l k))  (hs.gcells 1 rfl) (hs.gmap 1 rfl)) hs fun _ hs0 => ⟨hs0, f0, f1, fun _ => rfl, f3, f4, f5, f6, f7, f8, f9, f10, f11, f12, f13, f14⟩⟩
          · rintro D ρ wx hD hd hdc hf ⟨hs, f0, f1, f2, f3, f4, f5, f6, f7, f8, f9, f10, f11, f12, f13, f14⟩
            have g0 := f0 (doneD hd 0 rfl)
            have g2 := f2 (doneD hd 2 rfl)
            exact .inl ⟨rfl, L_callP (vs := [.agg (vc g.v).toArray, .agg (vc ((gAddG g (gd l k)).v)).toArray]) (V := .bool (vle g.v ((gAddG g (gd l k)).v))) EN_30 rfl (mapc g0 (mapc g2 rfl)) (rBelow_ok _ g.v ((gAddG g (gd l k)).v)) hs fun _ hs0 => ⟨hs0, f0, f1, f2, fun _ => rfl, f4, f5, f6, f7, f8, f9, f10, f11, f12, f13, f14⟩⟩
          · rintro D ρ wx hD hd hdc hf ⟨hs, f0, f1, f2, f3, f4, f5, f6, f7, f8, f9, f10, f11, f12, f13, f14⟩
            have g3 := f3 (doneD hd 3 rfl)
            exact .inl ⟨rfl, L_not g3 ⟨hs, f0, f1, f2, f3, fun _ => rfl, f5, f6, f7, f8, f9, f10, f11, f12, f13, f14⟩⟩
          · rintro D ρ wx hD hd hdc hf ⟨hs, f0, f1, f2, f3, f4, f5, f6, f7, f8, f9, f10, f11, f12, f13, f14⟩
            have g4 := f4 (doneD hd 4 rfl)
            exact .inl ⟨rfl, L_move (V := .bool (!(vle g.v ((gAddG g (gd l k)).v)))) g4 ⟨hs, f0, f1, f2, f3, f4, fun _ => rfl, f6, f7, f8, f9, f10, f11, f12, f13, f14⟩⟩
          · rintro D ρ wx hD hd hdc hf ⟨hs, f0, f1, f2, f3, f4, f5, f6, f7, f8, f9, f10, f11, f12, f13, f14⟩
            have r9 : ρ 9 = .int .i64 (gAddE g (gd l k)) := outD hf 9 rfl
            rcases Bool.eq_false_or_eq_true ((!(vle g.v ((gAddG g (gd l k)).v))) == false) with hG | hG
            rotate_left
            · exact .inr ⟨(Eq.trans (wantG1 (j := 5) rfl (f5 (doneD hd 5 rfl))) hG), ⟨hs, f0, f1, f2, f3, f4, f5, fun _ => (condF hG).symm, f7, f8, f9, f10, f11, f12, f13, f14⟩⟩
            ·
              exact .inl ⟨(Eq.trans (wantG1 (j := 5) rfl (f5 (doneD hd 5 rfl))) hG), L_move (V := .int .i64 (gAddE g (gd l k))) r9 ⟨hs, f0, f1, f2, f3, f4, f5, fun _ => (condT hG).symm, f7, f8, f9, f10, f11, f12, f13, f14⟩⟩
          · rintro D ρ wx hD hd hdc hf ⟨hs, f0, f1, f2, f3, f4, f5, f6, f7, f8, f9, f10, f11, f12, f13, f14⟩
            have g6 := f6 (doneD hd 6 rfl)
            rcases Bool.eq_false_or_eq_true ((!(vle g.v ((gAddG g (gd l k)).v))) == false) with hG | hG
            rotate_left
            · exact .inr ⟨(Eq.trans (wantG1 (j := 5) rfl (f5 (doneD hd 5 rfl))) hG), ⟨hs, f0, f1, f2, f3, f4, f5, f6, fun _ => (condF hG).symm, f8, f9, f10, f11, f12, f13, f14⟩⟩
            ·
              exact .inl ⟨(Eq.trans (wantG1 (j := 5) rfl (f5 (doneD hd 5 rfl))) hG), L_neq ((g6).trans (condT (by exact hG))) rfl ⟨hs, f0, f1, f2, f3, f4, f5, f6, fun _ => (condT hG).symm, f8, f9, f10, f11, f12, f13, f14⟩⟩
          · rintro D ρ wx hD hd hdc hf ⟨hs, f0, f1, f2, f3, f4, f5, f6, f7, f8, f9, f10, f11, f12, f13, f14⟩
            have g7 := f7 (doneD hd 7 rfl)
            rcases Bool.eq_false_or_eq_true ((!(vle g.v ((gAddG g (gd l k)).v))) == false) with hG | hG
            rotate_left
            · exact .inr ⟨(Eq.trans (wantG1 (j := 5) rfl (f5 (doneD hd 5 rfl))) hG), ⟨hs, f0, f1, f2, f3, f4, f5, f6, f7, fun _ => (condF hG).symm, f9, f10, f11, f12, f13, f14⟩⟩
            ·
              exact .inl ⟨(Eq.trans (wantG1 (j := 5) rfl (f5 (doneD hd 5 rfl))) hG), L_move (V := .bool (!decide (gAddE g (gd l k) = 0))) ((g7).trans (condT (by exact hG))) ⟨hs, f0, f1, f2, f3, f4, f5, f6, f7, fun _ => (condT hG).symm, f9, f10, f11, f12, f13, f14⟩⟩
          · rintro D ρ wx hD hd hdc hf ⟨hs, f0, f1, f2, f3, f4, f5, f6, f7, f8, f9, f10, f11, f12, f13, f14⟩
            have r5 : ρ 5 = .pointer (some ⟨x5.1, 0, none⟩) := outD hf 5 rfl
            rcases Bool.eq_false_or_eq_true (((!(vle g.v ((gAddG g (gd l k)).v))) == false) && ((!decide (gAddE g (gd l k) = 0)) == true)) with hG | hG
            rotate_left
            · exact .inr ⟨(Eq.trans (wantG (j := 8) rfl (f8 (doneD hd 8 rfl))) hG), ⟨hs, f0, f1, f2, f3, f4, f5, f6, f7, f8, fun _ => (condF hG).symm, f10, f11, f12, f13, f14⟩⟩
            ·
              exact .inl ⟨(Eq.trans (wantG (j := 8) rfl (f8 (doneD hd 8 rfl))) hG), L_move (V := .pointer (some ⟨x5.1, 0, none⟩)) r5 ⟨hs, f0, f1, f2, f3, f4, f5, f6, f7, f8, fun _ => (condT hG).symm, f10, f11, f12, f13, f14⟩⟩
          · rintro D ρ wx hD hd hdc hf ⟨hs, f0, f1, f2, f3, f4, f5, f6, f7, f8, f9, f10, f11, f12, f13, f14⟩
            have g9 := f9 (doneD hd 9 rfl)
            rcases Bool.eq_false_or_eq_true (((!(vle g.v ((gAddG g (gd l k)).v))) == false) && ((!decide (gAddE g (gd l k) = 0)) == true)) with hG | hG
            rotate_left
            · exact .inr ⟨(Eq.trans (wantG (j := 8) rfl (f8 (doneD hd 8 rfl))) hG), ⟨hs, f0, f1, f2, f3, f4, f5, f6, f7, f8, f9, fun _ => (condF hG).symm, f11, f12, f13, f14⟩⟩
            ·
              exact .inl ⟨(Eq.trans (wantG (j := 8) rfl (f8 (doneD hd 8 rfl))) hG), L_callP (vs := [.pointer (some ⟨x5.1, 0, none⟩)]) (V := .agg (vc ((gAddG g (gd l k)).v)).toArray) EN_22 rfl (mapc ((g9).trans (condT (by exact hG))) rfl) (gClosed_ok _ x5.1 x5.2 (gAddG g (gd l k))  (hs.gcells 1 rfl) (hs.gmap 1 rfl)) hs fun _ hs0 => ⟨hs0, f0, f1, f2, f3, f4, f5, f6, f7, f8, f9, fun _ => (condT hG).symm, f11, f12, f13, f14⟩⟩
          · rintro D ρ wx hD hd hdc hf ⟨hs, f0, f1, f2, f3, f4, f5, f6, f7, f8, f9, f10, f11, f12, f13, f14⟩
            have r8 : ρ 8 = .pointer (some ⟨b10, 0, none⟩) := outD hf 8 rfl
            rcases Bool.eq_false_or_eq_true (((!(vle g.v ((gAddG g (gd l k)).v))) == false) && ((!decide (gAddE g (gd l k) = 0)) == true)) with hG | hG
            rotate_left
            · exact .inr ⟨(Eq.trans (wantG (j := 8) rfl (f8 (doneD hd 8 rfl))) hG), ⟨hs, f0, f1, f2, f3, f4, f5, f6, f7, f8, f9, f10, fun _ => (condF hG).symm, f12, f13, f14⟩⟩
            ·
              exact .inl ⟨(Eq.trans (wantG (j := 8) rfl (f8 (doneD hd 8 rfl))) hG), L_ldW (cs := vc g.v) SA_24 hs 3 rfl r8 rfl ⟨hs, f0, f1, f2, f3, f4, f5, f6, f7, f8, f9, f10, fun _ => (condT hG).symm, f12, f13, f14⟩⟩
          · rintro D ρ wx hD hd hdc hf ⟨hs, f0, f1, f2, f3, f4, f5, f6, f7, f8, f9, f10, f11, f12, f13, f14⟩
            have g10 := f10 (doneD hd 10 rfl)
            have g11 := f11 (doneD hd 11 rfl)
            rcases Bool.eq_false_or_eq_true (((!(vle g.v ((gAddG g (gd l k)).v))) == false) && ((!decide (gAddE g (gd l k) = 0)) == true)) with hG | hG
            rotate_left
            · exact .inr ⟨(Eq.trans (wantG (j := 8) rfl (f8 (doneD hd 8 rfl))) hG), ⟨hs, f0, f1, f2, f3, f4, f5, f6, f7, f8, f9, f10, f11, fun _ => (condF hG).symm, f13, f14⟩⟩
            ·
              exact .inl ⟨(Eq.trans (wantG (j := 8) rfl (f8 (doneD hd 8 rfl))) hG), L_neA (xs := vc ((gAddG g (gd l k)).v)) (ys := vc g.v) Try.eqGuardType24 (EQ_24 ((gAddG g (gd l k)).v) g.v) rfl ((g10).trans (condT (by exact hG))) ((g11).trans (condT (by exact hG))) ⟨hs, f0, f1, f2, f3, f4, f5, f6, f7, f8, f9, f10, f11, fun _ => (condT hG).symm, f13, f14⟩⟩
          · rintro D ρ wx hD hd hdc hf ⟨hs, f0, f1, f2, f3, f4, f5, f6, f7, f8, f9, f10, f11, f12, f13, f14⟩
            have g8 := f8 (doneD hd 8 rfl)
            have g12 := f12 (doneD hd 12 rfl)
            rcases Bool.eq_false_or_eq_true ((!(vle g.v ((gAddG g (gd l k)).v))) == false) with hG | hG
            rotate_left
            · exact .inr ⟨(Eq.trans (wantG1 (j := 5) rfl (f5 (doneD hd 5 rfl))) hG), ⟨hs, f0, f1, f2, f3, f4, f5, f6, f7, f8, f9, f10, f11, f12, fun _ => (condF hG).symm, f14⟩⟩
            ·
              exact .inl ⟨(Eq.trans (wantG1 (j := 5) rfl (f5 (doneD hd 5 rfl))) hG), L_and ((g8).trans (condT (by exact hG))) rfl (fun hg => ((g12).trans (condT (by exact and_mk hG (beqT hg))))) ⟨hs, f0, f1, f2, f3, f4, f5, f6, f7, f8, f9, f10, f11, f12, fun _ => (condT hG).symm, f14⟩⟩
          · rintro D ρ wx hD hd hdc hf ⟨hs, f0, f1, f2, f3, f4, f5, f6, f7, f8, f9, f10, f11, f12, f13, f14⟩
            have g5 := f5 (doneD hd 5 rfl)
            have g13 := f13 (doneD hd 13 rfl)
            exact .inl ⟨rfl, L_or g5 rfl (fun hg => ((g13).trans (condT (by first | exact beqT hg | rfl)))) ⟨hs, f0, f1, f2, f3, f4, f5, f6, f7, f8, f9, f10, f11, f12, f13, fun _ => rfl⟩⟩
          · rintro ρ1 w1 D hD hf ⟨hs, f0, f1, f2, f3, f4, f5, f6, f7, f8, f9, f10, f11, f12, f13, f14⟩
            have e14 := f14 (hD 14 rfl)
            clear f0 f1 f2 f3 f4 f5 f6 f7 f8 f9 f10 f11 f12 f13 f14
            obtain ⟨ρ2, hρ⟩ : ∃ ρ2, ρ1 = upd (mix [48, 49, 50, 51, 52, 53, 54, 55, 56, 57, 58, 59, 60, 61, 62] ρ2 _) 62 (.bool ((!(vle g.v ((gAddG g (gd l k)).v))) || ((!decide (gAddE g (gd l k) = 0)) && (!decide ((gAddG g (gd l k)).v = g.v))))) := ⟨ρ1, upd_of (mix_of (ds := [48, 49, 50, 51, 52, 53, 54, 55, 56, 57, 58, 59, 60, 61, 62]) hf) e14⟩
            clear hf hD e14
            subst hρ
            have h14 : ((!(vle g.v ((gAddG g (gd l k)).v))) || ((!decide (gAddE g (gd l k) = 0)) && (!decide ((gAddG g (gd l k)).v = g.v)))) = false := by simp [hgr.same c14, vle_self]
            refine W_condF (congrArg Value.bool h14) ?_
            refine W_skip ?_
            refine W_seq ?_
            refine W_region ?_
            refine RW_op (L_move (V := .slice a1 inn.length c1) rfl ?_)
            refine RW_op (L_lenR (n := inn.length) UD_25 (hs.rd 2 rfl) (by simp) rfl ?_)
            refine RW_op (L_move (V := .int .i64 0) rfl ?_)
            refine RW_nil ?_
            refine W_block ?_
            refine W_loopI (fun ρ m ρ' w' => ∃ (ρo : Env) (i2 : Nat), ρ' = upd (mix [4, 11, 65, 66, 67, 68, 69, 70, 71, 72, 73] ρo ρ) 65 (.int .i64 (i2 : Int)) ∧ (i2 ≤ inn.length) ∧ m = inn.length - i2 ∧ Own w no w' [blk b1 (vc v) 24, gR 52 x5.1 x5.2 (gAddG g (gd l k)), row (.slice a1 inn.length c1) (inn.map dc) 34 2, blk b10 (vc g.v) 24]) ?_ ?_
            · exact ⟨_, _, 0, upd_of (mix_of (ds := [4, 11, 65, 66, 67, 68, 69, 70, 71, 72, 73]) (Agr.refl _ _)) rfl, (by omega), rfl, hs⟩
            · rintro m ρ' w33 ⟨ρo, i2, rfl, hi2, rfl, hs⟩
              have hkk2 := (grow_in_no hin hgr)
              refine W_seq ?_
              refine W_region ?_
              refine RW_op (L_lss rfl rfl ?_)
              refine RW_nil ?_
              refine W_seq ?_
              refine W_cond (t := decide ((i2 : Int) < ((inn.length : Nat) : Int))) rfl (fun c34 => ?_) (fun c34 => ?_)
              ·
                replace c34 := of_decide_eq_true c34
                refine W_skip ?_
                refine W_seq ?_
                refine W_block ?_
                refine W_seq ?_
                refine W_region ?_
                refine RW_op (L_ixR UD_25 SA_34.1 (hs.rd 2 rfl) rfl rfl (by omega) (by rw [List.length_map]; omega) ?_)
                refine RW_op (L_ldRA (j := 0) (vs := dc (gd inn i2)) i2 SA_34 (hs.rd 2 rfl) (gd_at (by omega)) rfl rfl rfl (by omega) ?_)
                refine RW_op (L_alloc (cs := dc (⟨0, 0⟩ : Dot)) ZV_34 rfl hs fun b35 w36 hs => ?_)
                refine RW_op (L_st (V := .agg (dc (gd inn i2)).toArray) (vs := dc (gd inn i2)) (cs' := dc (gd inn i2)) SA_34.1 hs 4 rfl rfl rfl rfl rfl (Nat.le_of_ble_eq_true rfl) (dc_one _) (spl_whole rfl) fun w37 hs => ?_)
                refine RW_nil ?_
                refine W_seq ?_
                have hdx := (hkk2 _ (gd_mem (l := inn) (i := i2) (by omega))).1
                refine W_region ?_
                refine RW_op (L_move (V := .pointer (some ⟨x5.1, 0, none⟩)) rfl ?_)
                refine RW_op (L_ldW (cs := dc (gd inn i2)) SA_34 hs 4 rfl rfl rfl ?_)
                refine RW_op (L_callP (vs := [.pointer (some ⟨x5.1, 0, none⟩), .agg (dc (gd inn i2)).toArray]) (V := .bool (gHas (gAddG g (gd l k)) (gd inn i2))) EN_18 rfl rfl (gHas_ok _ x5.1 x5.2 (gAddG g (gd l k)) (gd inn i2) (by first | assumption | exact dotOk_mk (by omega) (by omega) (by omega) (by omega)) (hs.gcells 1 rfl) (hs.gmap 1 rfl)) hs fun w38 hs => ?_)
                refine RW_op (L_not rfl ?_)
                refine RW_nil ?_
                have h19 : (!(gHas (gAddG g (gd l k)) (gd inn i2))) = false := by rw [(hkk2 _ (gd_mem (l := inn) (i := i2) (by omega))).2]; rfl
                refine W_condF (congrArg Value.bool h19) ?_
                refine W_skip ?_
                refine W_region ?_
                refine RW_op (L_add (a := (i2 : Int)) (b := 1) (c := (i2 : Int) + 1) rfl rfl (wr_i64 (by omega) (by omega)) ?_)
                refine RW_op (L_move (V := .int .i64 ((i2 : Int) + 1)) rfl ?_)
                refine RW_nil ?_
                refine ⟨_, ?_, _, i2 + 1, upd_of (mix_of (ds := [4, 11, 65, 66, 67, 68, 69, 70, 71, 72, 73]) (by repeat (first | exact Agr.refl _ _ | refine Agr.upd ?_ rfl | refine Agr.mix ?_ rfl))) rfl, (by omega), rfl, hs.take 4⟩
                omega
              ·
                replace c34 := of_decide_eq_false c34
                refine W_exit ?_
                refine W_region ?_
                refine RW_op (L_move (V := .int .i64 (k : Int)) rfl ?_)
                refine RW_op (L_add (a := (k : Int)) (b := 1) (c := (k : Int) + 1) rfl rfl (wr_i64 (by omega) (by omega)) ?_)
                refine RW_op (L_assign (V := .int .i64 ((k : Int) + 1)) rfl ?_)
                refine RW_nil ?_
                refine ⟨_, ?_, _, k + 1, gAddG g (gd l k), a1, c1, inn, upd_of (upd_of (mix_of (ds := [4, 6, 7, 8, 9, 11, 21, 22, 23, 24, 25, 26, 27, 28, 29, 30, 31, 32, 33, 34, 35, 36, 37, 38, 39, 40, 41, 42, 43, 44, 45, 46, 47, 48, 49, 50, 51, 52, 53, 54, 55, 56, 57, 58, 59, 60, 61, 62, 63, 64, 65, 66, 67, 68, 69, 70, 71, 72, 73]) (by repeat (first | exact Agr.refl _ _ | refine Agr.upd ?_ rfl | refine Agr.mix ?_ rfl))) rfl) rfl, (by omega), (by omega), hgr.inv, (Nat.le_trans (gAddG_len _ _) (by omega)), (by have h := hgr.sum; rw [if_neg c14] at h; omega), (by omega), (grow_in_no hin hgr), rfl, hs.take 3⟩
                omega
      ·
        refine W_exit ?_
        refine W_seq ?_
        have hb1 := vsum_bd hgi.ok.v.ok
        have hb2 := vsum_bd hv
        have hll := looseL_len g
        have hv9 := hgi.ok.v.ok
        replace hs := hs.more emp trivial
        replace hs := hs.drew
        refine W_draw2 HM [74, 75, 76, 77, 78, 79, 80, 81, 82, 83, 84, 85, 86, 87, 88, 4] [[], [0], [1, 1], [], [3, 2], [4], [5], [2, 6], [], [8, 4], [], [10], [11], [9, 12], [7, 13], [14, 9, 0, 1, 2, 3, 4, 5, 6, 7, 8, 9, 10, 11, 12, 13, 14]] (fun D ρ wx => Own w no wx [blk b1 (vc v) 24, gR 52 x5.1 x5.2 g, row (.slice a1 inn.length c1) (inn.map dc) 34 2, cond (D 4) (row (.slice (aOf (ρ 78)) ((looseL g).length) (cOf (ρ 78))) ((looseL g).map dc) 34 2) (emp)] ∧ (D 0 = true → ρ 74 = .pointer (some ⟨x5.1, 0, none⟩)) ∧ (D 1 = true → ρ 75 = .agg (vc g.v).toArray) ∧ (D 2 = true → ρ 76 = .int .u64 (vsum g.v)) ∧ (D 3 = true → ρ 77 = .pointer (some ⟨x5.1, 0, none⟩)) ∧ (D 4 = true → ρ 78 = .slice (aOf (ρ 78)) ((looseL g).length) (cOf (ρ 78))) ∧ (D 5 = true → ρ 79 = .int .i64 (((looseL g).length : Nat) : Int)) ∧ (D 6 = true → ρ 80 = .int .u64 (((looseL g).length : Nat) : Int)) ∧ (D 7 = true → ρ 81 = .int .u64 ((vsum g.v) + (((looseL g).length : Nat) : Int))) ∧ (D 8 = true → ρ 82 = .agg (vc v).toArray) ∧ (D 9 = true → ρ 83 = .int .u64 (vsum v)) ∧ (D 10 = true → ρ 84 = .slice a1 inn.length c1) ∧ (D 11 = true → ρ 85 = .int .i64 ((inn.length : Nat) : Int)) ∧ (D 12 = true → ρ 86 = .int .u64 ((inn.length : Nat) : Int)) ∧ (D 13 = true → ρ 87 = .int .u64 ((vsum v) + ((inn.length : Nat) : Int))) ∧ (D 14 = true → ρ 88 = .bool (decide ((vsum g.v) + (((looseL g).length : Nat) : Int) = (vsum v) + ((inn.length : Nat) : Int)))) ∧ (D 15 = true → ρ 4 = .bool (decide ((vsum g.v) + (((looseL g).length : Nat) : Int) = (vsum v) + ((inn.length : Nat) : Int))))) rfl rfl rfl ⟨hs, fun h => absurd h Bool.false_ne_true, fun h => absurd h Bool.false_ne_true, fun h => absurd h Bool.false_ne_true, fun h => absurd h Bool.false_ne_true, fun h => absurd h Bool.false_ne_true, fun h => absurd h Bool.false_ne_true, fun h => absurd h Bool.false_ne_true, fun h => absurd h Bool.false_ne_true, fun h => absurd h Bool.false_ne_true, fun h => absurd h Bool.false_ne_true, fun h => absurd h Bool.false_ne_true, fun h => absurd h Bool.false_ne_true, fun h => absurd h Bool.false_ne_true, fun h => absurd h Bool.false_ne_true, fun h => absurd h Bool.false_ne_true, fun h => absurd h Bool.false_ne_true⟩ ⟨?_, ?_, ?_, ?_, ?_, ?_, ?_, ?_, ?_, ?_, ?_, ?_, ?_, ?_, ?_, ?_, trivial⟩ ?_
        · rintro D ρ wx hD hd hdc hf ⟨hs, f0, f1, f2, f3, f4, f5, f6, f7, f8, f9, f10, f11, f12, f13, f14, f15⟩
          have r5 : ρ 5 = .pointer (some ⟨x5.1, 0, none⟩) := outD hf 5 rfl
          exact .inl ⟨rfl, L_move (V := .pointer (some ⟨x5.1, 0, none⟩)) r5 ⟨hs, fun _ => rfl, f1, f2, f3, f4, f5, f6, f7, f8, f9, f10, f11, f12, f13, f14, f15⟩⟩
        · rintro D ρ wx hD hd hdc hf ⟨hs, f0, f1, f2, f3, f4, f5, f6, f7, f8, f9, f10, f11, f12, f13, f14, f15⟩
          have g0 := f0 (doneD hd 0 rfl)
          exact .inl ⟨rfl, L_callP (vs := [.pointer (some ⟨x5.1, 0, none⟩)]) (V := .agg (vc g.v).toArray) EN_22 rfl (mapc g0 rfl) (gClosed_ok _ x5.1 x5.2 g  (hs.gcells 1 rfl) (hs.gmap 1 rfl)) hs fun _ hs0 => ⟨hs0, f0, fun _ => rfl, f2, f3, f4, f5, f6, f7, f8, f9, f10, f11, f12, f13, f14, f15⟩⟩
        · rintro D ρ wx hD hd hdc hf ⟨hs, f0, f1, f2, f3, f4, f5, f6, f7, f8, f9, f10, f11, f12, f13, f14, f15⟩
          have g1 := f1 (doneD hd 1 rfl)
          exact .inl ⟨rfl, L_callP (vs := [.agg (vc g.v).toArray]) (V := .int .u64 (vsum g.v)) EN_31 rfl (mapc g1 rfl) (rSum_ok _ g.v (by first | assumption | exact vzero_ok)) hs fun _ hs0 => ⟨hs0, f0, f1, fun _ => rfl, f3, f4, f5, f6, f7, f8, f9, f10, f11, f12, f13, f14, f15⟩⟩
        · rintro D ρ wx hD hd hdc hf ⟨hs, f0, f1, f2, f3, f4, f5, f6, f7, f8, f9, f10, f11, f12, f13, f14, f15⟩
          have r5 : ρ 5 = .pointer (some ⟨x5.1, 0, none⟩) := outD hf 5 rfl
          exact .inl ⟨rfl, L_move (V := .pointer (some ⟨x5.1, 0, none⟩)) r5 ⟨hs, f0, f1, f2, fun _ => rfl, f4, f5, f6, f7, f8, f9, f10, f11, f12, f13, f14, f15⟩⟩
        · rintro D ρ wx hD hd hdc hf ⟨hs, f0, f1, f2, f3, f4, f5, f6, f7, f8, f9, f10, f11, f12, f13, f14, f15⟩
          have g3 := f3 (doneD hd 3 rfl)
          refine .inl ⟨rfl, L_callX (vs := [.pointer (some ⟨x5.1, 0, none⟩)]) (V := fun x : Option Addr × Nat => .slice x.1 (looseL g).length x.2) EN_25 rfl (mapc g3 rfl) (gLoose2_ok _ x5.1 x5.2 g (by omega) hsort (hs.gcells 1 rfl) (hs.gmap 1 rfl)) hs fun b _ hs0 _ => ⟨?_, f0, f1, f2, f3, fun _ => rfl, f5, f6, f7, f8, f9, f10, f11, f12, f13, f14, f15⟩⟩
          exact hs0.put 3 (Nat.le_of_ble_eq_true rfl)
        · rintro D ρ wx hD hd hdc hf ⟨hs, f0, f1, f2, f3, f4, f5, f6, f7, f8, f9, f10, f11, f12, f13, f14, f15⟩
          have g4 := f4 (doneD hd 4 rfl)
          have d4 : D 4 = true := doneD hd 4 rfl
          have hs0 := hs; rw [d4] at hs0
          exact .inl ⟨rfl, L_lenR (n := (looseL g).length) UD_25 (hs0.rd 3 rfl) (by simp) g4 ⟨hs, f0, f1, f2, f3, f4, fun _ => rfl, f6, f7, f8, f9, f10, f11, f12, f13, f14, f15⟩⟩
        · rintro D ρ wx hD hd hdc hf ⟨hs, f0, f1, f2, f3, f4, f5, f6, f7, f8, f9, f10, f11, f12, f13, f14, f15⟩
          have g5 := f5 (doneD hd 5 rfl)
          exact .inl ⟨rfl, L_conv UD_3 UD_54 g5 (wr_u64 (by omega) (by omega)) ⟨hs, f0, f1, f2, f3, f4, f5, fun _ => rfl, f7, f8, f9, f10, f11, f12, f13, f14, f15⟩⟩
        · rintro D ρ wx hD hd hdc hf ⟨hs, f0, f1, f2, f3, f4, f5, f6, f7, f8, f9, f10, f11, f12, f13, f14, f15⟩
          have g2 := f2 (doneD hd 2 rfl)
          have g6 := f6 (doneD hd 6 rfl)
          exact .inl ⟨rfl, L_add (a := vsum g.v) (b := (((looseL g).length : Nat) : Int)) (c := (vsum g.v) + (((looseL g).length : Nat) : Int)) g2 g6 (wr_u64 (by omega) (by omega)) ⟨hs, f0, f1, f2, f3, f4, f5, f6, fun _ => rfl, f8, f9, f10, f11, f12, f13, f14, f15⟩⟩
        · rintro D ρ wx hD hd hdc hf ⟨hs, f0, f1, f2, f3, f4, f5, f6, f7, f8, f9, f10, f11, f12, f13, f14, f15⟩
          have r2 : ρ 2 = .pointer (some ⟨b1, 0, none⟩) := outD hf 2 rfl
          exact .inl ⟨rfl, L_ldW (cs := vc v) SA_24 hs 0 rfl r2 rfl ⟨hs, f0, f1, f2, f3, f4, f5, f6, f7, fun _ => rfl, f9, f10, f11, f12, f13, f14, f15⟩⟩
        · rintro D ρ wx hD hd hdc hf ⟨hs, f0, f1, f2, f3, f4, f5, f6, f7, f8, f9, f10, f11, f12, f13, f14, f15⟩
          have g8 := f8 (doneD hd 8 rfl)
          exact .inl ⟨rfl, L_callP (vs := [.agg (vc v).toArray]) (V := .int .u64 (vsum v)) EN_31 rfl (mapc g8 rfl) (rSum_ok _ v (by first | assumption | exact vzero_ok)) hs fun _ hs0 => ⟨hs0, f0, f1, f2, f3, f4, f5, f6, f7, f8, fun _ => rfl, f10, f11, f12, f13, f14, f15⟩⟩
        · rintro D ρ wx hD hd hdc hf ⟨hs, f0, f1, f2, f3, f4, f5, f6, f7, f8, f9, f10, f11, f12, f13, f14, f15⟩
          have r6 : ρ 6 = .slice a1 inn.length c1 := outD hf 6 rfl
          exact .inl ⟨rfl, L_move (V := .slice a1 inn.length c1) r6 ⟨hs, f0, f1, f2, f3, f4, f5, f6, f7, f8, f9, fun _ => rfl, f11, f12, f13, f14, f15⟩⟩
        · rintro D ρ wx hD hd hdc hf ⟨hs, f0, f1, f2, f3, f4, f5, f6, f7, f8, f9, f10, f11, f12, f13, f14, f15⟩
          have g10 := f10 (doneD hd 10 rfl)
          exact .inl ⟨rfl, L_lenR (n := inn.length) UD_25 (hs.rd 2 rfl) (by simp) g10 ⟨hs, f0, f1, f2, f3, f4, f5, f6, f7, f8, f9, f10, fun _ => rfl, f12, f13, f14, f15⟩⟩
        · rintro D ρ wx hD hd hdc hf ⟨hs, f0, f1, f2, f3, f4, f5, f6, f7, f8, f9, f10, f11, f12, f13, f14, f15⟩
          have g11 := f11 (doneD hd 11 rfl)
          exact .inl ⟨rfl, L_conv UD_3 UD_54 g11 (wr_u64 (by omega) (by omega)) ⟨hs, f0, f1, f2, f3, f4, f5, f6, f7, f8, f9, f10, f11, fun _ => rfl, f13, f14, f15⟩⟩
        · rintro D ρ wx hD hd hdc hf ⟨hs, f0, f1, f2, f3, f4, f5, f6, f7, f8, f9, f10, f11, f12, f13, f14, f15⟩
          have g9 := f9 (doneD hd 9 rfl)
          have g12 := f12 (doneD hd 12 rfl)
          exact .inl ⟨rfl, L_add (a := vsum v) (b := ((inn.length : Nat) : Int)) (c := (vsum v) + ((inn.length : Nat) : Int)) g9 g12 (wr_u64 (by omega) (by omega)) ⟨hs, f0, f1, f2, f3, f4, f5, f6, f7, f8, f9, f10, f11, f12, fun _ => rfl, f14, f15⟩⟩
        · rintro D ρ wx hD hd hdc hf ⟨hs, f0, f1, f2, f3, f4, f5, f6, f7, f8, f9, f10, f11, f12, f13, f14, f15⟩
          have g7 := f7 (doneD hd 7 rfl)
          have g13 := f13 (doneD hd 13 rfl)
          exact .inl ⟨rfl, L_eql g7 g13 ⟨hs, f0, f1, f2, f3, f4, f5, f6, f7, f8, f9, f10, f11, f12, f13, fun _ => rfl, f15⟩⟩
        · rintro D ρ wx hD hd hdc hf ⟨hs, f0, f1, f2, f3, f4, f5, f6, f7, f8, f9, f10, f11, f12, f13, f14, f15⟩
          have g14 := f14 (doneD hd 14 rfl)
          exact .inl ⟨rfl, L_assign (V := .bool (decide ((vsum g.v) + (((looseL g).length : Nat) : Int) = (vsum v) + ((inn.length : Nat) : Int)))) g14 ⟨hs, f0, f1, f2, f3, f4, f5, f6, f7, f8, f9, f10, f11, f12, f13, f14, fun _ => rfl⟩⟩
        · rintro ρ1 w1 D hD hf ⟨hs, f0, f1, f2, f3, f4, f5, f6, f7, f8, f9, f10, f11, f12, f13, f14, f15⟩
          rw [hD 4 rfl] at hs
          have e15 := f15 (hD 15 rfl)
          clear f0 f1 f2 f3 f4 f5 f6 f7 f8 f9 f10 f11 f12 f13 f14 f15
          obtain ⟨ρ2, hρ⟩ : ∃ ρ2, ρ1 = upd (mix [74, 75, 76, 77, 78, 79, 80, 81, 82, 83, 84, 85, 86, 87, 88, 4] ρ2 _) 4 (.bool (decide ((vsum g.v) + (((looseL g).length : Nat) : Int) = (vsum v) + ((inn.length : Nat) : Int)))) := ⟨ρ1, upd_of (mix_of (ds := [74, 75, 76, 77, 78, 79, 80, 81, 82, 83, 84, 85, 86, 87, 88, 4]) hf) e15⟩
          clear hf hD e15
          subst hρ
          refine W_ret ?_
          refine ⟨_, res_one (V := .bool (decide ((vsum g.v) + (((looseL g).length : Nat) : Int) = (vsum v) + ((inn.length : Nat) : Int)))) Try.results7 rfl, ?_⟩
          refine ⟨congrArg Ending.returned ?_, hs.take 0⟩
          refine congrArg Value.bool (decide_eq_true ?_)
          rw [hll]; omega
end Tt
end Go.Proofs
