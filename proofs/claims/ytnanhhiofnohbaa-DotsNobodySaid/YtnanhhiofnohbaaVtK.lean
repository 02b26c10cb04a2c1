/- A part of a proof: what functions of the program compute, and plain facts on that. -/
import Derived.Test.YtnanhhiofnohbaaVtJ
namespace Go.Proofs
open Go Go.Vx Go.RowKit
namespace Tt
theorem EN_15 : En Try.prog 15 := Try.call15
theorem EN_17 : En Try.prog 17 := Try.call17
set_option maxRecDepth 20000 in
set_option maxHeartbeats 4000000 in
theorem dotsBegin_yes (w : World) (v : Vec) (d : Dot) (hv : VecOk v) (hd : DotOk d) (hsort : SortC Try.prog 64 51 dc 34 2 sortD) (hB : rightB v 16 = true) : Calls Try.prog 8 #[.agg (vc v).toArray, .agg (dc d).toArray] w (fun e w' => e = .returned (.bool true) ∧ Own w no w' []) := by
  refine calls_of_Wn (n := 40) Try.func8 rfl Try.ntmps8 rfl ?_
  have hs := Own.start w
  refine W_seq ?_
  refine W_region ?_
  refine RW_op (L_box (V := .agg (vc v).toArray) (cs := vc v) rfl rfl hs fun b1 w2 hs => ?_)
  refine RW_op (L_box (V := .agg (dc d).toArray) (cs := dc d) rfl rfl hs fun b3 w4 hs => ?_)
  refine RW_op (L_assign (V := .bool false) rfl ?_)
  refine RW_nil ?_
  refine W_seq ?_
  refine W_seq ?_
  refine W_region ?_
  refine RW_op (L_callP (vs := []) (V := .bool true) EN_15 rfl rfl (alive5_ok _ hsort) hs fun w5 hs => ?_)
  refine RW_op (L_not rfl ?_)
  refine RW_nil ?_
  refine W_condF rfl ?_
  refine W_skip ?_
  refine W_seq ?_
  refine W_region ?_
  refine RW_op (L_ldW (cs := vc v) SA_24 hs 0 rfl rfl rfl ?_)
  refine RW_op (L_callX (vs := [.agg (vc v).toArray]) EN_16 rfl rfl (gNew_yes _ v hv hB) hs fun x7 w6 hs _ => ?_)
  refine RW_op (L_assign (V := .pointer (some ⟨x7.1, 0, none⟩)) rfl ?_)
  refine RW_nil ?_
  refine W_seq ?_
  refine W_seq ?_
  refine W_region ?_
  refine RW_op (L_move (V := .pointer (some ⟨x7.1, 0, none⟩)) rfl ?_)
  refine RW_op (L_ptrnil UD_27 rfl rfl ?_)
  refine RW_nil ?_
  refine W_condF rfl ?_
  refine W_skip ?_
  refine W_seq ?_
  replace hs := hs.more emp trivial
  replace hs := hs.more emp trivial
  replace hs := hs.drew
  refine W_draw2 HM [15, 16, 17, 18, 19, 20, 21, 22, 23, 24, 25, 26, 27, 28, 29, 30, 31, 32, 33, 34, 35, 36, 37, 38, 39, 4] [[], [0], [], [1, 2], [3, 1], [4], [5, 4, 4], [6, 4], [7, 4], [4, 8], [9, 6], [10], [11, 10, 10], [12, 10], [13, 10], [10, 14], [15, 12], [16], [16], [17, 18, 16, 16], [16], [16], [20, 21, 19, 16], [19, 22, 16], [16, 23], [24, 22, 0, 1, 2, 3, 4, 5, 6, 7, 8, 9, 10, 11, 12, 13, 14, 15, 16, 17, 18, 19, 20, 21, 22, 23, 24]] (fun D ρ wx => Own w no wx [blk b1 (vc v) 24, blk b3 (dc d) 34, gR 52 x7.1 x7.2 (⟨v, []⟩ : Grp), cond (D 6) (cond ((decide ((⟨v, []⟩ : Grp).v = v)) == true) (row (.slice (aOf (ρ 21)) ((looseL (⟨v, []⟩ : Grp)).length) (cOf (ρ 21))) ((looseL (⟨v, []⟩ : Grp)).map dc) 34 2) emp) (emp), cond (D 12) (cond (((decide ((⟨v, []⟩ : Grp).v = v)) && (decide ((((looseL (⟨v, []⟩ : Grp)).length : Nat) : Int) = 0))) == true) (row (.slice (aOf (ρ 27)) ((missL (⟨v, []⟩ : Grp)).length) (cOf (ρ 27))) ((missL (⟨v, []⟩ : Grp)).map dc) 34 2) emp) (emp)] ∧ (D 0 = true → ρ 15 = .pointer (some ⟨x7.1, 0, none⟩)) ∧ (D 1 = true → ρ 16 = .agg (vc ((⟨v, []⟩ : Grp).v)).toArray) ∧ (D 2 = true → ρ 17 = .agg (vc v).toArray) ∧ (D 3 = true → ρ 18 = .bool (decide ((⟨v, []⟩ : Grp).v = v))) ∧ (D 4 = true → ρ 19 = .bool (decide ((⟨v, []⟩ : Grp).v = v))) ∧ (D 5 = true → ρ 20 = cond ((decide ((⟨v, []⟩ : Grp).v = v)) == true) (.pointer (some ⟨x7.1, 0, none⟩)) undef) ∧ (D 6 = true → ρ 21 = cond ((decide ((⟨v, []⟩ : Grp).v = v)) == true) (.slice (aOf (ρ 21)) ((looseL (⟨v, []⟩ : Grp)).length) (cOf (ρ 21))) undef) ∧ (D 7 = true → ρ 22 = cond ((decide ((⟨v, []⟩ : Grp).v = v)) == true) (.int .i64 (((looseL (⟨v, []⟩ : Grp)).length : Nat) : Int)) undef) ∧ (D 8 = true → ρ 23 = cond ((decide ((⟨v, []⟩ : Grp).v = v)) == true) (.bool (decide ((((looseL (⟨v, []⟩ : Grp)).length : Nat) : Int) = 0))) undef) ∧ (D 9 = true → ρ 24 = .bool ((decide ((⟨v, []⟩ : Grp).v = v)) && (decide ((((looseL (⟨v, []⟩ : Grp)).length : Nat) : Int) = 0)))) ∧ (D 10 = true → ρ 25 = .bool ((decide ((⟨v, []⟩ : Grp).v = v)) && (decide ((((looseL (⟨v, []⟩ : Grp)).length : Nat) : Int) = 0)))) ∧ (D 11 = true → ρ 26 = cond (((decide ((⟨v, []⟩ : Grp).v = v)) && (decide ((((looseL (⟨v, []⟩ : Grp)).length : Nat) : Int) = 0))) == true) (.pointer (some ⟨x7.1, 0, none⟩)) undef) ∧ (D 12 = true → ρ 27 = cond (((decide ((⟨v, []⟩ : Grp).v = v)) && (decide ((((looseL (⟨v, []⟩ : Grp)).length : Nat) : Int) = 0))) == true) (.slice (aOf (ρ 27)) ((missL (⟨v, []⟩ : Grp)).length) (cOf (ρ 27))) undef) ∧ (D 13 = true → ρ 28 = cond (((decide ((⟨v, []⟩ : Grp).v = v)) && (decide ((((looseL (⟨v, []⟩ : Grp)).length : Nat) : Int) = 0))) == true) (.int .i64 (((missL (⟨v, []⟩ : Grp)).length : Nat) : Int)) undef) ∧ (D 14 = true → ρ 29 = cond (((decide ((⟨v, []⟩ : Grp).v = v)) && (decide ((((looseL (⟨v, []⟩ : Grp)).length : Nat) : Int) = 0))) == true) (.bool (decide ((((missL (⟨v, []⟩ : Grp)).length : Nat) : Int) = 0))) undef) ∧ (D 15 = true → ρ 30 = .bool (((decide ((⟨v, []⟩ : Grp).v = v)) && (decide ((((looseL (⟨v, []⟩ : Grp)).length : Nat) : Int) = 0))) && (decide ((((missL (⟨v, []⟩ : Grp)).length : Nat) : Int) = 0)))) ∧ (D 16 = true → ρ 31 = .bool (((decide ((⟨v, []⟩ : Grp).v = v)) && (decide ((((looseL (⟨v, []⟩ : Grp)).length : Nat) : Int) = 0))) && (decide ((((missL (⟨v, []⟩ : Grp)).length : Nat) : Int) = 0)))) ∧ (D 17 = true → ρ 32 = cond ((((decide ((⟨v, []⟩ : Grp).v = v)) && (decide ((((looseL (⟨v, []⟩ : Grp)).length : Nat) : Int) = 0))) && (decide ((((missL (⟨v, []⟩ : Grp)).length : Nat) : Int) = 0))) == true) (.pointer (some ⟨x7.1, 0, none⟩)) undef) ∧ (D 18 = true → ρ 33 = cond ((((decide ((⟨v, []⟩ : Grp).v = v)) && (decide ((((looseL (⟨v, []⟩ : Grp)).length : Nat) : Int) = 0))) && (decide ((((missL (⟨v, []⟩ : Grp)).length : Nat) : Int) = 0))) == true) (.agg (dc d).toArray) undef) ∧ (D 19 = true → ρ 34 = cond ((((decide ((⟨v, []⟩ : Grp).v = v)) && (decide ((((looseL (⟨v, []⟩ : Grp)).length : Nat) : Int) = 0))) && (decide ((((missL (⟨v, []⟩ : Grp)).length : Nat) : Int) = 0))) == true) (.bool (gHas (⟨v, []⟩ : Grp) d)) undef) ∧ (D 20 = true → ρ 35 = cond ((((decide ((⟨v, []⟩ : Grp).v = v)) && (decide ((((looseL (⟨v, []⟩ : Grp)).length : Nat) : Int) = 0))) && (decide ((((missL (⟨v, []⟩ : Grp)).length : Nat) : Int) = 0))) == true) (.agg (vc v).toArray) undef) ∧ (D 21 = true → ρ 36 = cond ((((decide ((⟨v, []⟩ : Grp).v = v)) && (decide ((((looseL (⟨v, []⟩ : Grp)).length : Nat) : Int) = 0))) && (decide ((((missL (⟨v, []⟩ : Grp)).length : Nat) : Int) = 0))) == true) (.agg (dc d).toArray) undef) ∧ (D 22 = true → ρ 37 = cond ((((decide ((⟨v, []⟩ : Grp).v = v)) && (decide ((((looseL (⟨v, []⟩ : Grp)).length : Nat) : Int) = 0))) && (decide ((((missL (⟨v, []⟩ : Grp)).length : Nat) : Int) = 0))) == true) (.bool (hasB v d)) undef) ∧ (D 23 = true → ρ 38 = cond ((((decide ((⟨v, []⟩ : Grp).v = v)) && (decide ((((looseL (⟨v, []⟩ : Grp)).length : Nat) : Int) = 0))) && (decide ((((missL (⟨v, []⟩ : Grp)).length : Nat) : Int) = 0))) == true) (.bool ((gHas (⟨v, []⟩ : Grp) d) == (hasB v d))) undef) ∧ (D 24 = true → ρ 39 = .bool ((((decide ((⟨v, []⟩ : Grp).v = v)) && (decide ((((looseL (⟨v, []⟩ : Grp)).length : Nat) : Int) = 0))) && (decide ((((missL (⟨v, []⟩ : Grp)).length : Nat) : Int) = 0))) && ((gHas (⟨v, []⟩ : Grp) d) == (hasB v d)))) ∧ (D 25 = true → ρ 4 = .bool ((((decide ((⟨v, []⟩ : Grp).v = v)) && (decide ((((looseL (⟨v, []⟩ : Grp)).length : Nat) : Int) = 0))) && (decide ((((missL (⟨v, []⟩ : Grp)).length : Nat) : Int) = 0))) && ((gHas (⟨v, []⟩ : Grp) d) == (hasB v d))))) rfl rfl rfl ⟨hs, fun h => absurd h Bool.false_ne_true, fun h => absurd h Bool.false_ne_true, fun h => absurd h Bool.false_ne_true, fun h => absurd h Bool.false_ne_true, fun h => absurd h Bool.false_ne_true, fun h => absurd h Bool.false_ne_true, fun h => absurd h Bool.false_ne_true, fun h => absurd h Bool.false_ne_true, fun h => absurd h Bool.false_ne_true, fun h => absurd h Bool.false_ne_true, fun h => absurd h Bool.false_ne_true, fun h => absurd h Bool.false_ne_true, fun h => absurd h Bool.false_ne_true, fun h => absurd h Bool.false_ne_true, fun h => absurd h Bool.false_ne_true, fun h => absurd h Bool.false_ne_true, fun h => absurd h Bool.false_ne_true, fun h => absurd h Bool.false_ne_true, fun h => absurd h Bool.false_ne_true, fun h => absurd h Bool.false_ne_true, fun h => absurd h Bool.false_ne_true, fun h => absurd h Bool.false_ne_true, fun h => absurd h Bool.false_ne_true, fun h => absurd h Bool.false_ne_true, fun h => absurd h Bool.false_ne_true, fun h => absurd h Bool.false_ne_true⟩ ⟨?_, ?_, ?_, ?_, ?_, ?_, ?_, ?_, ?_, ?_, ?_, ?_, ?_, ?_, ?_, ?_, ?_, ?_, ?_, ?_, ?_, ?_, ?_, ?_, ?_, ?_, trivial⟩ ?_
  · rintro D ρ wx hD hd hdc hf ⟨hs, f0, f1, f2, f3, f4, f5, f6, f7, f8, f9, f10, f11, f12, f13, f14, f15, f16, f17, f18, f19, f20, f21, f22, f23, f24, f25⟩
    have r5 : ρ 5 = .pointer (some ⟨x7.1, 0, none⟩) := outD hf 5 rfl
    exact .inl ⟨rfl, L_move (V := .pointer (some ⟨x7.1, 0, none⟩)) r5 ⟨hs, fun _ => rfl, f1, f2, f3, f4, f5, f6, f7, f8, f9, f10, f11, f12, f13, f14, f15, f16, f17, f18, f19, f20, f21, f22, f23, f24, f25⟩⟩
  · rintro D ρ wx hD hd hdc hf ⟨hs, f0, f1, f2, f3, f4, f5, f6, f7, f8, f9, f10, f11, f12, f13, f14, f15, f16, f17, f18, f19, f20, f21, f22, f23, f24, f25⟩
    have g0 := f0 (doneD hd 0 rfl)
    exact .inl ⟨rfl, L_callP (vs := [.pointer (some ⟨x7.1, 0, none⟩)]) (V := .agg (vc ((⟨v, []⟩ : Grp).v)).toArray) EN_22 rfl (mapc g0 rfl) (gClosed_ok _ x7.1 x7.2 (⟨v, []⟩ : Grp)  (hs.gcells 2 rfl) (hs.gmap 2 rfl)) hs fun _ hs0 => ⟨hs0, f0, fun _ => rfl, f2, f3, f4, f5, f6, f7, f8, f9, f10, f11, f12, f13, f14, f15, f16, f17, f18, f19, f20, f21, f22, f23, f24, f25⟩⟩
  · rintro D ρ wx hD hd hdc hf ⟨hs, f0, f1, f2, f3, f4, f5, f6, f7, f8, f9, f10, f11, f12, f13, f14, f15, f16, f17, f18, f19, f20, f21, f22, f23, f24, f25⟩
    have r2 : ρ 2 = .pointer (some ⟨b1, 0, none⟩) := outD hf 2 rfl
    exact .inl ⟨rfl, L_ldW (cs := vc v) SA_24 hs 0 rfl r2 rfl ⟨hs, f0, f1, fun _ => rfl, f3, f4, f5, f6, f7, f8, f9, f10, f11, f12, f13, f14, f15, f16, f17, f18, f19, f20, f21, f22, f23, f24, f25⟩⟩
  · rintro D ρ wx hD hd hdc hf ⟨hs, f0, f1, f2, f3, f4, f5, f6, f7, f8, f9, f10, f11, f12, f13, f14, f15, f16, f17, f18, f19, f20, f21, f22, f23, f24, f25⟩
    have g1 := f1 (doneD hd 1 rfl)
    have g2 := f2 (doneD hd 2 rfl)
    exact .inl ⟨rfl, L_eqA (xs := vc ((⟨v, []⟩ : Grp).v)) (ys := vc v) Try.eqGuardType24 (EQ_24 ((⟨v, []⟩ : Grp).v) v) rfl g1 g2 ⟨hs, f0, f1, f2, fun _ => rfl, f4, f5, f6, f7, f8, f9, f10, f11, f12, f13, f14, f15, f16, f17, f18, f19, f20, f21, f22, f23, f24, f25⟩⟩
  · rintro D ρ wx hD hd hdc hf ⟨hs, f0, f1, f2, f3, f4, f5, f6, f7, f8, f9, f10, f11, f12, f13, f14, f15, f16, f17, f18, f19, f20, f21, f22, f23, f24, f25⟩
    have g3 := f3 (doneD hd 3 rfl)
    exact .inl ⟨rfl, L_move (V := .bool (decide ((⟨v, []⟩ : Grp).v = v))) g3 ⟨hs, f0, f1, f2, f3, fun _ => rfl, f5, f6, f7, f8, f9, f10, f11, f12, f13, f14, f15, f16, f17, f18, f19, f20, f21, f22, f23, f24, f25⟩⟩
  · rintro D ρ wx hD hd hdc hf ⟨hs, f0, f1, f2, f3, f4, f5, f6, f7, f8, f9, f10, f11, f12, f13, f14, f15, f16, f17, f18, f19, f20, f21, f22, f23, f24, f25⟩
    have r5 : ρ 5 = .pointer (some ⟨x7.1, 0, none⟩) := outD hf 5 rfl
    rcases Bool.eq_false_or_eq_true ((decide ((⟨v, []⟩ : Grp).v = v)) == true) with hG | hG
    rotate_left
    · exact .inr ⟨(Eq.trans (wantG1 (j := 4) rfl (f4 (doneD hd 4 rfl))) hG), ⟨hs, f0, f1, f2, f3, f4, fun _ => (condF hG).symm, f6, f7, f8, f9, f10, f11, f12, f13, f14, f15, f16, f17, f18, f19, f20, f21, f22, f23, f24, f25⟩⟩
    ·
      exact .inl ⟨(Eq.trans (wantG1 (j := 4) rfl (f4 (doneD hd 4 rfl))) hG), L_move (V := .pointer (some ⟨x7.1, 0, none⟩)) r5 ⟨hs, f0, f1, f2, f3, f4, fun _ => (condT hG).symm, f6, f7, f8, f9, f10, f11, f12, f13, f14, f15, f16, f17, f18, f19, f20, f21, f22, f23, f24, f25⟩⟩
  · rintro D ρ wx hD hd hdc hf ⟨hs, f0, f1, f2, f3, f4, f5, f6, f7, f8, f9, f10, f11, f12, f13, f14, f15, f16, f17, f18, f19, f20, f21, f22, f23, f24, f25⟩
    have g5 := f5 (doneD hd 5 rfl)
    rcases Bool.eq_false_or_eq_true ((decide ((⟨v, []⟩ : Grp).v = v)) == true) with hG | hG
    rotate_left
    · refine .inr ⟨(Eq.trans (wantG1 (j := 4) rfl (f4 (doneD hd 4 rfl))) hG), ⟨?_, f0, f1, f2, f3, f4, f5, fun _ => (condF hG).symm, f7, f8, f9, f10, f11, f12, f13, f14, f15, f16, f17, f18, f19, f20, f21, f22, f23, f24, f25⟩⟩
      rw [hG]; have hs1 := hs; rw [hD] at hs1; exact hs1
    ·
      refine .inl ⟨(Eq.trans (wantG1 (j := 4) rfl (f4 (doneD hd 4 rfl))) hG), L_callX (vs := [.pointer (some ⟨x7.1, 0, none⟩)]) (V := fun x : Option Addr × Nat => .slice x.1 (looseL (⟨v, []⟩ : Grp)).length x.2) EN_25 rfl (mapc ((g5).trans (condT (by exact hG))) rfl) (gLoose2_ok _ x7.1 x7.2 (⟨v, []⟩ : Grp) (Nat.zero_le _) hsort (hs.gcells 2 rfl) (hs.gmap 2 rfl)) hs fun b _ hs0 _ => ⟨?_, f0, f1, f2, f3, f4, f5, fun _ => (condT hG).symm, f7, f8, f9, f10, f11, f12, f13, f14, f15, f16, f17, f18, f19, f20, f21, f22, f23, f24, f25⟩⟩
      rw [hG]
      exact hs0.put 3 (Nat.le_of_ble_eq_true rfl)
  · rintro D ρ wx hD hd hdc hf ⟨hs, f0, f1, f2, f3, f4, f5, f6, f7, f8, f9, f10, f11, f12, f13, f14, f15, f16, f17, f18, f19, f20, f21, f22, f23, f24, f25⟩
    have g6 := f6 (doneD hd 6 rfl)
    have d6 : D 6 = true := doneD hd 6 rfl
    rcases Bool.eq_false_or_eq_true ((decide ((⟨v, []⟩ : Grp).v = v)) == true) with hG | hG
    rotate_left
    · exact .inr ⟨(Eq.trans (wantG1 (j := 4) rfl (f4 (doneD hd 4 rfl))) hG), ⟨hs, f0, f1, f2, f3, f4, f5, f6, fun _ => (condF hG).symm, f8, f9, f10, f11, f12, f13, f14, f15, f16, f17, f18, f19, f20, f21, f22, f23, f24, f25⟩⟩
    ·
      have hs0 := hs; rw [d6, hG] at hs0
      exact .inl ⟨(Eq.trans (wantG1 (j := 4) rfl (f4 (doneD hd 4 rfl))) hG), L_lenR (n := (looseL (⟨v, []⟩ : Grp)).length) UD_25 (hs0.rd 3 rfl) (by simp) ((g6).trans (condT (by exact hG))) ⟨hs, f0, f1, f2, f3, f4, f5, f6, fun _ => (condT hG).symm, f8, f9, f10, f11, f12, f13, f14, f15, f16, f17, f18, f19, f20, f21, f22, f23, f24, f25⟩⟩
  · rintro D ρ wx hD hd hdc hf ⟨hs, f0, f1, f2, f3, f4, f5, f6, f7, f8, f9, f10, f11, f12, f13, f14, f15, f16, f17, f18, f19, f20, f21, f22, f23, f24, f25⟩
    have g7 := f7 (doneD hd 7 rfl)
    rcases Bool.eq_false_or_eq_true ((decide ((⟨v, []⟩ : Grp).v = v)) == true) with hG | hG
    rotate_left
    · exact .inr ⟨(Eq.trans (wantG1 (j := 4) rfl (f4 (doneD hd 4 rfl))) hG), ⟨hs, f0, f1, f2, f3, f4, f5, f6, f7, fun _ => (condF hG).symm, f9, f10, f11, f12, f13, f14, f15, f16, f17, f18, f19, f20, f21, f22, f23, f24, f25⟩⟩
    ·
      exact .inl ⟨(Eq.trans (wantG1 (j := 4) rfl (f4 (doneD hd 4 rfl))) hG), L_eql ((g7).trans (condT (by exact hG))) rfl ⟨hs, f0, f1, f2, f3, f4, f5, f6, f7, fun _ => (condT hG).symm, f9, f10, f11, f12, f13, f14, f15, f16, f17, f18, f19, f20, f21, f22, f23, f24, f25⟩⟩
  · rintro D ρ wx hD hd hdc hf ⟨hs, f0, f1, f2, f3, f4, f5, f6, f7, f8, f9, f10, f11, f12, f13, f14, f15, f16, f17, f18, f19, f20, f21, f22, f23, f24, f25⟩
    have g4 := f4 (doneD hd 4 rfl)
    have g8 := f8 (doneD hd 8 rfl)
    exact .inl ⟨rfl, L_and g4 rfl (fun hg => ((g8).trans (condT (by first | exact beqT hg | rfl)))) ⟨hs, f0, f1, f2, f3, f4, f5, f6, f7, f8, fun _ => rfl, f10, f11, f12, f13, f14, f15, f16, f17, f18, f19, f20, f21, f22, f23, f24, f25⟩⟩
  · rintro D ρ wx hD hd hdc hf ⟨hs, f0, f1, f2, f3, f4, f5, f6, f7, f8, f9, f10, f11, f12, f13, f14, f15, f16, f17, f18, f19, f20, f21, f22, f23, f24, f25⟩
    have g9 := f9 (doneD hd 9 rfl)
    exact .inl ⟨rfl, L_move (V := .bool ((decide ((⟨v, []⟩ : Grp).v = v)) && (decide ((((looseL (⟨v, []⟩ : Grp)).length : Nat) : Int) = 0)))) g9 ⟨hs, f0, f1, f2, f3, f4, f5, f6, f7, f8, f9, fun _ => rfl, f11, f12, f13, f14, f15, f16, f17, f18, f19, f20, f21, f22, f23, f24, f25⟩⟩
  · rintro D ρ wx hD hd hdc hf ⟨hs, f0, f1, f2, f3, f4, f5, f6, f7, f8, f9, f10, f11, f12, f13, f14, f15, f16, f17, f18, f19, f20, f21, f22, f23, f24, f25⟩
    have r5 : ρ 5 = .pointer (some ⟨x7.1, 0, none⟩) := outD hf 5 rfl
    rcases Bool.eq_false_or_eq_true (((decide ((⟨v, []⟩ : Grp).v = v)) && (decide ((((looseL (⟨v, []⟩ : Grp)).length : Nat) : Int) = 0))) == true) with hG | hG
    rotate_left
    · exact .inr ⟨(Eq.trans (wantG1 (j := 10) rfl (f10 (doneD hd 10 rfl))) hG), ⟨hs, f0, f1, f2, f3, f4, f5, f6, f7, f8, f9, f10, fun _ => (condF hG).symm, f12, f13, f14, f15, f16, f17, f18, f19, f20, f21, f22, f23, f24, f25⟩⟩
    ·
      exact .inl ⟨(Eq.trans (wantG1 (j := 10) rfl (f10 (doneD hd 10 rfl))) hG), L_move (V := .pointer (some ⟨x7.1, 0, none⟩)) r5 ⟨hs, f0, f1, f2, f3, f4, f5, f6, f7, f8, f9, f10, fun _ => (condT hG).symm, f12, f13, f14, f15, f16, f17, f18, f19, f20, f21, f22, f23, f24, f25⟩⟩
  · rintro D ρ wx hD hd hdc hf ⟨hs, f0, f1, f2, f3, f4, f5, f6, f7, f8, f9, f10, f11, f12, f13, f14, f15, f16, f17, f18, f19, f20, f21, f22, f23, f24, f25⟩
    have g11 := f11 (doneD hd 11 rfl)
    rcases Bool.eq_false_or_eq_true (((decide ((⟨v, []⟩ : Grp).v = v)) && (decide ((((looseL (⟨v, []⟩ : Grp)).length : Nat) : Int) = 0))) == true) with hG | hG
    rotate_left
    · refine .inr ⟨(Eq.trans (wantG1 (j := 10) rfl (f10 (doneD hd 10 rfl))) hG), ⟨?_, f0, f1, f2, f3, f4, f5, f6, f7, f8, f9, f10, f11, fun _ => (condF hG).symm, f13, f14, f15, f16, f17, f18, f19, f20, f21, f22, f23, f24, f25⟩⟩
      rw [hG]; have hs1 := hs; rw [hD] at hs1; exact hs1
    ·
      refine .inl ⟨(Eq.trans (wantG1 (j := 10) rfl (f10 (doneD hd 10 rfl))) hG), L_callX (vs := [.pointer (some ⟨x7.1, 0, none⟩)]) (V := fun x : Option Addr × Nat => .slice x.1 (missL (⟨v, []⟩ : Grp)).length x.2) EN_27 rfl (mapc ((g11).trans (condT (by exact hG))) rfl) (gMissing2_ok _ x7.1 x7.2 (⟨v, []⟩ : Grp) (gNew_okg hv hB) (Nat.zero_le _) hsort (hs.gcells 2 rfl) (hs.gmap 2 rfl)) hs fun b _ hs0 _ => ⟨?_, f0, f1, f2, f3, f4, f5, f6, f7, f8, f9, f10, f11, fun _ => (condT hG).symm, f13, f14, f15, f16, f17, f18, f19, f20, f21, f22, f23, f24, f25⟩⟩
      rw [hG]
      exact hs0.put 4 (Nat.le_of_ble_eq_true rfl)
  · rintro D ρ wx hD hd hdc hf ⟨hs, f0, f1, f2, f3, f4, f5, f6, f7, f8, f9, f10, f11, f12, f13, f14, f15, f16, f17, f18, f19, f20, f21, f22, f23, f24, f25⟩
    have g12 := f12 (doneD hd 12 rfl)
    have d12 : D 12 = true := doneD hd 12 rfl
    rcases Bool.eq_false_or_eq_true (((decide ((⟨v, []⟩ : Grp).v = v)) && (decide ((((looseL (⟨v, []⟩ : Grp)).length : Nat) : Int) = 0))) == true) with hG | hG
    rotate_left
    · exact .inr ⟨(Eq.trans (wantG1 (j := 10) rfl (f10 (doneD hd 10 rfl))) hG), ⟨hs, f0, f1, f2, f3, f4, f5, f6, f7, f8, f9, f10, f11, f12, fun _ => (condF hG).symm, f14, f15, f16, f17, f18, f19, f20, f21, f22, f23, f24, f25⟩⟩
    ·
      have hs0 := hs; rw [d12, hG] at hs0
      exact .inl ⟨(Eq.trans (wantG1 (j := 10) rfl (f10 (doneD hd 10 rfl))) hG), L_lenR (n := (missL (⟨v, []⟩ : Grp)).length) UD_25 (hs0.rd 4 rfl) (by simp) ((g12).trans (condT (by exact hG))) ⟨hs, f0, f1, f2, f3, f4, f5, f6, f7, f8, f9, f10, f11, f12, fun _ => (condT hG).symm, f14, f15, f16, f17, f18, f19, f20, f21, f22, f23, f24, f25⟩⟩
  · rintro D ρ wx hD hd hdc hf ⟨hs, f0, f1, f2, f3, f4, f5, f6, f7, f8, f9, f10, f11, f12, f13, f14, f15, f16, f17, f18, f19, f20, f21, f22, f23, f24, f25⟩
    have g13 := f13 (doneD hd 13 rfl)
    rcases Bool.eq_false_or_eq_true (((decide ((⟨v, []⟩ : Grp).v = v)) && (decide ((((looseL (⟨v, []⟩ : Grp)).length : Nat) : Int) = 0))) == true) with hG | hG
    rotate_left
    · exact .inr ⟨(Eq.trans (wantG1 (j := 10) rfl (f10 (doneD hd 10 rfl))) hG), ⟨hs, f0, f1, f2, f3, f4, f5, f6, f7, f8, f9, f10, f11, f12, f13, fun _ => (condF hG).symm, f15, f16, f17, f18, f19, f20, f21, f22, f23, f24, f25⟩⟩
    ·
      exact .inl ⟨(Eq.trans (wantG1 (j := 10) rfl (f10 (doneD hd 10 rfl))) hG), L_eql ((g13).trans (condT (by exact hG))) rfl ⟨hs, f0, f1, f2, f3, f4, f5, f6, f7, f8, f9, f10, f11, f12, f13, fun _ => (condT hG).symm, f15, f16, f17, f18, f19, f20, f21, f22, f23, f24, f25⟩⟩
  · rintro D ρ wx hD hd hdc hf ⟨hs, f0, f1, f2, f3, f4, f5, f6, f7, f8, f9, f10, f11, f12, f13, f14, f15, f16, f17, f18, f19, f20, f21, f22, f23, f24, f25⟩
    have g10 := f10 (doneD hd 10 rfl)
    have g14 := f14 (doneD hd 14 rfl)
    exact .inl ⟨rfl, L_and g10 rfl (fun hg => ((g14).trans (condT (by first | exact beqT hg | rfl)))) ⟨hs, f0, f1, f2, f3, f4, f5, f6, f7, f8, f9, f10, f11, f12, f13, f14, fun _ => rfl, f16, f17, f18, f19, f20, f21, f22, f23, f24, f25⟩⟩
  · rintro D ρ wx hD hd hdc hf ⟨hs, f0, f1, f2, f3, f4, f5, f6, f7, f8, f9, f10, f11, f12, f13, f14, f15, f16, f17, f18, f19, f20, f21, f22, f23, f24, f25⟩
    have g15 := f15 (doneD hd 15 rfl)
    exact .inl ⟨rfl, L_move (V := .bool (((decide ((⟨v, []⟩ : Grp).v = v)) && (decide ((((looseL (⟨v, []⟩ : Grp)).length : Nat) : Int) = 0))) && (decide ((((missL (⟨v, []⟩ : Grp)).length : Nat) : Int) = 0)))) g15 ⟨hs, f0, f1, f2, f3, f4, f5, f6, f7, f8, f9, f10, f11, f12, f13, f14, f15, fun _ => rfl, f17, f18, f19, f20, f21, f22, f23, f24, f25⟩⟩
  · rintro D ρ wx hD hd hdc hf ⟨hs, f0, f1, f2, f3, f4, f5, f6, f7, f8, f9, f10, f11, f12, f13, f14, f15, f16, f17, f18, f19, f20, f21, f22, f23, f24, f25⟩
    have r5 : ρ 5 = .pointer (some ⟨x7.1, 0, none⟩) := outD hf 5 rfl
    rcases Bool.eq_false_or_eq_true ((((decide ((⟨v, []⟩ : Grp).v = v)) && (decide ((((looseL (⟨v, []⟩ : Grp)).length : Nat) : Int) = 0))) && (decide ((((missL (⟨v, []⟩ : Grp)).length : Nat) : Int) = 0))) == true) with hG | hG
    rotate_left
    · exact .inr ⟨(Eq.trans (wantG1 (j := 16) rfl (f16 (doneD hd 16 rfl))) hG), ⟨hs, f0, f1, f2, f3, f4, f5, f6, f7, f8, f9, f10, f11, f12, f13, f14, f15, f16, fun _ => (condF hG).symm, f18, f19, f20, f21, f22, f23, f24, f25⟩⟩
    ·
      exact .inl ⟨(Eq.trans (wantG1 (j := 16) rfl (f16 (doneD hd 16 rfl))) hG), L_move (V := .pointer (some ⟨x7.1, 0, none⟩)) r5 ⟨hs, f0, f1, f2, f3, f4, f5, f6, f7, f8, f9, f10, f11, f12, f13, f14, f15, f16, fun _ => (condT hG).symm, f18, f19, f20, f21, f22, f23, f24, f25⟩⟩
  · rintro D ρ wx hD hd hdc hf ⟨hs, f0, f1, f2, f3, f4, f5, f6, f7, f8, f9, f10, f11, f12, f13, f14, f15, f16, f17, f18, f19, f20, f21, f22, f23, f24, f25⟩
    have r3 : ρ 3 = .pointer (some ⟨b3, 0, none⟩) := outD hf 3 rfl
    rcases Bool.eq_false_or_eq_true ((((decide ((⟨v, []⟩ : Grp).v = v)) && (decide ((((looseL (⟨v, []⟩ : Grp)).length : Nat) : Int) = 0))) && (decide ((((missL (⟨v, []⟩ : Grp)).length : Nat) : Int) = 0))) == true) with hG | hG
    rotate_left
    · exact .inr ⟨(Eq.trans (wantG1 (j := 16) rfl (f16 (doneD hd 16 rfl))) hG), ⟨hs, f0, f1, f2, f3, f4, f5, f6, f7, f8, f9, f10, f11, f12, f13, f14, f15, f16, f17, fun _ => (condF hG).symm, f19, f20, f21, f22, f23, f24, f25⟩⟩
    ·
      exact .inl ⟨(Eq.trans (wantG1 (j := 16) rfl (f16 (doneD hd 16 rfl))) hG), L_ldW (cs := dc d) SA_34 hs 1 rfl r3 rfl ⟨hs, f0, f1, f2, f3, f4, f5, f6, f7, f8, f9, f10, f11, f12, f13, f14, f15, f16, f17, fun _ => (condT hG).symm, f19, f20, f21, f22, f23, f24, f25⟩⟩
  · rintro D ρ wx hD hd hdc hf ⟨hs, f0, f1, f2, f3, f4, f5, f6, f7, f8, f9, f10, f11, f12, f13, f14, f15, f16, f17, f18, f19, f20, f21, f22, f23, f24, f25⟩
    have g17 := f17 (doneD hd 17 rfl)
    have g18 := f18 (doneD hd 18 rfl)
    rcases Bool.eq_false_or_eq_true ((((decide ((⟨v, []⟩ : Grp).v = v)) && (decide ((((looseL (⟨v, []⟩ : Grp)).length : Nat) : Int) = 0))) && (decide ((((missL (⟨v, []⟩ : Grp)).length : Nat) : Int) = 0))) == true) with hG | hG
    rotate_left
    · exact .inr ⟨(Eq.trans (wantG1 (j := 16) rfl (f16 (doneD hd 16 rfl))) hG), ⟨hs, f0, f1, f2, f3, f4, f5, f6, f7, f8, f9, f10, f11, f12, f13, f14, f15, f16, f17, f18, fun _ => (condF hG).symm, f20, f21, f22, f23, f24, f25⟩⟩
    ·
      exact .inl ⟨(Eq.trans (wantG1 (j := 16) rfl (f16 (doneD hd 16 rfl))) hG), L_callP (vs := [.pointer (some ⟨x7.1, 0, none⟩), .agg (dc d).toArray]) (V := .bool (gHas (⟨v, []⟩ : Grp) d)) EN_18 rfl (mapc ((g17).trans (condT (by exact hG))) (mapc ((g18).trans (condT (by exact hG))) rfl)) (gHas_ok _ x7.1 x7.2 (⟨v, []⟩ : Grp) d (by first | assumption | exact dotOk_mk (by omega) (by omega) (by omega) (by omega)) (hs.gcells 2 rfl) (hs.gmap 2 rfl)) hs fun _ hs0 => ⟨hs0, f0, f1, f2, f3, f4, f5, f6, f7, f8, f9, f10, f11, f12, f13, f14, f15, f16, f17, f18, fun _ => (condT hG).symm, f20, f21, f22, f23, f24, f25⟩⟩
  · rintro D ρ wx hD hd hdc hf ⟨hs, f0, f1, f2, f3, f4, f5, f6, f7, f8, f9, f10, f11, f12, f13, f14, f15, f16, f17, f18, f19, f20, f21, f22, f23, f24, f25⟩
    have r2 : ρ 2 = .pointer (some ⟨b1, 0, none⟩) := outD hf 2 rfl
    rcases Bool.eq_false_or_eq_true ((((decide ((⟨v, []⟩ : Grp).v = v)) && (decide ((((looseL (⟨v, []⟩ : Grp)).length : Nat) : Int) = 0))) && (decide ((((missL (⟨v, []⟩ : Grp)).length : Nat) : Int) = 0))) == true) with hG | hG
    rotate_left
    · exact .inr ⟨(Eq.trans (wantG1 (j := 16) rfl (f16 (doneD hd 16 rfl))) hG), ⟨hs, f0, f1, f2, f3, f4, f5, f6, f7, f8, f9, f10, f11, f12, f13, f14, f15, f16, f17, f18, f19, fun _ => (condF hG).symm, f21, f22, f23, f24, f25⟩⟩
    ·
      exact .inl ⟨(Eq.trans (wantG1 (j := 16) rfl (f16 (doneD hd 16 rfl))) hG), L_ldW (cs := vc v) SA_24 hs 0 rfl r2 rfl ⟨hs, f0, f1, f2, f3, f4, f5, f6, f7, f8, f9, f10, f11, f12, f13, f14, f15, f16, f17, f18, f19, fun _ => (condT hG).symm, f21, f22, f23, f24, f25⟩⟩
  · rintro D ρ wx hD hd hdc hf ⟨hs, f0, f1, f2, f3, f4, f5, f6, f7, f8, f9, f10, f11, f12, f13, f14, f15, f16, f17, f18, f19, f20, f21, f22, f23, f24, f25⟩
    have r3 : ρ 3 = .pointer (some ⟨b3, 0, none⟩) := outD hf 3 rfl
    rcases Bool.eq_false_or_eq_true ((((decide ((⟨v, []⟩ : Grp).v = v)) && (decide ((((looseL (⟨v, []⟩ : Grp)).length : Nat) : Int) = 0))) && (decide ((((missL (⟨v, []⟩ : Grp)).length : Nat) : Int) = 0))) == true) with hG | hG
    rotate_left
    · exact .inr ⟨(Eq.trans (wantG1 (j := 16) rfl (f16 (doneD hd 16 rfl))) hG), ⟨hs, f0, f1, f2, f3, f4, f5, f6, f7, f8, f9, f10, f11, f12, f13, f14, f15, f16, f17, f18, f19, f20, fun _ => (condF hG).symm, f22, f23, f24, f25⟩⟩
    ·
      exact .inl ⟨(Eq.trans (wantG1 (j := 16) rfl (f16 (doneD hd 16 rfl))) hG), L_ldW (cs := dc d) SA_34 hs 1 rfl r3 rfl ⟨hs, f0, f1, f2, f3, f4, f5, f6, f7, f8, f9, f10, f11, f12, f13, f14, f15, f16, f17, f18, f19, f20, fun _ => (condT hG).symm, f22, f23, f24, f25⟩⟩
  · rintro D ρ wx hD hd hdc hf ⟨hs, f0, f1, f2, f3, f4, f5, f6, f7, f8, f9, f10, f11, f12, f13, f14, f15, f16, f17, f18, f19, f20, f21, f22, f23, f24, f25⟩
    have g20 := f20 (doneD hd 20 rfl)
    have g21 := f21 (doneD hd 21 rfl)
    rcases Bool.eq_false_or_eq_true ((((decide ((⟨v, []⟩ : Grp).v = v)) && (decide ((((looseL (⟨v, []⟩ : Grp)).length : Nat) : Int) = 0))) && (decide ((((missL (⟨v, []⟩ : Grp)).length : Nat) : Int) = 0))) == true) with hG | hG
    rotate_left
    · exact .inr ⟨(Eq.trans (wantG1 (j := 16) rfl (f16 (doneD hd 16 rfl))) hG), ⟨hs, f0, f1, f2, f3, f4, f5, f6, f7, f8, f9, f10, f11, f12, f13, f14, f15, f16, f17, f18, f19, f20, f21, fun _ => (condF hG).symm, f23, f24, f25⟩⟩
    ·
      exact .inl ⟨(Eq.trans (wantG1 (j := 16) rfl (f16 (doneD hd 16 rfl))) hG), L_callP (vs := [.agg (vc v).toArray, .agg (dc d).toArray]) (V := .bool (hasB v d)) EN_29 rfl (mapc ((g20).trans (condT (by exact hG))) (mapc ((g21).trans (condT (by exact hG))) rfl)) (rHas_ok _ v d (by first | assumption | exact dotOk_mk (by omega) (by omega) (by omega) (by omega))) hs fun _ hs0 => ⟨hs0, f0, f1, f2, f3, f4, f5, f6, f7, f8, f9, f10, f11, f12, f13, f14, f15, f16, f17, f18, f19, f20, f21, fun _ => (condT hG).symm, f23, f24, f25⟩⟩
  · rintro D ρ wx hD hd hdc hf ⟨hs, f0, f1, f2, f3, f4, f5, f6, f7, f8, f9, f10, f11, f12, f13, f14, f15, f16, f17, f18, f19, f20, f21, f22, f23, f24, f25⟩
    have g19 := f19 (doneD hd 19 rfl)
    have g22 := f22 (doneD hd 22 rfl)
    rcases Bool.eq_false_or_eq_true ((((decide ((⟨v, []⟩ : Grp).v = v)) && (decide ((((looseL (⟨v, []⟩ : Grp)).length : Nat) : Int) = 0))) && (decide ((((missL (⟨v, []⟩ : Grp)).length : Nat) : Int) = 0))) == true) with hG | hG
    rotate_left
    · exact .inr ⟨(Eq.trans (wantG1 (j := 16) rfl (f16 (doneD hd 16 rfl))) hG), ⟨hs, f0, f1, f2, f3, f4, f5, f6, f7, f8, f9, f10, f11, f12, f13, f14, f15, f16, f17, f18, f19, f20, f21, f22, fun _ => (condF hG).symm, f24, f25⟩⟩
    ·
      exact .inl ⟨(Eq.trans (wantG1 (j := 16) rfl (f16 (doneD hd 16 rfl))) hG), L_eqb UDR_4 ((g19).trans (condT (by exact hG))) ((g22).trans (condT (by exact hG))) ⟨hs, f0, f1, f2, f3, f4, f5, f6, f7, f8, f9, f10, f11, f12, f13, f14, f15, f16, f17, f18, f19, f20, f21, f22, fun _ => (condT hG).symm, f24, f25⟩⟩
  · rintro D ρ wx hD hd hdc hf ⟨hs, f0, f1, f2, f3, f4, f5, f6, f7, f8, f9, f10, f11, f12, f13, f14, f15, f16, f17, f18, f19, f20, f21, f22, f23, f24, f25⟩
    have g16 := f16 (doneD hd 16 rfl)
    have g23 := f23 (doneD hd 23 rfl)
    exact .inl ⟨rfl, L_and g16 rfl (fun hg => ((g23).trans (condT (by first | exact beqT hg | rfl)))) ⟨hs, f0, f1, f2, f3, f4, f5, f6, f7, f8, f9, f10, f11, f12, f13, f14, f15, f16, f17, f18, f19, f20, f21, f22, f23, fun _ => rfl, f25⟩⟩
  · rintro D ρ wx hD hd hdc hf ⟨hs, f0, f1, f2, f3, f4, f5, f6, f7, f8, f9, f10, f11, f12, f13, f14, f15, f16, f17, f18, f19, f20, f21, f22, f23, f24, f25⟩
    have g24 := f24 (doneD hd 24 rfl)
    exact .inl ⟨rfl, L_assign (V := .bool ((((decide ((⟨v, []⟩ : Grp).v = v)) && (decide ((((looseL (⟨v, []⟩ : Grp)).length : Nat) : Int) = 0))) && (decide ((((missL (⟨v, []⟩ : Grp)).length : Nat) : Int) = 0))) && ((gHas (⟨v, []⟩ : Grp) d) == (hasB v d)))) g24 ⟨hs, f0, f1, f2, f3, f4, f5, f6, f7, f8, f9, f10, f11, f12, f13, f14, f15, f16, f17, f18, f19, f20, f21, f22, f23, f24, fun _ => rfl⟩⟩
  · rintro ρ1 w1 D hD hf ⟨hs, f0, f1, f2, f3, f4, f5, f6, f7, f8, f9, f10, f11, f12, f13, f14, f15, f16, f17, f18, f19, f20, f21, f22, f23, f24, f25⟩
    rw [hD 6 rfl, hD 12 rfl] at hs
    have e25 := f25 (hD 25 rfl)
    clear f0 f1 f2 f3 f4 f5 f6 f7 f8 f9 f10 f11 f12 f13 f14 f15 f16 f17 f18 f19 f20 f21 f22 f23 f24 f25
    obtain ⟨ρ2, hρ⟩ : ∃ ρ2, ρ1 = upd (mix [15, 16, 17, 18, 19, 20, 21, 22, 23, 24, 25, 26, 27, 28, 29, 30, 31, 32, 33, 34, 35, 36, 37, 38, 39, 4] ρ2 _) 4 (.bool ((((decide ((⟨v, []⟩ : Grp).v = v)) && (decide ((((looseL (⟨v, []⟩ : Grp)).length : Nat) : Int) = 0))) && (decide ((((missL (⟨v, []⟩ : Grp)).length : Nat) : Int) = 0))) && ((gHas (⟨v, []⟩ : Grp) d) == (hasB v d)))) := ⟨ρ1, upd_of (mix_of (ds := [15, 16, 17, 18, 19, 20, 21, 22, 23, 24, 25, 26, 27, 28, 29, 30, 31, 32, 33, 34, 35, 36, 37, 38, 39, 4]) hf) e25⟩
    clear hf hD e25
    subst hρ
    refine W_ret ?_
    refine ⟨_, res_one (V := .bool ((((decide ((⟨v, []⟩ : Grp).v = v)) && (decide ((((looseL (⟨v, []⟩ : Grp)).length : Nat) : Int) = 0))) && (decide ((((missL (⟨v, []⟩ : Grp)).length : Nat) : Int) = 0))) && ((gHas (⟨v, []⟩ : Grp) d) == (hasB v d)))) Try.results8 rfl, ?_⟩
    refine ⟨congrArg Ending.returned ?_, hs.take 0⟩
    exact congrArg Value.bool (begin_plain v d)
set_option maxRecDepth 20000 in
set_option maxHeartbeats 4000000 in
theorem dotsBegin_no (w : World) (v : Vec) (d : Dot) (hv : VecOk v) (hd : DotOk d) (hsort : SortC Try.prog 64 51 dc 34 2 sortD) (hB : rightB v 16 = false) : Calls Try.prog 8 #[.agg (vc v).toArray, .agg (dc d).toArray] w (fun e w' => e = .returned (.bool true) ∧ Own w no w' []) := by
  refine calls_of_Wn (n := 40) Try.func8 rfl Try.ntmps8 rfl ?_
  have hs := Own.start w
  refine W_seq ?_
  refine W_region ?_
  refine RW_op (L_box (V := .agg (vc v).toArray) (cs := vc v) rfl rfl hs fun b1 w2 hs => ?_)
  refine RW_op (L_box (V := .agg (dc d).toArray) (cs := dc d) rfl rfl hs fun b3 w4 hs => ?_)
  refine RW_op (L_assign (V := .bool false) rfl ?_)
  refine RW_nil ?_
  refine W_seq ?_
  refine W_seq ?_
  refine W_region ?_
  refine RW_op (L_callP (vs := []) (V := .bool true) EN_15 rfl rfl (alive5_ok _ hsort) hs fun w5 hs => ?_)
  refine RW_op (L_not rfl ?_)
  refine RW_nil ?_
  refine W_condF rfl ?_
  refine W_skip ?_
  refine W_seq ?_
  refine W_region ?_
  refine RW_op (L_ldW (cs := vc v) SA_24 hs 0 rfl rfl rfl ?_)
  refine RW_op (L_callP (vs := [.agg (vc v).toArray]) (V := .pointer none) EN_16 rfl rfl (gNew_no _ v hv hB) hs fun w6 hs => ?_)
  refine RW_op (L_assign (V := .pointer none) rfl ?_)
  refine RW_nil ?_
  refine W_seq ?_
  refine W_seq ?_
  refine W_region ?_
  refine RW_op (L_move (V := .pointer none) rfl ?_)
  refine RW_op (L_ptrnil UD_27 rfl rfl ?_)
  refine RW_nil ?_
  refine W_condT rfl ?_
  refine W_seq ?_
  refine W_region ?_
  refine RW_op (L_ldW (cs := vc v) SA_24 hs 0 rfl rfl rfl ?_)
  refine RW_op (L_callP (vs := [.agg (vc v).toArray, .int .i64 16]) (V := .bool (rightB v 16)) EN_17 rfl rfl (rRight_ok _ v 16 (by first | assumption | exact vzero_ok)) hs fun w7 hs => ?_)
  refine RW_op (L_not rfl ?_)
  refine RW_op (L_assign (V := .bool (!(rightB v 16))) rfl ?_)
  refine RW_nil ?_
  refine W_ret ?_
  refine ⟨_, res_one (V := .bool (!(rightB v 16))) Try.results8 rfl, ?_⟩
  refine ⟨congrArg Ending.returned ?_, hs.take 0⟩
  rw [hB]; rfl
end Tt
end Go.Proofs
