/- A part of a proof: what functions of the program compute, and plain facts on that. -/
import Derived.Test.YtnanhhiofnohbaaFoldTicksP4
import Derived.Shelf.SlLaysF0
import Derived.Ground.SlsfProg
import Derived.Test.YtnanhhiofnohbaaProg
import Derived.KernelRfl
set_option linter.unusedVariables false
set_option linter.unusedSimpArgs false
namespace Go.Proofs
open Go Go.Vx Go.RowKit
open Tt
namespace Tf
theorem S1_57 : T1 Try.prog 57 := ⟨Try.sizeOf57, Try.isAgg57⟩
theorem SA_59 : TA Try.prog 59 23 := ⟨Try.sizeOf59, Try.isAgg59⟩
theorem EN_100 : En Try.prog 100 := Try.call100
theorem EN_101 : En Try.prog 101 := Try.call101
theorem EN_85 : En Try.prog 85 := Try.call85
theorem EN_86 : En Try.prog 86 := Try.call86
theorem EN_87 : En Try.prog 87 := Try.call87
theorem FA_59_0 : FA Try.prog 59 0 0 := fun b o w => by simp [Instr.fieldAt, Instr.sureAddr, fieldPlace, add_eq]
theorem FA_59_1 : FA Try.prog 59 1 2 := fun b o w => by simp [Instr.fieldAt, Instr.sureAddr, fieldPlace, add_eq]
theorem FA_59_2 : FA Try.prog 59 2 3 := fun b o w => by simp [Instr.fieldAt, Instr.sureAddr, fieldPlace, add_eq]
theorem FA_59_3 : FA Try.prog 59 3 4 := fun b o w => by simp [Instr.fieldAt, Instr.sureAddr, fieldPlace, add_eq]
theorem FA_59_6 : FA Try.prog 59 6 7 := fun b o w => by simp [Instr.fieldAt, Instr.sureAddr, fieldPlace, add_eq]
theorem UD_22 : Ud Try.prog 22 (.int .u32) := Try.runUnderlying22
theorem UD_54 : Ud Try.prog 54 (.int .u64) := Try.runUnderlying54
set_option maxRecDepth 20000 in
set_option maxHeartbeats 4000000 in
theorem flays_ok (w : World) (o : Opn) : Calls Try.prog 70 #[.agg (oc o).toArray] w (fun e w' => e = .returned (.bool (laysB o)) ∧ Own w no w' []) := by
  refine calls_of_Wn (n := 16) Try.func70 rfl Try.ntmps70 rfl ?_
  have hs := Own.start w
  refine W_seq ?_
  refine W_region ?_
  refine RW_op (L_box (V := .agg (oc o).toArray) (cs := oc o) rfl rfl hs fun b1 w2 hs => ?_)
  refine RW_op (L_assign (V := .bool false) rfl ?_)
  refine RW_nil ?_
  refine W_seq ?_
  refine W_inv2 [3, 4, 5, 6, 7, 8, 9, 10, 11, 12, 13, 14, 15, 2] [[], [0], [1], [2], [3], [4, 3], [5, 3], [3, 6], [7, 3], [8], [9, 8], [10, 8], [8, 11], [12, 8, 0, 1, 2, 3, 4, 5, 6, 7, 8, 9, 10, 11, 12]] (fun D ρ wx => Own w no wx [blk b1 (oc o) 59] ∧ (D 0 = true → ρ 3 = .pointer (some ⟨b1, 0 + 2, none⟩)) ∧ (D 1 = true → ρ 4 = .int .u8 o.kind) ∧ (D 2 = true → ρ 5 = .bool (decide (o.kind = 1))) ∧ (D 3 = true → ρ 6 = .bool (decide (o.kind = 1))) ∧ (D 4 = true → ρ 7 = cond ((decide (o.kind = 1)) == false) (.pointer (some ⟨b1, 0 + 2, none⟩)) undef) ∧ (D 5 = true → ρ 8 = cond ((decide (o.kind = 1)) == false) (.int .u8 o.kind) undef) ∧ (D 6 = true → ρ 9 = cond ((decide (o.kind = 1)) == false) (.bool (decide (o.kind = 2))) undef) ∧ (D 7 = true → ρ 10 = .bool ((decide (o.kind = 1)) || (decide (o.kind = 2)))) ∧ (D 8 = true → ρ 11 = .bool ((decide (o.kind = 1)) || (decide (o.kind = 2)))) ∧ (D 9 = true → ρ 12 = cond (((decide (o.kind = 1)) || (decide (o.kind = 2))) == false) (.pointer (some ⟨b1, 0 + 2, none⟩)) undef) ∧ (D 10 = true → ρ 13 = cond (((decide (o.kind = 1)) || (decide (o.kind = 2))) == false) (.int .u8 o.kind) undef) ∧ (D 11 = true → ρ 14 = cond (((decide (o.kind = 1)) || (decide (o.kind = 2))) == false) (.bool (decide (o.kind = 4))) undef) ∧ (D 12 = true → ρ 15 = .bool (((decide (o.kind = 1)) || (decide (o.kind = 2))) || (decide (o.kind = 4)))) ∧ (D 13 = true → ρ 2 = .bool (((decide (o.kind = 1)) || (decide (o.kind = 2))) || (decide (o.kind = 4))))) rfl rfl rfl ⟨hs, fun h => absurd h Bool.false_ne_true, fun h => absurd h Bool.false_ne_true, fun h => absurd h Bool.false_ne_true, fun h => absurd h Bool.false_ne_true, fun h => absurd h Bool.false_ne_true, fun h => absurd h Bool.false_ne_true, fun h => absurd h Bool.false_ne_true, fun h => absurd h Bool.false_ne_true, fun h => absurd h Bool.false_ne_true, fun h => absurd h Bool.false_ne_true, fun h => absurd h Bool.false_ne_true, fun h => absurd h Bool.false_ne_true, fun h => absurd h Bool.false_ne_true, fun h => absurd h Bool.false_ne_true⟩ ⟨?_, ?_, ?_, ?_, ?_, ?_, ?_, ?_, ?_, ?_, ?_, ?_, ?_, ?_, trivial⟩ ?_
  · rintro D ρ wx hD hd hdc hf ⟨hs, f0, f1, f2, f3, f4, f5, f6, f7, f8, f9, f10, f11, f12, f13⟩
    have r1 : ρ 1 = .pointer (some ⟨b1, 0, none⟩) := outD hf 1 rfl
    exact .inl ⟨rfl, L_fieldAddr FA_59_1 r1 ⟨hs, fun _ => rfl, f1, f2, f3, f4, f5, f6, f7, f8, f9, f10, f11, f12, f13⟩⟩
  · rintro D ρ wx hD hd hdc hf ⟨hs, f0, f1, f2, f3, f4, f5, f6, f7, f8, f9, f10, f11, f12, f13⟩
    have g0 := f0 (doneD hd 0 rfl)
    exact .inl ⟨rfl, L_ld (V := .int .u8 o.kind) S1_5 hs 0 rfl g0 rfl ⟨hs, f0, fun _ => rfl, f2, f3, f4, f5, f6, f7, f8, f9, f10, f11, f12, f13⟩⟩
  · rintro D ρ wx hD hd hdc hf ⟨hs, f0, f1, f2, f3, f4, f5, f6, f7, f8, f9, f10, f11, f12, f13⟩
    have g1 := f1 (doneD hd 1 rfl)
    exact .inl ⟨rfl, L_eql g1 rfl ⟨hs, f0, f1, fun _ => rfl, f3, f4, f5, f6, f7, f8, f9, f10, f11, f12, f13⟩⟩
  · rintro D ρ wx hD hd hdc hf ⟨hs, f0, f1, f2, f3, f4, f5, f6, f7, f8, f9, f10, f11, f12, f13⟩
    have g2 := f2 (doneD hd 2 rfl)
    exact .inl ⟨rfl, L_move (V := .bool (decide (o.kind = 1))) g2 ⟨hs, f0, f1, f2, fun _ => rfl, f4, f5, f6, f7, f8, f9, f10, f11, f12, f13⟩⟩
  · rintro D ρ wx hD hd hdc hf ⟨hs, f0, f1, f2, f3, f4, f5, f6, f7, f8, f9, f10, f11, f12, f13⟩
    have r1 : ρ 1 = .pointer (some ⟨b1, 0, none⟩) := outD hf 1 rfl
    rcases Bool.eq_false_or_eq_true ((decide (o.kind = 1)) == false) with hG | hG
    rotate_left
    · exact .inr ⟨(Eq.trans (wantG1 (j := 3) rfl (f3 (doneD hd 3 rfl))) hG), ⟨hs, f0, f1, f2, f3, fun _ => (condF hG).symm, f5, f6, f7, f8, f9, f10, f11, f12, f13⟩⟩
    ·
      exact .inl ⟨(Eq.trans (wantG1 (j := 3) rfl (f3 (doneD hd 3 rfl))) hG), L_fieldAddr FA_59_1 r1 ⟨hs, f0, f1, f2, f3, fun _ => (condT hG).symm, f5, f6, f7, f8, f9, f10, f11, f12, f13⟩⟩
  · rintro D ρ wx hD hd hdc hf ⟨hs, f0, f1, f2, f3, f4, f5, f6, f7, f8, f9, f10, f11, f12, f13⟩
    have g4 := f4 (doneD hd 4 rfl)
    rcases Bool.eq_false_or_eq_true ((decide (o.kind = 1)) == false) with hG | hG
    rotate_left
    · exact .inr ⟨(Eq.trans (wantG1 (j := 3) rfl (f3 (doneD hd 3 rfl))) hG), ⟨hs, f0, f1, f2, f3, f4, fun _ => (condF hG).symm, f6, f7, f8, f9, f10, f11, f12, f13⟩⟩
    ·
      exact .inl ⟨(Eq.trans (wantG1 (j := 3) rfl (f3 (doneD hd 3 rfl))) hG), L_ld (V := .int .u8 o.kind) S1_5 hs 0 rfl ((g4).trans (condT (by exact hG))) rfl ⟨hs, f0, f1, f2, f3, f4, fun _ => (condT hG).symm, f6, f7, f8, f9, f10, f11, f12, f13⟩⟩
  · rintro D ρ wx hD hd hdc hf ⟨hs, f0, f1, f2, f3, f4, f5, f6, f7, f8, f9, f10, f11, f12, f13⟩
    have g5 := f5 (doneD hd 5 rfl)
    rcases Bool.eq_false_or_eq_true ((decide (o.kind = 1)) == false) with hG | hG
    rotate_left
    · exact .inr ⟨(Eq.trans (wantG1 (j := 3) rfl (f3 (doneD hd 3 rfl))) hG), ⟨hs, f0, f1, f2, f3, f4, f5, fun _ => (condF hG).symm, f7, f8, f9, f10, f11, f12, f13⟩⟩
    ·
      exact .inl ⟨(Eq.trans (wantG1 (j := 3) rfl (f3 (doneD hd 3 rfl))) hG), L_eql ((g5).trans (condT (by exact hG))) rfl ⟨hs, f0, f1, f2, f3, f4, f5, fun _ => (condT hG).symm, f7, f8, f9, f10, f11, f12, f13⟩⟩
  · rintro D ρ wx hD hd hdc hf ⟨hs, f0, f1, f2, f3, f4, f5, f6, f7, f8, f9, f10, f11, f12, f13⟩
    have g3 := f3 (doneD hd 3 rfl)
    have g6 := f6 (doneD hd 6 rfl)
    exact .inl ⟨rfl, L_or g3 rfl (fun hg => ((g6).trans (condT (by first | exact beqT hg | rfl)))) ⟨hs, f0, f1, f2, f3, f4, f5, f6, fun _ => rfl, f8, f9, f10, f11, f12, f13⟩⟩
  · rintro D ρ wx hD hd hdc hf ⟨hs, f0, f1, f2, f3, f4, f5, f6, f7, f8, f9, f10, f11, f12, f13⟩
    have g7 := f7 (doneD hd 7 rfl)
    exact .inl ⟨rfl, L_move (V := .bool ((decide (o.kind = 1)) || (decide (o.kind = 2)))) g7 ⟨hs, f0, f1, f2, f3, f4, f5, f6, f7, fun _ => rfl, f9, f10, f11, f12, f13⟩⟩
  · rintro D ρ wx hD hd hdc hf ⟨hs, f0, f1, f2, f3, f4, f5, f6, f7, f8, f9, f10, f11, f12, f13⟩
    have r1 : ρ 1 = .pointer (some ⟨b1, 0, none⟩) := outD hf 1 rfl
    rcases Bool.eq_false_or_eq_true (((decide (o.kind = 1)) || (decide (o.kind = 2))) == false) with hG | hG
    rotate_left
    · exact .inr ⟨(Eq.trans (wantG1 (j := 8) rfl (f8 (doneD hd 8 rfl))) hG), ⟨hs, f0, f1, f2, f3, f4, f5, f6, f7, f8, fun _ => (condF hG).symm, f10, f11, f12, f13⟩⟩
    ·
      exact .inl ⟨(Eq.trans (wantG1 (j := 8) rfl (f8 (doneD hd 8 rfl))) hG), L_fieldAddr FA_59_1 r1 ⟨hs, f0, f1, f2, f3, f4, f5, f6, f7, f8, fun _ => (condT hG).symm, f10, f11, f12, f13⟩⟩
  · rintro D ρ wx hD hd hdc hf ⟨hs, f0, f1, f2, f3, f4, f5, f6, f7, f8, f9, f10, f11, f12, f13⟩
    have g9 := f9 (doneD hd 9 rfl)
    rcases Bool.eq_false_or_eq_true (((decide (o.kind = 1)) || (decide (o.kind = 2))) == false) with hG | hG
    rotate_left
    · exact .inr ⟨(Eq.trans (wantG1 (j := 8) rfl (f8 (doneD hd 8 rfl))) hG), ⟨hs, f0, f1, f2, f3, f4, f5, f6, f7, f8, f9, fun _ => (condF hG).symm, f11, f12, f13⟩⟩
    ·
      exact .inl ⟨(Eq.trans (wantG1 (j := 8) rfl (f8 (doneD hd 8 rfl))) hG), L_ld (V := .int .u8 o.kind) S1_5 hs 0 rfl ((g9).trans (condT (by exact hG))) rfl ⟨hs, f0, f1, f2, f3, f4, f5, f6, f7, f8, f9, fun _ => (condT hG).symm, f11, f12, f13⟩⟩
  · rintro D ρ wx hD hd hdc hf ⟨hs, f0, f1, f2, f3, f4, f5, f6, f7, f8, f9, f10, f11, f12, f13⟩
    have g10 := f10 (doneD hd 10 rfl)
    rcases Bool.eq_false_or_eq_true (((decide (o.kind = 1)) || (decide (o.kind = 2))) == false) with hG | hG
    rotate_left
    · exact .inr ⟨(Eq.trans (wantG1 (j := 8) rfl (f8 (doneD hd 8 rfl))) hG), ⟨hs, f0, f1, f2, f3, f4, f5, f6, f7, f8, f9, f10, fun _ => (condF hG).symm, f12, f13⟩⟩
    ·
      exact .inl ⟨(Eq.trans (wantG1 (j := 8) rfl (f8 (doneD hd 8 rfl))) hG), L_eql ((g10).trans (condT (by exact hG))) rfl ⟨hs, f0, f1, f2, f3, f4, f5, f6, f7, f8, f9, f10, fun _ => (condT hG).symm, f12, f13⟩⟩
  · rintro D ρ wx hD hd hdc hf ⟨hs, f0, f1, f2, f3, f4, f5, f6, f7, f8, f9, f10, f11, f12, f13⟩
    have g8 := f8 (doneD hd 8 rfl)
    have g11 := f11 (doneD hd 11 rfl)
    exact .inl ⟨rfl, L_or g8 rfl (fun hg => ((g11).trans (condT (by first | exact beqT hg | rfl)))) ⟨hs, f0, f1, f2, f3, f4, f5, f6, f7, f8, f9, f10, f11, fun _ => rfl, f13⟩⟩
  · rintro D ρ wx hD hd hdc hf ⟨hs, f0, f1, f2, f3, f4, f5, f6, f7, f8, f9, f10, f11, f12, f13⟩
    have g12 := f12 (doneD hd 12 rfl)
    exact .inl ⟨rfl, L_assign (V := .bool (((decide (o.kind = 1)) || (decide (o.kind = 2))) || (decide (o.kind = 4)))) g12 ⟨hs, f0, f1, f2, f3, f4, f5, f6, f7, f8, f9, f10, f11, f12, fun _ => rfl⟩⟩
  · rintro ρ1 w1 D hD hf ⟨hs, f0, f1, f2, f3, f4, f5, f6, f7, f8, f9, f10, f11, f12, f13⟩
    have e13 := f13 (hD 13 rfl)
    clear f0 f1 f2 f3 f4 f5 f6 f7 f8 f9 f10 f11 f12 f13
    obtain ⟨ρ2, hρ⟩ : ∃ ρ2, ρ1 = upd (mix [3, 4, 5, 6, 7, 8, 9, 10, 11, 12, 13, 14, 15, 2] ρ2 _) 2 (.bool (((decide (o.kind = 1)) || (decide (o.kind = 2))) || (decide (o.kind = 4)))) := ⟨ρ1, upd_of (mix_of (ds := [3, 4, 5, 6, 7, 8, 9, 10, 11, 12, 13, 14, 15, 2]) hf) e13⟩
    clear hf hD e13
    subst hρ
    refine W_ret ?_
    refine ⟨_, res_one (V := .bool (((decide (o.kind = 1)) || (decide (o.kind = 2))) || (decide (o.kind = 4)))) Try.results70 rfl, ?_⟩
    refine ⟨congrArg Ending.returned ?_, hs.take 0⟩
    rfl
set_option maxRecDepth 20000 in
set_option maxHeartbeats 4000000 in
theorem olays_ok (w : World) (o : Opn) : Calls Try.prog 85 #[.agg (oc o).toArray] w (fun e w' => e = .returned (.bool (laysB o)) ∧ Own w no w' []) := by
  refine calls_of_Wn (n := 16) Try.func85 rfl Try.ntmps85 rfl ?_
  have hs := Own.start w
  refine W_seq ?_
  refine W_region ?_
  refine RW_op (L_box (V := .agg (oc o).toArray) (cs := oc o) rfl rfl hs fun b1 w2 hs => ?_)
  refine RW_op (L_assign (V := .bool false) rfl ?_)
  refine RW_nil ?_
  refine W_seq ?_
  refine W_inv2 [3, 4, 5, 6, 7, 8, 9, 10, 11, 12, 13, 14, 15, 2] [[], [0], [1], [2], [3], [4, 3], [5, 3], [3, 6], [7, 3], [8], [9, 8], [10, 8], [8, 11], [12, 8, 0, 1, 2, 3, 4, 5, 6, 7, 8, 9, 10, 11, 12]] (fun D ρ wx => Own w no wx [blk b1 (oc o) 59] ∧ (D 0 = true → ρ 3 = .pointer (some ⟨b1, 0 + 2, none⟩)) ∧ (D 1 = true → ρ 4 = .int .u8 o.kind) ∧ (D 2 = true → ρ 5 = .bool (decide (o.kind = 1))) ∧ (D 3 = true → ρ 6 = .bool (decide (o.kind = 1))) ∧ (D 4 = true → ρ 7 = cond ((decide (o.kind = 1)) == false) (.pointer (some ⟨b1, 0 + 2, none⟩)) undef) ∧ (D 5 = true → ρ 8 = cond ((decide (o.kind = 1)) == false) (.int .u8 o.kind) undef) ∧ (D 6 = true → ρ 9 = cond ((decide (o.kind = 1)) == false) (.bool (decide (o.kind = 2))) undef) ∧ (D 7 = true → ρ 10 = .bool ((decide (o.kind = 1)) || (decide (o.kind = 2)))) ∧ (D 8 = true → ρ 11 = .bool ((decide (o.kind = 1)) || (decide (o.kind = 2)))) ∧ (D 9 = true → ρ 12 = cond (((decide (o.kind = 1)) || (decide (o.kind = 2))) == false) (.pointer (some ⟨b1, 0 + 2, none⟩)) undef) ∧ (D 10 = true → ρ 13 = cond (((decide (o.kind = 1)) || (decide (o.kind = 2))) == false) (.int .u8 o.kind) undef) ∧ (D 11 = true → ρ 14 = cond (((decide (o.kind = 1)) || (decide (o.kind = 2))) == false) (.bool (decide (o.kind = 4))) undef) ∧ (D 12 = true → ρ 15 = .bool (((decide (o.kind = 1)) || (decide (o.kind = 2))) || (decide (o.kind = 4)))) ∧ (D 13 = true → ρ 2 = .bool (((decide (o.kind = 1)) || (decide (o.kind = 2))) || (decide (o.kind = 4))))) rfl rfl rfl ⟨hs, fun h => absurd h Bool.false_ne_true, fun h => absurd h Bool.false_ne_true, fun h => absurd h Bool.false_ne_true, fun h => absurd h Bool.false_ne_true, fun h => absurd h Bool.false_ne_true, fun h => absurd h Bool.false_ne_true, fun h => absurd h Bool.false_ne_true, fun h => absurd h Bool.false_ne_true, fun h => absurd h Bool.false_ne_true, fun h => absurd h Bool.false_ne_true, fun h => absurd h Bool.false_ne_true, fun h => absurd h Bool.false_ne_true, fun h => absurd h Bool.false_ne_true, fun h => absurd h Bool.false_ne_true⟩ ⟨?_, ?_, ?_, ?_, ?_, ?_, ?_, ?_, ?_, ?_, ?_, ?_, ?_, ?_, trivial⟩ ?_
  · rintro D ρ wx hD hd hdc hf ⟨hs, f0, f1, f2, f3, f4, f5, f6, f7, f8, f9, f10, f11, f12, f13⟩
    have r1 : ρ 1 = .pointer (some ⟨b1, 0, none⟩) := outD hf 1 rfl
    exact .inl ⟨rfl, L_fieldAddr FA_59_1 r1 ⟨hs, fun _ => rfl, f1, f2, f3, f4, f5, f6, f7, f8, f9, f10, f11, f12, f13⟩⟩
  · rintro D ρ wx hD hd hdc hf ⟨hs, f0, f1, f2, f3, f4, f5, f6, f7, f8, f9, f10, f11, f12, f13⟩
    have g0 := f0 (doneD hd 0 rfl)
    exact .inl ⟨rfl, L_ld (V := .int .u8 o.kind) S1_5 hs 0 rfl g0 rfl ⟨hs, f0, fun _ => rfl, f2, f3, f4, f5, f6, f7, f8, f9, f10, f11, f12, f13⟩⟩
  · rintro D ρ wx hD hd hdc hf ⟨hs, f0, f1, f2, f3, f4, f5, f6, f7, f8, f9, f10, f11, f12, f13⟩
    have g1 := f1 (doneD hd 1 rfl)
    exact .inl ⟨rfl, L_eql g1 rfl ⟨hs, f0, f1, fun _ => rfl, f3, f4, f5, f6, f7, f8, f9, f10, f11, f12, f13⟩⟩
  · rintro D ρ wx hD hd hdc hf ⟨hs, f0, f1, f2, f3, f4, f5, f6, f7, f8, f9, f10, f11, f12, f13⟩
    have g2 := f2 (doneD hd 2 rfl)
    exact .inl ⟨rfl, L_move (V := .bool (decide (o.kind = 1))) g2 ⟨hs, f0, f1, f2, fun _ => rfl, f4, f5, f6, f7, f8, f9, f10, f11, f12, f13⟩⟩
  · rintro D ρ wx hD hd hdc hf ⟨hs, f0, f1, f2, f3, f4, f5, f6, f7, f8, f9, f10, f11, f12, f13⟩
    have r1 : ρ 1 = .pointer (some ⟨b1, 0, none⟩) := outD hf 1 rfl
    rcases Bool.eq_false_or_eq_true ((decide (o.kind = 1)) == false) with hG | hG
    rotate_left
    · exact .inr ⟨(Eq.trans (wantG1 (j := 3) rfl (f3 (doneD hd 3 rfl))) hG), ⟨hs, f0, f1, f2, f3, fun _ => (condF hG).symm, f5, f6, f7, f8, f9, f10, f11, f12, f13⟩⟩
    ·
      exact .inl ⟨(Eq.trans (wantG1 (j := 3) rfl (f3 (doneD hd 3 rfl))) hG), L_fieldAddr FA_59_1 r1 ⟨hs, f0, f1, f2, f3, fun _ => (condT hG).symm, f5, f6, f7, f8, f9, f10, f11, f12, f13⟩⟩
  · rintro D ρ wx hD hd hdc hf ⟨hs, f0, f1, f2, f3, f4, f5, f6, f7, f8, f9, f10, f11, f12, f13⟩
    have g4 := f4 (doneD hd 4 rfl)
    rcases Bool.eq_false_or_eq_true ((decide (o.kind = 1)) == false) with hG | hG
    rotate_left
    · exact .inr ⟨(Eq.trans (wantG1 (j := 3) rfl (f3 (doneD hd 3 rfl))) hG), ⟨hs, f0, f1, f2, f3, f4, fun _ => (condF hG).symm, f6, f7, f8, f9, f10, f11, f12, f13⟩⟩
    ·
      exact .inl ⟨(Eq.trans (wantG1 (j := 3) rfl (f3 (doneD hd 3 rfl))) hG), L_ld (V := .int .u8 o.kind) S1_5 hs 0 rfl ((g4).trans (condT (by exact hG))) rfl ⟨hs, f0, f1, f2, f3, f4, fun _ => (condT hG).symm, f6, f7, f8, f9, f10, f11, f12, f13⟩⟩
  · rintro D ρ wx hD hd hdc hf ⟨hs, f0, f1, f2, f3, f4, f5, f6, f7, f8, f9, f10, f11, f12, f13⟩
    have g5 := f5 (doneD hd 5 rfl)
    rcases Bool.eq_false_or_eq_true ((decide (o.kind = 1)) == false) with hG | hG
    rotate_left
    · exact .inr ⟨(Eq.trans (wantG1 (j := 3) rfl (f3 (doneD hd 3 rfl))) hG), ⟨hs, f0, f1, f2, f3, f4, f5, fun _ => (condF hG).symm, f7, f8, f9, f10, f11, f12, f13⟩⟩
    ·
      exact .inl ⟨(Eq.trans (wantG1 (j := 3) rfl (f3 (doneD hd 3 rfl))) hG), L_eql ((g5).trans (condT (by exact hG))) rfl ⟨hs, f0, f1, f2, f3, f4, f5, fun _ => (condT hG).symm, f7, f8, f9, f10, f11, f12, f13⟩⟩
  · rintro D ρ wx hD hd hdc hf ⟨hs, f0, f1, f2, f3, f4, f5, f6, f7, f8, f9, f10, f11, f12, f13⟩
    have g3 := f3 (doneD hd 3 rfl)
    have g6 := f6 (doneD hd 6 rfl)
    exact .inl ⟨rfl, L_or g3 rfl (fun hg => ((g6).trans (condT (by first | exact beqT hg | rfl)))) ⟨hs, f0, f1, f2, f3, f4, f5, f6, fun _ => rfl, f8, f9, f10, f11, f12, f13⟩⟩
  · rintro D ρ wx hD hd hdc hf ⟨hs, f0, f1, f2, f3, f4, f5, f6, f7, f8, f9, f10, f11, f12, f13⟩
    have g7 := f7 (doneD hd 7 rfl)
    exact .inl ⟨rfl, L_move (V := .bool ((decide (o.kind = 1)) || (decide (o.kind = 2)))) g7 ⟨hs, f0, f1, f2, f3, f4, f5, f6, f7, fun _ => rfl, f9, f10, f11, f12, f13⟩⟩
  · rintro D ρ wx hD hd hdc hf ⟨hs, f0, f1, f2, f3, f4, f5, f6, f7, f8, f9, f10, f11, f12, f13⟩
    have r1 : ρ 1 = .pointer (some ⟨b1, 0, none⟩) := outD hf 1 rfl
    rcases Bool.eq_false_or_eq_true (((decide (o.kind = 1)) || (decide (o.kind = 2))) == false) with hG | hG
    rotate_left
    · exact .inr ⟨(Eq.trans (wantG1 (j := 8) rfl (f8 (doneD hd 8 rfl))) hG), ⟨hs, f0, f1, f2, f3, f4, f5, f6, f7, f8, fun _ => (condF hG).symm, f10, f11, f12, f13⟩⟩
    ·
      exact .inl ⟨(Eq.trans (wantG1 (j := 8) rfl (f8 (doneD hd 8 rfl))) hG), L_fieldAddr FA_59_1 r1 ⟨hs, f0, f1, f2, f3, f4, f5, f6, f7, f8, fun _ => (condT hG).symm, f10, f11, f12, f13⟩⟩
  · rintro D ρ wx hD hd hdc hf ⟨hs, f0, f1, f2, f3, f4, f5, f6, f7, f8, f9, f10, f11, f12, f13⟩
    have g9 := f9 (doneD hd 9 rfl)
    rcases Bool.eq_false_or_eq_true (((decide (o.kind = 1)) || (decide (o.kind = 2))) == false) with hG | hG
    rotate_left
    · exact .inr ⟨(Eq.trans (wantG1 (j := 8) rfl (f8 (doneD hd 8 rfl))) hG), ⟨hs, f0, f1, f2, f3, f4, f5, f6, f7, f8, f9, fun _ => (condF hG).symm, f11, f12, f13⟩⟩
    ·
      exact .inl ⟨(Eq.trans (wantG1 (j := 8) rfl (f8 (doneD hd 8 rfl))) hG), L_ld (V := .int .u8 o.kind) S1_5 hs 0 rfl ((g9).trans (condT (by exact hG))) rfl ⟨hs, f0, f1, f2, f3, f4, f5, f6, f7, f8, f9, fun _ => (condT hG).symm, f11, f12, f13⟩⟩
  · rintro D ρ wx hD hd hdc hf ⟨hs, f0, f1, f2, f3, f4, f5, f6, f7, f8, f9, f10, f11, f12, f13⟩
    have g10 := f10 (doneD hd 10 rfl)
    rcases Bool.eq_false_or_eq_true (((decide (o.kind = 1)) || (decide (o.kind = 2))) == false) with hG | hG
    rotate_left
    · exact .inr ⟨(Eq.trans (wantG1 (j := 8) rfl (f8 (doneD hd 8 rfl))) hG), ⟨hs, f0, f1, f2, f3, f4, f5, f6, f7, f8, f9, f10, fun _ => (condF hG).symm, f12, f13⟩⟩
    ·
      exact .inl ⟨(Eq.trans (wantG1 (j := 8) rfl (f8 (doneD hd 8 rfl))) hG), L_eql ((g10).trans (condT (by exact hG))) rfl ⟨hs, f0, f1, f2, f3, f4, f5, f6, f7, f8, f9, f10, fun _ => (condT hG).symm, f12, f13⟩⟩
  · rintro D ρ wx hD hd hdc hf ⟨hs, f0, f1, f2, f3, f4, f5, f6, f7, f8, f9, f10, f11, f12, f13⟩
    have g8 := f8 (doneD hd 8 rfl)
    have g11 := f11 (doneD hd 11 rfl)
    exact .inl ⟨rfl, L_or g8 rfl (fun hg => ((g11).trans (condT (by first | exact beqT hg | rfl)))) ⟨hs, f0, f1, f2, f3, f4, f5, f6, f7, f8, f9, f10, f11, fun _ => rfl, f13⟩⟩
  · rintro D ρ wx hD hd hdc hf ⟨hs, f0, f1, f2, f3, f4, f5, f6, f7, f8, f9, f10, f11, f12, f13⟩
    have g12 := f12 (doneD hd 12 rfl)
    exact .inl ⟨rfl, L_assign (V := .bool (((decide (o.kind = 1)) || (decide (o.kind = 2))) || (decide (o.kind = 4)))) g12 ⟨hs, f0, f1, f2, f3, f4, f5, f6, f7, f8, f9, f10, f11, f12, fun _ => rfl⟩⟩
  · rintro ρ1 w1 D hD hf ⟨hs, f0, f1, f2, f3, f4, f5, f6, f7, f8, f9, f10, f11, f12, f13⟩
    have e13 := f13 (hD 13 rfl)
    clear f0 f1 f2 f3 f4 f5 f6 f7 f8 f9 f10 f11 f12 f13
    obtain ⟨ρ2, hρ⟩ : ∃ ρ2, ρ1 = upd (mix [3, 4, 5, 6, 7, 8, 9, 10, 11, 12, 13, 14, 15, 2] ρ2 _) 2 (.bool (((decide (o.kind = 1)) || (decide (o.kind = 2))) || (decide (o.kind = 4)))) := ⟨ρ1, upd_of (mix_of (ds := [3, 4, 5, 6, 7, 8, 9, 10, 11, 12, 13, 14, 15, 2]) hf) e13⟩
    clear hf hD e13
    subst hρ
    refine W_ret ?_
    refine ⟨_, res_one (V := .bool (((decide (o.kind = 1)) || (decide (o.kind = 2))) || (decide (o.kind = 4)))) Try.results85 rfl, ?_⟩
    refine ⟨congrArg Ending.returned ?_, hs.take 0⟩
    rfl
set_option maxRecDepth 20000 in
set_option maxHeartbeats 4000000 in
theorem vSum_ok (w : World) (v : Vec) (hv : VecOk v) : Calls Try.prog 101 #[.agg (vc v).toArray] w (fun e w' => e = .returned (.int .u64 (vsum v)) ∧ Own w no w' []) := by
  refine calls_of_Wn (n := 16) Try.func101 rfl Try.ntmps101 rfl ?_
  have hs := Own.start w
  refine W_seq ?_
  refine W_region ?_
  refine RW_op (L_box (V := .agg (vc v).toArray) (cs := vc v) rfl rfl hs fun b1 w2 hs => ?_)
  refine RW_op (L_assign (V := .int .u64 0) rfl ?_)
  refine RW_nil ?_
  refine W_seq ?_
  refine W_region ?_
  refine RW_op (L_assign (V := .int .u64 0) rfl ?_)
  refine RW_nil ?_
  refine W_seq ?_
  refine W_seq ?_
  refine W_region ?_
  refine RW_op (L_ldW (cs := vc v) SA_24 hs 0 rfl rfl rfl ?_)
  refine RW_op (L_move (V := .int .i64 0) rfl ?_)
  refine RW_nil ?_
  refine W_block ?_
  refine W_loopI (fun ρ m ρ' w' => ∃ (ρo : Env) (k : Nat) (n : Int), ρ' = upd (upd (mix [3, 5, 7, 8, 9, 10, 11, 12, 13, 14] ρo ρ) 7 (.int .i64 (k : Int))) 3 (.int .u64 n) ∧ (k ≤ 16) ∧ (n = vsumK v k) ∧ (0 ≤ n ∧ n ≤ (k : Int) * 4294967296) ∧ m = 16 - k ∧ Own w no w' [blk b1 (vc v) 24]) ?_ ?_
  · exact ⟨_, _, 0, 0, upd_of (upd_of (mix_of (ds := [3, 5, 7, 8, 9, 10, 11, 12, 13, 14]) (Agr.refl _ _)) rfl) rfl, (by omega), rfl, (⟨by omega, by omega⟩), rfl, hs⟩
  · rintro m ρ' w3 ⟨ρo, k, n, rfl, hk, hn, hnb, rfl, hs⟩
    refine W_seq ?_
    refine W_region ?_
    refine RW_op (L_lss rfl rfl ?_)
    refine RW_nil ?_
    refine W_seq ?_
    refine W_cond (t := decide ((k : Int) < 16)) rfl (fun c4 => ?_) (fun c4 => ?_)
    ·
      replace c4 := of_decide_eq_true c4
      refine W_skip ?_
      refine W_seq ?_
      refine W_block ?_
      refine W_seq ?_
      have hv1 := vat_ok hv k
      refine W_region ?_
      refine RW_op (L_index (V := .int .u32 (vat v k)) UD_24 S1_22 rfl rfl (by omega) (by omega) (by rw [List.getElem?_toArray]; exact vc_at _ _ (by omega)) ?_)
      refine RW_op (L_assign (V := .int .u32 (vat v k)) rfl ?_)
      refine RW_nil ?_
      refine W_region ?_
      refine RW_op (L_move (V := .int .u64 n) rfl ?_)
      refine RW_op (L_move (V := .int .u32 (vat v k)) rfl ?_)
      refine RW_op (L_conv UD_22 UD_54 rfl (wr_u64 (by omega) (by omega)) ?_)
      refine RW_op (L_add (a := n) (b := vat v k) (c := n + (vat v k)) rfl rfl (wr_u64 (by omega) (by omega)) ?_)
      refine RW_op (L_assign (V := .int .u64 (n + (vat v k))) rfl ?_)
      refine RW_nil ?_
      refine W_region ?_
      refine RW_op (L_add (a := (k : Int)) (b := 1) (c := (k : Int) + 1) rfl rfl (wr_i64 (by omega) (by omega)) ?_)
      refine RW_op (L_move (V := .int .i64 ((k : Int) + 1)) rfl ?_)
      refine RW_nil ?_
      refine ⟨_, ?_, _, k + 1, n + (vat v k), upd_of (upd_of (mix_of (ds := [3, 5, 7, 8, 9, 10, 11, 12, 13, 14]) (by repeat (first | exact Agr.refl _ _ | refine Agr.upd ?_ rfl | refine Agr.mix ?_ rfl))) rfl) rfl, (by omega), (vsumK_step hn), (⟨by omega, by omega⟩), rfl, hs.take 1⟩
      omega
    ·
      replace c4 := of_decide_eq_false c4
      refine W_exit ?_
      refine W_seq ?_
      refine W_region ?_
      refine RW_op (L_move (V := .int .u64 n) rfl ?_)
      refine RW_op (L_assign (V := .int .u64 n) rfl ?_)
      refine RW_nil ?_
      refine W_ret ?_
      refine ⟨_, res_one (V := .int .u64 n) Try.results101 rfl, ?_⟩
      refine ⟨congrArg Ending.returned ?_, hs.take 0⟩
      rw [hn, show k = 16 by omega, vsum_K]
set_option maxRecDepth 20000 in
set_option maxHeartbeats 4000000 in
theorem oCount_ok (w : World) (o : Opn) (ho : VecOk o.ctx) : Calls Try.prog 87 #[.agg (oc o).toArray] w (fun e w' => e = .returned (.int .u64 (cntO o)) ∧ Own w no w' []) := by
  refine calls_of_Wn (n := 7) Try.func87 rfl Try.ntmps87 rfl ?_
  have hs := Own.start w
  refine W_seq ?_
  refine W_region ?_
  refine RW_op (L_box (V := .agg (oc o).toArray) (cs := oc o) rfl rfl hs fun b1 w2 hs => ?_)
  refine RW_op (L_assign (V := .int .u64 0) rfl ?_)
  refine RW_nil ?_
  refine W_seq ?_
  have hb := vsum_bd ho
  refine W_region ?_
  refine RW_op (L_fieldAddr FA_59_6 rfl ?_)
  refine RW_op (L_ldA (vs := vc o.ctx) SA_24 hs 0 rfl rfl rfl rfl ?_)
  refine RW_op (L_callP (vs := [.agg (vc o.ctx).toArray]) (V := .int .u64 (vsum o.ctx)) EN_101 rfl rfl ?hc hs fun w3 hs => ?_)
  case hc => exact (vSum_ok _ o.ctx (by assumption))
  refine RW_op (L_add (a := vsum o.ctx) (b := 1) (c := (vsum o.ctx) + 1) rfl rfl (wr_u64 (by omega) (by omega)) ?_)
  refine RW_op (L_assign (V := .int .u64 ((vsum o.ctx) + 1)) rfl ?_)
  refine RW_nil ?_
  refine W_ret ?_
  refine ⟨_, res_one (V := .int .u64 ((vsum o.ctx) + 1)) Try.results87 rfl, ?_⟩
  refine ⟨congrArg Ending.returned ?_, hs.take 0⟩
  rfl
set_option maxRecDepth 20000 in
set_option maxHeartbeats 4000000 in
theorem isNaN_uint64_ok (w : World) (x : Int) : Calls Try.prog 100 #[.int .u64 x] w (fun e w' => e = .returned (.bool false) ∧ Own w no w' []) := by
  refine calls_of_Wn (n := 6) Try.func100 rfl Try.ntmps100 rfl ?_
  have hs := Own.start w
  refine W_seq ?_
  refine W_region ?_
  refine RW_op (L_assign (V := .bool false) rfl ?_)
  refine RW_nil ?_
  refine W_seq ?_
  refine W_region ?_
  refine RW_op (L_move (V := .int .u64 x) rfl ?_)
  refine RW_op (L_move (V := .int .u64 x) rfl ?_)
  refine RW_op (L_neq rfl rfl ?_)
  refine RW_op (L_assign (V := .bool (!decide (x = x))) rfl ?_)
  refine RW_nil ?_
  refine W_ret ?_
  refine ⟨_, res_one (V := .bool (!decide (x = x))) Try.results100 rfl, ?_⟩
  refine ⟨congrArg Ending.returned ?_, hs.take 0⟩
  simp
set_option maxRecDepth 20000 in
set_option maxHeartbeats 4000000 in
theorem cmp_uint64_ok (w : World) (x y : Int) : Calls Try.prog 86 #[.int .u64 x, .int .u64 y] w (fun e w' => e = .returned (.int .i64 (cmpI x y)) ∧ Own w no w' []) := by
  refine calls_of_Wn (n := 20) Try.func86 rfl Try.ntmps86 rfl ?_
  have hs := Own.start w
  refine W_seq ?_
  refine W_region ?_
  refine RW_op (L_assign (V := .int .i64 0) rfl ?_)
  refine RW_nil ?_
  refine W_seq ?_
  refine W_region ?_
  refine RW_op (L_move (V := .int .u64 x) rfl ?_)
  refine RW_op (L_callP (vs := [.int .u64 x]) (V := .bool false) EN_100 rfl rfl ?hc hs fun w1 hs => ?_)
  case hc => exact (isNaN_uint64_ok _ x)
  refine RW_op (L_assign (V := .bool false) rfl ?_)
  refine RW_nil ?_
  refine W_seq ?_
  refine W_region ?_
  refine RW_op (L_move (V := .int .u64 y) rfl ?_)
  refine RW_op (L_callP (vs := [.int .u64 y]) (V := .bool false) EN_100 rfl rfl ?hc hs fun w2 hs => ?_)
  case hc => exact (isNaN_uint64_ok _ y)
  refine RW_op (L_assign (V := .bool false) rfl ?_)
  refine RW_nil ?_
  refine W_seq ?_
  refine W_seq ?_
  refine W_region ?_
  refine RW_op (L_move (V := .bool false) rfl ?_)
  refine RW_nil ?_
  refine W_condF rfl ?_
  refine W_skip ?_
  refine W_seq ?_
  refine W_seq ?_
  refine W_region ?_
  refine RW_op (L_move (V := .bool false) rfl ?_)
  refine RW_nil ?_
  refine W_condF rfl ?_
  refine W_skip ?_
  refine W_seq ?_
  refine W_seq ?_
  refine W_region ?_
  refine RW_op (L_move (V := .int .u64 x) rfl ?_)
  refine RW_op (L_move (V := .int .u64 y) rfl ?_)
  refine RW_op (L_lss rfl rfl ?_)
  refine RW_nil ?_
  refine W_cond (t := decide (x < y)) rfl (fun c3 => ?_) (fun c3 => ?_)
  ·
    replace c3 := of_decide_eq_true c3
    refine W_seq ?_
    refine W_region ?_
    refine RW_op (L_assign (V := .int .i64 (-1)) rfl ?_)
    refine RW_nil ?_
    refine W_ret ?_
    refine ⟨_, res_one (V := .int .i64 (-1)) Try.results86 rfl, ?_⟩
    refine ⟨congrArg Ending.returned ?_, hs.take 0⟩
    rw [cmpI_eq, if_pos c3]
  ·
    replace c3 := of_decide_eq_false c3
    refine W_skip ?_
    refine W_seq ?_
    refine W_seq ?_
    refine W_region ?_
    refine RW_op (L_move (V := .int .u64 x) rfl ?_)
    refine RW_op (L_move (V := .int .u64 y) rfl ?_)
    refine RW_op (L_gtr rfl rfl ?_)
    refine RW_nil ?_
    refine W_cond (t := decide (y < x)) rfl (fun c4 => ?_) (fun c4 => ?_)
    ·
      replace c4 := of_decide_eq_true c4
      refine W_seq ?_
      refine W_region ?_
      refine RW_op (L_assign (V := .int .i64 1) rfl ?_)
      refine RW_nil ?_
      refine W_ret ?_
      refine ⟨_, res_one (V := .int .i64 1) Try.results86 rfl, ?_⟩
      refine ⟨congrArg Ending.returned ?_, hs.take 0⟩
      rw [cmpI_eq, if_neg c3, if_pos c4]
    ·
      replace c4 := of_decide_eq_false c4
      refine W_skip ?_
      refine W_seq ?_
      refine W_region ?_
      refine RW_op (L_assign (V := .int .i64 0) rfl ?_)
      refine RW_nil ?_
      refine W_ret ?_
      refine ⟨_, res_one (V := .int .i64 0) Try.results86 rfl, ?_⟩
      refine ⟨congrArg Ending.returned ?_, hs.take 0⟩
      rw [cmpI_eq, if_neg c3, if_neg c4]
set_option maxRecDepth 20000 in
set_option maxHeartbeats 4000000 in
theorem oLess_ok (w : World) (a b : Opn) (ha : VecOk a.ctx) (hb : VecOk b.ctx) : Calls Try.prog 74 #[.agg (oc a).toArray, .agg (oc b).toArray] w (fun e w' => e = .returned (.bool (lessB a b)) ∧ Own w no w' []) := by
  refine calls_of_Wn (n := 27) Try.func74 rfl Try.ntmps74 rfl ?_
  have hs := Own.start w
  refine W_seq ?_
  refine W_region ?_
  refine RW_op (L_box (V := .agg (oc a).toArray) (cs := oc a) rfl rfl hs fun b1 w2 hs => ?_)
  refine RW_op (L_box (V := .agg (oc b).toArray) (cs := oc b) rfl rfl hs fun b3 w4 hs => ?_)
  refine RW_op (L_assign (V := .bool false) rfl ?_)
  refine RW_nil ?_
  refine W_seq ?_
  replace hs := hs.more emp trivial
  replace hs := hs.drew
  refine W_draw2 HM [5, 6, 7, 8, 9, 10, 11, 12, 13, 14, 15, 16, 17, 18, 19, 20, 21, 22, 23, 24, 25, 26, 4] [[], [0], [], [2, 1], [1, 3, 3], [], [5], [6], [], [8], [9], [7, 10, 4], [], [12], [13], [], [15], [16], [14, 17, 11], [4, 11, 18], [19, 18], [20], [21, 20, 0, 1, 2, 3, 4, 5, 6, 7, 8, 9, 10, 11, 12, 13, 14, 15, 16, 17, 18, 19, 20, 21]] (fun D ρ wx => Own w no wx [blk b1 (oc a) 59, blk b3 (oc b) 59, cond (D 19) (row (.slice (some ⟨(bOf (ρ 24)), 0, none⟩) 3 3) ([cmpI (cntO a) (cntO b), cmpI a.dot.rep b.dot.rep, cmpI a.dot.seq b.dot.seq].map (ic .i64)) 3 1) (emp)] ∧ (D 0 = true → ρ 5 = .agg (oc a).toArray) ∧ (D 1 = true → ρ 6 = .int .u64 (cntO a)) ∧ (D 2 = true → ρ 7 = .agg (oc b).toArray) ∧ (D 3 = true → ρ 8 = .int .u64 (cntO b)) ∧ (D 4 = true → ρ 9 = .int .i64 (cmpI (cntO a) (cntO b))) ∧ (D 5 = true → ρ 10 = .pointer (some ⟨b1, 0 + 0, none⟩)) ∧ (D 6 = true → ρ 11 = .pointer (some ⟨b1, 0 + 0 + 0, none⟩)) ∧ (D 7 = true → ρ 12 = .int .u8 a.dot.rep) ∧ (D 8 = true → ρ 13 = .pointer (some ⟨b3, 0 + 0, none⟩)) ∧ (D 9 = true → ρ 14 = .pointer (some ⟨b3, 0 + 0 + 0, none⟩)) ∧ (D 10 = true → ρ 15 = .int .u8 b.dot.rep) ∧ (D 11 = true → ρ 16 = .int .i64 (cmpI a.dot.rep b.dot.rep)) ∧ (D 12 = true → ρ 17 = .pointer (some ⟨b1, 0 + 0, none⟩)) ∧ (D 13 = true → ρ 18 = .pointer (some ⟨b1, 0 + 0 + 1, none⟩)) ∧ (D 14 = true → ρ 19 = .int .u32 a.dot.seq) ∧ (D 15 = true → ρ 20 = .pointer (some ⟨b3, 0 + 0, none⟩)) ∧ (D 16 = true → ρ 21 = .pointer (some ⟨b3, 0 + 0 + 1, none⟩)) ∧ (D 17 = true → ρ 22 = .int .u32 b.dot.seq) ∧ (D 18 = true → ρ 23 = .int .i64 (cmpI a.dot.seq b.dot.seq)) ∧ (D 19 = true → ρ 24 = .slice (some ⟨(bOf (ρ 24)), 0, none⟩) 3 3) ∧ (D 20 = true → ρ 25 = .int .i64 (orI [cmpI (cntO a) (cntO b), cmpI a.dot.rep b.dot.rep, cmpI a.dot.seq b.dot.seq])) ∧ (D 21 = true → ρ 26 = .bool (decide (orI [cmpI (cntO a) (cntO b), cmpI a.dot.rep b.dot.rep, cmpI a.dot.seq b.dot.seq] < 0))) ∧ (D 22 = true → ρ 4 = .bool (decide (orI [cmpI (cntO a) (cntO b), cmpI a.dot.rep b.dot.rep, cmpI a.dot.seq b.dot.seq] < 0)))) rfl rfl rfl ⟨hs, fun h => absurd h Bool.false_ne_true, fun h => absurd h Bool.false_ne_true, fun h => absurd h Bool.false_ne_true, fun h => absurd h Bool.false_ne_true, fun h => absurd h Bool.false_ne_true, fun h => absurd h Bool.false_ne_true, fun h => absurd h Bool.false_ne_true, fun h => absurd h Bool.false_ne_true, fun h => absurd h Bool.false_ne_true, fun h => absurd h Bool.false_ne_true, fun h => absurd h Bool.false_ne_true, fun h => absurd h Bool.false_ne_true, fun h => absurd h Bool.false_ne_true, fun h => absurd h Bool.false_ne_true, fun h => absurd h Bool.false_ne_true, fun h => absurd h Bool.false_ne_true, fun h => absurd h Bool.false_ne_true, fun h => absurd h Bool.false_ne_true, fun h => absurd h Bool.false_ne_true, fun h => absurd h Bool.false_ne_true, fun h => absurd h Bool.false_ne_true, fun h => absurd h Bool.false_ne_true, fun h => absurd h Bool.false_ne_true⟩ ⟨?_, ?_, ?_, ?_, ?_, ?_, ?_, ?_, ?_, ?_, ?_, ?_, ?_, ?_, ?_, ?_, ?_, ?_, ?_, ?_, ?_, ?_, ?_, trivial⟩ ?_
  · rintro D ρ wx hD hd hdc hf ⟨hs, f0, f1, f2, f3, f4, f5, f6, f7, f8, f9, f10, f11, f12, f13, f14, f15, f16, f17, f18, f19, f20, f21, f22⟩
    have r2 : ρ 2 = .pointer (some ⟨b1, 0, none⟩) := outD hf 2 rfl
    exact .inl ⟨rfl, L_ldW (cs := oc a) SA_59 hs 0 rfl r2 rfl ⟨hs, fun _ => rfl, f1, f2, f3, f4, f5, f6, f7, f8, f9, f10, f11, f12, f13, f14, f15, f16, f17, f18, f19, f20, f21, f22⟩⟩
  · rintro D ρ wx hD hd hdc hf ⟨hs, f0, f1, f2, f3, f4, f5, f6, f7, f8, f9, f10, f11, f12, f13, f14, f15, f16, f17, f18, f19, f20, f21, f22⟩
    have g0 := f0 (doneD hd 0 rfl)
    exact .inl ⟨rfl, L_callP (vs := [.agg (oc a).toArray]) (V := .int .u64 (cntO a)) EN_87 rfl (mapc g0 rfl) (oCount_ok _ a (by assumption)) hs fun _ hs0 => ⟨hs0, f0, fun _ => rfl, f2, f3, f4, f5, f6, f7, f8, f9, f10, f11, f12, f13, f14, f15, f16, f17, f18, f19, f20, f21, f22⟩⟩
  · rintro D ρ wx hD hd hdc hf ⟨hs, f0, f1, f2, f3, f4, f5, f6, f7, f8, f9, f10, f11, f12, f13, f14, f15, f16, f17, f18, f19, f20, f21, f22⟩
    have r3 : ρ 3 = .pointer (some ⟨b3, 0, none⟩) := outD hf 3 rfl
    exact .inl ⟨rfl, L_ldW (cs := oc b) SA_59 hs 1 rfl r3 rfl ⟨hs, f0, f1, fun _ => rfl, f3, f4, f5, f6, f7, f8, f9, f10, f11, f12, f13, f14, f15, f16, f17, f18, f19, f20, f21, f22⟩⟩
  · rintro D ρ wx hD hd hdc hf ⟨hs, f0, f1, f2, f3, f4, f5, f6, f7, f8, f9, f10, f11, f12, f13, f14, f15, f16, f17, f18, f19, f20, f21, f22⟩
    have g2 := f2 (doneD hd 2 rfl)
    exact .inl ⟨rfl, L_callP (vs := [.agg (oc b).toArray]) (V := .int .u64 (cntO b)) EN_87 rfl (mapc g2 rfl) (oCount_ok _ b (by assumption)) hs fun _ hs0 => ⟨hs0, f0, f1, f2, fun _ => rfl, f4, f5, f6, f7, f8, f9, f10, f11, f12, f13, f14, f15, f16, f17, f18, f19, f20, f21, f22⟩⟩
  · rintro D ρ wx hD hd hdc hf ⟨hs, f0, f1, f2, f3, f4, f5, f6, f7, f8, f9, f10, f11, f12, f13, f14, f15, f16, f17, f18, f19, f20, f21, f22⟩
    have g1 := f1 (doneD hd 1 rfl)
    have g3 := f3 (doneD hd 3 rfl)
    exact .inl ⟨rfl, L_callP (vs := [.int .u64 (cntO a), .int .u64 (cntO b)]) (V := .int .i64 (cmpI (cntO a) (cntO b))) EN_86 rfl (mapc g1 (mapc g3 rfl)) (cmp_uint64_ok _ (cntO a) (cntO b)) hs fun _ hs0 => ⟨hs0, f0, f1, f2, f3, fun _ => rfl, f5, f6, f7, f8, f9, f10, f11, f12, f13, f14, f15, f16, f17, f18, f19, f20, f21, f22⟩⟩
  · rintro D ρ wx hD hd hdc hf ⟨hs, f0, f1, f2, f3, f4, f5, f6, f7, f8, f9, f10, f11, f12, f13, f14, f15, f16, f17, f18, f19, f20, f21, f22⟩
    have r2 : ρ 2 = .pointer (some ⟨b1, 0, none⟩) := outD hf 2 rfl
    exact .inl ⟨rfl, L_fieldAddr FA_59_0 r2 ⟨hs, f0, f1, f2, f3, f4, fun _ => rfl, f6, f7, f8, f9, f10, f11, f12, f13, f14, f15, f16, f17, f18, f19, f20, f21, f22⟩⟩
  · rintro D ρ wx hD hd hdc hf ⟨hs, f0, f1, f2, f3, f4, f5, f6, f7, f8, f9, f10, f11, f12, f13, f14, f15, f16, f17, f18, f19, f20, f21, f22⟩
    have g5 := f5 (doneD hd 5 rfl)
    exact .inl ⟨rfl, L_fieldAddr FA_34_0 g5 ⟨hs, f0, f1, f2, f3, f4, f5, fun _ => rfl, f7, f8, f9, f10, f11, f12, f13, f14, f15, f16, f17, f18, f19, f20, f21, f22⟩⟩
  · rintro D ρ wx hD hd hdc hf ⟨hs, f0, f1, f2, f3, f4, f5, f6, f7, f8, f9, f10, f11, f12, f13, f14, f15, f16, f17, f18, f19, f20, f21, f22⟩
    have g6 := f6 (doneD hd 6 rfl)
    exact .inl ⟨rfl, L_ld (V := .int .u8 a.dot.rep) S1_5 hs 0 rfl g6 rfl ⟨hs, f0, f1, f2, f3, f4, f5, f6, fun _ => rfl, f8, f9, f10, f11, f12, f13, f14, f15, f16, f17, f18, f19, f20, f21, f22⟩⟩
  · rintro D ρ wx hD hd hdc hf ⟨hs, f0, f1, f2, f3, f4, f5, f6, f7, f8, f9, f10, f11, f12, f13, f14, f15, f16, f17, f18, f19, f20, f21, f22⟩
    have r3 : ρ 3 = .pointer (some ⟨b3, 0, none⟩) := outD hf 3 rfl
    exact .inl ⟨rfl, L_fieldAddr FA_59_0 r3 ⟨hs, f0, f1, f2, f3, f4, f5, f6, f7, fun _ => rfl, f9, f10, f11, f12, f13, f14, f15, f16, f17, f18, f19, f20, f21, f22⟩⟩
  · rintro D ρ wx hD hd hdc hf ⟨hs, f0, f1, f2, f3, f4, f5, f6, f7, f8, f9, f10, f11, f12, f13, f14, f15, f16, f17, f18, f19, f20, f21, f22⟩
    have g8 := f8 (doneD hd 8 rfl)
    exact .inl ⟨rfl, L_fieldAddr FA_34_0 g8 ⟨hs, f0, f1, f2, f3, f4, f5, f6, f7, f8, fun _ => rfl, f10, f11, f12, f13, f14, f15, f16, f17, f18, f19, f20, f21, f22⟩⟩
  · rintro D ρ wx hD hd hdc hf ⟨hs, f0, f1, f2, f3, f4, f5, f6, f7, f8, f9, f10, f11, f12, f13, f14, f15, f16, f17, f18, f19, f20, f21, f22⟩
    have g9 := f9 (doneD hd 9 rfl)
    exact .inl ⟨rfl, L_ld (V := .int .u8 b.dot.rep) S1_5 hs 1 rfl g9 rfl ⟨hs, f0, f1, f2, f3, f4, f5, f6, f7, f8, f9, fun _ => rfl, f11, f12, f13, f14, f15, f16, f17, f18, f19, f20, f21, f22⟩⟩
  · rintro D ρ wx hD hd hdc hf ⟨hs, f0, f1, f2, f3, f4, f5, f6, f7, f8, f9, f10, f11, f12, f13, f14, f15, f16, f17, f18, f19, f20, f21, f22⟩
    have g7 := f7 (doneD hd 7 rfl)
    have g10 := f10 (doneD hd 10 rfl)
    exact .inl ⟨rfl, L_callP (vs := [.int .u8 a.dot.rep, .int .u8 b.dot.rep]) (V := .int .i64 (cmpI a.dot.rep b.dot.rep)) EN_67 rfl (mapc g7 (mapc g10 rfl)) (cmp_uint8_ok _ a.dot.rep b.dot.rep) hs fun _ hs0 => ⟨hs0, f0, f1, f2, f3, f4, f5, f6, f7, f8, f9, f10, fun _ => rfl, f12, f13, f14, f15, f16, f17, f18, f19, f20, f21, f22⟩⟩
  · rintro D ρ wx hD hd hdc hf ⟨hs, f0, f1, f2, f3, f4, f5, f6, f7, f8, f9, f10, f11, f12, f13, f14, f15, f16, f17, f18, f19, f20, f21, f22⟩
    have r2 : ρ 2 = .pointer (some ⟨b1, 0, none⟩) := outD hf 2 rfl
    exact .inl ⟨rfl, L_fieldAddr FA_59_0 r2 ⟨hs, f0, f1, f2, f3, f4, f5, f6, f7, f8, f9, f10, f11, fun _ => rfl, f13, f14, f15, f16, f17, f18, f19, f20, f21, f22⟩⟩
  · rintro D ρ wx hD hd hdc hf ⟨hs, f0, f1, f2, f3, f4, f5, f6, f7, f8, f9, f10, f11, f12, f13, f14, f15, f16, f17, f18, f19, f20, f21, f22⟩
    have g12 := f12 (doneD hd 12 rfl)
    exact .inl ⟨rfl, L_fieldAddr FA_34_1 g12 ⟨hs, f0, f1, f2, f3, f4, f5, f6, f7, f8, f9, f10, f11, f12, fun _ => rfl, f14, f15, f16, f17, f18, f19, f20, f21, f22⟩⟩
  · rintro D ρ wx hD hd hdc hf ⟨hs, f0, f1, f2, f3, f4, f5, f6, f7, f8, f9, f10, f11, f12, f13, f14, f15, f16, f17, f18, f19, f20, f21, f22⟩
    have g13 := f13 (doneD hd 13 rfl)
    exact .inl ⟨rfl, L_ld (V := .int .u32 a.dot.seq) S1_22 hs 0 rfl g13 rfl ⟨hs, f0, f1, f2, f3, f4, f5, f6, f7, f8, f9, f10, f11, f12, f13, fun _ => rfl, f15, f16, f17, f18, f19, f20, f21, f22⟩⟩
  · rintro D ρ wx hD hd hdc hf ⟨hs, f0, f1, f2, f3, f4, f5, f6, f7, f8, f9, f10, f11, f12, f13, f14, f15, f16, f17, f18, f19, f20, f21, f22⟩
    have r3 : ρ 3 = .pointer (some ⟨b3, 0, none⟩) := outD hf 3 rfl
    exact .inl ⟨rfl, L_fieldAddr FA_59_0 r3 ⟨hs, f0, f1, f2, f3, f4, f5, f6, f7, f8, f9, f10, f11, f12, f13, f14, fun _ => rfl, f16, f17, f18, f19, f20, f21, f22⟩⟩
  · rintro D ρ wx hD hd hdc hf ⟨hs, f0, f1, f2, f3, f4, f5, f6, f7, f8, f9, f10, f11, f12, f13, f14, f15, f16, f17, f18, f19, f20, f21, f22⟩
    have g15 := f15 (doneD hd 15 rfl)
    exact .inl ⟨rfl, L_fieldAddr FA_34_1 g15 ⟨hs, f0, f1, f2, f3, f4, f5, f6, f7, f8, f9, f10, f11, f12, f13, f14, f15, fun _ => rfl, f17, f18, f19, f20, f21, f22⟩⟩
  · rintro D ρ wx hD hd hdc hf ⟨hs, f0, f1, f2, f3, f4, f5, f6, f7, f8, f9, f10, f11, f12, f13, f14, f15, f16, f17, f18, f19, f20, f21, f22⟩
    have g16 := f16 (doneD hd 16 rfl)
    exact .inl ⟨rfl, L_ld (V := .int .u32 b.dot.seq) S1_22 hs 1 rfl g16 rfl ⟨hs, f0, f1, f2, f3, f4, f5, f6, f7, f8, f9, f10, f11, f12, f13, f14, f15, f16, fun _ => rfl, f18, f19, f20, f21, f22⟩⟩
  · rintro D ρ wx hD hd hdc hf ⟨hs, f0, f1, f2, f3, f4, f5, f6, f7, f8, f9, f10, f11, f12, f13, f14, f15, f16, f17, f18, f19, f20, f21, f22⟩
    have g14 := f14 (doneD hd 14 rfl)
    have g17 := f17 (doneD hd 17 rfl)
    exact .inl ⟨rfl, L_callP (vs := [.int .u32 a.dot.seq, .int .u32 b.dot.seq]) (V := .int .i64 (cmpI a.dot.seq b.dot.seq)) EN_68 rfl (mapc g14 (mapc g17 rfl)) (cmp_uint32_ok _ a.dot.seq b.dot.seq) hs fun _ hs0 => ⟨hs0, f0, f1, f2, f3, f4, f5, f6, f7, f8, f9, f10, f11, f12, f13, f14, f15, f16, f17, fun _ => rfl, f19, f20, f21, f22⟩⟩
  · rintro D ρ wx hD hd hdc hf ⟨hs, f0, f1, f2, f3, f4, f5, f6, f7, f8, f9, f10, f11, f12, f13, f14, f15, f16, f17, f18, f19, f20, f21, f22⟩
    have g4 := f4 (doneD hd 4 rfl)
    have g11 := f11 (doneD hd 11 rfl)
    have g18 := f18 (doneD hd 18 rfl)
    refine .inl ⟨rfl, L_bs (vals := [.int .i64 (cmpI (cntO a) (cntO b)), .int .i64 (cmpI a.dot.rep b.dot.rep), .int .i64 (cmpI a.dot.seq b.dot.seq)]) (ls := List.map (ic .i64) ([cmpI (cntO a) (cntO b), cmpI a.dot.rep b.dot.rep, cmpI a.dot.seq b.dot.seq] : List Int)) EL_120 (mapb g4 (mapb g11 (mapb g18 rfl))) rfl rfl (len_map (enc := (ic .i64)) (fun _ => rfl) _) (one_map (ic_one .i64) _) (Nat.le_of_ble_eq_true rfl) hs fun b _ hs0 => ⟨?_, f0, f1, f2, f3, f4, f5, f6, f7, f8, f9, f10, f11, f12, f13, f14, f15, f16, f17, f18, fun _ => rfl, f20, f21, f22⟩⟩
    exact hs0.put 2 (Nat.le_of_ble_eq_true rfl)
  · rintro D ρ wx hD hd hdc hf ⟨hs, f0, f1, f2, f3, f4, f5, f6, f7, f8, f9, f10, f11, f12, f13, f14, f15, f16, f17, f18, f19, f20, f21, f22⟩
    have g19 := f19 (doneD hd 19 rfl)
    have d19 : D 19 = true := doneD hd 19 rfl
    have hs0 := hs; rw [d19] at hs0
    refine .inl ⟨rfl, L_callP (vs := [.slice (some ⟨(bOf (ρ 24)), 0, none⟩) 3 3]) (V := .int .i64 (orI [cmpI (cntO a) (cntO b), cmpI a.dot.rep b.dot.rep, cmpI a.dot.seq b.dot.seq])) EN_66 rfl (mapc g19 rfl) (or_ok _ (some ⟨(bOf (ρ 24)), 0, none⟩) 3 [cmpI (cntO a) (cntO b), cmpI a.dot.rep b.dot.rep, cmpI a.dot.seq b.dot.seq] (hs0.rd 2 rfl)) hs0 fun _ hs0 => ⟨?_, f0, f1, f2, f3, f4, f5, f6, f7, f8, f9, f10, f11, f12, f13, f14, f15, f16, f17, f18, f19, fun _ => rfl, f21, f22⟩⟩
    rw [show Go.Vx.mark D 20 19 = true from d19]
    exact hs0
  · rintro D ρ wx hD hd hdc hf ⟨hs, f0, f1, f2, f3, f4, f5, f6, f7, f8, f9, f10, f11, f12, f13, f14, f15, f16, f17, f18, f19, f20, f21, f22⟩
    have g20 := f20 (doneD hd 20 rfl)
    exact .inl ⟨rfl, L_lss g20 rfl ⟨hs, f0, f1, f2, f3, f4, f5, f6, f7, f8, f9, f10, f11, f12, f13, f14, f15, f16, f17, f18, f19, f20, fun _ => rfl, f22⟩⟩
  · rintro D ρ wx hD hd hdc hf ⟨hs, f0, f1, f2, f3, f4, f5, f6, f7, f8, f9, f10, f11, f12, f13, f14, f15, f16, f17, f18, f19, f20, f21, f22⟩
    have g21 := f21 (doneD hd 21 rfl)
    exact .inl ⟨rfl, L_assign (V := .bool (decide (orI [cmpI (cntO a) (cntO b), cmpI a.dot.rep b.dot.rep, cmpI a.dot.seq b.dot.seq] < 0))) g21 ⟨hs, f0, f1, f2, f3, f4, f5, f6, f7, f8, f9, f10, f11, f12, f13, f14, f15, f16, f17, f18, f19, f20, f21, fun _ => rfl⟩⟩
  · rintro ρ1 w1 D hD hf ⟨hs, f0, f1, f2, f3, f4, f5, f6, f7, f8, f9, f10, f11, f12, f13, f14, f15, f16, f17, f18, f19, f20, f21, f22⟩
    rw [hD 19 rfl] at hs
    have e22 := f22 (hD 22 rfl)
    clear f0 f1 f2 f3 f4 f5 f6 f7 f8 f9 f10 f11 f12 f13 f14 f15 f16 f17 f18 f19 f20 f21 f22
    obtain ⟨b12, hb12⟩ : ∃ b, bOf (ρ1 24) = b := ⟨_, rfl⟩
    try rw [hb12] at hs
    obtain ⟨ρ2, hρ⟩ : ∃ ρ2, ρ1 = upd (mix [5, 6, 7, 8, 9, 10, 11, 12, 13, 14, 15, 16, 17, 18, 19, 20, 21, 22, 23, 24, 25, 26, 4] ρ2 _) 4 (.bool (decide (orI [cmpI (cntO a) (cntO b), cmpI a.dot.rep b.dot.rep, cmpI a.dot.seq b.dot.seq] < 0))) := ⟨ρ1, upd_of (mix_of (ds := [5, 6, 7, 8, 9, 10, 11, 12, 13, 14, 15, 16, 17, 18, 19, 20, 21, 22, 23, 24, 25, 26, 4]) hf) e22⟩
    clear hf hD e22
    subst hρ
    refine W_ret ?_
    refine ⟨_, res_one (V := .bool (decide (orI [cmpI (cntO a) (cntO b), cmpI a.dot.rep b.dot.rep, cmpI a.dot.seq b.dot.seq] < 0))) Try.results74 rfl, ?_⟩
    refine ⟨congrArg Ending.returned ?_, hs.take 0⟩
    rfl
set_option maxRecDepth 20000 in
set_option maxHeartbeats 4000000 in
theorem oEnds_ok (w : World) (o e : Opn) (he : DotOk e.dot) : Calls Try.prog 73 #[.agg (oc o).toArray, .agg (oc e).toArray] w (fun r w' => r = .returned (.bool (endsB o e)) ∧ Own w no w' []) := by
  refine calls_of_Wn (n := 40) Try.func73 rfl Try.ntmps73 rfl ?_
  have hs := Own.start w
  refine W_seq ?_
  refine W_region ?_
  refine RW_op (L_box (V := .agg (oc o).toArray) (cs := oc o) rfl rfl hs fun b1 w2 hs => ?_)
  refine RW_op (L_box (V := .agg (oc e).toArray) (cs := oc e) rfl rfl hs fun b3 w4 hs => ?_)
  refine RW_op (L_assign (V := .bool false) rfl ?_)
  refine RW_nil ?_
  refine W_seq ?_
  refine W_seq ?_
  refine W_inv2 [5, 6, 7, 8, 9, 10, 11, 12, 13, 14, 15, 16, 17, 18, 19, 20, 21, 22] [[], [0], [1], [2, 1], [3], [4, 3], [3], [6, 3], [5, 7, 3], [3, 8], [9, 3], [10], [11, 10], [10], [13, 10], [12, 14, 10, 10], [15, 10], [10, 16]] (fun D ρ wx => Own w no wx [blk b1 (oc o) 59, blk b3 (oc e) 59] ∧ (D 0 = true → ρ 5 = .agg (oc e).toArray) ∧ (D 1 = true → ρ 6 = .bool (laysB e)) ∧ (D 2 = true → ρ 7 = .bool (!(laysB e))) ∧ (D 3 = true → ρ 8 = .bool (!(laysB e))) ∧ (D 4 = true → ρ 9 = cond ((!(laysB e)) == false) (.pointer (some ⟨b1, 0 + 3, none⟩)) undef) ∧ (D 5 = true → ρ 10 = cond ((!(laysB e)) == false) (.int .u16 o.cart) undef) ∧ (D 6 = true → ρ 11 = cond ((!(laysB e)) == false) (.pointer (some ⟨b3, 0 + 3, none⟩)) undef) ∧ (D 7 = true → ρ 12 = cond ((!(laysB e)) == false) (.int .u16 e.cart) undef) ∧ (D 8 = true → ρ 13 = cond ((!(laysB e)) == false) (.bool (!decide (o.cart = e.cart))) undef) ∧ (D 9 = true → ρ 14 = .bool ((!(laysB e)) || (!decide (o.cart = e.cart)))) ∧ (D 10 = true → ρ 15 = .bool ((!(laysB e)) || (!decide (o.cart = e.cart)))) ∧ (D 11 = true → ρ 16 = cond (((!(laysB e)) || (!decide (o.cart = e.cart))) == false) (.pointer (some ⟨b1, 0 + 7, none⟩)) undef) ∧ (D 12 = true → ρ 17 = cond (((!(laysB e)) || (!decide (o.cart = e.cart))) == false) (.agg (vc o.ctx).toArray) undef) ∧ (D 13 = true → ρ 18 = cond (((!(laysB e)) || (!decide (o.cart = e.cart))) == false) (.pointer (some ⟨b3, 0 + 0, none⟩)) undef) ∧ (D 14 = true → ρ 19 = cond (((!(laysB e)) || (!decide (o.cart = e.cart))) == false) (.agg (dc e.dot).toArray) undef) ∧ (D 15 = true → ρ 20 = cond (((!(laysB e)) || (!decide (o.cart = e.cart))) == false) (.bool (hasB o.ctx e.dot)) undef) ∧ (D 16 = true → ρ 21 = cond (((!(laysB e)) || (!decide (o.cart = e.cart))) == false) (.bool (!(hasB o.ctx e.dot))) undef) ∧ (D 17 = true → ρ 22 = .bool (((!(laysB e)) || (!decide (o.cart = e.cart))) || (!(hasB o.ctx e.dot))))) rfl rfl rfl ⟨hs, fun h => absurd h Bool.false_ne_true, fun h => absurd h Bool.false_ne_true, fun h => absurd h Bool.false_ne_true, fun h => absurd h Bool.false_ne_true, fun h => absurd h Bool.false_ne_true, fun h => absurd h Bool.false_ne_true, fun h => absurd h Bool.false_ne_true, fun h => absurd h Bool.false_ne_true, fun h => absurd h Bool.false_ne_true, fun h => absurd h Bool.false_ne_true, fun h => absurd h Bool.false_ne_true, fun h => absurd h Bool.false_ne_true, fun h => absurd h Bool.false_ne_true, fun h => absurd h Bool.false_ne_true, fun h => absurd h Bool.false_ne_true, fun h => absurd h Bool.false_ne_true, fun h => absurd h Bool.false_ne_true, fun h => absurd h Bool.false_ne_true⟩ ⟨?_, ?_, ?_, ?_, ?_, ?_, ?_, ?_, ?_, ?_, ?_, ?_, ?_, ?_, ?_, ?_, ?_, ?_, trivial⟩ ?_
  · rintro D ρ wx hD hd hdc hf ⟨hs, f0, f1, f2, f3, f4, f5, f6, f7, f8, f9, f10, f11, f12, f13, f14, f15, f16, f17⟩
    have r3 : ρ 3 = .pointer (some ⟨b3, 0, none⟩) := outD hf 3 rfl
    exact .inl ⟨rfl, L_ldW (cs := oc e) SA_59 hs 1 rfl r3 rfl ⟨hs, fun _ => rfl, f1, f2, f3, f4, f5, f6, f7, f8, f9, f10, f11, f12, f13, f14, f15, f16, f17⟩⟩
  · rintro D ρ wx hD hd hdc hf ⟨hs, f0, f1, f2, f3, f4, f5, f6, f7, f8, f9, f10, f11, f12, f13, f14, f15, f16, f17⟩
    have g0 := f0 (doneD hd 0 rfl)
    exact .inl ⟨rfl, L_callP (vs := [.agg (oc e).toArray]) (V := .bool (laysB e)) EN_85 rfl (mapc g0 rfl) (olays_ok _ e) hs fun _ hs0 => ⟨hs0, f0, fun _ => rfl, f2, f3, f4, f5, f6, f7, f8, f9, f10, f11, f12, f13, f14, f15, f16, f17⟩⟩
  · rintro D ρ wx hD hd hdc hf ⟨hs, f0, f1, f2, f3, f4, f5, f6, f7, f8, f9, f10, f11, f12, f13, f14, f15, f16, f17⟩
    have g1 := f1 (doneD hd 1 rfl)
    exact .inl ⟨rfl, L_not g1 ⟨hs, f0, f1, fun _ => rfl, f3, f4, f5, f6, f7, f8, f9, f10, f11, f12, f13, f14, f15, f16, f17⟩⟩
  · rintro D ρ wx hD hd hdc hf ⟨hs, f0, f1, f2, f3, f4, f5, f6, f7, f8, f9, f10, f11, f12, f13, f14, f15, f16, f17⟩
    have g2 := f2 (doneD hd 2 rfl)
    exact .inl ⟨rfl, L_move (V := .bool (!(laysB e))) g2 ⟨hs, f0, f1, f2, fun _ => rfl, f4, f5, f6, f7, f8, f9, f10, f11, f12, f13, f14, f15, f16, f17⟩⟩
  · rintro D ρ wx hD hd hdc hf ⟨hs, f0, f1, f2, f3, f4, f5, f6, f7, f8, f9, f10, f11, f12, f13, f14, f15, f16, f17⟩
    have r2 : ρ 2 = .pointer (some ⟨b1, 0, none⟩) := outD hf 2 rfl
    rcases Bool.eq_false_or_eq_true ((!(laysB e)) == false) with hG | hG
    rotate_left
    · exact .inr ⟨(Eq.trans (wantG1 (j := 3) rfl (f3 (doneD hd 3 rfl))) hG), ⟨hs, f0, f1, f2, f3, fun _ => (condF hG).symm, f5, f6, f7, f8, f9, f10, f11, f12, f13, f14, f15, f16, f17⟩⟩
    ·
      exact .inl ⟨(Eq.trans (wantG1 (j := 3) rfl (f3 (doneD hd 3 rfl))) hG), L_fieldAddr FA_59_2 r2 ⟨hs, f0, f1, f2, f3, fun _ => (condT hG).symm, f5, f6, f7, f8, f9, f10, f11, f12, f13, f14, f15, f16, f17⟩⟩
  · rintro D ρ wx hD hd hdc hf ⟨hs, f0, f1, f2, f3, f4, f5, f6, f7, f8, f9, f10, f11, f12, f13, f14, f15, f16, f17⟩
    have g4 := f4 (doneD hd 4 rfl)
    rcases Bool.eq_false_or_eq_true ((!(laysB e)) == false) with hG | hG
    rotate_left
    · exact .inr ⟨(Eq.trans (wantG1 (j := 3) rfl (f3 (doneD hd 3 rfl))) hG), ⟨hs, f0, f1, f2, f3, f4, fun _ => (condF hG).symm, f6, f7, f8, f9, f10, f11, f12, f13, f14, f15, f16, f17⟩⟩
    ·
      exact .inl ⟨(Eq.trans (wantG1 (j := 3) rfl (f3 (doneD hd 3 rfl))) hG), L_ld (V := .int .u16 o.cart) S1_57 hs 0 rfl ((g4).trans (condT (by exact hG))) rfl ⟨hs, f0, f1, f2, f3, f4, fun _ => (condT hG).symm, f6, f7, f8, f9, f10, f11, f12, f13, f14, f15, f16, f17⟩⟩
  · rintro D ρ wx hD hd hdc hf ⟨hs, f0, f1, f2, f3, f4, f5, f6, f7, f8, f9, f10, f11, f12, f13, f14, f15, f16, f17⟩
    have r3 : ρ 3 = .pointer (some ⟨b3, 0, none⟩) := outD hf 3 rfl
    rcases Bool.eq_false_or_eq_true ((!(laysB e)) == false) with hG | hG
    rotate_left
    · exact .inr ⟨(Eq.trans (wantG1 (j := 3) rfl (f3 (doneD hd 3 rfl))) hG), ⟨hs, f0, f1, f2, f3, f4, f5, fun _ => (condF hG).symm, f7, f8, f9, f10, f11, f12, f13, f14, f15, f16, f17⟩⟩
    ·
      exact .inl ⟨(Eq.trans (wantG1 (j := 3) rfl (f3 (doneD hd 3 rfl))) hG), L_fieldAddr FA_59_2 r3 ⟨hs, f0, f1, f2, f3, f4, f5, fun _ => (condT hG).symm, f7, f8, f9, f10, f11, f12, f13, f14, f15, f16, f17⟩⟩
  · rintro D ρ wx hD hd hdc hf ⟨hs, f0, f1, f2, f3, f4, f5, f6, f7, f8, f9, f10, f11, f12, f13, f14, f15, f16, f17⟩
    have g6 := f6 (doneD hd 6 rfl)
    rcases Bool.eq_false_or_eq_true ((!(laysB e)) == false) with hG | hG
    rotate_left
    · exact .inr ⟨(Eq.trans (wantG1 (j := 3) rfl (f3 (doneD hd 3 rfl))) hG), ⟨hs, f0, f1, f2, f3, f4, f5, f6, fun _ => (condF hG).symm, f8, f9, f10, f11, f12, f13, f14, f15, f16, f17⟩⟩
    ·
      exact .inl ⟨(Eq.trans (wantG1 (j := 3) rfl (f3 (doneD hd 3 rfl))) hG), L_ld (V := .int .u16 e.cart) S1_57 hs 1 rfl ((g6).trans (condT (by exact hG))) rfl ⟨hs, f0, f1, f2, f3, f4, f5, f6, fun _ => (condT hG).symm, f8, f9, f10, f11, f12, f13, f14, f15, f16, f17⟩⟩
  · rintro D ρ wx hD hd hdc hf ⟨hs, f0, f1, f2, f3, f4, f5, f6, f7, f8, f9, f10, f11, f12, f13, f14, f15, f16, f17⟩
    have g5 := f5 (doneD hd 5 rfl)
    have g7 := f7 (doneD hd 7 rfl)
    rcases Bool.eq_false_or_eq_true ((!(laysB e)) == false) with hG | hG
    rotate_left
    · exact .inr ⟨(Eq.trans (wantG1 (j := 3) rfl (f3 (doneD hd 3 rfl))) hG), ⟨hs, f0, f1, f2, f3, f4, f5, f6, f7, fun _ => (condF hG).symm, f9, f10, f11, f12, f13, f14, f15, f16, f17⟩⟩
    ·
      exact .inl ⟨(Eq.trans (wantG1 (j := 3) rfl (f3 (doneD hd 3 rfl))) hG), L_neq ((g5).trans (condT (by exact hG))) ((g7).trans (condT (by exact hG))) ⟨hs, f0, f1, f2, f3, f4, f5, f6, f7, fun _ => (condT hG).symm, f9, f10, f11, f12, f13, f14, f15, f16, f17⟩⟩
  · rintro D ρ wx hD hd hdc hf ⟨hs, f0, f1, f2, f3, f4, f5, f6, f7, f8, f9, f10, f11, f12, f13, f14, f15, f16, f17⟩
    have g3 := f3 (doneD hd 3 rfl)
    have g8 := f8 (doneD hd 8 rfl)
    exact .inl ⟨rfl, L_or g3 rfl (fun hg => ((g8).trans (condT (by first | exact beqT hg | rfl)))) ⟨hs, f0, f1, f2, f3, f4, f5, f6, f7, f8, fun _ => rfl, f10, f11, f12, f13, f14, f15, f16, f17⟩⟩
  · rintro D ρ wx hD hd hdc hf ⟨hs, f0, f1, f2, f3, f4, f5, f6, f7, f8, f9, f10, f11, f12, f13, f14, f15, f16, f17⟩
    have g9 := f9 (doneD hd 9 rfl)
    exact .inl ⟨rfl, L_move (V := .bool ((!(laysB e)) || (!decide (o.cart = e.cart)))) g9 ⟨hs, f0, f1, f2, f3, f4, f5, f6, f7, f8, f9, fun _ => rfl, f11, f12, f13, f14, f15, f16, f17⟩⟩
  · rintro D ρ wx hD hd hdc hf ⟨hs, f0, f1, f2, f3, f4, f5, f6, f7, f8, f9, f10, f11, f12, f13, f14, f15, f16, f17⟩
    have r2 : ρ 2 = .pointer (some ⟨b1, 0, none⟩) := outD hf 2 rfl
    rcases Bool.eq_false_or_eq_true (((!(laysB e)) || (!decide (o.cart = e.cart))) == false) with hG | hG
    rotate_left
    · exact .inr ⟨(Eq.trans (wantG1 (j := 10) rfl (f10 (doneD hd 10 rfl))) hG), ⟨hs, f0, f1, f2, f3, f4, f5, f6, f7, f8, f9, f10, fun _ => (condF hG).symm, f12, f13, f14, f15, f16, f17⟩⟩
    ·
      exact .inl ⟨(Eq.trans (wantG1 (j := 10) rfl (f10 (doneD hd 10 rfl))) hG), L_fieldAddr FA_59_6 r2 ⟨hs, f0, f1, f2, f3, f4, f5, f6, f7, f8, f9, f10, fun _ => (condT hG).symm, f12, f13, f14, f15, f16, f17⟩⟩
  · rintro D ρ wx hD hd hdc hf ⟨hs, f0, f1, f2, f3, f4, f5, f6, f7, f8, f9, f10, f11, f12, f13, f14, f15, f16, f17⟩
    have g11 := f11 (doneD hd 11 rfl)
    rcases Bool.eq_false_or_eq_true (((!(laysB e)) || (!decide (o.cart = e.cart))) == false) with hG | hG
    rotate_left
    · exact .inr ⟨(Eq.trans (wantG1 (j := 10) rfl (f10 (doneD hd 10 rfl))) hG), ⟨hs, f0, f1, f2, f3, f4, f5, f6, f7, f8, f9, f10, f11, fun _ => (condF hG).symm, f13, f14, f15, f16, f17⟩⟩
    ·
      exact .inl ⟨(Eq.trans (wantG1 (j := 10) rfl (f10 (doneD hd 10 rfl))) hG), L_ldA (vs := vc o.ctx) SA_24 hs 0 rfl ((g11).trans (condT (by exact hG))) rfl rfl ⟨hs, f0, f1, f2, f3, f4, f5, f6, f7, f8, f9, f10, f11, fun _ => (condT hG).symm, f13, f14, f15, f16, f17⟩⟩
  · rintro D ρ wx hD hd hdc hf ⟨hs, f0, f1, f2, f3, f4, f5, f6, f7, f8, f9, f10, f11, f12, f13, f14, f15, f16, f17⟩
    have r3 : ρ 3 = .pointer (some ⟨b3, 0, none⟩) := outD hf 3 rfl
    rcases Bool.eq_false_or_eq_true (((!(laysB e)) || (!decide (o.cart = e.cart))) == false) with hG | hG
    rotate_left
    · exact .inr ⟨(Eq.trans (wantG1 (j := 10) rfl (f10 (doneD hd 10 rfl))) hG), ⟨hs, f0, f1, f2, f3, f4, f5, f6, f7, f8, f9, f10, f11, f12, fun _ => (condF hG).symm, f14, f15, f16, f17⟩⟩
    ·
      exact .inl ⟨(Eq.trans (wantG1 (j := 10) rfl (f10 (doneD hd 10 rfl))) hG), L_fieldAddr FA_59_0 r3 ⟨hs, f0, f1, f2, f3, f4, f5, f6, f7, f8, f9, f10, f11, f12, fun _ => (condT hG).symm, f14, f15, f16, f17⟩⟩
  · rintro D ρ wx hD hd hdc hf ⟨hs, f0, f1, f2, f3, f4, f5, f6, f7, f8, f9, f10, f11, f12, f13, f14, f15, f16, f17⟩
    have g13 := f13 (doneD hd 13 rfl)
    rcases Bool.eq_false_or_eq_true (((!(laysB e)) || (!decide (o.cart = e.cart))) == false) with hG | hG
    rotate_left
    · exact .inr ⟨(Eq.trans (wantG1 (j := 10) rfl (f10 (doneD hd 10 rfl))) hG), ⟨hs, f0, f1, f2, f3, f4, f5, f6, f7, f8, f9, f10, f11, f12, f13, fun _ => (condF hG).symm, f15, f16, f17⟩⟩
    ·
      exact .inl ⟨(Eq.trans (wantG1 (j := 10) rfl (f10 (doneD hd 10 rfl))) hG), L_ldA (vs := dc e.dot) SA_34 hs 1 rfl ((g13).trans (condT (by exact hG))) rfl rfl ⟨hs, f0, f1, f2, f3, f4, f5, f6, f7, f8, f9, f10, f11, f12, f13, fun _ => (condT hG).symm, f15, f16, f17⟩⟩
  · rintro D ρ wx hD hd hdc hf ⟨hs, f0, f1, f2, f3, f4, f5, f6, f7, f8, f9, f10, f11, f12, f13, f14, f15, f16, f17⟩
    have g12 := f12 (doneD hd 12 rfl)
    have g14 := f14 (doneD hd 14 rfl)
    rcases Bool.eq_false_or_eq_true (((!(laysB e)) || (!decide (o.cart = e.cart))) == false) with hG | hG
    rotate_left
    · exact .inr ⟨(Eq.trans (wantG1 (j := 10) rfl (f10 (doneD hd 10 rfl))) hG), ⟨hs, f0, f1, f2, f3, f4, f5, f6, f7, f8, f9, f10, f11, f12, f13, f14, fun _ => (condF hG).symm, f16, f17⟩⟩
    ·
      exact .inl ⟨(Eq.trans (wantG1 (j := 10) rfl (f10 (doneD hd 10 rfl))) hG), L_callP (vs := [.agg (vc o.ctx).toArray, .agg (dc e.dot).toArray]) (V := .bool (hasB o.ctx e.dot)) EN_45 rfl (mapc ((g12).trans (condT (by exact hG))) (mapc ((g14).trans (condT (by exact hG))) rfl)) (vHas_ok _ o.ctx e.dot (by first | assumption | exact dotOk_mk (by omega) (by omega) (by omega) (by omega))) hs fun _ hs0 => ⟨hs0, f0, f1, f2, f3, f4, f5, f6, f7, f8, f9, f10, f11, f12, f13, f14, fun _ => (condT hG).symm, f16, f17⟩⟩
  · rintro D ρ wx hD hd hdc hf ⟨hs, f0, f1, f2, f3, f4, f5, f6, f7, f8, f9, f10, f11, f12, f13, f14, f15, f16, f17⟩
    have g15 := f15 (doneD hd 15 rfl)
    rcases Bool.eq_false_or_eq_true (((!(laysB e)) || (!decide (o.cart = e.cart))) == false) with hG | hG
    rotate_left
    · exact .inr ⟨(Eq.trans (wantG1 (j := 10) rfl (f10 (doneD hd 10 rfl))) hG), ⟨hs, f0, f1, f2, f3, f4, f5, f6, f7, f8, f9, f10, f11, f12, f13, f14, f15, fun _ => (condF hG).symm, f17⟩⟩
    ·
      exact .inl ⟨(Eq.trans (wantG1 (j := 10) rfl (f10 (doneD hd 10 rfl))) hG), L_not ((g15).trans (condT (by exact hG))) ⟨hs, f0, f1, f2, f3, f4, f5, f6, f7, f8, f9, f10, f11, f12, f13, f14, f15, fun _ => (condT hG).symm, f17⟩⟩
  · rintro D ρ wx hD hd hdc hf ⟨hs, f0, f1, f2, f3, f4, f5, f6, f7, f8, f9, f10, f11, f12, f13, f14, f15, f16, f17⟩
    have g10 := f10 (doneD hd 10 rfl)
    have g16 := f16 (doneD hd 16 rfl)
    exact .inl ⟨rfl, L_or g10 rfl (fun hg => ((g16).trans (condT (by first | exact beqT hg | rfl)))) ⟨hs, f0, f1, f2, f3, f4, f5, f6, f7, f8, f9, f10, f11, f12, f13, f14, f15, f16, fun _ => rfl⟩⟩
  · rintro ρ1 w1 D hD hf ⟨hs, f0, f1, f2, f3, f4, f5, f6, f7, f8, f9, f10, f11, f12, f13, f14, f15, f16, f17⟩
    have e17 := f17 (hD 17 rfl)
    clear f0 f1 f2 f3 f4 f5 f6 f7 f8 f9 f10 f11 f12 f13 f14 f15 f16 f17
    obtain ⟨ρ2, hρ⟩ : ∃ ρ2, ρ1 = upd (mix [5, 6, 7, 8, 9, 10, 11, 12, 13, 14, 15, 16, 17, 18, 19, 20, 21, 22] ρ2 _) 22 (.bool (((!(laysB e)) || (!decide (o.cart = e.cart))) || (!(hasB o.ctx e.dot)))) := ⟨ρ1, upd_of (mix_of (ds := [5, 6, 7, 8, 9, 10, 11, 12, 13, 14, 15, 16, 17, 18, 19, 20, 21, 22]) hf) e17⟩
    clear hf hD e17
    subst hρ
    refine W_cond (t := ((!(laysB e)) || (!decide (o.cart = e.cart))) || (!(hasB o.ctx e.dot))) rfl (fun c8 => ?_) (fun c8 => ?_)
    ·
      refine W_seq ?_
      refine W_region ?_
      refine RW_op (L_assign (V := .bool false) rfl ?_)
      refine RW_nil ?_
      refine W_ret ?_
      refine ⟨_, res_one (V := .bool false) Try.results73 rfl, ?_⟩
      refine ⟨congrArg Ending.returned ?_, hs.take 0⟩
      exact congrArg Value.bool (ends_no c8).symm
    ·
      have c8r := or_r c8
      replace c8 := or_l c8
      have c8rr := or_r c8
      replace c8 := or_l c8
      replace c8 := not_f c8
      replace c8rr := not_f c8rr
      replace c8rr := of_decide_eq_true c8rr
      replace c8r := not_f c8r
      refine W_skip ?_
      refine W_seq ?_
      refine W_seq ?_
      refine W_region ?_
      refine RW_op (L_fieldAddr FA_59_1 rfl ?_)
      refine RW_op (L_ld (V := .int .u8 o.kind) S1_5 hs 0 rfl rfl rfl ?_)
      refine RW_nil ?_
      refine W_block ?_
      refine W_seq ?_
      refine W_region ?_
      refine RW_op (L_eql rfl rfl ?_)
      refine RW_op (L_assign (V := .bool (decide (o.kind = 5))) rfl ?_)
      refine RW_nil ?_
      refine W_cond (t := decide (o.kind = 5)) rfl (fun c9 => ?_) (fun c9 => ?_)
      ·
        replace c9 := of_decide_eq_true c9
        refine W_seq ?_
        refine W_region ?_
        refine RW_op (L_assign (V := .bool true) rfl ?_)
        refine RW_nil ?_
        refine W_ret ?_
        refine ⟨_, res_one (V := .bool true) Try.results73 rfl, ?_⟩
        refine ⟨congrArg Ending.returned ?_, hs.take 0⟩
        rw [ends_if c8 c8rr c8r]
        refine congrArg Value.bool ?_
        simp_all
      ·
        replace c9 := of_decide_eq_false c9
        refine W_seq ?_
        refine W_seq ?_
        refine W_region ?_
        refine RW_op (L_eql rfl rfl ?_)
        refine RW_op (L_assign (V := .bool (decide (o.kind = 3))) rfl ?_)
        refine RW_nil ?_
        refine W_cond (t := decide (o.kind = 3)) rfl (fun c10 => ?_) (fun c10 => ?_)
        ·
          replace c10 := of_decide_eq_true c10
          refine W_skip ?_
          refine W_condT (congrArg Value.bool (decide_eq_true c10)) ?_
          refine W_seq ?_
          refine W_inv2 [30, 31, 32, 33, 34, 35, 36, 37, 38, 39, 4] [[], [0], [1], [2], [3], [4, 3], [3], [6, 3], [5, 7, 3], [3, 8], [9, 3, 0, 1, 2, 3, 4, 5, 6, 7, 8, 9]] (fun D ρ wx => Own w no wx [blk b1 (oc o) 59, blk b3 (oc e) 59] ∧ (D 0 = true → ρ 30 = .pointer (some ⟨b3, 0 + 2, none⟩)) ∧ (D 1 = true → ρ 31 = .int .u8 e.kind) ∧ (D 2 = true → ρ 32 = .bool (!decide (e.kind = 4))) ∧ (D 3 = true → ρ 33 = .bool (!decide (e.kind = 4))) ∧ (D 4 = true → ρ 34 = cond ((!decide (e.kind = 4)) == true) (.pointer (some ⟨b1, 0 + 4, none⟩)) undef) ∧ (D 5 = true → ρ 35 = cond ((!decide (e.kind = 4)) == true) (.int .u16 o.item) undef) ∧ (D 6 = true → ρ 36 = cond ((!decide (e.kind = 4)) == true) (.pointer (some ⟨b3, 0 + 4, none⟩)) undef) ∧ (D 7 = true → ρ 37 = cond ((!decide (e.kind = 4)) == true) (.int .u16 e.item) undef) ∧ (D 8 = true → ρ 38 = cond ((!decide (e.kind = 4)) == true) (.bool (decide (o.item = e.item))) undef) ∧ (D 9 = true → ρ 39 = .bool ((!decide (e.kind = 4)) && (decide (o.item = e.item)))) ∧ (D 10 = true → ρ 4 = .bool ((!decide (e.kind = 4)) && (decide (o.item = e.item))))) rfl rfl rfl ⟨hs, fun h => absurd h Bool.false_ne_true, fun h => absurd h Bool.false_ne_true, fun h => absurd h Bool.false_ne_true, fun h => absurd h Bool.false_ne_true, fun h => absurd h Bool.false_ne_true, fun h => absurd h Bool.false_ne_true, fun h => absurd h Bool.false_ne_true, fun h => absurd h Bool.false_ne_true, fun h => absurd h Bool.false_ne_true, fun h => absurd h Bool.false_ne_true, fun h => absurd h Bool.false_ne_true⟩ ⟨?_, ?_, ?_, ?_, ?_, ?_, ?_, ?_, ?_, ?_, ?_, trivial⟩ ?_
          · rintro D ρ wx hD hd hdc hf ⟨hs, f0, f1, f2, f3, f4, f5, f6, f7, f8, f9, f10⟩
            have r3 : ρ 3 = .pointer (some ⟨b3, 0, none⟩) := outD hf 3 rfl
            exact .inl ⟨rfl, L_fieldAddr FA_59_1 r3 ⟨hs, fun _ => rfl, f1, f2, f3, f4, f5, f6, f7, f8, f9, f10⟩⟩
          · rintro D ρ wx hD hd hdc hf ⟨hs, f0, f1, f2, f3, f4, f5, f6, f7, f8, f9, f10⟩
            have g0 := f0 (doneD hd 0 rfl)
            exact .inl ⟨rfl, L_ld (V := .int .u8 e.kind) S1_5 hs 1 rfl g0 rfl ⟨hs, f0, fun _ => rfl, f2, f3, f4, f5, f6, f7, f8, f9, f10⟩⟩
          · rintro D ρ wx hD hd hdc hf ⟨hs, f0, f1, f2, f3, f4, f5, f6, f7, f8, f9, f10⟩
            have g1 := f1 (doneD hd 1 rfl)
            exact .inl ⟨rfl, L_neq g1 rfl ⟨hs, f0, f1, fun _ => rfl, f3, f4, f5, f6, f7, f8, f9, f10⟩⟩
          · rintro D ρ wx hD hd hdc hf ⟨hs, f0, f1, f2, f3, f4, f5, f6, f7, f8, f9, f10⟩
            have g2 := f2 (doneD hd 2 rfl)
            exact .inl ⟨rfl, L_move (V := .bool (!decide (e.kind = 4))) g2 ⟨hs, f0, f1, f2, fun _ => rfl, f4, f5, f6, f7, f8, f9, f10⟩⟩
          · rintro D ρ wx hD hd hdc hf ⟨hs, f0, f1, f2, f3, f4, f5, f6, f7, f8, f9, f10⟩
            have r2 : ρ 2 = .pointer (some ⟨b1, 0, none⟩) := outD hf 2 rfl
            rcases Bool.eq_false_or_eq_true ((!decide (e.kind = 4)) == true) with hG | hG
            rotate_left
            · exact .inr ⟨(Eq.trans (wantG1 (j := 3) rfl (f3 (doneD hd 3 rfl))) hG), ⟨hs, f0, f1, f2, f3, fun _ => (condF hG).symm, f5, f6, f7, f8, f9, f10⟩⟩
            ·
              exact .inl ⟨(Eq.trans (wantG1 (j := 3) rfl (f3 (doneD hd 3 rfl))) hG), L_fieldAddr FA_59_3 r2 ⟨hs, f0, f1, f2, f3, fun _ => (condT hG).symm, f5, f6, f7, f8, f9, f10⟩⟩
          · rintro D ρ wx hD hd hdc hf ⟨hs, f0, f1, f2, f3, f4, f5, f6, f7, f8, f9, f10⟩
            have g4 := f4 (doneD hd 4 rfl)
            rcases Bool.eq_false_or_eq_true ((!decide (e.kind = 4)) == true) with hG | hG
            rotate_left
            · exact .inr ⟨(Eq.trans (wantG1 (j := 3) rfl (f3 (doneD hd 3 rfl))) hG), ⟨hs, f0, f1, f2, f3, f4, fun _ => (condF hG).symm, f6, f7, f8, f9, f10⟩⟩
            ·
              exact .inl ⟨(Eq.trans (wantG1 (j := 3) rfl (f3 (doneD hd 3 rfl))) hG), L_ld (V := .int .u16 o.item) S1_57 hs 0 rfl ((g4).trans (condT (by exact hG))) rfl ⟨hs, f0, f1, f2, f3, f4, fun _ => (condT hG).symm, f6, f7, f8, f9, f10⟩⟩
          · rintro D ρ wx hD hd hdc hf ⟨hs, f0, f1, f2, f3, f4, f5, f6, f7, f8, f9, f10⟩
            have r3 : ρ 3 = .pointer (some ⟨b3, 0, none⟩) := outD hf 3 rfl
            rcases Bool.eq_false_or_eq_true ((!decide (e.kind = 4)) == true) with hG | hG
            rotate_left
            · exact .inr ⟨(Eq.trans (wantG1 (j := 3) rfl (f3 (doneD hd 3 rfl))) hG), ⟨hs, f0, f1, f2, f3, f4, f5, fun _ => (condF hG).symm, f7, f8, f9, f10⟩⟩
            ·
              exact .inl ⟨(Eq.trans (wantG1 (j := 3) rfl (f3 (doneD hd 3 rfl))) hG), L_fieldAddr FA_59_3 r3 ⟨hs, f0, f1, f2, f3, f4, f5, fun _ => (condT hG).symm, f7, f8, f9, f10⟩⟩
          · rintro D ρ wx hD hd hdc hf ⟨hs, f0, f1, f2, f3, f4, f5, f6, f7, f8, f9, f10⟩
            have g6 := f6 (doneD hd 6 rfl)
            rcases Bool.eq_false_or_eq_true ((!decide (e.kind = 4)) == true) with hG | hG
            rotate_left
            · exact .inr ⟨(Eq.trans (wantG1 (j := 3) rfl (f3 (doneD hd 3 rfl))) hG), ⟨hs, f0, f1, f2, f3, f4, f5, f6, fun _ => (condF hG).symm, f8, f9, f10⟩⟩
            ·
              exact .inl ⟨(Eq.trans (wantG1 (j := 3) rfl (f3 (doneD hd 3 rfl))) hG), L_ld (V := .int .u16 e.item) S1_57 hs 1 rfl ((g6).trans (condT (by exact hG))) rfl ⟨hs, f0, f1, f2, f3, f4, f5, f6, fun _ => (condT hG).symm, f8, f9, f10⟩⟩
          · rintro D ρ wx hD hd hdc hf ⟨hs, f0, f1, f2, f3, f4, f5, f6, f7, f8, f9, f10⟩
            have g5 := f5 (doneD hd 5 rfl)
            have g7 := f7 (doneD hd 7 rfl)
            rcases Bool.eq_false_or_eq_true ((!decide (e.kind = 4)) == true) with hG | hG
            rotate_left
            · exact .inr ⟨(Eq.trans (wantG1 (j := 3) rfl (f3 (doneD hd 3 rfl))) hG), ⟨hs, f0, f1, f2, f3, f4, f5, f6, f7, fun _ => (condF hG).symm, f9, f10⟩⟩
            ·
              exact .inl ⟨(Eq.trans (wantG1 (j := 3) rfl (f3 (doneD hd 3 rfl))) hG), L_eql ((g5).trans (condT (by exact hG))) ((g7).trans (condT (by exact hG))) ⟨hs, f0, f1, f2, f3, f4, f5, f6, f7, fun _ => (condT hG).symm, f9, f10⟩⟩
          · rintro D ρ wx hD hd hdc hf ⟨hs, f0, f1, f2, f3, f4, f5, f6, f7, f8, f9, f10⟩
            have g3 := f3 (doneD hd 3 rfl)
            have g8 := f8 (doneD hd 8 rfl)
            exact .inl ⟨rfl, L_and g3 rfl (fun hg => ((g8).trans (condT (by first | exact beqT hg | rfl)))) ⟨hs, f0, f1, f2, f3, f4, f5, f6, f7, f8, fun _ => rfl, f10⟩⟩
          · rintro D ρ wx hD hd hdc hf ⟨hs, f0, f1, f2, f3, f4, f5, f6, f7, f8, f9, f10⟩
            have g9 := f9 (doneD hd 9 rfl)
            exact .inl ⟨rfl, L_assign (V := .bool ((!decide (e.kind = 4)) && (decide (o.item = e.item)))) g9 ⟨hs, f0, f1, f2, f3, f4, f5, f6, f7, f8, f9, fun _ => rfl⟩⟩
          · rintro ρ1 w1 D hD hf ⟨hs, f0, f1, f2, f3, f4, f5, f6, f7, f8, f9, f10⟩
            have e10 := f10 (hD 10 rfl)
            clear f0 f1 f2 f3 f4 f5 f6 f7 f8 f9 f10
            obtain ⟨ρ2, hρ⟩ : ∃ ρ2, ρ1 = upd (mix [30, 31, 32, 33, 34, 35, 36, 37, 38, 39, 4] ρ2 _) 4 (.bool ((!decide (e.kind = 4)) && (decide (o.item = e.item)))) := ⟨ρ1, upd_of (mix_of (ds := [30, 31, 32, 33, 34, 35, 36, 37, 38, 39, 4]) hf) e10⟩
            clear hf hD e10
            subst hρ
            refine W_ret ?_
            refine ⟨_, res_one (V := .bool ((!decide (e.kind = 4)) && (decide (o.item = e.item)))) Try.results73 rfl, ?_⟩
            refine ⟨congrArg Ending.returned ?_, hs.take 0⟩
            rw [ends_if c8 c8rr c8r]
            refine congrArg Value.bool ?_
            simp_all
        ·
          replace c10 := of_decide_eq_false c10
          refine W_region ?_
          refine RW_op (L_eql rfl rfl ?_)
          refine RW_op (L_assign (V := .bool (decide (o.kind = 2))) rfl ?_)
          refine RW_nil ?_
          refine W_cond (t := decide (o.kind = 2)) rfl (fun c12 => ?_) (fun c12 => ?_)
          ·
            replace c12 := of_decide_eq_true c12
            refine W_seq ?_
            refine W_inv2 [30, 31, 32, 33, 34, 35, 36, 37, 38, 39, 4] [[], [0], [1], [2], [3], [4, 3], [3], [6, 3], [5, 7, 3], [3, 8], [9, 3, 0, 1, 2, 3, 4, 5, 6, 7, 8, 9]] (fun D ρ wx => Own w no wx [blk b1 (oc o) 59, blk b3 (oc e) 59] ∧ (D 0 = true → ρ 30 = .pointer (some ⟨b3, 0 + 2, none⟩)) ∧ (D 1 = true → ρ 31 = .int .u8 e.kind) ∧ (D 2 = true → ρ 32 = .bool (!decide (e.kind = 4))) ∧ (D 3 = true → ρ 33 = .bool (!decide (e.kind = 4))) ∧ (D 4 = true → ρ 34 = cond ((!decide (e.kind = 4)) == true) (.pointer (some ⟨b1, 0 + 4, none⟩)) undef) ∧ (D 5 = true → ρ 35 = cond ((!decide (e.kind = 4)) == true) (.int .u16 o.item) undef) ∧ (D 6 = true → ρ 36 = cond ((!decide (e.kind = 4)) == true) (.pointer (some ⟨b3, 0 + 4, none⟩)) undef) ∧ (D 7 = true → ρ 37 = cond ((!decide (e.kind = 4)) == true) (.int .u16 e.item) undef) ∧ (D 8 = true → ρ 38 = cond ((!decide (e.kind = 4)) == true) (.bool (decide (o.item = e.item))) undef) ∧ (D 9 = true → ρ 39 = .bool ((!decide (e.kind = 4)) && (decide (o.item = e.item)))) ∧ (D 10 = true → ρ 4 = .bool ((!decide (e.kind = 4)) && (decide (o.item = e.item))))) rfl rfl rfl ⟨hs, fun h => absurd h Bool.false_ne_true, fun h => absurd h Bool.false_ne_true, fun h => absurd h Bool.false_ne_true, fun h => absurd h Bool.false_ne_true, fun h => absurd h Bool.false_ne_true, fun h => absurd h Bool.false_ne_true, fun h => absurd h Bool.false_ne_true, fun h => absurd h Bool.false_ne_true, fun h => absurd h Bool.false_ne_true, fun h => absurd h Bool.false_ne_true, fun h => absurd h Bool.false_ne_true⟩ ⟨?_, ?_, ?_, ?_, ?_, ?_, ?_, ?_, ?_, ?_, ?_, trivial⟩ ?_
            · rintro D ρ wx hD hd hdc hf ⟨hs, f0, f1, f2, f3, f4, f5, f6, f7, f8, f9, f10⟩
              have r3 : ρ 3 = .pointer (some ⟨b3, 0, none⟩) := outD hf 3 rfl
              exact .inl ⟨rfl, L_fieldAddr FA_59_1 r3 ⟨hs, fun _ => rfl, f1, f2, f3, f4, f5, f6, f7, f8, f9, f10⟩⟩
            · rintro D ρ wx hD hd hdc hf ⟨hs, f0, f1, f2, f3, f4, f5, f6, f7, f8, f9, f10⟩
              have g0 := f0 (doneD hd 0 rfl)
              exact .inl ⟨rfl, L_ld (V := .int .u8 e.kind) S1_5 hs 1 rfl g0 rfl ⟨hs, f0, fun _ => rfl, f2, f3, f4, f5, f6, f7, f8, f9, f10⟩⟩
            · rintro D ρ wx hD hd hdc hf ⟨hs, f0, f1, f2, f3, f4, f5, f6, f7, f8, f9, f10⟩
              have g1 := f1 (doneD hd 1 rfl)
              exact .inl ⟨rfl, L_neq g1 rfl ⟨hs, f0, f1, fun _ => rfl, f3, f4, f5, f6, f7, f8, f9, f10⟩⟩
            · rintro D ρ wx hD hd hdc hf ⟨hs, f0, f1, f2, f3, f4, f5, f6, f7, f8, f9, f10⟩
              have g2 := f2 (doneD hd 2 rfl)
              exact .inl ⟨rfl, L_move (V := .bool (!decide (e.kind = 4))) g2 ⟨hs, f0, f1, f2, fun _ => rfl, f4, f5, f6, f7, f8, f9, f10⟩⟩
            · rintro D ρ wx hD hd hdc hf ⟨hs, f0, f1, f2, f3, f4, f5, f6, f7, f8, f9, f10⟩
              have r2 : ρ 2 = .pointer (some ⟨b1, 0, none⟩) := outD hf 2 rfl
              rcases Bool.eq_false_or_eq_true ((!decide (e.kind = 4)) == true) with hG | hG
              rotate_left
              · exact .inr ⟨(Eq.trans (wantG1 (j := 3) rfl (f3 (doneD hd 3 rfl))) hG), ⟨hs, f0, f1, f2, f3, fun _ => (condF hG).symm, f5, f6, f7, f8, f9, f10⟩⟩
              ·
                exact .inl ⟨(Eq.trans (wantG1 (j := 3) rfl (f3 (doneD hd 3 rfl))) hG), L_fieldAddr FA_59_3 r2 ⟨hs, f0, f1, f2, f3, fun _ => (condT hG).symm, f5, f6, f7, f8, f9, f10⟩⟩
            · rintro D ρ wx hD hd hdc hf ⟨hs, f0, f1, f2, f3, f4, f5, f6, f7, f8, f9, f10⟩
              have g4 := f4 (doneD hd 4 rfl)
              rcases Bool.eq_false_or_eq_true ((!decide (e.kind = 4)) == true) with hG | hG
              rotate_left
              · exact .inr ⟨(Eq.trans (wantG1 (j := 3) rfl (f3 (doneD hd 3 rfl))) hG), ⟨hs, f0, f1, f2, f3, f4, fun _ => (condF hG).symm, f6, f7, f8, f9, f10⟩⟩
              ·
                exact .inl ⟨(Eq.trans (wantG1 (j := 3) rfl (f3 (doneD hd 3 rfl))) hG), L_ld (V := .int .u16 o.item) S1_57 hs 0 rfl ((g4).trans (condT (by exact hG))) rfl ⟨hs, f0, f1, f2, f3, f4, fun _ => (condT hG).symm, f6, f7, f8, f9, f10⟩⟩
            · rintro D ρ wx hD hd hdc hf ⟨hs, f0, f1, f2, f3, f4, f5, f6, f7, f8, f9, f10⟩
              have r3 : ρ 3 = .pointer (some ⟨b3, 0, none⟩) := outD hf 3 rfl
              rcases Bool.eq_false_or_eq_true ((!decide (e.kind = 4)) == true) with hG | hG
              rotate_left
              · exact .inr ⟨(Eq.trans (wantG1 (j := 3) rfl (f3 (doneD hd 3 rfl))) hG), ⟨hs, f0, f1, f2, f3, f4, f5, fun _ => (condF hG).symm, f7, f8, f9, f10⟩⟩
              ·
                exact .inl ⟨(Eq.trans (wantG1 (j := 3) rfl (f3 (doneD hd 3 rfl))) hG), L_fieldAddr FA_59_3 r3 ⟨hs, f0, f1, f2, f3, f4, f5, fun _ => (condT hG).symm, f7, f8, f9, f10⟩⟩
            · rintro D ρ wx hD hd hdc hf ⟨hs, f0, f1, f2, f3, f4, f5, f6, f7, f8, f9, f10⟩
              have g6 := f6 (doneD hd 6 rfl)
              rcases Bool.eq_false_or_eq_true ((!decide (e.kind = 4)) == true) with hG | hG
              rotate_left
              · exact .inr ⟨(Eq.trans (wantG1 (j := 3) rfl (f3 (doneD hd 3 rfl))) hG), ⟨hs, f0, f1, f2, f3, f4, f5, f6, fun _ => (condF hG).symm, f8, f9, f10⟩⟩
              ·
                exact .inl ⟨(Eq.trans (wantG1 (j := 3) rfl (f3 (doneD hd 3 rfl))) hG), L_ld (V := .int .u16 e.item) S1_57 hs 1 rfl ((g6).trans (condT (by exact hG))) rfl ⟨hs, f0, f1, f2, f3, f4, f5, f6, fun _ => (condT hG).symm, f8, f9, f10⟩⟩
            · rintro D ρ wx hD hd hdc hf ⟨hs, f0, f1, f2, f3, f4, f5, f6, f7, f8, f9, f10⟩
              have g5 := f5 (doneD hd 5 rfl)
              have g7 := f7 (doneD hd 7 rfl)
              rcases Bool.eq_false_or_eq_true ((!decide (e.kind = 4)) == true) with hG | hG
              rotate_left
              · exact .inr ⟨(Eq.trans (wantG1 (j := 3) rfl (f3 (doneD hd 3 rfl))) hG), ⟨hs, f0, f1, f2, f3, f4, f5, f6, f7, fun _ => (condF hG).symm, f9, f10⟩⟩
              ·
                exact .inl ⟨(Eq.trans (wantG1 (j := 3) rfl (f3 (doneD hd 3 rfl))) hG), L_eql ((g5).trans (condT (by exact hG))) ((g7).trans (condT (by exact hG))) ⟨hs, f0, f1, f2, f3, f4, f5, f6, f7, fun _ => (condT hG).symm, f9, f10⟩⟩
            · rintro D ρ wx hD hd hdc hf ⟨hs, f0, f1, f2, f3, f4, f5, f6, f7, f8, f9, f10⟩
              have g3 := f3 (doneD hd 3 rfl)
              have g8 := f8 (doneD hd 8 rfl)
              exact .inl ⟨rfl, L_and g3 rfl (fun hg => ((g8).trans (condT (by first | exact beqT hg | rfl)))) ⟨hs, f0, f1, f2, f3, f4, f5, f6, f7, f8, fun _ => rfl, f10⟩⟩
            · rintro D ρ wx hD hd hdc hf ⟨hs, f0, f1, f2, f3, f4, f5, f6, f7, f8, f9, f10⟩
              have g9 := f9 (doneD hd 9 rfl)
              exact .inl ⟨rfl, L_assign (V := .bool ((!decide (e.kind = 4)) && (decide (o.item = e.item)))) g9 ⟨hs, f0, f1, f2, f3, f4, f5, f6, f7, f8, f9, fun _ => rfl⟩⟩
            · rintro ρ1 w1 D hD hf ⟨hs, f0, f1, f2, f3, f4, f5, f6, f7, f8, f9, f10⟩
              have e10 := f10 (hD 10 rfl)
              clear f0 f1 f2 f3 f4 f5 f6 f7 f8 f9 f10
              obtain ⟨ρ2, hρ⟩ : ∃ ρ2, ρ1 = upd (mix [30, 31, 32, 33, 34, 35, 36, 37, 38, 39, 4] ρ2 _) 4 (.bool ((!decide (e.kind = 4)) && (decide (o.item = e.item)))) := ⟨ρ1, upd_of (mix_of (ds := [30, 31, 32, 33, 34, 35, 36, 37, 38, 39, 4]) hf) e10⟩
              clear hf hD e10
              subst hρ
              refine W_ret ?_
              refine ⟨_, res_one (V := .bool ((!decide (e.kind = 4)) && (decide (o.item = e.item)))) Try.results73 rfl, ?_⟩
              refine ⟨congrArg Ending.returned ?_, hs.take 0⟩
              rw [ends_if c8 c8rr c8r]
              refine congrArg Value.bool ?_
              simp_all
          ·
            replace c12 := of_decide_eq_false c12
            refine W_skip ?_
            refine W_seq ?_
            refine W_region ?_
            refine RW_op (L_assign (V := .bool false) rfl ?_)
            refine RW_nil ?_
            refine W_ret ?_
            refine ⟨_, res_one (V := .bool false) Try.results73 rfl, ?_⟩
            refine ⟨congrArg Ending.returned ?_, hs.take 0⟩
            rw [ends_if c8 c8rr c8r]
            refine congrArg Value.bool ?_
            simp_all
end Tf
end Go.Proofs
namespace Go.Proofs
open Go Go.Vx Go.RowKit
open Tt
namespace Tf
theorem EN_70 : En Try.prog 70 := Try.call70
theorem EN_71 : En Try.prog 71 := Try.call71
theorem EN_72 : En Try.prog 72 := Try.call72
theorem EN_73 : En Try.prog 73 := Try.call73
theorem EN_84 : En Try.prog 84 := Try.call84
theorem UD_56 : Ud Try.prog 56 (.slice 59) := Try.runUnderlying56
set_option maxRecDepth 20000 in
set_option maxHeartbeats 4000000 in
theorem fEnds_ok (w : World) (x o : Opn) (bx : Nat) (he : DotOk o.dot) (hc : CellsF w bx (oc o)) : Calls Try.prog 72 #[.agg (oc x).toArray, .pointer (some ⟨bx, 0, none⟩)] w (fun r w' => r = .returned (.bool (endsB x o)) ∧ Own w no w' []) := by
  refine calls_of_Wn (n := 7) Try.func72 rfl Try.ntmps72 rfl ?_
  have hs := Own.start w
  refine W_seq ?_
  refine W_region ?_
  refine RW_op (L_box (V := .agg (oc x).toArray) (cs := oc x) rfl rfl hs fun b1 w2 hs => ?_)
  refine RW_op (L_assign (V := .bool false) rfl ?_)
  refine RW_nil ?_
  refine W_seq ?_
  refine W_region ?_
  refine RW_op (L_ldW (cs := oc x) SA_59 hs 0 rfl rfl rfl ?_)
  refine RW_op (L_ldFA (vs := oc o) SA_59 (hc.own' hs) rfl rfl rfl ?_)
  refine RW_op (L_callP (vs := [.agg (oc x).toArray, .agg (oc o).toArray]) (V := .bool (endsB x o)) EN_73 rfl rfl ?hc hs fun w3 hs => ?_)
  case hc => exact (oEnds_ok _ x o (by assumption))
  refine RW_op (L_assign (V := .bool (endsB x o)) rfl ?_)
  refine RW_nil ?_
  refine W_ret ?_
  refine ⟨_, res_one (V := .bool (endsB x o)) Try.results72 rfl, ?_⟩
  refine ⟨congrArg Ending.returned ?_, hs.take 0⟩
  rfl
set_option maxRecDepth 20000 in
set_option maxHeartbeats 4000000 in
theorem ixO_ok (w : World) (a : Option Addr) (c : Nat) (l : List Opn) (o : Opn) (bx : Nat) (he : DotOk o.dot) (hc : CellsF w bx (oc o)) (hr : Rd w (.slice a l.length c) 23 (l.map oc)) : Calls Try.prog 84 #[.slice a l.length c, .func (.func 72) #[] #[.pointer (some ⟨bx, 0, none⟩)]] w (fun e w' => e = .returned (.int .i64 (idxB (fun x => endsB x o) l)) ∧ Own w no w' []) := by
  refine calls_of_Wn (n := 19) Try.func84 rfl Try.ntmps84 rfl ?_
  have hs := Own.start w
  have hn := hr.sml
  refine W_seq ?_
  refine W_region ?_
  refine RW_op (L_assign (V := .int .i64 0) rfl ?_)
  refine RW_nil ?_
  refine W_seq ?_
  refine W_seq ?_
  refine W_region ?_
  refine RW_op (L_move (V := .slice a l.length c) rfl ?_)
  refine RW_op (L_lenR (n := l.length) UD_56 (Rd.own' hr hs) (by simp) rfl ?_)
  refine RW_op (L_move (V := .int .i64 0) rfl ?_)
  refine RW_nil ?_
  refine W_block ?_
  refine W_loopI (fun ρ m ρ' w' => ∃ (ρo : Env) (k : Nat), ρ' = upd (mix [4, 5, 8, 9, 10, 11, 12, 13, 14, 15, 16, 17, 18] ρo ρ) 8 (.int .i64 (k : Int)) ∧ (k ≤ l.length) ∧ (∀ j : Nat, j < k → endsB (gd l j) o = false) ∧ m = l.length - k ∧ Own w no w' []) ?_ ?_
  · exact ⟨_, _, 0, upd_of (mix_of (ds := [4, 5, 8, 9, 10, 11, 12, 13, 14, 15, 16, 17, 18]) (Agr.refl _ _)) rfl, (by omega), (fun j hj => absurd hj (Nat.not_lt_zero j)), rfl, hs⟩
  · rintro m ρ' w1 ⟨ρo, k, rfl, hk, hno, rfl, hs⟩
    refine W_seq ?_
    refine W_region ?_
    refine RW_op (L_lss rfl rfl ?_)
    refine RW_nil ?_
    refine W_seq ?_
    refine W_cond (t := decide ((k : Int) < ((l.length : Nat) : Int))) rfl (fun c2 => ?_) (fun c2 => ?_)
    ·
      replace c2 := of_decide_eq_true c2
      refine W_skip ?_
      refine W_seq ?_
      refine W_block ?_
      refine W_seq ?_
      refine W_region ?_
      refine RW_op (L_move (V := .int .i64 (k : Int)) rfl ?_)
      refine RW_op (L_assign (V := .int .i64 (k : Int)) rfl ?_)
      refine RW_nil ?_
      refine W_seq ?_
      refine W_region ?_
      refine RW_op (L_move (V := .func (.func 72) #[] #[.pointer (some ⟨bx, 0, none⟩)]) rfl ?_)
      refine RW_op (L_move (V := .slice a l.length c) rfl ?_)
      refine RW_op (L_move (V := .int .i64 (k : Int)) rfl ?_)
      refine RW_op (L_ixR UD_56 SA_59.1 (Rd.own' hr hs) rfl rfl (by omega) (by rw [List.length_map]; omega) ?_)
      refine RW_op (L_ldRA (j := 0) (vs := oc (gd l k)) k SA_59 (Rd.own' hr hs) (gd_at (by omega)) rfl rfl rfl (by omega) ?_)
      refine RW_op (L_fnP (vs := [.agg (oc (gd l k)).toArray]) (cs := [.pointer (some ⟨bx, 0, none⟩)]) (V := .bool (endsB (gd l k) o)) EN_72 rfl rfl (fEnds_ok _ (gd l k) o bx he (hc.own' hs)) hs fun w3 hs => ?_)
      refine RW_nil ?_
      refine W_cond (t := endsB (gd l k) o) rfl (fun c4 => ?_) (fun c4 => ?_)
      ·
        refine W_seq ?_
        refine W_region ?_
        refine RW_op (L_move (V := .int .i64 (k : Int)) rfl ?_)
        refine RW_op (L_assign (V := .int .i64 (k : Int)) rfl ?_)
        refine RW_nil ?_
        refine W_ret ?_
        refine ⟨_, res_one (V := .int .i64 (k : Int)) Try.results84 rfl, ?_⟩
        refine ⟨congrArg Ending.returned ?_, hs.take 0⟩
        exact congrArg (Value.int .i64) (idx_yes (p := fun x => endsB x o) (by omega) hno c4).symm
      ·
        refine W_skip ?_
        refine W_region ?_
        refine RW_op (L_add (a := (k : Int)) (b := 1) (c := (k : Int) + 1) rfl rfl (wr_i64 (by omega) (by omega)) ?_)
        refine RW_op (L_move (V := .int .i64 ((k : Int) + 1)) rfl ?_)
        refine RW_nil ?_
        refine ⟨_, ?_, _, k + 1, upd_of (mix_of (ds := [4, 5, 8, 9, 10, 11, 12, 13, 14, 15, 16, 17, 18]) (by repeat (first | exact Agr.refl _ _ | refine Agr.upd ?_ rfl | refine Agr.mix ?_ rfl))) rfl, (by omega), (no_step (p := fun x => endsB x o) hno c4), rfl, hs.take 0⟩
        omega
    ·
      replace c2 := of_decide_eq_false c2
      refine W_exit ?_
      refine W_seq ?_
      refine W_region ?_
      refine RW_op (L_assign (V := .int .i64 (-1)) rfl ?_)
      refine RW_nil ?_
      refine W_ret ?_
      refine ⟨_, res_one (V := .int .i64 (-1)) Try.results84 rfl, ?_⟩
      refine ⟨congrArg Ending.returned ?_, hs.take 0⟩
      exact congrArg (Value.int .i64) (idx_no (p := fun x => endsB x o) fun j hj => hno j (by omega)).symm
set_option maxRecDepth 20000 in
set_option maxHeartbeats 4000000 in
theorem anyO_ok (w : World) (a : Option Addr) (c : Nat) (l : List Opn) (o : Opn) (bx : Nat) (he : DotOk o.dot) (hc : CellsF w bx (oc o)) (hr : Rd w (.slice a l.length c) 23 (l.map oc)) : Calls Try.prog 71 #[.slice a l.length c, .func (.func 72) #[] #[.pointer (some ⟨bx, 0, none⟩)]] w (fun e w' => e = .returned (.bool (l.any fun x => endsB x o)) ∧ Own w no w' []) := by
  refine calls_of_Wn (n := 9) Try.func71 rfl Try.ntmps71 rfl ?_
  have hs := Own.start w
  refine W_seq ?_
  refine W_region ?_
  refine RW_op (L_assign (V := .bool false) rfl ?_)
  refine RW_nil ?_
  refine W_seq ?_
  refine W_region ?_
  refine RW_op (L_move (V := .slice a l.length c) rfl ?_)
  refine RW_op (L_move (V := .func (.func 72) #[] #[.pointer (some ⟨bx, 0, none⟩)]) rfl ?_)
  refine RW_op (L_callP (vs := [.slice a l.length c, .func (.func 72) #[] #[.pointer (some ⟨bx, 0, none⟩)]]) (V := .int .i64 (idxB (fun x => endsB x o) l)) EN_84 rfl rfl ?hc hs fun w1 hs => ?_)
  case hc => exact (ixO_ok _ a c l o bx (by assumption) (hc.own' hs) (Rd.own' hr hs))
  refine RW_op (L_geq rfl rfl ?_)
  refine RW_op (L_assign (V := .bool (decide (0 ≤ idxB (fun x => endsB x o) l))) rfl ?_)
  refine RW_nil ?_
  refine W_ret ?_
  refine ⟨_, res_one (V := .bool (decide (0 ≤ idxB (fun x => endsB x o) l))) Try.results71 rfl, ?_⟩
  refine ⟨congrArg Ending.returned ?_, hs.take 0⟩
  exact congrArg Value.bool idx_any
set_option maxRecDepth 20000 in
set_option maxHeartbeats 4000000 in
theorem fLive_ok (w : World) (a : Option Addr) (c : Nat) (l : List Opn) (o : Opn) (he : DotOk o.dot) (hr : Rd w (.slice a l.length c) 23 (l.map oc)) : Calls Try.prog 54 #[.slice a l.length c, .agg (oc o).toArray] w (fun e w' => e = .returned (.bool (liveB l o)) ∧ Own w no w' []) := by
  refine calls_of_Wn (n := 13) Try.func54 rfl Try.ntmps54 rfl ?_
  have hs := Own.start w
  refine W_seq ?_
  refine W_region ?_
  refine RW_op (L_box (V := .agg (oc o).toArray) (cs := oc o) rfl rfl hs fun b1 w2 hs => ?_)
  refine RW_op (L_assign (V := .bool false) rfl ?_)
  refine RW_nil ?_
  refine W_seq ?_
  refine W_inv2 [5, 6, 7, 8, 9, 10, 11, 12, 4] [[], [0], [1, 1], [2], [2], [3, 4, 2, 2], [5, 2], [2, 6], [7, 5, 0, 1, 2, 3, 4, 5, 6, 7]] (fun D ρ wx => Own w no wx [blk b1 (oc o) 59] ∧ (D 0 = true → ρ 5 = .agg (oc o).toArray) ∧ (D 1 = true → ρ 6 = .bool (laysB o)) ∧ (D 2 = true → ρ 7 = .bool (laysB o)) ∧ (D 3 = true → ρ 8 = cond ((laysB o) == true) (.slice a l.length c) undef) ∧ (D 4 = true → ρ 9 = cond ((laysB o) == true) (.func (.func 72) #[] #[.pointer (some ⟨b1, 0, none⟩)]) undef) ∧ (D 5 = true → ρ 10 = cond ((laysB o) == true) (.bool (l.any fun x => endsB x o)) undef) ∧ (D 6 = true → ρ 11 = cond ((laysB o) == true) (.bool (!(l.any fun x => endsB x o))) undef) ∧ (D 7 = true → ρ 12 = .bool ((laysB o) && (!(l.any fun x => endsB x o)))) ∧ (D 8 = true → ρ 4 = .bool ((laysB o) && (!(l.any fun x => endsB x o))))) rfl rfl rfl ⟨hs, fun h => absurd h Bool.false_ne_true, fun h => absurd h Bool.false_ne_true, fun h => absurd h Bool.false_ne_true, fun h => absurd h Bool.false_ne_true, fun h => absurd h Bool.false_ne_true, fun h => absurd h Bool.false_ne_true, fun h => absurd h Bool.false_ne_true, fun h => absurd h Bool.false_ne_true, fun h => absurd h Bool.false_ne_true⟩ ⟨?_, ?_, ?_, ?_, ?_, ?_, ?_, ?_, ?_, trivial⟩ ?_
  · rintro D ρ wx hD hd hdc hf ⟨hs, f0, f1, f2, f3, f4, f5, f6, f7, f8⟩
    have r3 : ρ 3 = .pointer (some ⟨b1, 0, none⟩) := outD hf 3 rfl
    exact .inl ⟨rfl, L_ldW (cs := oc o) SA_59 hs 0 rfl r3 rfl ⟨hs, fun _ => rfl, f1, f2, f3, f4, f5, f6, f7, f8⟩⟩
  · rintro D ρ wx hD hd hdc hf ⟨hs, f0, f1, f2, f3, f4, f5, f6, f7, f8⟩
    have g0 := f0 (doneD hd 0 rfl)
    exact .inl ⟨rfl, L_callP (vs := [.agg (oc o).toArray]) (V := .bool (laysB o)) EN_70 rfl (mapc g0 rfl) (flays_ok _ o) hs fun _ hs0 => ⟨hs0, f0, fun _ => rfl, f2, f3, f4, f5, f6, f7, f8⟩⟩
  · rintro D ρ wx hD hd hdc hf ⟨hs, f0, f1, f2, f3, f4, f5, f6, f7, f8⟩
    have g1 := f1 (doneD hd 1 rfl)
    exact .inl ⟨rfl, L_move (V := .bool (laysB o)) g1 ⟨hs, f0, f1, fun _ => rfl, f3, f4, f5, f6, f7, f8⟩⟩
  · rintro D ρ wx hD hd hdc hf ⟨hs, f0, f1, f2, f3, f4, f5, f6, f7, f8⟩
    have r0 : ρ 0 = .slice a l.length c := outD hf 0 rfl
    rcases Bool.eq_false_or_eq_true ((laysB o) == true) with hG | hG
    rotate_left
    · exact .inr ⟨(Eq.trans (wantG1 (j := 2) rfl (f2 (doneD hd 2 rfl))) hG), ⟨hs, f0, f1, f2, fun _ => (condF hG).symm, f4, f5, f6, f7, f8⟩⟩
    ·
      exact .inl ⟨(Eq.trans (wantG1 (j := 2) rfl (f2 (doneD hd 2 rfl))) hG), L_move (V := .slice a l.length c) r0 ⟨hs, f0, f1, f2, fun _ => (condT hG).symm, f4, f5, f6, f7, f8⟩⟩
  · rintro D ρ wx hD hd hdc hf ⟨hs, f0, f1, f2, f3, f4, f5, f6, f7, f8⟩
    have r3 : ρ 3 = .pointer (some ⟨b1, 0, none⟩) := outD hf 3 rfl
    rcases Bool.eq_false_or_eq_true ((laysB o) == true) with hG | hG
    rotate_left
    · exact .inr ⟨(Eq.trans (wantG1 (j := 2) rfl (f2 (doneD hd 2 rfl))) hG), ⟨hs, f0, f1, f2, f3, fun _ => (condF hG).symm, f5, f6, f7, f8⟩⟩
    ·
      exact .inl ⟨(Eq.trans (wantG1 (j := 2) rfl (f2 (doneD hd 2 rfl))) hG), L_makeFunc (cs := [.pointer (some ⟨b1, 0, none⟩)]) rfl (mapc r3 rfl) ⟨hs, f0, f1, f2, f3, fun _ => (condT hG).symm, f5, f6, f7, f8⟩⟩
  · rintro D ρ wx hD hd hdc hf ⟨hs, f0, f1, f2, f3, f4, f5, f6, f7, f8⟩
    have g3 := f3 (doneD hd 3 rfl)
    have g4 := f4 (doneD hd 4 rfl)
    rcases Bool.eq_false_or_eq_true ((laysB o) == true) with hG | hG
    rotate_left
    · exact .inr ⟨(Eq.trans (wantG1 (j := 2) rfl (f2 (doneD hd 2 rfl))) hG), ⟨hs, f0, f1, f2, f3, f4, fun _ => (condF hG).symm, f6, f7, f8⟩⟩
    ·
      exact .inl ⟨(Eq.trans (wantG1 (j := 2) rfl (f2 (doneD hd 2 rfl))) hG), L_callP (vs := [.slice a l.length c, .func (.func 72) #[] #[.pointer (some ⟨b1, 0, none⟩)]]) (V := .bool (l.any fun x => endsB x o)) EN_71 rfl (mapc ((g3).trans (condT (by exact hG))) (mapc ((g4).trans (condT (by exact hG))) rfl)) (anyO_ok _ a c l o b1 (by assumption) (hs.cellsf 0 rfl) (Rd.own' hr hs)) hs fun _ hs0 => ⟨hs0, f0, f1, f2, f3, f4, fun _ => (condT hG).symm, f6, f7, f8⟩⟩
  · rintro D ρ wx hD hd hdc hf ⟨hs, f0, f1, f2, f3, f4, f5, f6, f7, f8⟩
    have g5 := f5 (doneD hd 5 rfl)
    rcases Bool.eq_false_or_eq_true ((laysB o) == true) with hG | hG
    rotate_left
    · exact .inr ⟨(Eq.trans (wantG1 (j := 2) rfl (f2 (doneD hd 2 rfl))) hG), ⟨hs, f0, f1, f2, f3, f4, f5, fun _ => (condF hG).symm, f7, f8⟩⟩
    ·
      exact .inl ⟨(Eq.trans (wantG1 (j := 2) rfl (f2 (doneD hd 2 rfl))) hG), L_not ((g5).trans (condT (by exact hG))) ⟨hs, f0, f1, f2, f3, f4, f5, fun _ => (condT hG).symm, f7, f8⟩⟩
  · rintro D ρ wx hD hd hdc hf ⟨hs, f0, f1, f2, f3, f4, f5, f6, f7, f8⟩
    have g2 := f2 (doneD hd 2 rfl)
    have g6 := f6 (doneD hd 6 rfl)
    exact .inl ⟨rfl, L_and g2 rfl (fun hg => ((g6).trans (condT (by first | exact beqT hg | rfl)))) ⟨hs, f0, f1, f2, f3, f4, f5, f6, fun _ => rfl, f8⟩⟩
  · rintro D ρ wx hD hd hdc hf ⟨hs, f0, f1, f2, f3, f4, f5, f6, f7, f8⟩
    have g7 := f7 (doneD hd 7 rfl)
    exact .inl ⟨rfl, L_assign (V := .bool ((laysB o) && (!(l.any fun x => endsB x o)))) g7 ⟨hs, f0, f1, f2, f3, f4, f5, f6, f7, fun _ => rfl⟩⟩
  · rintro ρ1 w1 D hD hf ⟨hs, f0, f1, f2, f3, f4, f5, f6, f7, f8⟩
    have e8 := f8 (hD 8 rfl)
    clear f0 f1 f2 f3 f4 f5 f6 f7 f8
    obtain ⟨ρ2, hρ⟩ : ∃ ρ2, ρ1 = upd (mix [5, 6, 7, 8, 9, 10, 11, 12, 4] ρ2 _) 4 (.bool ((laysB o) && (!(l.any fun x => endsB x o)))) := ⟨ρ1, upd_of (mix_of (ds := [5, 6, 7, 8, 9, 10, 11, 12, 4]) hf) e8⟩
    clear hf hD e8
    subst hρ
    refine W_ret ?_
    refine ⟨_, res_one (V := .bool ((laysB o) && (!(l.any fun x => endsB x o)))) Try.results54 rfl, ?_⟩
    refine ⟨congrArg Ending.returned ?_, hs.take 0⟩
    rfl
end Tf
end Go.Proofs
namespace Go.Proofs
open Go Go.Vx Go.RowKit
open Tt
namespace Tf
theorem S1_4 : T1 Try.prog 4 := ⟨Try.sizeOf4, Try.isAgg4⟩
theorem SA_94 : TA Try.prog 94 25 := ⟨Try.sizeOf94, Try.isAgg94⟩
theorem EN_74 : En Try.prog 74 := Try.call74
theorem FA_59_4 : FA Try.prog 59 4 5 := fun b o w => by simp [Instr.fieldAt, Instr.sureAddr, fieldPlace, add_eq]
theorem FA_94_0 : FA Try.prog 94 0 0 := fun b o w => by simp [Instr.fieldAt, Instr.sureAddr, fieldPlace, add_eq]
theorem FA_94_1 : FA Try.prog 94 1 1 := fun b o w => by simp [Instr.fieldAt, Instr.sureAddr, fieldPlace, add_eq]
theorem FA_94_2 : FA Try.prog 94 2 24 := fun b o w => by simp [Instr.fieldAt, Instr.sureAddr, fieldPlace, add_eq]
theorem UD_57 : Ud Try.prog 57 (.int .u16) := Try.runUnderlying57
theorem ZV_94 : Zv Try.prog 94 (.agg (talc (⟨0, (⟨(⟨0, 0⟩ : Dot), 0, 0, 0, 0, 0, vzero⟩ : Opn), false⟩ : Tal)).toArray) := Try.zeroValue94
set_option maxRecDepth 20000 in
set_option maxHeartbeats 4000000 in
theorem fTake_ok (w : World) (t : Tal) (o : Opn) (ht : VecOk t.set.ctx) (hO : OpnOk o) : Calls Try.prog 55 #[.agg (talc t).toArray, .agg (oc o).toArray] w (fun e w' => e = .returned (tv (takeT t o)) ∧ Own w no w' []) := by
  refine calls_of_Wn (n := 30) Try.func55 rfl Try.ntmps55 rfl ?_
  have hs := Own.start w
  have ⟨_, _, _, _, ⟨hq1, hq2⟩, _, ho⟩ := hO
  refine W_seq ?_
  refine W_region ?_
  refine RW_op (L_box (V := .agg (talc t).toArray) (cs := talc t) rfl rfl hs fun b1 w2 hs => ?_)
  refine RW_op (L_box (V := .agg (oc o).toArray) (cs := oc o) rfl rfl hs fun b3 w4 hs => ?_)
  refine RW_op (L_alloc (cs := talc (⟨0, (⟨(⟨0, 0⟩ : Dot), 0, 0, 0, 0, 0, vzero⟩ : Opn), false⟩ : Tal)) ZV_94 rfl hs fun b5 w6 hs => ?_)
  refine RW_nil ?_
  refine W_seq ?_
  refine W_block ?_
  refine W_seq ?_
  refine W_region ?_
  refine RW_op (L_fieldAddr FA_59_1 rfl ?_)
  refine RW_op (L_ld (V := .int .u8 o.kind) S1_5 hs 1 rfl rfl rfl ?_)
  refine RW_op (L_eql rfl rfl ?_)
  refine RW_op (L_assign (V := .bool (decide (o.kind = 1))) rfl ?_)
  refine RW_nil ?_
  refine W_cond (t := decide (o.kind = 1)) rfl (fun c7 => ?_) (fun c7 => ?_)
  ·
    replace c7 := of_decide_eq_true c7
    refine W_region ?_
    refine RW_op (L_fieldAddr FA_94_0 rfl ?_)
    refine RW_op (L_ld (V := .int .u32 t.sum) S1_22 hs 0 rfl rfl rfl ?_)
    refine RW_op (L_fieldAddr FA_59_4 rfl ?_)
    refine RW_op (L_ld (V := .int .u16 o.qty) S1_57 hs 1 rfl rfl rfl ?_)
    refine RW_op (L_conv UD_57 UD_22 rfl (wr_u32 (by omega) (by omega)) ?_)
    refine RW_op (L_add (a := t.sum) (b := o.qty) (c := (t.sum + o.qty) % 4294967296) rfl rfl (wm_u32 _) ?_)
    refine RW_op (L_fieldAddr FA_94_0 rfl ?_)
    refine RW_op (L_st1 (V := .int .u32 ((t.sum + o.qty) % 4294967296)) (cs' := talc (⟨(t.sum + o.qty) % 4294967296, t.set, t.has⟩ : Tal)) S1_22 hs 0 rfl rfl rfl rfl (Nat.le_of_ble_eq_true rfl) rfl fun w8 hs => ?_)
    replace hs : Own w no w8 [blk b1 (talc (⟨(t.sum + o.qty) % 4294967296, t.set, t.has⟩ : Tal)) 94, blk b3 (oc o) 59, blk b5 (talc (⟨0, (⟨(⟨0, 0⟩ : Dot), 0, 0, 0, 0, 0, vzero⟩ : Opn), false⟩ : Tal)) 94] := hs
    refine RW_nil ?_
    refine W_seq ?_
    refine W_region ?_
    refine RW_op (L_ldW (cs := talc (⟨(t.sum + o.qty) % 4294967296, t.set, t.has⟩ : Tal)) SA_94 hs 0 rfl rfl rfl ?_)
    refine RW_op (L_st (V := .agg (talc (⟨(t.sum + o.qty) % 4294967296, t.set, t.has⟩ : Tal)).toArray) (vs := talc (⟨(t.sum + o.qty) % 4294967296, t.set, t.has⟩ : Tal)) (cs' := talc (⟨(t.sum + o.qty) % 4294967296, t.set, t.has⟩ : Tal)) SA_94.1 hs 2 rfl rfl rfl rfl rfl (Nat.le_of_ble_eq_true rfl) (talc_one _) (spl_whole rfl) fun w9 hs => ?_)
    refine RW_nil ?_
    refine W_ret ?_
    refine ⟨_, res_cell (cs := talc (⟨(t.sum + o.qty) % 4294967296, t.set, t.has⟩ : Tal)) Try.results55 SA_94 hs 2 rfl rfl rfl, ?_⟩
    refine ⟨congrArg Ending.returned ?_, hs.take 0⟩
    unfold takeT
    rw [if_pos c7]; rfl
  ·
    replace c7 := of_decide_eq_false c7
    refine W_seq ?_
    refine W_inv2 [17, 18, 19, 20, 21, 22, 23, 24, 25, 16] [[], [0], [1], [2], [3], [4, 3], [3], [5, 6, 3, 3], [3, 7], [8, 7]] (fun D ρ wx => Own w no wx [blk b1 (talc t) 94, blk b3 (oc o) 59, blk b5 (talc (⟨0, (⟨(⟨0, 0⟩ : Dot), 0, 0, 0, 0, 0, vzero⟩ : Opn), false⟩ : Tal)) 94] ∧ (D 0 = true → ρ 17 = .pointer (some ⟨b1, 0 + 24, none⟩)) ∧ (D 1 = true → ρ 18 = .bool t.has) ∧ (D 2 = true → ρ 19 = .bool (!t.has)) ∧ (D 3 = true → ρ 20 = .bool (!t.has)) ∧ (D 4 = true → ρ 21 = cond ((!t.has) == false) (.pointer (some ⟨b1, 0 + 1, none⟩)) undef) ∧ (D 5 = true → ρ 22 = cond ((!t.has) == false) (.agg (oc t.set).toArray) undef) ∧ (D 6 = true → ρ 23 = cond ((!t.has) == false) (.agg (oc o).toArray) undef) ∧ (D 7 = true → ρ 24 = cond ((!t.has) == false) (.bool (lessB t.set o)) undef) ∧ (D 8 = true → ρ 25 = .bool ((!t.has) || (lessB t.set o))) ∧ (D 9 = true → ρ 16 = .bool ((!t.has) || (lessB t.set o)))) rfl rfl rfl ⟨hs, fun h => absurd h Bool.false_ne_true, fun h => absurd h Bool.false_ne_true, fun h => absurd h Bool.false_ne_true, fun h => absurd h Bool.false_ne_true, fun h => absurd h Bool.false_ne_true, fun h => absurd h Bool.false_ne_true, fun h => absurd h Bool.false_ne_true, fun h => absurd h Bool.false_ne_true, fun h => absurd h Bool.false_ne_true, fun h => absurd h Bool.false_ne_true⟩ ⟨?_, ?_, ?_, ?_, ?_, ?_, ?_, ?_, ?_, ?_, trivial⟩ ?_
    · rintro D ρ wx hD hd hdc hf ⟨hs, f0, f1, f2, f3, f4, f5, f6, f7, f8, f9⟩
      have r2 : ρ 2 = .pointer (some ⟨b1, 0, none⟩) := outD hf 2 rfl
      exact .inl ⟨rfl, L_fieldAddr FA_94_2 r2 ⟨hs, fun _ => rfl, f1, f2, f3, f4, f5, f6, f7, f8, f9⟩⟩
    · rintro D ρ wx hD hd hdc hf ⟨hs, f0, f1, f2, f3, f4, f5, f6, f7, f8, f9⟩
      have g0 := f0 (doneD hd 0 rfl)
      exact .inl ⟨rfl, L_ld (V := .bool t.has) S1_4 hs 0 rfl g0 rfl ⟨hs, f0, fun _ => rfl, f2, f3, f4, f5, f6, f7, f8, f9⟩⟩
    · rintro D ρ wx hD hd hdc hf ⟨hs, f0, f1, f2, f3, f4, f5, f6, f7, f8, f9⟩
      have g1 := f1 (doneD hd 1 rfl)
      exact .inl ⟨rfl, L_not g1 ⟨hs, f0, f1, fun _ => rfl, f3, f4, f5, f6, f7, f8, f9⟩⟩
    · rintro D ρ wx hD hd hdc hf ⟨hs, f0, f1, f2, f3, f4, f5, f6, f7, f8, f9⟩
      have g2 := f2 (doneD hd 2 rfl)
      exact .inl ⟨rfl, L_move (V := .bool (!t.has)) g2 ⟨hs, f0, f1, f2, fun _ => rfl, f4, f5, f6, f7, f8, f9⟩⟩
    · rintro D ρ wx hD hd hdc hf ⟨hs, f0, f1, f2, f3, f4, f5, f6, f7, f8, f9⟩
      have r2 : ρ 2 = .pointer (some ⟨b1, 0, none⟩) := outD hf 2 rfl
      rcases Bool.eq_false_or_eq_true ((!t.has) == false) with hG | hG
      rotate_left
      · exact .inr ⟨(Eq.trans (wantG1 (j := 3) rfl (f3 (doneD hd 3 rfl))) hG), ⟨hs, f0, f1, f2, f3, fun _ => (condF hG).symm, f5, f6, f7, f8, f9⟩⟩
      ·
        exact .inl ⟨(Eq.trans (wantG1 (j := 3) rfl (f3 (doneD hd 3 rfl))) hG), L_fieldAddr FA_94_1 r2 ⟨hs, f0, f1, f2, f3, fun _ => (condT hG).symm, f5, f6, f7, f8, f9⟩⟩
    · rintro D ρ wx hD hd hdc hf ⟨hs, f0, f1, f2, f3, f4, f5, f6, f7, f8, f9⟩
      have g4 := f4 (doneD hd 4 rfl)
      rcases Bool.eq_false_or_eq_true ((!t.has) == false) with hG | hG
      rotate_left
      · exact .inr ⟨(Eq.trans (wantG1 (j := 3) rfl (f3 (doneD hd 3 rfl))) hG), ⟨hs, f0, f1, f2, f3, f4, fun _ => (condF hG).symm, f6, f7, f8, f9⟩⟩
      ·
        exact .inl ⟨(Eq.trans (wantG1 (j := 3) rfl (f3 (doneD hd 3 rfl))) hG), L_ldA (vs := oc t.set) SA_59 hs 0 rfl ((g4).trans (condT (by exact hG))) rfl rfl ⟨hs, f0, f1, f2, f3, f4, fun _ => (condT hG).symm, f6, f7, f8, f9⟩⟩
    · rintro D ρ wx hD hd hdc hf ⟨hs, f0, f1, f2, f3, f4, f5, f6, f7, f8, f9⟩
      have r3 : ρ 3 = .pointer (some ⟨b3, 0, none⟩) := outD hf 3 rfl
      rcases Bool.eq_false_or_eq_true ((!t.has) == false) with hG | hG
      rotate_left
      · exact .inr ⟨(Eq.trans (wantG1 (j := 3) rfl (f3 (doneD hd 3 rfl))) hG), ⟨hs, f0, f1, f2, f3, f4, f5, fun _ => (condF hG).symm, f7, f8, f9⟩⟩
      ·
        exact .inl ⟨(Eq.trans (wantG1 (j := 3) rfl (f3 (doneD hd 3 rfl))) hG), L_ldW (cs := oc o) SA_59 hs 1 rfl r3 rfl ⟨hs, f0, f1, f2, f3, f4, f5, fun _ => (condT hG).symm, f7, f8, f9⟩⟩
    · rintro D ρ wx hD hd hdc hf ⟨hs, f0, f1, f2, f3, f4, f5, f6, f7, f8, f9⟩
      have g5 := f5 (doneD hd 5 rfl)
      have g6 := f6 (doneD hd 6 rfl)
      rcases Bool.eq_false_or_eq_true ((!t.has) == false) with hG | hG
      rotate_left
      · exact .inr ⟨(Eq.trans (wantG1 (j := 3) rfl (f3 (doneD hd 3 rfl))) hG), ⟨hs, f0, f1, f2, f3, f4, f5, f6, fun _ => (condF hG).symm, f8, f9⟩⟩
      ·
        exact .inl ⟨(Eq.trans (wantG1 (j := 3) rfl (f3 (doneD hd 3 rfl))) hG), L_callP (vs := [.agg (oc t.set).toArray, .agg (oc o).toArray]) (V := .bool (lessB t.set o)) EN_74 rfl (mapc ((g5).trans (condT (by exact hG))) (mapc ((g6).trans (condT (by exact hG))) rfl)) (oLess_ok _ t.set o (by assumption) (by assumption)) hs fun _ hs0 => ⟨hs0, f0, f1, f2, f3, f4, f5, f6, fun _ => (condT hG).symm, f8, f9⟩⟩
    · rintro D ρ wx hD hd hdc hf ⟨hs, f0, f1, f2, f3, f4, f5, f6, f7, f8, f9⟩
      have g3 := f3 (doneD hd 3 rfl)
      have g7 := f7 (doneD hd 7 rfl)
      exact .inl ⟨rfl, L_or g3 rfl (fun hg => ((g7).trans (condT (by first | exact beqT hg | rfl)))) ⟨hs, f0, f1, f2, f3, f4, f5, f6, f7, fun _ => rfl, f9⟩⟩
    · rintro D ρ wx hD hd hdc hf ⟨hs, f0, f1, f2, f3, f4, f5, f6, f7, f8, f9⟩
      have g8 := f8 (doneD hd 8 rfl)
      exact .inl ⟨rfl, L_assign (V := .bool ((!t.has) || (lessB t.set o))) g8 ⟨hs, f0, f1, f2, f3, f4, f5, f6, f7, f8, fun _ => rfl⟩⟩
    · rintro ρ1 w1 D hD hf ⟨hs, f0, f1, f2, f3, f4, f5, f6, f7, f8, f9⟩
      have e9 := f9 (hD 9 rfl)
      clear f0 f1 f2 f3 f4 f5 f6 f7 f8 f9
      obtain ⟨ρ2, hρ⟩ : ∃ ρ2, ρ1 = upd (mix [17, 18, 19, 20, 21, 22, 23, 24, 25, 16] ρ2 _) 16 (.bool ((!t.has) || (lessB t.set o))) := ⟨ρ1, upd_of (mix_of (ds := [17, 18, 19, 20, 21, 22, 23, 24, 25, 16]) hf) e9⟩
      clear hf hD e9
      subst hρ
      refine W_cond (t := (!t.has) || (lessB t.set o)) rfl (fun c12 => ?_) (fun c12 => ?_)
      ·
        refine W_region ?_
        refine RW_op (L_ldW (cs := oc o) SA_59 hs 1 rfl rfl rfl ?_)
        refine RW_op (L_fieldAddr FA_94_1 rfl ?_)
        refine RW_op (L_st (V := .agg (oc o).toArray) (vs := oc o) (cs' := talc (⟨t.sum, o, t.has⟩ : Tal)) SA_59.1 hs 0 rfl rfl rfl rfl rfl (Nat.le_of_ble_eq_true rfl) (oc_one _) (talc_set _ _) fun w13 hs => ?_)
        replace hs : Own w no w13 [blk b1 (talc (⟨t.sum, o, t.has⟩ : Tal)) 94, blk b3 (oc o) 59, blk b5 (talc (⟨0, (⟨(⟨0, 0⟩ : Dot), 0, 0, 0, 0, 0, vzero⟩ : Opn), false⟩ : Tal)) 94] := hs
        refine RW_op (L_fieldAddr FA_94_2 rfl ?_)
        refine RW_op (L_st1 (V := .bool true) (cs' := talc (⟨t.sum, o, true⟩ : Tal)) S1_4 hs 0 rfl rfl rfl rfl (Nat.le_of_ble_eq_true rfl) rfl fun w14 hs => ?_)
        refine RW_nil ?_
        refine W_seq ?_
        refine W_region ?_
        refine RW_op (L_ldW (cs := talc (⟨t.sum, o, true⟩ : Tal)) SA_94 hs 0 rfl rfl rfl ?_)
        refine RW_op (L_st (V := .agg (talc (⟨t.sum, o, true⟩ : Tal)).toArray) (vs := talc (⟨t.sum, o, true⟩ : Tal)) (cs' := talc (⟨t.sum, o, true⟩ : Tal)) SA_94.1 hs 2 rfl rfl rfl rfl rfl (Nat.le_of_ble_eq_true rfl) (talc_one _) (spl_whole rfl) fun w15 hs => ?_)
        refine RW_nil ?_
        refine W_ret ?_
        refine ⟨_, res_cell (cs := talc (⟨t.sum, o, true⟩ : Tal)) Try.results55 SA_94 hs 2 rfl rfl rfl, ?_⟩
        refine ⟨congrArg Ending.returned ?_, hs.take 0⟩
        unfold takeT
        rw [if_neg c7, if_pos c12]; rfl
      ·
        have c12r := or_r c12
        replace c12 := or_l c12
        replace c12 := not_f c12
        refine W_skip ?_
        refine W_seq ?_
        refine W_region ?_
        refine RW_op (L_ldW (cs := talc t) SA_94 hs 0 rfl rfl rfl ?_)
        refine RW_op (L_st (V := .agg (talc t).toArray) (vs := talc t) (cs' := talc t) SA_94.1 hs 2 rfl rfl rfl rfl rfl (Nat.le_of_ble_eq_true rfl) (talc_one _) (spl_whole rfl) fun w16 hs => ?_)
        replace hs : Own w no w16 [blk b1 (talc t) 94, blk b3 (oc o) 59, blk b5 (talc t) 94] := hs
        refine RW_nil ?_
        refine W_ret ?_
        refine ⟨_, res_cell (cs := talc t) Try.results55 SA_94 hs 2 rfl rfl rfl, ?_⟩
        refine ⟨congrArg Ending.returned ?_, hs.take 0⟩
        unfold takeT
        rw [if_neg c7, if_neg (by rw [c12, c12r]; decide)]; rfl
end Tf
end Go.Proofs
namespace Go.Proofs
open Go Go.Vx Go.RowKit
open Tt
namespace Tf
theorem S1_72 : T1 Try.prog 72 := ⟨Try.sizeOf72, Try.isAgg72⟩
theorem S1_92 : T1 Try.prog 92 := ⟨Try.sizeOf92, Try.isAgg92⟩
set_option maxRecDepth 20000 in
theorem EL_72 : El Try.prog 72 57 1 2 := ⟨Try.underlying72, _, _, Try.type57, rfl, rfl, rfl, rfl, by decide⟩
theorem EN_77 : En Try.prog 77 := Try.call77
theorem UD_92 : Ud Try.prog 92 (.map 57 94) := Try.runUnderlying92
set_option maxRecDepth 20000 in
set_option maxHeartbeats 4000000 in
theorem keys1T_ok (w : World) (S : Nat → Prop) (bx r l : Nat) (lm : List (Int × Tal)) (R : List Value → Res) (ok : List Value → Value → Prop) (hok : ∀ (pre : List Int) (k : Int), pre.length < lm.length → k ∈ lm.map (·.1) → ok (pre.map (Value.int .u16)) ((Value.int .u16) k)) (hy : YieldC Try.prog l R ok) (hR : (R []).holds w S) (hlt : ∀ x, S x → x < w.heap.size) (hSb : ¬ S bx) (hSr : ¬ S r) (hc : CellsF w bx [.map (some r)]) (hm : MapF w r (Value.int .u16) tv lm) : Calls Try.prog 77 #[.func (.yield l) #[] #[], .pointer (some ⟨bx, 0, none⟩)] w (fun e w' => ∃ v xs, e = .returned v ∧ xs.Perm ((lm.map (·.1)).map (Value.int .u16)) ∧ Own w S w' [R xs]) := by
  refine calls_of_Wn (n := 14) Try.func77 rfl Try.ntmps77 rfl ?_
  have hs := Own.lent hR hlt
  obtain ⟨es, clock, hm0, hE⟩ := hm
  refine W_seq ?_
  refine W_region ?_
  refine RW_op (L_ldF (V := .map (some r)) S1_92 (CellsF.own hc hs hSb) rfl rfl ?_)
  have hat := hs.at hm0 hSr
  refine RW_op (L_range UD_92 hat hs rfl fun it w1 hs => ?_)
  refine RW_nil ?_
  refine W_block ?_
  refine W_loopI (fun ρ m ρ' w' => ∃ (ρo : Env) (pre : List Int) (seen : Array Nat), ρ' = mix [3, 6, 7, 8, 9, 10, 11, 12, 13] ρo ρ ∧ (((left es seen).map (·.key) ++ pre.map (Value.int .u16)).Perm ((lm.map (·.1)).map (Value.int .u16))) ∧ m = (left es seen).length ∧ Own w S w' [R (pre.map (Value.int .u16)), iterR it r clock seen]) ?_ ?_
  · exact ⟨_, _, [], #[], mix_of (ds := [3, 6, 7, 8, 9, 10, 11, 12, 13]) (Agr.refl _ _), (by rw [left_none, hE.keys]; simp), rfl, hs⟩
  · rintro m ρ' w2 ⟨ρo, pre, seen, rfl, hp, rfl, hs⟩
    refine W_seq ?_
    refine W_region ?_
    refine RW_op (L_next (seen := seen) (hs.at hm0 hSr) hE.old hs 1 rfl rfl (fun h0 => ?_) (fun e3 ha w4 hs => ?_))
    ·
      refine RW_op (L_extract (V := .bool false) rfl rfl ?_)
      refine RW_nil ?_
      refine W_seq ?_
      refine W_condF rfl ?_
      refine W_exit ?_
      refine ⟨_, res_none Try.results77, ?_⟩
      rw [h0] at hp
      exact ⟨_, pre.map (Value.int .u16), rfl, hp, hs.only 0 rfl⟩
    ·
      obtain ⟨k, hk, hkey⟩ := ents_key hE (left_mem ha)
      refine RW_op (L_extract (V := .bool true) rfl rfl ?_)
      refine RW_nil ?_
      refine W_seq ?_
      refine W_condT rfl ?_
      refine W_skip ?_
      refine W_block ?_
      refine W_seq ?_
      refine W_region ?_
      refine RW_op (L_entryK (V := (Value.int .u16) k) (hs.at hm0 hSr) hE.inc (left_mem ha) hkey hs 1 rfl rfl ?_)
      refine RW_op (L_extract (V := .int .u16 k) rfl rfl ?_)
      refine RW_op (L_assign (V := .int .u16 k) rfl ?_)
      refine RW_nil ?_
      refine W_seq ?_
      refine W_region ?_
      refine RW_op (L_move (V := .func (.yield l) #[] #[]) rfl ?_)
      refine RW_op (L_move (V := .int .u16 k) rfl ?_)
      have hst := keys_step hE ha hkey hp
      refine RW_op (L_yieldC (R := R) (pre := pre.map (Value.int .u16)) (v := (Value.int .u16) k) hy rfl rfl (hok pre k hst.2.2 hk) hs 0 rfl fun w5 hs => ?_)
      refine RW_op (L_not rfl ?_)
      refine RW_nil ?_
      refine W_condF rfl ?_
      refine W_skip ?_
      have e1 : (pre ++ [k]).map (Value.int .u16) = pre.map (Value.int .u16) ++ [(Value.int .u16) k] := by simp
      rw [← e1] at hs
      refine ⟨_, ?_, _, pre ++ [k], seen.push e3.born, mix_of (ds := [3, 6, 7, 8, 9, 10, 11, 12, 13]) (by repeat (first | exact Agr.refl _ _ | refine Agr.upd ?_ rfl | refine Agr.mix ?_ rfl)), hst.1, rfl, hs.take 2⟩
      exact hst.2.1
set_option maxRecDepth 20000 in
set_option maxHeartbeats 4000000 in
theorem keysT_ok (w : World) (r : Nat) : Calls Try.prog 57 #[.map (some r)] w (fun e w' => ∃ x : Nat, e = .returned (.func (.func 77) #[] #[.pointer (some ⟨x, 0, none⟩)]) ∧ Own w no w' [blk x [.map (some r)] 92] ∧ True) := by
  refine calls_of_Wn (n := 4) Try.func57 rfl Try.ntmps57 rfl ?_
  have hs := Own.start w
  refine W_seq ?_
  refine W_region ?_
  refine RW_op (L_box (V := .map (some r)) (cs := [.map (some r)]) rfl rfl hs fun b1 w2 hs => ?_)
  refine RW_op (L_assign (V := .nilFunc) rfl ?_)
  refine RW_nil ?_
  refine W_seq ?_
  refine W_region ?_
  refine RW_op (L_makeFunc (cs := [.pointer (some ⟨b1, 0, none⟩)]) rfl rfl ?_)
  refine RW_op (L_assign (V := .func (.func 77) #[] #[.pointer (some ⟨b1, 0, none⟩)]) rfl ?_)
  refine RW_nil ?_
  refine W_ret ?_
  refine ⟨_, res_one (V := .func (.func 77) #[] #[.pointer (some ⟨b1, 0, none⟩)]) Try.results57 rfl, ?_⟩
  exact ⟨b1, rfl, hs.only 0 rfl, trivial⟩
theorem givesT {w : World} {bx r N : Nat} {lm : List (Int × Tal)} (hc : CellsF w bx [.map (some r)]) (hm : MapF w r (Value.int .u16) tv lm) (hN : lm.length ≤ N) :
    Gives Try.prog 77 [.pointer (some ⟨bx, 0, none⟩)] (okS (Value.int .u16) N) (fun xs => xs.Perm ((lm.map (·.1)).map (Value.int .u16))) w := by
  rintro l w1 R S ⟨L1, hs1⟩ hlt hS hR hy
  have hb : bx < w.heap.size := World.block_lt_of_cell? _ _ (hc 0 _ rfl)
  have hr : r < w.heap.size := by obtain ⟨es, clock, h, _⟩ := hm; exact (Array.getElem?_eq_some_iff.1 h).1
  exact keys1T_ok w1 S bx r l lm R (okS (Value.int .u16) N) (fun pre k hp _ => ⟨⟨k, rfl⟩, by rw [List.length_map]; omega⟩) hy hR hlt (fun h => hS _ h hb) (fun h => hS _ h hr) (hc.own' hs1) (hm.own' hs1)
set_option maxRecDepth 20000 in
set_option maxHeartbeats 4000000 in
theorem apSeqU_ok (w : World) (f N : Nat) (caps : List Value) (hf : En Try.prog f) (hN : N * 3 ≤ 140737488355328) (G : List Value → Prop) (hcall : Gives Try.prog f caps (okS (Value.int .u16) N) G w) : Calls Try.prog 88 #[.slice none 0 0, .func (.func f) #[] caps.toArray] w (fun e w' => ∃ x : List Int × Option Addr × Nat, e = .returned (.slice x.2.1 x.1.length x.2.2) ∧ Own w no w' [row (.slice x.2.1 x.1.length x.2.2) (x.1.map (ic .u16)) 57 1] ∧ G (x.1.map (Value.int .u16)) ∧ x.1.length ≤ N) := by
  refine calls_of_Wd (n := 13) Try.func88 rfl Try.ntmps88 rfl ?_
  have hs := Own.start w
  refine Wd_seqR ?_
  refine W_region ?_
  refine RW_op (L_box (V := .slice none 0 0) (cs := [.slice none 0 0]) rfl rfl hs fun b1 w2 hs => ?_)
  refine RW_op (L_assign (V := .slice none 0 0) rfl ?_)
  refine RW_nil ?_
  refine Wd_seqL ?_
  refine Wd_seqR ?_
  refine W_region ?_
  refine RW_op (L_move (V := .func (.func f) #[] caps.toArray) rfl ?_)
  refine RW_nil ?_
  refine Wd_block ?_
  replace hs := hs.more (row (.slice none 0 0) (List.map (ic .u16) []) 57 1) (row_nil _ _ _ _)
  replace hs := hs.join 0 1 (by decide) rfl rfl
  replace hs := hs.conv 0 rfl (R' := accR N b1 72 57 1 (ic .u16) (Value.int .u16) []) (fun S h => ⟨⟨([], none, 0), rfl, Nat.zero_le _⟩, h⟩)
  refine Wd_rangeFunc (caps := caps) (ok := okS (Value.int .u16) N) (G := G) rfl rfl hf hs 0 (accR N b1 72 57 1 (ic .u16) (Value.int .u16)) rfl ?_ hcall ?_
  · rintro l fn dd pre x w2 S ⟨⟨d, rfl⟩, hpN⟩ hs
    refine W_region ?_
    refine RW_op (L_assign (V := .int .u16 d) rfl ?_)
    refine RW_nil ?_
    refine ⟨[], hs, ?_⟩
    intro w3 hs
    obtain ⟨⟨⟨l0, a0, c0⟩, hx, hxN⟩, hs⟩ := hs.unpack 0 rfl
    replace hs := hs.split 0 rfl
    dsimp only at hx
    have hlen := congrArg List.length hx
    rw [List.length_map] at hlen
    refine W_block ?_
    refine W_region ?_
    refine RW_op (L_ld (V := .slice a0 l0.length c0) S1_72 hs 0 rfl rfl rfl ?_)
    refine RW_op (L_move (V := .int .u16 d) rfl ?_)
    refine RW_op (L_bs (vals := [.int .u16 d]) (ls := List.map (ic .u16) ([d] : List Int)) EL_72 rfl rfl rfl (len_map (enc := (ic .u16)) (fun _ => rfl) _) (one_map (ic_one .u16) _) (Nat.le_of_ble_eq_true rfl) hs fun b3 w4 hs => ?_)
    refine RW_op (L_appN (ls' := (l0 ++ [d]).map (ic .u16)) (n := (l0 ++ [d]).length) EL_72 hs 2 rfl rfl rfl (hs.rd 3 rfl) (one_map (ic_one .u16) _) (by simp only [List.length_map, List.length_append, List.length_cons, List.length_nil]; omega) (by simp) (by simp) fun a5 c5 w6 hs => ?_)
    refine RW_op (L_st1 (V := .slice a5 ((l0 ++ [d]).length) c5) (cs' := [.slice a5 ((l0 ++ [d]).length) c5]) S1_72 hs 0 rfl rfl rfl rfl (Nat.le_of_ble_eq_true rfl) rfl fun w7 hs => ?_)
    refine RW_nil ?_
    replace hs := hs.join 0 2 (by decide) rfl rfl
    replace hs := hs.conv 0 rfl (R' := accR N b1 72 57 1 (ic .u16) (Value.int .u16) (pre ++ [(Value.int .u16) d])) (fun S h => ⟨⟨(l0 ++ [d], a5, c5), by rw [List.map_append, hx]; rfl, by rw [List.length_append]; exact hpN⟩, h⟩)
    exact hs.take 2
  · rintro xs dd w3 hG hs
    obtain ⟨⟨⟨l1, a1, c1⟩, hx, hxN⟩, hs⟩ := hs.unpack 0 rfl
    dsimp only at hx
    subst hx
    replace hs := hs.split 0 rfl
    refine Wd_of ?_
    refine W_seq ?_
    refine W_region ?_
    refine RW_op (L_ld (V := .slice a1 l1.length c1) S1_72 hs 0 rfl rfl rfl ?_)
    refine RW_op (L_assign (V := .slice a1 l1.length c1) rfl ?_)
    refine RW_nil ?_
    refine W_ret ?_
    refine ends_mark (V := .slice a1 l1.length c1) hs 2 rfl (fun w => res_one (V := .slice a1 l1.length c1) Try.results88 rfl) fun w hs => ?_
    exact ⟨(l1, a1, c1), rfl, hs.only 3 rfl, hG, by simpa using hxN⟩
end Tf
end Go.Proofs
namespace Go.Proofs
open Go Go.Vx Go.RowKit
open Tt
namespace Tf
theorem EN_75 : En Try.prog 75 := Try.call75
theorem EN_76 : En Try.prog 76 := Try.call76
theorem EN_88 : En Try.prog 88 := Try.call88
set_option maxRecDepth 20000 in
set_option maxHeartbeats 4000000 in
theorem collectU_ok (w : World) (f N : Nat) (caps : List Value) (hf : En Try.prog f) (hN : N * 3 ≤ 140737488355328) (G : List Value → Prop) (hcall : Gives Try.prog f caps (okS (Value.int .u16) N) G w) : Calls Try.prog 75 #[.func (.func f) #[] caps.toArray] w (fun e w' => ∃ x : List Int × Option Addr × Nat, e = .returned (.slice x.2.1 x.1.length x.2.2) ∧ Own w no w' [row (.slice x.2.1 x.1.length x.2.2) (x.1.map (ic .u16)) 57 1] ∧ G (x.1.map (Value.int .u16)) ∧ x.1.length ≤ N) := by
  refine calls_of_Wn (n := 5) Try.func75 rfl Try.ntmps75 rfl ?_
  have hs := Own.start w
  refine W_seq ?_
  refine W_region ?_
  refine RW_op (L_assign (V := .slice none 0 0) rfl ?_)
  refine RW_nil ?_
  refine W_seq ?_
  refine W_region ?_
  refine RW_op (L_move (V := .func (.func f) #[] caps.toArray) rfl ?_)
  refine RW_op (L_callX (vs := [.slice none 0 0, .func (.func f) #[] caps.toArray]) EN_88 rfl rfl (apSeqU_ok _ f N caps hf hN G hcall) hs fun x1 w2 hs hF3 => ?_)
  refine RW_op (L_assign (V := .slice x1.2.1 x1.1.length x1.2.2) rfl ?_)
  refine RW_nil ?_
  refine W_ret ?_
  refine ⟨_, res_one (V := .slice x1.2.1 x1.1.length x1.2.2) Try.results75 rfl, ?_⟩
  exact ⟨(x1.1, x1.2.1, x1.2.2), rfl, hs.only 0 rfl, hF3⟩
set_option maxRecDepth 20000 in
set_option maxHeartbeats 4000000 in
theorem sortedU_ok (w : World) (f N : Nat) (caps : List Value) (hf : En Try.prog f) (hN : N * 3 ≤ 140737488355328) (G : List Value → Prop) (hcall : Gives Try.prog f caps (okS (Value.int .u16) N) G w) (hsortU : SortI Try.prog 76 .u16 57) : Calls Try.prog 56 #[.func (.func f) #[] caps.toArray] w (fun e w' => ∃ x : List Int × Option Addr × Nat, e = .returned (.slice x.2.1 x.1.length x.2.2) ∧ Own w no w' [row (.slice x.2.1 x.1.length x.2.2) (x.1.map (ic .u16)) 57 1] ∧ ∃ m, G (m.map (Value.int .u16)) ∧ x.1 = sortI m) := by
  refine calls_of_Wn (n := 9) Try.func56 rfl Try.ntmps56 rfl ?_
  have hs := Own.start w
  refine W_seq ?_
  refine W_region ?_
  refine RW_op (L_assign (V := .slice none 0 0) rfl ?_)
  refine RW_nil ?_
  refine W_seq ?_
  refine W_region ?_
  refine RW_op (L_move (V := .func (.func f) #[] caps.toArray) rfl ?_)
  refine RW_op (L_callX (vs := [.func (.func f) #[] caps.toArray]) EN_75 rfl rfl (collectU_ok _ f N caps hf hN G hcall) hs fun x1 w2 hs hF3 => ?_)
  refine RW_op (L_assign (V := .slice x1.2.1 x1.1.length x1.2.2) rfl ?_)
  refine RW_nil ?_
  refine W_seq ?_
  have hn := hF3.2
  refine W_region ?_
  refine RW_op (L_move (V := .slice x1.2.1 x1.1.length x1.2.2) rfl ?_)
  refine RW_op (L_callB (vs := [.slice x1.2.1 x1.1.length x1.2.2]) (V := fun _ : Unit => .tuple #[]) (R := row (.slice x1.2.1 x1.1.length x1.2.2) (x1.1.map (ic .u16)) 57 1) (R' := fun _ => row (.slice x1.2.1 x1.1.length x1.2.2) ((sortI x1.1).map (ic .u16)) 57 1) (Lo := fun _ => []) (F := fun _ _ => True) EN_76 rfl rfl hs 0 rfl (fun S hS hlt => (hsortU _ S _ _ _ hS hlt (by omega)).mono fun e w' ⟨he, ho⟩ => ⟨(), he, ho, trivial⟩) fun _ w4 hs _ => ?_)
  refine RW_nil ?_
  refine W_seq ?_
  refine W_region ?_
  refine RW_op (L_move (V := .slice x1.2.1 x1.1.length x1.2.2) rfl ?_)
  refine RW_op (L_assign (V := .slice x1.2.1 x1.1.length x1.2.2) rfl ?_)
  refine RW_nil ?_
  refine W_ret ?_
  refine ⟨_, res_one (V := .slice x1.2.1 x1.1.length x1.2.2) Try.results56 rfl, ?_⟩
  have hl : x1.1.length = (sortI x1.1).length := (sortI_len _).symm
  refine ⟨(sortI x1.1, x1.2.1, x1.2.2), by rw [hl], ?_, ⟨x1.1, hF3.1, rfl⟩⟩
  have ho := hs.only 0 rfl
  rw [hl] at ho
  exact ho
end Tf
end Go.Proofs
namespace Go.Proofs
open Go Go.Vx Go.RowKit
open Tt
namespace Tf
set_option maxRecDepth 20000 in
theorem EL_56 : El Try.prog 56 59 23 84 := ⟨Try.underlying56, _, _, Try.type59, rfl, rfl, rfl, rfl, by decide⟩
set_option maxRecDepth 20000 in
theorem EL_90 : El Try.prog 90 4 1 1 := ⟨Try.underlying90, _, _, Try.type4, rfl, rfl, rfl, rfl, by decide⟩
theorem EN_54 : En Try.prog 54 := Try.call54
theorem EN_56 : En Try.prog 56 := Try.call56
theorem EN_59 : En Try.prog 59 := Try.call59
theorem KO_57 : KeyOk Try.prog 57 (Value.int .u16) := KeyOk_int Try.runUnderlying57 _
theorem ZV_59 : Zv Try.prog 59 (.agg (oc (⟨(⟨0, 0⟩ : Dot), 0, 0, 0, 0, 0, vzero⟩ : Opn)).toArray) := Try.zeroValue59
set_option maxRecDepth 20000 in
set_option maxHeartbeats 4000000 in
theorem fLives_ok (w : World) (a : Option Addr) (c : Nat) (l : List Opn) (hl : ∀ o ∈ l, OpnOk o) (hlen : l.length ≤ 1000) (hr : Rd w (.slice a l.length c) 23 (l.map oc)) : Calls Try.prog 53 #[.slice a l.length c] w (fun e w' => ∃ x : Option Addr × Nat, e = .returned (.slice x.1 (l.map (liveB l)).length x.2) ∧ Own w no w' [row (.slice x.1 (l.map (liveB l)).length x.2) ((l.map (liveB l)).map bc) 4 1] ∧ True) := by
  refine calls_of_Wn (n := 20) Try.func53 rfl Try.ntmps53 rfl ?_
  have hs := Own.start w
  have hn := hr.sml
  refine W_seq ?_
  refine W_region ?_
  refine RW_op (L_assign (V := .slice none 0 0) rfl ?_)
  refine RW_nil ?_
  refine W_seq ?_
  refine W_region ?_
  refine RW_op (L_assign (V := .slice none 0 0) rfl ?_)
  refine RW_nil ?_
  refine W_seq ?_
  refine W_seq ?_
  refine W_region ?_
  refine RW_op (L_move (V := .slice a l.length c) rfl ?_)
  refine RW_op (L_lenR (n := l.length) UD_56 (Rd.own' hr hs) (by simp) rfl ?_)
  refine RW_op (L_move (V := .int .i64 0) rfl ?_)
  refine RW_nil ?_
  refine W_block ?_
  replace hs := hs.more (row (.slice none 0 0) (List.map bc []) 4 1) (row_nil _ _ _ _)
  refine W_loopI (fun ρ m ρ' w' => ∃ (ρo : Env) (k : Nat) (a1 : Option Addr) (c1 : Nat) (out : List Bool), ρ' = upd (upd (mix [3, 5, 8, 9, 10, 11, 12, 13, 14, 15, 16, 17, 18] ρo ρ) 8 (.int .i64 (k : Int))) 3 (.slice a1 out.length c1) ∧ (k ≤ l.length) ∧ (out.length ≤ k) ∧ (out = (l.take k).map (liveB l)) ∧ m = l.length - k ∧ Own w no w' [row (.slice a1 out.length c1) (out.map bc) 4 1]) ?_ ?_
  · exact ⟨_, _, 0, none, 0, [], upd_of (upd_of (mix_of (ds := [3, 5, 8, 9, 10, 11, 12, 13, 14, 15, 16, 17, 18]) (Agr.refl _ _)) rfl) rfl, (by omega), (Nat.le_refl _), rfl, rfl, hs⟩
  · rintro m ρ' w1 ⟨ρo, k, a1, c1, out, rfl, hk, hol, hout, rfl, hs⟩
    refine W_seq ?_
    refine W_region ?_
    refine RW_op (L_lss rfl rfl ?_)
    refine RW_nil ?_
    refine W_seq ?_
    refine W_cond (t := decide ((k : Int) < ((l.length : Nat) : Int))) rfl (fun c2 => ?_) (fun c2 => ?_)
    ·
      replace c2 := of_decide_eq_true c2
      refine W_skip ?_
      refine W_seq ?_
      refine W_block ?_
      refine W_seq ?_
      refine W_region ?_
      refine RW_op (L_ixR UD_56 SA_59.1 (Rd.own' hr hs) rfl rfl (by omega) (by rw [List.length_map]; omega) ?_)
      refine RW_op (L_ldRA (j := 0) (vs := oc (gd l k)) k SA_59 (Rd.own' hr hs) (gd_at (by omega)) rfl rfl rfl (by omega) ?_)
      refine RW_op (L_alloc (cs := oc (⟨(⟨0, 0⟩ : Dot), 0, 0, 0, 0, 0, vzero⟩ : Opn)) ZV_59 rfl hs fun b3 w4 hs => ?_)
      refine RW_op (L_st (V := .agg (oc (gd l k)).toArray) (vs := oc (gd l k)) (cs' := oc (gd l k)) SA_59.1 hs 1 rfl rfl rfl rfl rfl (Nat.le_of_ble_eq_true rfl) (oc_one _) (spl_whole rfl) fun w5 hs => ?_)
      refine RW_nil ?_
      have hok := hl _ (gd_mem (l := l) (i := k) (by omega))
      have hdk := hok.1
      refine W_region ?_
      refine RW_op (L_move (V := .slice a1 out.length c1) rfl ?_)
      refine RW_op (L_move (V := .slice a l.length c) rfl ?_)
      refine RW_op (L_ldW (cs := oc (gd l k)) SA_59 hs 1 rfl rfl rfl ?_)
      refine RW_op (L_callP (vs := [.slice a l.length c, .agg (oc (gd l k)).toArray]) (V := .bool (liveB l (gd l k))) EN_54 rfl rfl ?hc hs fun w6 hs => ?_)
      case hc => exact (fLive_ok _ a c l (gd l k) hdk (Rd.own' hr hs))
      refine RW_op (L_bs (vals := [.bool (liveB l (gd l k))]) (ls := List.map bc ([liveB l (gd l k)] : List Bool)) EL_90 rfl rfl rfl (len_map (enc := bc) (fun _ => rfl) _) (one_map bc_one _) (Nat.le_of_ble_eq_true rfl) hs fun b7 w8 hs => ?_)
      refine RW_op (L_appN (ls' := (out ++ [liveB l (gd l k)]).map bc) (n := (out ++ [liveB l (gd l k)]).length) EL_90 hs 0 rfl rfl rfl (hs.rd 2 rfl) (one_map bc_one _) (by simp only [List.length_map, List.length_append, List.length_cons, List.length_nil]; omega) (by simp) (by simp) fun a9 c9 w10 hs => ?_)
      replace hs : Own w no w10 [row (.slice a9 ((out ++ [liveB l (gd l k)]).length) c9) ((out ++ [liveB l (gd l k)]).map bc) 4 1, blk b3 (oc (gd l k)) 59, row (.slice (some ⟨b7, 0, none⟩) 1 1) ([liveB l (gd l k)].map bc) 4 1] := hs
      refine RW_op (L_assign (V := .slice a9 ((out ++ [liveB l (gd l k)]).length) c9) rfl ?_)
      refine RW_nil ?_
      refine W_region ?_
      refine RW_op (L_add (a := (k : Int)) (b := 1) (c := (k : Int) + 1) rfl rfl (wr_i64 (by omega) (by omega)) ?_)
      refine RW_op (L_move (V := .int .i64 ((k : Int) + 1)) rfl ?_)
      refine RW_nil ?_
      refine ⟨_, ?_, _, k + 1, a9, c9, out ++ [liveB l (gd l k)], upd_of (upd_of (mix_of (ds := [3, 5, 8, 9, 10, 11, 12, 13, 14, 15, 16, 17, 18]) (by repeat (first | exact Agr.refl _ _ | refine Agr.upd ?_ rfl | refine Agr.mix ?_ rfl))) rfl) rfl, (by omega), (by first | omega | (simp only [List.length_append, List.length_cons, List.length_nil]; omega)), (map_next (f := liveB l) hout (by omega)), rfl, hs.take 1⟩
      omega
    ·
      replace c2 := of_decide_eq_false c2
      refine W_exit ?_
      refine W_seq ?_
      refine W_region ?_
      refine RW_op (L_move (V := .slice a1 out.length c1) rfl ?_)
      refine RW_op (L_assign (V := .slice a1 out.length c1) rfl ?_)
      refine RW_nil ?_
      refine W_ret ?_
      refine ⟨_, res_one (V := .slice a1 out.length c1) Try.results53 rfl, ?_⟩
      have hX : out = l.map (liveB l) := by rw [hout, take_all (by omega)]
      rw [← hX]
      exact ⟨(a1, c1), rfl, hs.only 0 rfl, trivial⟩
set_option maxRecDepth 20000 in
set_option maxHeartbeats 4000000 in
theorem fAll_ok (w : World) (r : Nat) (sm : List (Dot × Unit)) (rep n : Int) (hm : MapF w r dv uv sm) : Calls Try.prog 59 #[.map (some r), .int .u8 rep, .int .u32 n] w (fun e w' => e = .returned (.bool (allD sm rep n)) ∧ Own w no w' []) := by
  refine calls_of_Wn (n := 26) Try.func59 rfl Try.ntmps59 rfl ?_
  have hs := Own.start w
  refine W_seq ?_
  refine W_region ?_
  refine RW_op (L_assign (V := .bool false) rfl ?_)
  refine RW_nil ?_
  refine W_seq ?_
  refine W_seq ?_
  refine W_region ?_
  refine RW_op (L_assign (V := .int .u32 1) rfl ?_)
  refine RW_nil ?_
  refine W_block ?_
  refine W_loopI (fun ρ m ρ' w' => ∃ (ρo : Env) (k : Nat), ρ' = upd (mix [6, 7, 8, 9, 10, 11, 12, 13, 14, 15, 16, 17, 18, 19, 20, 21, 22, 23, 24, 25] ρo ρ) 7 (.int .u32 ((k + 1 : Nat) : Int)) ∧ (((k : Nat) : Int) ≤ 1048576) ∧ (∀ j : Nat, j < k → (mget (⟨rep, ((j + 1 : Nat) : Int)⟩ : Dot) sm).isSome = true) ∧ m = 1048577 - k ∧ Own w no w' []) ?_ ?_
  · exact ⟨_, _, 0, upd_of (mix_of (ds := [6, 7, 8, 9, 10, 11, 12, 13, 14, 15, 16, 17, 18, 19, 20, 21, 22, 23, 24, 25]) (Agr.refl _ _)) rfl, (by omega), (fun j hj => absurd hj (Nat.not_lt_zero j)), rfl, hs⟩
  · rintro m ρ' w1 ⟨ρo, k, rfl, hk, hal, rfl, hs⟩
    refine W_seq ?_
    refine W_seq ?_
    refine W_region ?_
    refine RW_op (L_move (V := .int .u32 ((k + 1 : Nat) : Int)) rfl ?_)
    refine RW_op (L_move (V := .int .u32 n) rfl ?_)
    refine RW_op (L_min rfl rfl ?_)
    refine RW_op (L_leq rfl rfl ?_)
    refine RW_nil ?_
    refine W_cond (t := decide (((k + 1 : Nat) : Int) ≤ min n 1048576)) rfl (fun c2 => ?_) (fun c2 => ?_)
    ·
      replace c2 := of_decide_eq_true c2
      refine W_skip ?_
      refine W_seq ?_
      refine W_block ?_
      refine W_seq ?_
      refine W_region ?_
      refine RW_op (L_move (V := .map (some r)) rfl ?_)
      refine RW_op (L_move (V := .int .u8 rep) rfl ?_)
      refine RW_op (L_move (V := .int .u32 ((k + 1 : Nat) : Int)) rfl ?_)
      refine RW_op (L_build (vs := [(0, .int .u8 rep), (1, .int .u32 ((k + 1 : Nat) : Int))]) (cs := dc (⟨rep, ((k + 1 : Nat) : Int)⟩ : Dot)) BT_34 (rfl) rfl ?_)
      refine RW_op (L_lookupOkU (k := (⟨rep, ((k + 1 : Nat) : Int)⟩ : Dot)) UD_50 KO_34 ZV_79 (MapF.own hm hs (fun h => h)) rfl rfl ?_)
      refine RW_op (L_move (V := .tuple #[.agg #[], .bool ((mget (⟨rep, ((k + 1 : Nat) : Int)⟩ : Dot) sm).isSome)]) rfl ?_)
      refine RW_op (L_extract (V := .agg #[]) rfl rfl ?_)
      refine RW_op (L_extract (V := .bool ((mget (⟨rep, ((k + 1 : Nat) : Int)⟩ : Dot) sm).isSome)) rfl rfl ?_)
      refine RW_op (L_alloc (cs := []) ZV_79 rfl hs fun b3 w4 hs => ?_)
      refine RW_op (L_st (V := .agg #[]) (vs := []) (cs' := []) SA_79.1 hs 0 rfl rfl rfl rfl rfl (Nat.le_of_ble_eq_true rfl) one_nil (spl_whole rfl) fun w5 hs => ?_)
      refine RW_op (L_assign (V := .bool ((mget (⟨rep, ((k + 1 : Nat) : Int)⟩ : Dot) sm).isSome)) rfl ?_)
      refine RW_nil ?_
      refine W_seq ?_
      refine W_region ?_
      refine RW_op (L_move (V := .bool ((mget (⟨rep, ((k + 1 : Nat) : Int)⟩ : Dot) sm).isSome)) rfl ?_)
      refine RW_op (L_not rfl ?_)
      refine RW_nil ?_
      refine W_cond (t := !((mget (⟨rep, ((k + 1 : Nat) : Int)⟩ : Dot) sm).isSome)) rfl (fun c6 => ?_) (fun c6 => ?_)
      ·
        replace c6 := not_t c6
        refine W_seq ?_
        refine W_region ?_
        refine RW_op (L_assign (V := .bool false) rfl ?_)
        refine RW_nil ?_
        refine W_ret ?_
        refine ⟨_, res_one (V := .bool false) Try.results59 rfl, ?_⟩
        refine ⟨congrArg Ending.returned ?_, hs.take 0⟩
        exact congrArg Value.bool (allD_no c2 c6).symm
      ·
        replace c6 := not_f c6
        refine W_skip ?_
        refine W_region ?_
        refine RW_op (L_move (V := .int .u32 ((k + 1 : Nat) : Int)) rfl ?_)
        refine RW_op (L_add (a := ((k + 1 : Nat) : Int)) (b := 1) (c := ((k + 1 : Nat) : Int) + 1) rfl rfl (wr_u32 (by omega) (by omega)) ?_)
        refine RW_op (L_assign (V := .int .u32 (((k + 1 : Nat) : Int) + 1)) rfl ?_)
        refine RW_nil ?_
        refine ⟨_, ?_, _, k + 1, upd_of (mix_of (ds := [6, 7, 8, 9, 10, 11, 12, 13, 14, 15, 16, 17, 18, 19, 20, 21, 22, 23, 24, 25]) (by repeat (first | exact Agr.refl _ _ | refine Agr.upd ?_ rfl | refine Agr.mix ?_ rfl))) rfl, (by omega), (yes_step (p := fun j => (mget (⟨rep, ((j + 1 : Nat) : Int)⟩ : Dot) sm).isSome) hal c6), rfl, hs.take 0⟩
        omega
    ·
      replace c2 := of_decide_eq_false c2
      refine W_exit ?_
      refine W_seq ?_
      refine W_region ?_
      refine RW_op (L_assign (V := .bool true) rfl ?_)
      refine RW_nil ?_
      refine W_ret ?_
      refine ⟨_, res_one (V := .bool true) Try.results59 rfl, ?_⟩
      refine ⟨congrArg Ending.returned ?_, hs.take 0⟩
      exact congrArg Value.bool (allD_yes hal c2).symm
theorem no_step2 {p : Nat → Bool} {k : Nat} (h : ∀ j : Nat, j < k → p j = false) (hk : p k = false) : ∀ j : Nat, j < k + 1 → p j = false := by
  intro j hj
  by_cases e : j = k
  · subst e; exact hk
  · exact h j (by omega)
set_option maxRecDepth 20000 in
set_option maxHeartbeats 4000000 in
theorem fClosed_ok (w : World) (a : Option Addr) (c : Nat) (l : List Opn) (hl : ∀ o ∈ l, OpnOk o) (hlen : l.length ≤ 1000) (hr : Rd w (.slice a l.length c) 23 (l.map oc)) : Calls Try.prog 37 #[.slice a l.length c] w (fun e w' => e = .returned (.bool (closedP l)) ∧ Own w no w' []) := by
  refine calls_of_Wn (n := 68) Try.func37 rfl Try.ntmps37 rfl ?_
  have hs := Own.start w
  have hn := hr.sml
  refine W_seq ?_
  refine W_region ?_
  refine RW_op (L_assign (V := .bool false) rfl ?_)
  refine RW_nil ?_
  refine W_seq ?_
  refine W_region ?_
  refine RW_op (L_makeMap rfl hs dv uv fun mr1 w2 hs => ?_)
  refine RW_op (L_assign (V := .map (some mr1)) rfl ?_)
  refine RW_nil ?_
  refine W_seq ?_
  refine W_seq ?_
  refine W_region ?_
  refine RW_op (L_move (V := .slice a l.length c) rfl ?_)
  refine RW_op (L_lenR (n := l.length) UD_56 (Rd.own' hr hs) (by simp) rfl ?_)
  refine RW_op (L_move (V := .int .i64 0) rfl ?_)
  refine RW_nil ?_
  refine W_block ?_
  refine W_loopI (fun ρ m ρ' w' => ∃ (ρo : Env) (k : Nat) (mm : List (Dot × Unit)), ρ' = upd (mix [2, 5, 6, 7, 8, 16, 17, 18, 19, 20, 21, 22, 23, 24, 25, 26, 27, 28, 29, 30, 31, 32, 33, 34, 35, 36, 37, 38, 39, 40, 41, 42, 43, 44, 45, 46, 47] ρo ρ) 16 (.int .i64 (k : Int)) ∧ (k ≤ l.length) ∧ (mm.length ≤ k) ∧ (mm = seenM l k) ∧ (∀ j : Nat, j < k → badC l j = false) ∧ m = l.length - k ∧ Own w no w' [mapR mr1 dv uv mm]) ?_ ?_
  · exact ⟨_, _, 0, [], upd_of (mix_of (ds := [2, 5, 6, 7, 8, 16, 17, 18, 19, 20, 21, 22, 23, 24, 25, 26, 27, 28, 29, 30, 31, 32, 33, 34, 35, 36, 37, 38, 39, 40, 41, 42, 43, 44, 45, 46, 47]) (Agr.refl _ _)) rfl, (by omega), (Nat.le_refl _), rfl, (fun j hj => absurd hj (Nat.not_lt_zero j)), rfl, hs⟩
  · rintro m ρ' w3 ⟨ρo, k, mm, rfl, hk, hml, hmm, hbad, rfl, hs⟩
    refine W_seq ?_
    refine W_region ?_
    refine RW_op (L_lss rfl rfl ?_)
    refine RW_nil ?_
    refine W_seq ?_
    refine W_cond (t := decide ((k : Int) < ((l.length : Nat) : Int))) rfl (fun c4 => ?_) (fun c4 => ?_)
    ·
      replace c4 := of_decide_eq_true c4
      refine W_skip ?_
      refine W_seq ?_
      refine W_block ?_
      refine W_seq ?_
      refine W_region ?_
      refine RW_op (L_ixR UD_56 SA_59.1 (Rd.own' hr hs) rfl rfl (by omega) (by rw [List.length_map]; omega) ?_)
      refine RW_op (L_ldRA (j := 0) (vs := oc (gd l k)) k SA_59 (Rd.own' hr hs) (gd_at (by omega)) rfl rfl rfl (by omega) ?_)
      refine RW_op (L_alloc (cs := oc (⟨(⟨0, 0⟩ : Dot), 0, 0, 0, 0, 0, vzero⟩ : Opn)) ZV_59 rfl hs fun b5 w6 hs => ?_)
      refine RW_op (L_st (V := .agg (oc (gd l k)).toArray) (vs := oc (gd l k)) (cs' := oc (gd l k)) SA_59.1 hs 1 rfl rfl rfl rfl rfl (Nat.le_of_ble_eq_true rfl) (oc_one _) (spl_whole rfl) fun w7 hs => ?_)
      refine RW_nil ?_
      refine W_seq ?_
      refine W_region ?_
      refine RW_op (L_fieldAddr FA_59_0 rfl ?_)
      refine RW_op (L_ldA (vs := dc ((gd l k).dot)) SA_34 hs 1 rfl rfl rfl rfl ?_)
      refine RW_op (L_alloc (cs := dc (⟨0, 0⟩ : Dot)) ZV_34 rfl hs fun b8 w9 hs => ?_)
      replace hs : Own w no w9 [mapR mr1 dv uv mm, blk b5 (oc (gd l k)) 59, blk b8 (dc (⟨0, 0⟩ : Dot)) 34] := hs
      refine RW_op (L_st (V := .agg (dc ((gd l k).dot)).toArray) (vs := dc ((gd l k).dot)) (cs' := dc ((gd l k).dot)) SA_34.1 hs 2 rfl rfl rfl rfl rfl (Nat.le_of_ble_eq_true rfl) (dc_one _) (spl_whole rfl) fun w10 hs => ?_)
      refine RW_nil ?_
      refine W_seq ?_
      refine W_seq ?_
      refine W_region ?_
      refine RW_op (L_move (V := .map (some mr1)) rfl ?_)
      refine RW_op (L_ldW (cs := dc ((gd l k).dot)) SA_34 hs 2 rfl rfl rfl ?_)
      refine RW_op (L_lookupOkU (k := (gd l k).dot) UD_50 KO_34 ZV_79 (hs.mapf 0 rfl) rfl rfl ?_)
      refine RW_op (L_move (V := .tuple #[.agg #[], .bool ((mget ((gd l k).dot) mm).isSome)]) rfl ?_)
      refine RW_op (L_extract (V := .agg #[]) rfl rfl ?_)
      refine RW_op (L_extract (V := .bool ((mget ((gd l k).dot) mm).isSome)) rfl rfl ?_)
      refine RW_op (L_alloc (cs := []) ZV_79 rfl hs fun b11 w12 hs => ?_)
      refine RW_op (L_st (V := .agg #[]) (vs := []) (cs' := []) SA_79.1 hs 3 rfl rfl rfl rfl rfl (Nat.le_of_ble_eq_true rfl) one_nil (spl_whole rfl) fun w13 hs => ?_)
      refine RW_op (L_assign (V := .bool ((mget ((gd l k).dot) mm).isSome)) rfl ?_)
      refine RW_nil ?_
      refine W_seq ?_
      refine W_inv2 [28, 29, 30, 31, 32, 33, 34, 35, 36, 37, 38, 39, 40, 41, 42, 43] [[], [0], [1], [2, 1], [3, 1], [1, 4], [5, 1], [6], [7, 6], [8, 6], [6, 9], [10, 6], [11], [12, 11], [13, 11], [11, 14]] (fun D ρ wx => Own w no wx [mapR mr1 dv uv mm, blk b5 (oc (gd l k)) 59, blk b8 (dc ((gd l k).dot)) 34, blk b11 [] 79] ∧ (D 0 = true → ρ 28 = .bool ((mget ((gd l k).dot) mm).isSome)) ∧ (D 1 = true → ρ 29 = .bool ((mget ((gd l k).dot) mm).isSome)) ∧ (D 2 = true → ρ 30 = cond (((mget ((gd l k).dot) mm).isSome) == false) (.pointer (some ⟨b8, 0 + 0, none⟩)) undef) ∧ (D 3 = true → ρ 31 = cond (((mget ((gd l k).dot) mm).isSome) == false) (.int .u8 (((gd l k).dot).rep)) undef) ∧ (D 4 = true → ρ 32 = cond (((mget ((gd l k).dot) mm).isSome) == false) (.bool (decide (16 ≤ ((gd l k).dot).rep))) undef) ∧ (D 5 = true → ρ 33 = .bool (((mget ((gd l k).dot) mm).isSome) || (decide (16 ≤ ((gd l k).dot).rep)))) ∧ (D 6 = true → ρ 34 = .bool (((mget ((gd l k).dot) mm).isSome) || (decide (16 ≤ ((gd l k).dot).rep)))) ∧ (D 7 = true → ρ 35 = cond ((((mget ((gd l k).dot) mm).isSome) || (decide (16 ≤ ((gd l k).dot).rep))) == false) (.pointer (some ⟨b8, 0 + 1, none⟩)) undef) ∧ (D 8 = true → ρ 36 = cond ((((mget ((gd l k).dot) mm).isSome) || (decide (16 ≤ ((gd l k).dot).rep))) == false) (.int .u32 (((gd l k).dot).seq)) undef) ∧ (D 9 = true → ρ 37 = cond ((((mget ((gd l k).dot) mm).isSome) || (decide (16 ≤ ((gd l k).dot).rep))) == false) (.bool (decide (((gd l k).dot).seq < 1))) undef) ∧ (D 10 = true → ρ 38 = .bool ((((mget ((gd l k).dot) mm).isSome) || (decide (16 ≤ ((gd l k).dot).rep))) || (decide (((gd l k).dot).seq < 1)))) ∧ (D 11 = true → ρ 39 = .bool ((((mget ((gd l k).dot) mm).isSome) || (decide (16 ≤ ((gd l k).dot).rep))) || (decide (((gd l k).dot).seq < 1)))) ∧ (D 12 = true → ρ 40 = cond (((((mget ((gd l k).dot) mm).isSome) || (decide (16 ≤ ((gd l k).dot).rep))) || (decide (((gd l k).dot).seq < 1))) == false) (.pointer (some ⟨b8, 0 + 1, none⟩)) undef) ∧ (D 13 = true → ρ 41 = cond (((((mget ((gd l k).dot) mm).isSome) || (decide (16 ≤ ((gd l k).dot).rep))) || (decide (((gd l k).dot).seq < 1))) == false) (.int .u32 (((gd l k).dot).seq)) undef) ∧ (D 14 = true → ρ 42 = cond (((((mget ((gd l k).dot) mm).isSome) || (decide (16 ≤ ((gd l k).dot).rep))) || (decide (((gd l k).dot).seq < 1))) == false) (.bool (decide (1048576 < ((gd l k).dot).seq))) undef) ∧ (D 15 = true → ρ 43 = .bool (((((mget ((gd l k).dot) mm).isSome) || (decide (16 ≤ ((gd l k).dot).rep))) || (decide (((gd l k).dot).seq < 1))) || (decide (1048576 < ((gd l k).dot).seq))))) rfl rfl rfl ⟨hs, fun h => absurd h Bool.false_ne_true, fun h => absurd h Bool.false_ne_true, fun h => absurd h Bool.false_ne_true, fun h => absurd h Bool.false_ne_true, fun h => absurd h Bool.false_ne_true, fun h => absurd h Bool.false_ne_true, fun h => absurd h Bool.false_ne_true, fun h => absurd h Bool.false_ne_true, fun h => absurd h Bool.false_ne_true, fun h => absurd h Bool.false_ne_true, fun h => absurd h Bool.false_ne_true, fun h => absurd h Bool.false_ne_true, fun h => absurd h Bool.false_ne_true, fun h => absurd h Bool.false_ne_true, fun h => absurd h Bool.false_ne_true, fun h => absurd h Bool.false_ne_true⟩ ⟨?_, ?_, ?_, ?_, ?_, ?_, ?_, ?_, ?_, ?_, ?_, ?_, ?_, ?_, ?_, ?_, trivial⟩ ?_
      · rintro D ρ wx hD hd hdc hf ⟨hs, f0, f1, f2, f3, f4, f5, f6, f7, f8, f9, f10, f11, f12, f13, f14, f15⟩
        have r8 : ρ 8 = .bool ((mget ((gd l k).dot) mm).isSome) := outD hf 8 rfl
        exact .inl ⟨rfl, L_move (V := .bool ((mget ((gd l k).dot) mm).isSome)) r8 ⟨hs, fun _ => rfl, f1, f2, f3, f4, f5, f6, f7, f8, f9, f10, f11, f12, f13, f14, f15⟩⟩
      · rintro D ρ wx hD hd hdc hf ⟨hs, f0, f1, f2, f3, f4, f5, f6, f7, f8, f9, f10, f11, f12, f13, f14, f15⟩
        have g0 := f0 (doneD hd 0 rfl)
        exact .inl ⟨rfl, L_move (V := .bool ((mget ((gd l k).dot) mm).isSome)) g0 ⟨hs, f0, fun _ => rfl, f2, f3, f4, f5, f6, f7, f8, f9, f10, f11, f12, f13, f14, f15⟩⟩
      · rintro D ρ wx hD hd hdc hf ⟨hs, f0, f1, f2, f3, f4, f5, f6, f7, f8, f9, f10, f11, f12, f13, f14, f15⟩
        have r6 : ρ 6 = .pointer (some ⟨b8, 0, none⟩) := outD hf 6 rfl
        rcases Bool.eq_false_or_eq_true (((mget ((gd l k).dot) mm).isSome) == false) with hG | hG
        rotate_left
        · exact .inr ⟨(Eq.trans (wantG1 (j := 1) rfl (f1 (doneD hd 1 rfl))) hG), ⟨hs, f0, f1, fun _ => (condF hG).symm, f3, f4, f5, f6, f7, f8, f9, f10, f11, f12, f13, f14, f15⟩⟩
        ·
          exact .inl ⟨(Eq.trans (wantG1 (j := 1) rfl (f1 (doneD hd 1 rfl))) hG), L_fieldAddr FA_34_0 r6 ⟨hs, f0, f1, fun _ => (condT hG).symm, f3, f4, f5, f6, f7, f8, f9, f10, f11, f12, f13, f14, f15⟩⟩
      · rintro D ρ wx hD hd hdc hf ⟨hs, f0, f1, f2, f3, f4, f5, f6, f7, f8, f9, f10, f11, f12, f13, f14, f15⟩
        have g2 := f2 (doneD hd 2 rfl)
        rcases Bool.eq_false_or_eq_true (((mget ((gd l k).dot) mm).isSome) == false) with hG | hG
        rotate_left
        · exact .inr ⟨(Eq.trans (wantG1 (j := 1) rfl (f1 (doneD hd 1 rfl))) hG), ⟨hs, f0, f1, f2, fun _ => (condF hG).symm, f4, f5, f6, f7, f8, f9, f10, f11, f12, f13, f14, f15⟩⟩
        ·
          exact .inl ⟨(Eq.trans (wantG1 (j := 1) rfl (f1 (doneD hd 1 rfl))) hG), L_ld (V := .int .u8 (((gd l k).dot).rep)) S1_5 hs 2 rfl ((g2).trans (condT (by exact hG))) rfl ⟨hs, f0, f1, f2, fun _ => (condT hG).symm, f4, f5, f6, f7, f8, f9, f10, f11, f12, f13, f14, f15⟩⟩
      · rintro D ρ wx hD hd hdc hf ⟨hs, f0, f1, f2, f3, f4, f5, f6, f7, f8, f9, f10, f11, f12, f13, f14, f15⟩
        have g3 := f3 (doneD hd 3 rfl)
        rcases Bool.eq_false_or_eq_true (((mget ((gd l k).dot) mm).isSome) == false) with hG | hG
        rotate_left
        · exact .inr ⟨(Eq.trans (wantG1 (j := 1) rfl (f1 (doneD hd 1 rfl))) hG), ⟨hs, f0, f1, f2, f3, fun _ => (condF hG).symm, f5, f6, f7, f8, f9, f10, f11, f12, f13, f14, f15⟩⟩
        ·
          exact .inl ⟨(Eq.trans (wantG1 (j := 1) rfl (f1 (doneD hd 1 rfl))) hG), L_geq ((g3).trans (condT (by exact hG))) rfl ⟨hs, f0, f1, f2, f3, fun _ => (condT hG).symm, f5, f6, f7, f8, f9, f10, f11, f12, f13, f14, f15⟩⟩
      · rintro D ρ wx hD hd hdc hf ⟨hs, f0, f1, f2, f3, f4, f5, f6, f7, f8, f9, f10, f11, f12, f13, f14, f15⟩
        have g1 := f1 (doneD hd 1 rfl)
        have g4 := f4 (doneD hd 4 rfl)
        exact .inl ⟨rfl, L_or g1 rfl (fun hg => ((g4).trans (condT (by first | exact beqT hg | rfl)))) ⟨hs, f0, f1, f2, f3, f4, fun _ => rfl, f6, f7, f8, f9, f10, f11, f12, f13, f14, f15⟩⟩
      · rintro D ρ wx hD hd hdc hf ⟨hs, f0, f1, f2, f3, f4, f5, f6, f7, f8, f9, f10, f11, f12, f13, f14, f15⟩
        have g5 := f5 (doneD hd 5 rfl)
        exact .inl ⟨rfl, L_move (V := .bool (((mget ((gd l k).dot) mm).isSome) || (decide (16 ≤ ((gd l k).dot).rep)))) g5 ⟨hs, f0, f1, f2, f3, f4, f5, fun _ => rfl, f7, f8, f9, f10, f11, f12, f13, f14, f15⟩⟩
      · rintro D ρ wx hD hd hdc hf ⟨hs, f0, f1, f2, f3, f4, f5, f6, f7, f8, f9, f10, f11, f12, f13, f14, f15⟩
        have r6 : ρ 6 = .pointer (some ⟨b8, 0, none⟩) := outD hf 6 rfl
        rcases Bool.eq_false_or_eq_true ((((mget ((gd l k).dot) mm).isSome) || (decide (16 ≤ ((gd l k).dot).rep))) == false) with hG | hG
        rotate_left
        · exact .inr ⟨(Eq.trans (wantG1 (j := 6) rfl (f6 (doneD hd 6 rfl))) hG), ⟨hs, f0, f1, f2, f3, f4, f5, f6, fun _ => (condF hG).symm, f8, f9, f10, f11, f12, f13, f14, f15⟩⟩
        ·
          exact .inl ⟨(Eq.trans (wantG1 (j := 6) rfl (f6 (doneD hd 6 rfl))) hG), L_fieldAddr FA_34_1 r6 ⟨hs, f0, f1, f2, f3, f4, f5, f6, fun _ => (condT hG).symm, f8, f9, f10, f11, f12, f13, f14, f15⟩⟩
      · rintro D ρ wx hD hd hdc hf ⟨hs, f0, f1, f2, f3, f4, f5, f6, f7, f8, f9, f10, f11, f12, f13, f14, f15⟩
        have g7 := f7 (doneD hd 7 rfl)
        rcases Bool.eq_false_or_eq_true ((((mget ((gd l k).dot) mm).isSome) || (decide (16 ≤ ((gd l k).dot).rep))) == false) with hG | hG
        rotate_left
        · exact .inr ⟨(Eq.trans (wantG1 (j := 6) rfl (f6 (doneD hd 6 rfl))) hG), ⟨hs, f0, f1, f2, f3, f4, f5, f6, f7, fun _ => (condF hG).symm, f9, f10, f11, f12, f13, f14, f15⟩⟩
        ·
          exact .inl ⟨(Eq.trans (wantG1 (j := 6) rfl (f6 (doneD hd 6 rfl))) hG), L_ld (V := .int .u32 (((gd l k).dot).seq)) S1_22 hs 2 rfl ((g7).trans (condT (by exact hG))) rfl ⟨hs, f0, f1, f2, f3, f4, f5, f6, f7, fun _ => (condT hG).symm, f9, f10, f11, f12, f13, f14, f15⟩⟩
      · rintro D ρ wx hD hd hdc hf ⟨hs, f0, f1, f2, f3, f4, f5, f6, f7, f8, f9, f10, f11, f12, f13, f14, f15⟩
        have g8 := f8 (doneD hd 8 rfl)
        rcases Bool.eq_false_or_eq_true ((((mget ((gd l k).dot) mm).isSome) || (decide (16 ≤ ((gd l k).dot).rep))) == false) with hG | hG
        rotate_left
        · exact .inr ⟨(Eq.trans (wantG1 (j := 6) rfl (f6 (doneD hd 6 rfl))) hG), ⟨hs, f0, f1, f2, f3, f4, f5, f6, f7, f8, fun _ => (condF hG).symm, f10, f11, f12, f13, f14, f15⟩⟩
        ·
          exact .inl ⟨(Eq.trans (wantG1 (j := 6) rfl (f6 (doneD hd 6 rfl))) hG), L_lss ((g8).trans (condT (by exact hG))) rfl ⟨hs, f0, f1, f2, f3, f4, f5, f6, f7, f8, fun _ => (condT hG).symm, f10, f11, f12, f13, f14, f15⟩⟩
      · rintro D ρ wx hD hd hdc hf ⟨hs, f0, f1, f2, f3, f4, f5, f6, f7, f8, f9, f10, f11, f12, f13, f14, f15⟩
        have g6 := f6 (doneD hd 6 rfl)
        have g9 := f9 (doneD hd 9 rfl)
        exact .inl ⟨rfl, L_or g6 rfl (fun hg => ((g9).trans (condT (by first | exact beqT hg | rfl)))) ⟨hs, f0, f1, f2, f3, f4, f5, f6, f7, f8, f9, fun _ => rfl, f11, f12, f13, f14, f15⟩⟩
      · rintro D ρ wx hD hd hdc hf ⟨hs, f0, f1, f2, f3, f4, f5, f6, f7, f8, f9, f10, f11, f12, f13, f14, f15⟩
        have g10 := f10 (doneD hd 10 rfl)
        exact .inl ⟨rfl, L_move (V := .bool ((((mget ((gd l k).dot) mm).isSome) || (decide (16 ≤ ((gd l k).dot).rep))) || (decide (((gd l k).dot).seq < 1)))) g10 ⟨hs, f0, f1, f2, f3, f4, f5, f6, f7, f8, f9, f10, fun _ => rfl, f12, f13, f14, f15⟩⟩
      · rintro D ρ wx hD hd hdc hf ⟨hs, f0, f1, f2, f3, f4, f5, f6, f7, f8, f9, f10, f11, f12, f13, f14, f15⟩
        have r6 : ρ 6 = .pointer (some ⟨b8, 0, none⟩) := outD hf 6 rfl
        rcases Bool.eq_false_or_eq_true (((((mget ((gd l k).dot) mm).isSome) || (decide (16 ≤ ((gd l k).dot).rep))) || (decide (((gd l k).dot).seq < 1))) == false) with hG | hG
        rotate_left
        · exact .inr ⟨(Eq.trans (wantG1 (j := 11) rfl (f11 (doneD hd 11 rfl))) hG), ⟨hs, f0, f1, f2, f3, f4, f5, f6, f7, f8, f9, f10, f11, fun _ => (condF hG).symm, f13, f14, f15⟩⟩
        ·
          exact .inl ⟨(Eq.trans (wantG1 (j := 11) rfl (f11 (doneD hd 11 rfl))) hG), L_fieldAddr FA_34_1 r6 ⟨hs, f0, f1, f2, f3, f4, f5, f6, f7, f8, f9, f10, f11, fun _ => (condT hG).symm, f13, f14, f15⟩⟩
      · rintro D ρ wx hD hd hdc hf ⟨hs, f0, f1, f2, f3, f4, f5, f6, f7, f8, f9, f10, f11, f12, f13, f14, f15⟩
        have g12 := f12 (doneD hd 12 rfl)
        rcases Bool.eq_false_or_eq_true (((((mget ((gd l k).dot) mm).isSome) || (decide (16 ≤ ((gd l k).dot).rep))) || (decide (((gd l k).dot).seq < 1))) == false) with hG | hG
        rotate_left
        · exact .inr ⟨(Eq.trans (wantG1 (j := 11) rfl (f11 (doneD hd 11 rfl))) hG), ⟨hs, f0, f1, f2, f3, f4, f5, f6, f7, f8, f9, f10, f11, f12, fun _ => (condF hG).symm, f14, f15⟩⟩
        ·
          exact .inl ⟨(Eq.trans (wantG1 (j := 11) rfl (f11 (doneD hd 11 rfl))) hG), L_ld (V := .int .u32 (((gd l k).dot).seq)) S1_22 hs 2 rfl ((g12).trans (condT (by exact hG))) rfl ⟨hs, f0, f1, f2, f3, f4, f5, f6, f7, f8, f9, f10, f11, f12, fun _ => (condT hG).symm, f14, f15⟩⟩
      · rintro D ρ wx hD hd hdc hf ⟨hs, f0, f1, f2, f3, f4, f5, f6, f7, f8, f9, f10, f11, f12, f13, f14, f15⟩
        have g13 := f13 (doneD hd 13 rfl)
        rcases Bool.eq_false_or_eq_true (((((mget ((gd l k).dot) mm).isSome) || (decide (16 ≤ ((gd l k).dot).rep))) || (decide (((gd l k).dot).seq < 1))) == false) with hG | hG
        rotate_left
        · exact .inr ⟨(Eq.trans (wantG1 (j := 11) rfl (f11 (doneD hd 11 rfl))) hG), ⟨hs, f0, f1, f2, f3, f4, f5, f6, f7, f8, f9, f10, f11, f12, f13, fun _ => (condF hG).symm, f15⟩⟩
        ·
          exact .inl ⟨(Eq.trans (wantG1 (j := 11) rfl (f11 (doneD hd 11 rfl))) hG), L_gtr ((g13).trans (condT (by exact hG))) rfl ⟨hs, f0, f1, f2, f3, f4, f5, f6, f7, f8, f9, f10, f11, f12, f13, fun _ => (condT hG).symm, f15⟩⟩
      · rintro D ρ wx hD hd hdc hf ⟨hs, f0, f1, f2, f3, f4, f5, f6, f7, f8, f9, f10, f11, f12, f13, f14, f15⟩
        have g11 := f11 (doneD hd 11 rfl)
        have g14 := f14 (doneD hd 14 rfl)
        exact .inl ⟨rfl, L_or g11 rfl (fun hg => ((g14).trans (condT (by first | exact beqT hg | rfl)))) ⟨hs, f0, f1, f2, f3, f4, f5, f6, f7, f8, f9, f10, f11, f12, f13, f14, fun _ => rfl⟩⟩
      · rintro ρ1 w1 D hD hf ⟨hs, f0, f1, f2, f3, f4, f5, f6, f7, f8, f9, f10, f11, f12, f13, f14, f15⟩
        have e15 := f15 (hD 15 rfl)
        clear f0 f1 f2 f3 f4 f5 f6 f7 f8 f9 f10 f11 f12 f13 f14 f15
        obtain ⟨ρ2, hρ⟩ : ∃ ρ2, ρ1 = upd (mix [28, 29, 30, 31, 32, 33, 34, 35, 36, 37, 38, 39, 40, 41, 42, 43] ρ2 _) 43 (.bool (((((mget ((gd l k).dot) mm).isSome) || (decide (16 ≤ ((gd l k).dot).rep))) || (decide (((gd l k).dot).seq < 1))) || (decide (1048576 < ((gd l k).dot).seq)))) := ⟨ρ1, upd_of (mix_of (ds := [28, 29, 30, 31, 32, 33, 34, 35, 36, 37, 38, 39, 40, 41, 42, 43]) hf) e15⟩
        clear hf hD e15
        subst hρ
        refine W_cond (t := ((((mget ((gd l k).dot) mm).isSome) || (decide (16 ≤ ((gd l k).dot).rep))) || (decide (((gd l k).dot).seq < 1))) || (decide (1048576 < ((gd l k).dot).seq))) rfl (fun c15 => ?_) (fun c15 => ?_)
        ·
          refine W_seq ?_
          refine W_region ?_
          refine RW_op (L_assign (V := .bool false) rfl ?_)
          refine RW_nil ?_
          refine W_ret ?_
          refine ⟨_, res_one (V := .bool false) Try.results37 rfl, ?_⟩
          refine ⟨congrArg Ending.returned ?_, hs.take 0⟩
          exact congrArg Value.bool (closed_bad (k := k) (by omega) (by unfold badC; rw [← hmm]; exact c15)).symm
        ·
          have c15r := or_r c15
          replace c15 := or_l c15
          have c15rr := or_r c15
          replace c15 := or_l c15
          have c15rrr := or_r c15
          replace c15 := or_l c15
          replace c15rrr := of_decide_eq_false c15rrr
          replace c15rr := of_decide_eq_false c15rr
          replace c15r := of_decide_eq_false c15r
          refine W_skip ?_
          refine W_region ?_
          refine RW_op (L_move (V := .map (some mr1)) rfl ?_)
          refine RW_op (L_ldW (cs := dc ((gd l k).dot)) SA_34 hs 2 rfl rfl rfl ?_)
          refine RW_op (L_build (vs := []) (cs := []) BT_79 (rfl) rfl ?_)
          refine RW_op (L_mapSet (k := (gd l k).dot) (v := ()) UD_50 KO_34 hs 0 rfl rfl rfl rfl fun w16 hs => ?_)
          replace hs : Own w no w16 [mapR mr1 dv uv (mput ((gd l k).dot) () mm), blk b5 (oc (gd l k)) 59, blk b8 (dc ((gd l k).dot)) 34, blk b11 [] 79] := hs
          refine RW_nil ?_
          refine W_region ?_
          refine RW_op (L_add (a := (k : Int)) (b := 1) (c := (k : Int) + 1) rfl rfl (wr_i64 (by omega) (by omega)) ?_)
          refine RW_op (L_move (V := .int .i64 ((k : Int) + 1)) rfl ?_)
          refine RW_nil ?_
          have hbk : badC l k = false := by
            unfold badC; rw [← hmm, c15, decide_eq_false c15rrr, decide_eq_false c15rr, decide_eq_false c15r]; rfl
          refine ⟨_, ?_, _, k + 1, mput ((gd l k).dot) () mm, upd_of (mix_of (ds := [2, 5, 6, 7, 8, 16, 17, 18, 19, 20, 21, 22, 23, 24, 25, 26, 27, 28, 29, 30, 31, 32, 33, 34, 35, 36, 37, 38, 39, 40, 41, 42, 43, 44, 45, 46, 47]) (by repeat (first | exact Agr.refl _ _ | refine Agr.upd ?_ rfl | refine Agr.mix ?_ rfl))) rfl, (by omega), (Nat.le_trans mput_len (by omega)), (by rw [seenM_next (by omega), ← hmm]), (no_step2 hbad hbk), rfl, hs.take 1⟩
          omega
    ·
      replace c4 := of_decide_eq_false c4
      refine W_exit ?_
      refine W_seq ?_
      refine W_seq ?_
      refine W_region ?_
      refine RW_op (L_move (V := .slice a l.length c) rfl ?_)
      refine RW_op (L_lenR (n := l.length) UD_56 (Rd.own' hr hs) (by simp) rfl ?_)
      refine RW_op (L_move (V := .int .i64 0) rfl ?_)
      refine RW_nil ?_
      refine W_block ?_
      have hk1 : k = l.length := by omega
      subst hk1
      refine W_loopI (fun ρ m ρ' w' => ∃ (ρo : Env) (k2 : Nat), ρ' = upd (mix [2, 10, 11, 12, 50, 51, 52, 53, 54, 55, 56, 57, 58, 59, 60, 61, 62, 63, 64, 65, 66, 67] ρo ρ) 50 (.int .i64 (k2 : Int)) ∧ (k2 ≤ l.length) ∧ (∀ j : Nat, j < k2 → knownC l (gd l j) = true) ∧ m = l.length - k2 ∧ Own w no w' [mapR mr1 dv uv mm]) ?_ ?_
      · exact ⟨_, _, 0, upd_of (mix_of (ds := [2, 10, 11, 12, 50, 51, 52, 53, 54, 55, 56, 57, 58, 59, 60, 61, 62, 63, 64, 65, 66, 67]) (Agr.refl _ _)) rfl, (by omega), (fun j hj => absurd hj (Nat.not_lt_zero j)), rfl, hs⟩
      · rintro m ρ' w17 ⟨ρo, k2, rfl, hk2, hkn, rfl, hs⟩
        refine W_seq ?_
        refine W_region ?_
        refine RW_op (L_lss rfl rfl ?_)
        refine RW_nil ?_
        refine W_seq ?_
        refine W_cond (t := decide ((k2 : Int) < ((l.length : Nat) : Int))) rfl (fun c18 => ?_) (fun c18 => ?_)
        ·
          replace c18 := of_decide_eq_true c18
          refine W_skip ?_
          refine W_seq ?_
          refine W_block ?_
          refine W_seq ?_
          refine W_region ?_
          refine RW_op (L_ixR UD_56 SA_59.1 (Rd.own' hr hs) rfl rfl (by omega) (by rw [List.length_map]; omega) ?_)
          refine RW_op (L_ldRA (j := 0) (vs := oc (gd l k2)) k2 SA_59 (Rd.own' hr hs) (gd_at (by omega)) rfl rfl rfl (by omega) ?_)
          refine RW_op (L_alloc (cs := oc (⟨(⟨0, 0⟩ : Dot), 0, 0, 0, 0, 0, vzero⟩ : Opn)) ZV_59 rfl hs fun b19 w20 hs => ?_)
          refine RW_op (L_st (V := .agg (oc (gd l k2)).toArray) (vs := oc (gd l k2)) (cs' := oc (gd l k2)) SA_59.1 hs 1 rfl rfl rfl rfl rfl (Nat.le_of_ble_eq_true rfl) (oc_one _) (spl_whole rfl) fun w21 hs => ?_)
          refine RW_nil ?_
          refine W_seq ?_
          refine W_region ?_
          refine RW_op (L_fieldAddr FA_59_6 rfl ?_)
          refine RW_op (L_ldA (vs := vc ((gd l k2).ctx)) SA_24 hs 1 rfl rfl rfl rfl ?_)
          refine RW_op (L_move (V := .int .i64 0) rfl ?_)
          refine RW_nil ?_
          refine W_block ?_
          refine W_loopI (fun ρ m ρ' w' => ∃ (ρo : Env) (k3 : Nat), ρ' = upd (mix [2, 11, 12, 56, 57, 58, 59, 60, 61, 62, 63, 64, 65, 66] ρo ρ) 56 (.int .i64 (k3 : Int)) ∧ (k3 ≤ 16) ∧ (∀ r : Nat, r < k3 → allD (seenM l l.length) (r : Int) (vat (gd l k2).ctx r) = true) ∧ m = 16 - k3 ∧ Own w no w' [mapR mr1 dv uv mm, blk b19 (oc (gd l k2)) 59]) ?_ ?_
          · exact ⟨_, _, 0, upd_of (mix_of (ds := [2, 11, 12, 56, 57, 58, 59, 60, 61, 62, 63, 64, 65, 66]) (Agr.refl _ _)) rfl, (by omega), (fun j hj => absurd hj (Nat.not_lt_zero j)), rfl, hs⟩
          · rintro m ρ' w22 ⟨ρo, k3, rfl, hk3, hr3, rfl, hs⟩
            refine W_seq ?_
            refine W_region ?_
            refine RW_op (L_lss rfl rfl ?_)
            refine RW_nil ?_
            refine W_seq ?_
            refine W_cond (t := decide ((k3 : Int) < 16)) rfl (fun c23 => ?_) (fun c23 => ?_)
            ·
              replace c23 := of_decide_eq_true c23
              refine W_skip ?_
              refine W_seq ?_
              refine W_block ?_
              refine W_seq ?_
              refine W_region ?_
              refine RW_op (L_move (V := .int .i64 (k3 : Int)) rfl ?_)
              refine RW_op (L_index (V := .int .u32 (vat ((gd l k2).ctx) k3)) UD_24 S1_22 rfl rfl (by omega) (by omega) (by rw [List.getElem?_toArray]; exact vc_at _ _ (by omega)) ?_)
              refine RW_op (L_assign (V := .int .i64 (k3 : Int)) rfl ?_)
              refine RW_op (L_assign (V := .int .u32 (vat ((gd l k2).ctx) k3)) rfl ?_)
              refine RW_nil ?_
              refine W_seq ?_
              refine W_region ?_
              refine RW_op (L_move (V := .map (some mr1)) rfl ?_)
              refine RW_op (L_move (V := .int .i64 (k3 : Int)) rfl ?_)
              refine RW_op (L_conv UD_3 UD_5 rfl (wr_u8 (by omega) (by omega)) ?_)
              refine RW_op (L_move (V := .int .u32 (vat ((gd l k2).ctx) k3)) rfl ?_)
              refine RW_op (L_callP (vs := [.map (some mr1), .int .u8 (k3 : Int), .int .u32 (vat ((gd l k2).ctx) k3)]) (V := .bool (allD mm (k3 : Int) (vat ((gd l k2).ctx) k3))) EN_59 rfl rfl ?hc hs fun w24 hs => ?_)
              case hc => exact (fAll_ok _ mr1 mm (k3 : Int) (vat ((gd l k2).ctx) k3) (hs.mapf 0 rfl))
              refine RW_op (L_not rfl ?_)
              refine RW_nil ?_
              refine W_cond (t := !(allD mm (k3 : Int) (vat ((gd l k2).ctx) k3))) rfl (fun c25 => ?_) (fun c25 => ?_)
              ·
                replace c25 := not_t c25
                refine W_seq ?_
                refine W_region ?_
                refine RW_op (L_assign (V := .bool false) rfl ?_)
                refine RW_nil ?_
                refine W_ret ?_
                refine ⟨_, res_one (V := .bool false) Try.results37 rfl, ?_⟩
                refine ⟨congrArg Ending.returned ?_, hs.take 0⟩
                exact congrArg Value.bool (closed_no (k := k2) (r := k3) (by omega) (by omega) (by rw [← hmm]; exact c25)).symm
              ·
                replace c25 := not_f c25
                refine W_skip ?_
                refine W_region ?_
                refine RW_op (L_add (a := (k3 : Int)) (b := 1) (c := (k3 : Int) + 1) rfl rfl (wr_i64 (by omega) (by omega)) ?_)
                refine RW_op (L_move (V := .int .i64 ((k3 : Int) + 1)) rfl ?_)
                refine RW_nil ?_
                refine ⟨_, ?_, _, k3 + 1, upd_of (mix_of (ds := [2, 11, 12, 56, 57, 58, 59, 60, 61, 62, 63, 64, 65, 66]) (by repeat (first | exact Agr.refl _ _ | refine Agr.upd ?_ rfl | refine Agr.mix ?_ rfl))) rfl, (by omega), (yes_step (p := fun r => allD (seenM l l.length) (r : Int) (vat (gd l k2).ctx r)) hr3 (by rw [← hmm]; exact c25)), rfl, hs.take 2⟩
                omega
            ·
              replace c23 := of_decide_eq_false c23
              refine W_exit ?_
              refine W_region ?_
              refine RW_op (L_add (a := (k2 : Int)) (b := 1) (c := (k2 : Int) + 1) rfl rfl (wr_i64 (by omega) (by omega)) ?_)
              refine RW_op (L_move (V := .int .i64 ((k2 : Int) + 1)) rfl ?_)
              refine RW_nil ?_
              refine ⟨_, ?_, _, k2 + 1, upd_of (mix_of (ds := [2, 10, 11, 12, 50, 51, 52, 53, 54, 55, 56, 57, 58, 59, 60, 61, 62, 63, 64, 65, 66, 67]) (by repeat (first | exact Agr.refl _ _ | refine Agr.upd ?_ rfl | refine Agr.mix ?_ rfl))) rfl, (by omega), (yes_step (p := fun j => knownC l (gd l j)) hkn (known_all fun r hr => hr3 r (by omega))), rfl, hs.take 1⟩
              omega
        ·
          replace c18 := of_decide_eq_false c18
          refine W_exit ?_
          refine W_seq ?_
          refine W_region ?_
          refine RW_op (L_assign (V := .bool true) rfl ?_)
          refine RW_nil ?_
          refine W_ret ?_
          refine ⟨_, res_one (V := .bool true) Try.results37 rfl, ?_⟩
          refine ⟨congrArg Ending.returned ?_, hs.take 0⟩
          exact congrArg Value.bool (closed_yes (fun j hj => hbad j hj) fun j hj => hkn j (by omega)).symm
end Tf
end Go.Proofs
namespace Go.Proofs
open Go Go.Vx Go.RowKit
open Tt
namespace Tf
theorem S1_61 : T1 Try.prog 61 := ⟨Try.sizeOf61, Try.isAgg61⟩
theorem SA_63 : TA Try.prog 63 4 := ⟨Try.sizeOf63, Try.isAgg63⟩
set_option maxRecDepth 20000 in
theorem BT_63 : Bt Try.prog 63 [(0, 1), (1, 1), (2, 1), (3, 1)] ([.int .u16 0, .slice none 0 0, .bool false, .int .u32 0]) := Bt_struct Try.type63 rfl rfl Try.underlying63 (by kernel_rfl)
set_option maxRecDepth 20000 in
theorem BT_67 : Bt Try.prog 67 [(0, 1), (1, 1)] (lc (⟨0, 0⟩ : Line)) := Bt_struct Try.type67 rfl rfl Try.underlying67 (by kernel_rfl)
set_option maxRecDepth 20000 in
theorem EL_61 : El Try.prog 61 67 2 8 := ⟨Try.underlying61, _, _, Try.type67, rfl, rfl, rfl, rfl, by decide⟩
theorem EN_55 : En Try.prog 55 := Try.call55
theorem EN_57 : En Try.prog 57 := Try.call57
theorem FA_59_5 : FA Try.prog 59 5 6 := fun b o w => by simp [Instr.fieldAt, Instr.sureAddr, fieldPlace, add_eq]
theorem FA_63_1 : FA Try.prog 63 1 1 := fun b o w => by simp [Instr.fieldAt, Instr.sureAddr, fieldPlace, add_eq]
theorem FA_63_2 : FA Try.prog 63 2 2 := fun b o w => by simp [Instr.fieldAt, Instr.sureAddr, fieldPlace, add_eq]
theorem FA_63_3 : FA Try.prog 63 3 3 := fun b o w => by simp [Instr.fieldAt, Instr.sureAddr, fieldPlace, add_eq]
theorem UD_72 : Ud Try.prog 72 (.slice 57) := Try.runUnderlying72
theorem ZV_63 : Zv Try.prog 63 (.agg ([.int .u16 0, .slice none 0 0, .bool false, .int .u32 0]).toArray) := Try.zeroValue63
set_option maxRecDepth 20000 in
set_option maxHeartbeats 4000000 in
theorem fView_ok (w : World) (a : Option Addr) (c : Nat) (l : List Opn) (cart : Int) (hl : ∀ o ∈ l, OpnOk o) (hlen : l.length ≤ 1000) (hr : Rd w (.slice a l.length c) 23 (l.map oc)) (hsortU : SortI Try.prog 76 .u16 57) : Calls Try.prog 34 #[.slice a l.length c, .int .u16 cart] w (fun e w' => ∃ x : Option Addr × Nat, e = .returned (.agg [.int .u16 (viewP l cart).cart, .slice x.1 (viewP l cart).lines.length x.2, .bool (viewP l cart).out, .int .u32 (viewP l cart).tick].toArray) ∧ Own w no w' [row (.slice x.1 (viewP l cart).lines.length x.2) ((viewP l cart).lines.map lc) 67 2] ∧ True) := by
  refine calls_of_Wn (n := 78) Try.func34 rfl Try.ntmps34 rfl ?_
  have hs := Own.start w
  have hn := hr.sml
  refine W_seq ?_
  refine W_region ?_
  refine RW_op (L_alloc (cs := [.int .u16 0, .slice none 0 0, .bool false, .int .u32 0]) ZV_63 rfl hs fun b1 w2 hs => ?_)
  refine RW_nil ?_
  refine W_seq ?_
  refine W_region ?_
  refine RW_op (L_move (V := .int .u16 cart) rfl ?_)
  refine RW_op (L_build (vs := [(0, .int .u16 cart)]) (cs := [.int .u16 cart, .slice none 0 0, .bool false, .int .u32 0]) BT_63 (rfl) rfl ?_)
  refine RW_op (L_alloc (cs := [.int .u16 0, .slice none 0 0, .bool false, .int .u32 0]) ZV_63 rfl hs fun b3 w4 hs => ?_)
  refine RW_op (L_st (V := .agg ([.int .u16 cart, .slice none 0 0, .bool false, .int .u32 0]).toArray) (vs := [.int .u16 cart, .slice none 0 0, .bool false, .int .u32 0]) (cs' := [.int .u16 cart, .slice none 0 0, .bool false, .int .u32 0]) SA_63.1 hs 1 rfl rfl rfl rfl rfl (Nat.le_of_ble_eq_true rfl) (one_cons rfl (one_cons rfl (one_cons rfl (one_cons rfl one_nil)))) (spl_whole rfl) fun w5 hs => ?_)
  refine RW_nil ?_
  refine W_seq ?_
  refine W_region ?_
  refine RW_op (L_makeMap rfl hs (Value.int .u16) tv fun mr6 w7 hs => ?_)
  replace hs : Own w no w7 [blk b1 [.int .u16 0, .slice none 0 0, .bool false, .int .u32 0] 63, blk b3 [.int .u16 cart, .slice none 0 0, .bool false, .int .u32 0] 63, mapR mr6 (Value.int .u16) tv []] := hs
  refine RW_op (L_assign (V := .map (some mr6)) rfl ?_)
  refine RW_nil ?_
  refine W_seq ?_
  refine W_seq ?_
  refine W_region ?_
  refine RW_op (L_move (V := .slice a l.length c) rfl ?_)
  refine RW_op (L_lenR (n := l.length) UD_56 (Rd.own' hr hs) (by simp) rfl ?_)
  refine RW_op (L_move (V := .int .i64 0) rfl ?_)
  refine RW_nil ?_
  refine W_block ?_
  refine W_loopI (fun ρ m ρ' w' => ∃ (ρo : Env) (k : Nat) (s : VSt), ρ' = upd (mix [8, 17, 18, 19, 20, 21, 22, 23, 24, 25, 26, 27, 28, 29, 30, 31, 32, 33, 34, 35, 36, 37, 38, 39, 40, 41, 42, 43, 44, 45, 46, 47, 48, 49, 50] ρo ρ) 17 (.int .i64 (k : Int)) ∧ (k ≤ l.length) ∧ (s = vst l cart k) ∧ m = l.length - k ∧ Own w no w' [blk b1 [.int .u16 0, .slice none 0 0, .bool false, .int .u32 0] 63, blk b3 [.int .u16 cart, .slice none 0 0, .bool s.out, .int .u32 s.tick] 63, mapR mr6 (Value.int .u16) tv s.items]) ?_ ?_
  · exact ⟨_, _, 0, ⟨0, false, []⟩, upd_of (mix_of (ds := [8, 17, 18, 19, 20, 21, 22, 23, 24, 25, 26, 27, 28, 29, 30, 31, 32, 33, 34, 35, 36, 37, 38, 39, 40, 41, 42, 43, 44, 45, 46, 47, 48, 49, 50]) (Agr.refl _ _)) rfl, (by omega), rfl, rfl, hs⟩
  · rintro m ρ' w8 ⟨ρo, k, s, rfl, hk, hs1, rfl, hs⟩
    refine W_seq ?_
    refine W_region ?_
    refine RW_op (L_lss rfl rfl ?_)
    refine RW_nil ?_
    refine W_seq ?_
    refine W_cond (t := decide ((k : Int) < ((l.length : Nat) : Int))) rfl (fun c9 => ?_) (fun c9 => ?_)
    ·
      replace c9 := of_decide_eq_true c9
      refine W_skip ?_
      refine W_seq ?_
      refine W_block ?_
      refine W_seq ?_
      refine W_region ?_
      refine RW_op (L_ixR UD_56 SA_59.1 (Rd.own' hr hs) rfl rfl (by omega) (by rw [List.length_map]; omega) ?_)
      refine RW_op (L_ldRA (j := 0) (vs := oc (gd l k)) k SA_59 (Rd.own' hr hs) (gd_at (by omega)) rfl rfl rfl (by omega) ?_)
      refine RW_op (L_alloc (cs := oc (⟨(⟨0, 0⟩ : Dot), 0, 0, 0, 0, 0, vzero⟩ : Opn)) ZV_59 rfl hs fun b10 w11 hs => ?_)
      refine RW_op (L_st (V := .agg (oc (gd l k)).toArray) (vs := oc (gd l k)) (cs' := oc (gd l k)) SA_59.1 hs 3 rfl rfl rfl rfl rfl (Nat.le_of_ble_eq_true rfl) (oc_one _) (spl_whole rfl) fun w12 hs => ?_)
      refine RW_nil ?_
      refine W_seq ?_
      refine W_seq ?_
      have hok := hl _ (gd_mem (l := l) (i := k) (by omega))
      have hdk := hok.1
      refine W_region ?_
      refine RW_op (L_fieldAddr FA_59_2 rfl ?_)
      refine RW_op (L_ld (V := .int .u16 ((gd l k).cart)) S1_57 hs 3 rfl rfl rfl ?_)
      refine RW_op (L_move (V := .int .u16 cart) rfl ?_)
      refine RW_op (L_neq rfl rfl ?_)
      refine RW_nil ?_
      refine W_cond (t := !decide ((gd l k).cart = cart)) rfl (fun c13 => ?_) (fun c13 => ?_)
      ·
        replace c13 := not_t c13
        replace c13 := of_decide_eq_false c13
        refine W_exit ?_
        refine W_region ?_
        refine RW_op (L_add (a := (k : Int)) (b := 1) (c := (k : Int) + 1) rfl rfl (wr_i64 (by omega) (by omega)) ?_)
        refine RW_op (L_move (V := .int .i64 ((k : Int) + 1)) rfl ?_)
        refine RW_nil ?_
        refine ⟨_, ?_, _, k + 1, s, upd_of (mix_of (ds := [8, 17, 18, 19, 20, 21, 22, 23, 24, 25, 26, 27, 28, 29, 30, 31, 32, 33, 34, 35, 36, 37, 38, 39, 40, 41, 42, 43, 44, 45, 46, 47, 48, 49, 50]) (by repeat (first | exact Agr.refl _ _ | refine Agr.upd ?_ rfl | refine Agr.mix ?_ rfl))) rfl, (by omega), (vs_skip hs1 (by omega) c13), rfl, hs.take 3⟩
        omega
      ·
        replace c13 := not_f c13
        replace c13 := of_decide_eq_true c13
        refine W_skip ?_
        refine W_seq ?_
        refine W_region ?_
        refine RW_op (L_fieldAddr FA_63_3 rfl ?_)
        refine RW_op (L_ld (V := .int .u32 s.tick) S1_22 hs 1 rfl rfl rfl ?_)
        refine RW_op (L_fieldAddr FA_59_5 rfl ?_)
        refine RW_op (L_ld (V := .int .u32 ((gd l k).tick)) S1_22 hs 3 rfl rfl rfl ?_)
        refine RW_op (L_max rfl rfl ?_)
        refine RW_op (L_fieldAddr FA_63_3 rfl ?_)
        refine RW_op (L_st1 (V := .int .u32 (max s.tick ((gd l k).tick))) (cs' := [.int .u16 cart, .slice none 0 0, .bool s.out, .int .u32 (max s.tick ((gd l k).tick))]) S1_22 hs 1 rfl rfl rfl rfl (Nat.le_of_ble_eq_true rfl) rfl fun w14 hs => ?_)
        refine RW_nil ?_
        refine W_block ?_
        refine W_seq ?_
        refine W_region ?_
        refine RW_op (L_move (V := .slice a l.length c) rfl ?_)
        refine RW_op (L_ldW (cs := oc (gd l k)) SA_59 hs 3 rfl rfl rfl ?_)
        refine RW_op (L_callP (vs := [.slice a l.length c, .agg (oc (gd l k)).toArray]) (V := .bool (liveB l (gd l k))) EN_54 rfl rfl ?hc hs fun w15 hs => ?_)
        case hc => exact (fLive_ok _ a c l (gd l k) hdk (Rd.own' hr hs))
        refine RW_op (L_not rfl ?_)
        refine RW_op (L_assign (V := .bool (!(liveB l (gd l k)))) rfl ?_)
        refine RW_nil ?_
        refine W_cond (t := !(liveB l (gd l k))) rfl (fun c16 => ?_) (fun c16 => ?_)
        ·
          replace c16 := not_t c16
          refine W_skip ?_
          refine W_region ?_
          refine RW_op (L_add (a := (k : Int)) (b := 1) (c := (k : Int) + 1) rfl rfl (wr_i64 (by omega) (by omega)) ?_)
          refine RW_op (L_move (V := .int .i64 ((k : Int) + 1)) rfl ?_)
          refine RW_nil ?_
          refine ⟨_, ?_, _, k + 1, (⟨max s.tick ((gd l k).tick), s.out, s.items⟩ : VSt), upd_of (mix_of (ds := [8, 17, 18, 19, 20, 21, 22, 23, 24, 25, 26, 27, 28, 29, 30, 31, 32, 33, 34, 35, 36, 37, 38, 39, 40, 41, 42, 43, 44, 45, 46, 47, 48, 49, 50]) (by repeat (first | exact Agr.refl _ _ | refine Agr.upd ?_ rfl | refine Agr.mix ?_ rfl))) rfl, (by omega), (vs_dead hs1 (by omega) c13 c16), rfl, hs.take 3⟩
          omega
        ·
          replace c16 := not_f c16
          refine W_seq ?_
          refine W_region ?_
          refine RW_op (L_fieldAddr FA_59_1 rfl ?_)
          refine RW_op (L_ld (V := .int .u8 ((gd l k).kind)) S1_5 hs 3 rfl rfl rfl ?_)
          refine RW_op (L_eql rfl rfl ?_)
          refine RW_op (L_assign (V := .bool (decide ((gd l k).kind = 4))) rfl ?_)
          refine RW_nil ?_
          refine W_cond (t := decide ((gd l k).kind = 4)) rfl (fun c17 => ?_) (fun c17 => ?_)
          ·
            replace c17 := of_decide_eq_true c17
            refine W_region ?_
            refine RW_op (L_fieldAddr FA_63_2 rfl ?_)
            refine RW_op (L_st1 (V := .bool true) (cs' := [.int .u16 cart, .slice none 0 0, .bool true, .int .u32 (max s.tick ((gd l k).tick))]) S1_4 hs 1 rfl rfl rfl rfl (Nat.le_of_ble_eq_true rfl) rfl fun w18 hs => ?_)
            replace hs : Own w no w18 [blk b1 [.int .u16 0, .slice none 0 0, .bool false, .int .u32 0] 63, blk b3 [.int .u16 cart, .slice none 0 0, .bool true, .int .u32 (max s.tick ((gd l k).tick))] 63, mapR mr6 (Value.int .u16) tv s.items, blk b10 (oc (gd l k)) 59] := hs
            refine RW_nil ?_
            refine W_region ?_
            refine RW_op (L_add (a := (k : Int)) (b := 1) (c := (k : Int) + 1) rfl rfl (wr_i64 (by omega) (by omega)) ?_)
            refine RW_op (L_move (V := .int .i64 ((k : Int) + 1)) rfl ?_)
            refine RW_nil ?_
            refine ⟨_, ?_, _, k + 1, (⟨max s.tick ((gd l k).tick), true, s.items⟩ : VSt), upd_of (mix_of (ds := [8, 17, 18, 19, 20, 21, 22, 23, 24, 25, 26, 27, 28, 29, 30, 31, 32, 33, 34, 35, 36, 37, 38, 39, 40, 41, 42, 43, 44, 45, 46, 47, 48, 49, 50]) (by repeat (first | exact Agr.refl _ _ | refine Agr.upd ?_ rfl | refine Agr.mix ?_ rfl))) rfl, (by omega), (vs_out hs1 (by omega) c13 c16 c17), rfl, hs.take 3⟩
            omega
          ·
            replace c17 := of_decide_eq_false c17
            have hctx : VecOk ((mget (gd l k).item s.items).getD tz).set.ctx := by rw [hs1]; exact vst_ctx hl k (by omega) _
            replace hs := hs.drew
            refine W_draw2 HM [31, 32, 33, 34, 35, 36, 37, 38, 39] [[], [], [1], [], [], [4], [3, 5], [], [6, 7], [0, 2, 8, 8, 0, 1, 2, 3, 4, 5, 6, 7, 8]] (fun D ρ wx => Own w no wx [blk b1 [.int .u16 0, .slice none 0 0, .bool false, .int .u32 0] 63, blk b3 [.int .u16 cart, .slice none 0 0, .bool s.out, .int .u32 (max s.tick ((gd l k).tick))] 63, cond (D 9) (mapR mr6 (Value.int .u16) tv (mput ((gd l k).item) (takeT ((mget ((gd l k).item) s.items).getD tz) (gd l k)) s.items)) (mapR mr6 (Value.int .u16) tv s.items), blk b10 (oc (gd l k)) 59] ∧ (D 0 = true → ρ 31 = .map (some mr6)) ∧ (D 1 = true → ρ 32 = .pointer (some ⟨b10, 0 + 4, none⟩)) ∧ (D 2 = true → ρ 33 = .int .u16 ((gd l k).item)) ∧ (D 3 = true → ρ 34 = .map (some mr6)) ∧ (D 4 = true → ρ 35 = .pointer (some ⟨b10, 0 + 4, none⟩)) ∧ (D 5 = true → ρ 36 = .int .u16 ((gd l k).item)) ∧ (D 6 = true → ρ 37 = .agg (talc ((mget ((gd l k).item) s.items).getD tz)).toArray) ∧ (D 7 = true → ρ 38 = .agg (oc (gd l k)).toArray) ∧ (D 8 = true → ρ 39 = .agg (talc (takeT ((mget ((gd l k).item) s.items).getD tz) (gd l k))).toArray) ∧ (True)) rfl rfl rfl ⟨hs, fun h => absurd h Bool.false_ne_true, fun h => absurd h Bool.false_ne_true, fun h => absurd h Bool.false_ne_true, fun h => absurd h Bool.false_ne_true, fun h => absurd h Bool.false_ne_true, fun h => absurd h Bool.false_ne_true, fun h => absurd h Bool.false_ne_true, fun h => absurd h Bool.false_ne_true, fun h => absurd h Bool.false_ne_true, trivial⟩ ⟨?_, ?_, ?_, ?_, ?_, ?_, ?_, ?_, ?_, ?_, trivial⟩ ?_
            · rintro D ρ wx hD hd hdc hf ⟨hs, f0, f1, f2, f3, f4, f5, f6, f7, f8, f9⟩
              have r6 : ρ 6 = .map (some mr6) := outD hf 6 rfl
              exact .inl ⟨rfl, L_move (V := .map (some mr6)) r6 ⟨hs, fun _ => rfl, f1, f2, f3, f4, f5, f6, f7, f8, f9⟩⟩
            · rintro D ρ wx hD hd hdc hf ⟨hs, f0, f1, f2, f3, f4, f5, f6, f7, f8, f9⟩
              have r8 : ρ 8 = .pointer (some ⟨b10, 0, none⟩) := outD hf 8 rfl
              exact .inl ⟨rfl, L_fieldAddr FA_59_3 r8 ⟨hs, f0, fun _ => rfl, f2, f3, f4, f5, f6, f7, f8, f9⟩⟩
            · rintro D ρ wx hD hd hdc hf ⟨hs, f0, f1, f2, f3, f4, f5, f6, f7, f8, f9⟩
              have g1 := f1 (doneD hd 1 rfl)
              exact .inl ⟨rfl, L_ld (V := .int .u16 ((gd l k).item)) S1_57 hs 3 rfl g1 rfl ⟨hs, f0, f1, fun _ => rfl, f3, f4, f5, f6, f7, f8, f9⟩⟩
            · rintro D ρ wx hD hd hdc hf ⟨hs, f0, f1, f2, f3, f4, f5, f6, f7, f8, f9⟩
              have r6 : ρ 6 = .map (some mr6) := outD hf 6 rfl
              exact .inl ⟨rfl, L_move (V := .map (some mr6)) r6 ⟨hs, f0, f1, f2, fun _ => rfl, f4, f5, f6, f7, f8, f9⟩⟩
            · rintro D ρ wx hD hd hdc hf ⟨hs, f0, f1, f2, f3, f4, f5, f6, f7, f8, f9⟩
              have r8 : ρ 8 = .pointer (some ⟨b10, 0, none⟩) := outD hf 8 rfl
              exact .inl ⟨rfl, L_fieldAddr FA_59_3 r8 ⟨hs, f0, f1, f2, f3, fun _ => rfl, f5, f6, f7, f8, f9⟩⟩
            · rintro D ρ wx hD hd hdc hf ⟨hs, f0, f1, f2, f3, f4, f5, f6, f7, f8, f9⟩
              have g4 := f4 (doneD hd 4 rfl)
              exact .inl ⟨rfl, L_ld (V := .int .u16 ((gd l k).item)) S1_57 hs 3 rfl g4 rfl ⟨hs, f0, f1, f2, f3, f4, fun _ => rfl, f6, f7, f8, f9⟩⟩
            · rintro D ρ wx hD hd hdc hf ⟨hs, f0, f1, f2, f3, f4, f5, f6, f7, f8, f9⟩
              have g3 := f3 (doneD hd 3 rfl)
              have g5 := f5 (doneD hd 5 rfl)
              have d9 : D 9 = false := (notYetD hdc (j := 9) rfl rfl hD)
              have hs0 := hs; rw [d9] at hs0
              exact .inl ⟨rfl, L_lookupV (k := (gd l k).item) (z := tz) UD_92 KO_57 ZV_94 (hs0.mapf 2 rfl) g3 g5 ⟨hs, f0, f1, f2, f3, f4, f5, fun _ => rfl, f7, f8, f9⟩⟩
            · rintro D ρ wx hD hd hdc hf ⟨hs, f0, f1, f2, f3, f4, f5, f6, f7, f8, f9⟩
              have r8 : ρ 8 = .pointer (some ⟨b10, 0, none⟩) := outD hf 8 rfl
              exact .inl ⟨rfl, L_ldW (cs := oc (gd l k)) SA_59 hs 3 rfl r8 rfl ⟨hs, f0, f1, f2, f3, f4, f5, f6, fun _ => rfl, f8, f9⟩⟩
            · rintro D ρ wx hD hd hdc hf ⟨hs, f0, f1, f2, f3, f4, f5, f6, f7, f8, f9⟩
              have g6 := f6 (doneD hd 6 rfl)
              have g7 := f7 (doneD hd 7 rfl)
              exact .inl ⟨rfl, L_callP (vs := [.agg (talc ((mget ((gd l k).item) s.items).getD tz)).toArray, .agg (oc (gd l k)).toArray]) (V := .agg (talc (takeT ((mget ((gd l k).item) s.items).getD tz) (gd l k))).toArray) EN_55 rfl (mapc g6 (mapc g7 rfl)) (fTake_ok _ ((mget ((gd l k).item) s.items).getD tz) (gd l k) (by assumption) (by assumption)) hs fun _ hs0 => ⟨hs0, f0, f1, f2, f3, f4, f5, f6, f7, fun _ => rfl, f9⟩⟩
            · rintro D ρ wx hD hd hdc hf ⟨hs, f0, f1, f2, f3, f4, f5, f6, f7, f8, f9⟩
              have g0 := f0 (doneD hd 0 rfl)
              have g2 := f2 (doneD hd 2 rfl)
              have g8 := f8 (doneD hd 8 rfl)
              have d9 : D 9 = false := hD
              have hs0 := hs; rw [d9] at hs0
              refine .inl ⟨rfl, L_mapSet (k := (gd l k).item) (v := takeT ((mget ((gd l k).item) s.items).getD tz) (gd l k)) UD_92 KO_57 hs0 2 rfl g0 g2 g8 fun _ hs0 => ⟨?_, f0, f1, f2, f3, f4, f5, f6, f7, f8, trivial⟩⟩
              exact hs0
            · rintro ρ1 w1 D hD hf ⟨hs, f0, f1, f2, f3, f4, f5, f6, f7, f8, f9⟩
              rw [hD 9 rfl] at hs
              clear f0 f1 f2 f3 f4 f5 f6 f7 f8 f9
              obtain ⟨ρ2, hρ⟩ : ∃ ρ2, ρ1 = mix [31, 32, 33, 34, 35, 36, 37, 38, 39] ρ2 _ := ⟨ρ1, mix_of (ds := [31, 32, 33, 34, 35, 36, 37, 38, 39]) hf⟩
              clear hf hD
              subst hρ
              refine W_region ?_
              refine RW_op (L_add (a := (k : Int)) (b := 1) (c := (k : Int) + 1) rfl rfl (wr_i64 (by omega) (by omega)) ?_)
              refine RW_op (L_move (V := .int .i64 ((k : Int) + 1)) rfl ?_)
              refine RW_nil ?_
              refine ⟨_, ?_, _, k + 1, (⟨max s.tick ((gd l k).tick), s.out, mput ((gd l k).item) (takeT ((mget ((gd l k).item) s.items).getD tz) (gd l k)) s.items⟩ : VSt), upd_of (mix_of (ds := [8, 17, 18, 19, 20, 21, 22, 23, 24, 25, 26, 27, 28, 29, 30, 31, 32, 33, 34, 35, 36, 37, 38, 39, 40, 41, 42, 43, 44, 45, 46, 47, 48, 49, 50]) (by repeat (first | exact Agr.refl _ _ | refine Agr.upd ?_ rfl | refine Agr.mix ?_ rfl))) rfl, (by omega), (vs_take hs1 (by omega) c13 c16 c17), rfl, hs.take 3⟩
              omega
    ·
      replace c9 := of_decide_eq_false c9
      refine W_exit ?_
      refine W_seq ?_
      refine W_seq ?_
      have hitl : s.items.length ≤ 1000 := by rw [hs1]; exact Nat.le_trans (vst_items k hk) (by omega)
      refine W_region ?_
      refine RW_op (L_move (V := .map (some mr6)) rfl ?_)
      refine RW_op (L_callX (vs := [.map (some mr6)]) (V := fun x : Nat => .func (.func 77) #[] #[.pointer (some ⟨x, 0, none⟩)]) EN_57 rfl rfl (keysT_ok _ mr6) hs fun x22 w23 hs _ => ?_)
      refine RW_op (L_callX (vs := [.func (.func 77) #[] #[.pointer (some ⟨x22, 0, none⟩)]]) (V := fun x : Option Addr × Nat => .slice x.1 (sortI (s.items.map (·.1))).length x.2) (Lo := fun x => [row (.slice x.1 (sortI (s.items.map (·.1))).length x.2) ((sortI (s.items.map (·.1))).map (ic .u16)) 57 1]) (F := fun _ _ => True) EN_56 rfl rfl ?hc hs fun x24 w25 hs hF26 => ?_)
      case hc => exact ((sortedU_ok _ 77 1000000 [.pointer (some ⟨x22, 0, none⟩)] EN_77 (by decide) (fun xs => xs.Perm ((s.items.map (·.1)).map (Value.int .u16))) (givesT (hs.cellsf 3 rfl) (hs.mapf 2 rfl) (by omega)) hsortU).mono fun e w' ⟨y, he, ho, m0, hm0, hy⟩ => by
      have hy2 : y.1 = sortI (s.items.map (·.1)) := by rw [hy]; exact sorted_of hm0
      rw [hy2] at he ho
      exact ⟨(y.2.1, y.2.2), he, ho, trivial⟩)
      refine RW_op (L_lenR (n := (sortI (s.items.map (·.1))).length) UD_72 (hs.rd 4 rfl) (by simp) rfl ?_)
      refine RW_op (L_move (V := .int .i64 0) rfl ?_)
      refine RW_nil ?_
      refine W_block ?_
      replace hs := hs.more (row (.slice none 0 0) (List.map lc []) 67 2) (row_nil _ _ _ _)
      have hksl : (sortI (s.items.map (·.1))).length ≤ 1000 := by rw [sortI_len, List.length_map]; omega
      refine W_loopI (fun ρ m ρ' w' => ∃ (ρo : Env) (i2 : Nat) (a1 : Option Addr) (c1 : Nat) (out : List Line), ρ' = upd (mix [10, 11, 55, 56, 57, 58, 59, 60, 61, 62, 63, 64, 65, 66, 67, 68, 69, 70, 71, 72, 73, 74, 75, 76] ρo ρ) 55 (.int .i64 (i2 : Int)) ∧ (i2 ≤ (sortI (s.items.map (·.1))).length) ∧ (out.length ≤ i2) ∧ (out = ((sortI (s.items.map (·.1))).take i2).map (lineOf s.items)) ∧ m = (sortI (s.items.map (·.1))).length - i2 ∧ Own w no w' [blk b1 [.int .u16 0, .slice none 0 0, .bool false, .int .u32 0] 63, blk b3 [.int .u16 cart, .slice a1 out.length c1, .bool s.out, .int .u32 s.tick] 63, mapR mr6 (Value.int .u16) tv s.items, blk x22 [.map (some mr6)] 92, row (.slice x24.1 ((sortI (s.items.map (·.1))).length) x24.2) ((sortI (s.items.map (·.1))).map (ic .u16)) 57 1, row (.slice a1 out.length c1) (out.map lc) 67 2]) ?_ ?_
      · exact ⟨_, _, 0, none, 0, [], upd_of (mix_of (ds := [10, 11, 55, 56, 57, 58, 59, 60, 61, 62, 63, 64, 65, 66, 67, 68, 69, 70, 71, 72, 73, 74, 75, 76]) (Agr.refl _ _)) rfl, (by omega), (Nat.le_refl _), rfl, rfl, hs⟩
      · rintro m ρ' w27 ⟨ρo, i2, a1, c1, out, rfl, hi2, hol, hout, rfl, hs⟩
        refine W_seq ?_
        refine W_region ?_
        refine RW_op (L_lss rfl rfl ?_)
        refine RW_nil ?_
        refine W_seq ?_
        refine W_cond (t := decide ((i2 : Int) < (((sortI (s.items.map (·.1))).length : Nat) : Int))) rfl (fun c28 => ?_) (fun c28 => ?_)
        ·
          replace c28 := of_decide_eq_true c28
          refine W_skip ?_
          refine W_seq ?_
          refine W_block ?_
          refine W_seq ?_
          refine W_region ?_
          refine RW_op (L_ixR UD_72 S1_57.1 (hs.rd 4 rfl) rfl rfl (by omega) (by rw [List.length_map]; omega) ?_)
          refine RW_op (L_ldR (j := 0) (V := .int .u16 (gd (sortI (s.items.map (·.1))) i2)) i2 S1_57 (hs.rd 4 rfl) (gd_at (by omega)) rfl rfl (by omega) ?_)
          refine RW_op (L_assign (V := .int .u16 (gd (sortI (s.items.map (·.1))) i2)) rfl ?_)
          refine RW_nil ?_
          refine W_seq ?_
          obtain ⟨tt, htt⟩ : ∃ t, (mget (gd (sortI (s.items.map (·.1))) i2) s.items).getD tz = t := ⟨_, rfl⟩
          have ⟨hqa, hqb⟩ : 0 ≤ tt.set.qty ∧ tt.set.qty < 65536 := by rw [← htt, hs1]; exact vst_qty hl k (by omega) _
          refine W_region ?_
          refine RW_op (L_move (V := .map (some mr6)) rfl ?_)
          refine RW_op (L_move (V := .int .u16 (gd (sortI (s.items.map (·.1))) i2)) rfl ?_)
          refine RW_op (opW_to (V := .agg (talc ((mget (gd (sortI (s.items.map (·.1))) i2) s.items).getD tz)).toArray) (V' := .agg (talc tt).toArray) (L_lookupV (k := gd (sortI (s.items.map (·.1))) i2) (z := tz) UD_92 KO_57 ZV_94 (hs.mapf 2 rfl) rfl rfl ⟨rfl, rfl⟩) (by rw [htt]) ?_)
          refine RW_op (L_alloc (cs := talc (⟨0, (⟨(⟨0, 0⟩ : Dot), 0, 0, 0, 0, 0, vzero⟩ : Opn), false⟩ : Tal)) ZV_94 rfl hs fun b29 w30 hs => ?_)
          refine RW_op (L_st (V := .agg (talc tt).toArray) (vs := talc tt) (cs' := talc tt) SA_94.1 hs 6 rfl rfl rfl rfl rfl (Nat.le_of_ble_eq_true rfl) (talc_one _) (spl_whole rfl) fun w31 hs => ?_)
          replace hs : Own w no w31 [blk b1 [.int .u16 0, .slice none 0 0, .bool false, .int .u32 0] 63, blk b3 [.int .u16 cart, .slice a1 out.length c1, .bool s.out, .int .u32 s.tick] 63, mapR mr6 (Value.int .u16) tv s.items, blk x22 [.map (some mr6)] 92, row (.slice x24.1 ((sortI (s.items.map (·.1))).length) x24.2) ((sortI (s.items.map (·.1))).map (ic .u16)) 57 1, row (.slice a1 out.length c1) (out.map lc) 67 2, blk b29 (talc tt) 94] := hs
          refine RW_nil ?_
          refine W_region ?_
          refine RW_op (L_fieldAddr FA_63_1 rfl ?_)
          refine RW_op (L_ld (V := .slice a1 out.length c1) S1_61 hs 1 rfl rfl rfl ?_)
          refine RW_op (L_move (V := .int .u16 (gd (sortI (s.items.map (·.1))) i2)) rfl ?_)
          refine RW_op (L_fieldAddr FA_94_0 rfl ?_)
          refine RW_op (L_ld (V := .int .u32 tt.sum) S1_22 hs 6 rfl rfl rfl ?_)
          refine RW_op (L_fieldAddr FA_94_1 rfl ?_)
          refine RW_op (L_fieldAddr FA_59_4 rfl ?_)
          refine RW_op (L_ld (V := .int .u16 tt.set.qty) S1_57 hs 6 rfl rfl rfl ?_)
          refine RW_op (L_conv UD_57 UD_22 rfl (wr_u32 (by omega) (by omega)) ?_)
          refine RW_op (L_add (a := tt.sum) (b := tt.set.qty) (c := (tt.sum + tt.set.qty) % 4294967296) rfl rfl (wm_u32 _) ?_)
          refine RW_op (L_build (vs := [(0, .int .u16 (gd (sortI (s.items.map (·.1))) i2)), (1, .int .u32 ((tt.sum + tt.set.qty) % 4294967296))]) (cs := lc (⟨gd (sortI (s.items.map (·.1))) i2, (tt.sum + tt.set.qty) % 4294967296⟩ : Line)) BT_67 (rfl) rfl ?_)
          refine RW_op (L_bs (vals := [.agg (lc (⟨gd (sortI (s.items.map (·.1))) i2, (tt.sum + tt.set.qty) % 4294967296⟩ : Line)).toArray]) (ls := List.map lc ([(⟨gd (sortI (s.items.map (·.1))) i2, (tt.sum + tt.set.qty) % 4294967296⟩ : Line)] : List Line)) EL_61 rfl rfl rfl (len_map (enc := lc) (fun _ => rfl) _) (one_map lc_one _) (Nat.le_of_ble_eq_true rfl) hs fun b32 w33 hs => ?_)
          refine RW_op (L_appN (ls' := (out ++ [(⟨gd (sortI (s.items.map (·.1))) i2, (tt.sum + tt.set.qty) % 4294967296⟩ : Line)]).map lc) (n := (out ++ [(⟨gd (sortI (s.items.map (·.1))) i2, (tt.sum + tt.set.qty) % 4294967296⟩ : Line)]).length) EL_61 hs 5 rfl rfl rfl (hs.rd 7 rfl) (one_map lc_one _) (by simp only [List.length_map, List.length_append, List.length_cons, List.length_nil]; omega) (by simp) (by simp) fun a34 c34 w35 hs => ?_)
          refine RW_op (L_fieldAddr FA_63_1 rfl ?_)
          refine RW_op (L_st1 (V := .slice a34 ((out ++ [(⟨gd (sortI (s.items.map (·.1))) i2, (tt.sum + tt.set.qty) % 4294967296⟩ : Line)]).length) c34) (cs' := [.int .u16 cart, .slice a34 ((out ++ [(⟨gd (sortI (s.items.map (·.1))) i2, (tt.sum + tt.set.qty) % 4294967296⟩ : Line)]).length) c34, .bool s.out, .int .u32 s.tick]) S1_61 hs 1 rfl rfl rfl rfl (Nat.le_of_ble_eq_true rfl) rfl fun w36 hs => ?_)
          refine RW_nil ?_
          refine W_region ?_
          refine RW_op (L_add (a := (i2 : Int)) (b := 1) (c := (i2 : Int) + 1) rfl rfl (wr_i64 (by omega) (by omega)) ?_)
          refine RW_op (L_move (V := .int .i64 ((i2 : Int) + 1)) rfl ?_)
          refine RW_nil ?_
          refine ⟨_, ?_, _, i2 + 1, a34, c34, out ++ [(⟨gd (sortI (s.items.map (·.1))) i2, (tt.sum + tt.set.qty) % 4294967296⟩ : Line)], upd_of (mix_of (ds := [10, 11, 55, 56, 57, 58, 59, 60, 61, 62, 63, 64, 65, 66, 67, 68, 69, 70, 71, 72, 73, 74, 75, 76]) (by repeat (first | exact Agr.refl _ _ | refine Agr.upd ?_ rfl | refine Agr.mix ?_ rfl))) rfl, (by omega), (by simp only [List.length_append, List.length_cons, List.length_nil]; omega), (by rw [show (⟨gd (sortI (s.items.map (·.1))) i2, (tt.sum + tt.set.qty) % 4294967296⟩ : Line) = lineOf s.items (gd (sortI (s.items.map (·.1))) i2) by unfold lineOf qtyT; rw [htt]]; exact map_next (f := lineOf s.items) hout (by omega)), rfl, hs.take 6⟩
          omega
        ·
          replace c28 := of_decide_eq_false c28
          refine W_exit ?_
          refine W_seq ?_
          refine W_region ?_
          refine RW_op (L_ldW (cs := [.int .u16 cart, .slice a1 out.length c1, .bool s.out, .int .u32 s.tick]) SA_63 hs 1 rfl rfl rfl ?_)
          refine RW_op (L_st (V := .agg ([.int .u16 cart, .slice a1 out.length c1, .bool s.out, .int .u32 s.tick]).toArray) (vs := [.int .u16 cart, .slice a1 out.length c1, .bool s.out, .int .u32 s.tick]) (cs' := [.int .u16 cart, .slice a1 out.length c1, .bool s.out, .int .u32 s.tick]) SA_63.1 hs 0 rfl rfl rfl rfl rfl (Nat.le_of_ble_eq_true rfl) (one_cons rfl (one_cons rfl (one_cons rfl (one_cons rfl one_nil)))) (spl_whole rfl) fun w37 hs => ?_)
          refine RW_nil ?_
          refine W_ret ?_
          refine ⟨_, res_cell (cs := [.int .u16 cart, .slice a1 out.length c1, .bool s.out, .int .u32 s.tick]) Try.results34 SA_63 hs 0 rfl rfl rfl, ?_⟩
          have hV : viewP l cart = ⟨cart, out, s.out, s.tick⟩ := by
            have hk9 : k = l.length := by omega
            unfold viewP; dsimp only; rw [← hk9, ← hs1, hout, take_all (by omega)]
          rw [hV]
          exact ⟨(a1, c1), rfl, hs.only 5 rfl, trivial⟩
end Tf
end Go.Proofs
namespace Go.Proofs
open Go Go.Vx Go.RowKit
open Tt
namespace Tf
theorem SA_67 : TA Try.prog 67 2 := ⟨Try.sizeOf67, Try.isAgg67⟩
set_option maxRecDepth 20000 in
theorem EQ_67 (a b : Line) : EqF Try.prog 2 67 (.agg (lc a).toArray) (.agg (lc b).toArray) (decide (a = b)) := by
  rw [← dec_line]
  exact EqF_struct (D := 1) Try.underlying67 Try.stoodInHeld67 (.cons (by decide) (PartF_one ⟨Try.sizeOf57, Try.isAgg57⟩ rfl) (PartF_one ⟨Try.sizeOf57, Try.isAgg57⟩ rfl) ((EqF_int Try.runUnderlying57).up (by decide)) (.cons (by decide) (PartF_one ⟨Try.sizeOf22, Try.isAgg22⟩ rfl) (PartF_one ⟨Try.sizeOf22, Try.isAgg22⟩ rfl) ((EqF_int Try.runUnderlying22).up (by decide)) .nil))
theorem EN_34 : En Try.prog 34 := Try.call34
theorem UD_61 : Ud Try.prog 61 (.slice 67) := Try.runUnderlying61
theorem fViewE_ok (w : World) (a : Option Addr) (c : Nat) (l : List Opn) (cart : Int) (V : Vw) (hV : viewP l cart = V) (hl : ∀ o ∈ l, OpnOk o) (hlen : l.length ≤ 1000) (hr : Rd w (.slice a l.length c) 23 (l.map oc)) (hsortU : SortI Try.prog 76 .u16 57) : Calls Try.prog 34 #[.slice a l.length c, .int .u16 cart] w (fun e w' => ∃ x : Option Addr × Nat, e = .returned (.agg [.int .u16 (V).cart, .slice x.1 (V).lines.length x.2, .bool (V).out, .int .u32 (V).tick].toArray) ∧ Own w no w' [row (.slice x.1 (V).lines.length x.2) ((V).lines.map lc) 67 2] ∧ True) := by
  subst hV; exact fView_ok w a c l cart hl hlen hr hsortU
end Tf
end Go.Proofs
namespace Go.Proofs
open Go Go.Vx Go.RowKit
open Tt
namespace Tf
set_option maxRecDepth 20000 in
theorem BT_59 : Bt Try.prog 59 [(0, 2), (2, 1), (3, 1), (4, 1), (5, 1), (6, 1), (7, 16)] (oc (⟨(⟨0, 0⟩ : Dot), 0, 0, 0, 0, 0, vzero⟩ : Opn)) := Bt_struct Try.type59 rfl rfl Try.underlying59 (by kernel_rfl)
theorem EN_37 : En Try.prog 37 := Try.call37
theorem EN_53 : En Try.prog 53 := Try.call53
theorem FA_67_1 : FA Try.prog 67 1 1 := fun b o w => by simp [Instr.fieldAt, Instr.sureAddr, fieldPlace, add_eq]
theorem UD_90 : Ud Try.prog 90 (.slice 4) := Try.runUnderlying90
theorem alive_all {o : Opn} (h : o = aliveA ∨ o = aliveB ∨ o = aliveC) : OpnOk o := by
  obtain ⟨h1, h2, h3⟩ := alive_ok
  rcases h with rfl | rfl | rfl <;> assumption
set_option maxRecDepth 20000 in
set_option maxHeartbeats 4000000 in
theorem alive7_ok (w : World) (hsortU : SortI Try.prog 76 .u16 57) : Calls Try.prog 32 #[] w (fun e w' => e = .returned (.bool true) ∧ Own w no w' []) := by
  refine calls_of_Wn (n := 80) Try.func32 rfl Try.ntmps32 rfl ?_
  have hs := Own.start w
  have ⟨hoA, hoB, hoC⟩ := alive_ok
  refine W_seq ?_
  refine W_region ?_
  refine RW_op (L_assign (V := .bool false) rfl ?_)
  refine RW_nil ?_
  refine W_seq ?_
  refine W_region ?_
  refine RW_op (L_build (vs := [(1, .int .u32 1)]) (cs := dc (⟨0, 1⟩ : Dot)) BT_34 (rfl) rfl ?_)
  refine RW_op (opW_to (V := .agg (oc (⟨(⟨0, 1⟩ : Dot), 1, 3, 4, 2, 5, vzero⟩ : Opn)).toArray) (V' := .agg (oc aliveA).toArray) (L_build (vs := [(0, .agg (dc (⟨0, 1⟩ : Dot)).toArray), (1, .int .u8 1), (2, .int .u16 3), (3, .int .u16 4), (4, .int .u16 2), (5, .int .u32 5)]) (cs := oc (⟨(⟨0, 1⟩ : Dot), 1, 3, 4, 2, 5, vzero⟩ : Opn)) BT_59 (rfl) rfl ⟨rfl, rfl⟩) rfl ?_)
  refine RW_op (L_alloc (cs := oc (⟨(⟨0, 0⟩ : Dot), 0, 0, 0, 0, 0, vzero⟩ : Opn)) ZV_59 rfl hs fun b1 w2 hs => ?_)
  refine RW_op (L_st (V := .agg (oc aliveA).toArray) (vs := oc aliveA) (cs' := oc aliveA) SA_59.1 hs 0 rfl rfl rfl rfl rfl (Nat.le_of_ble_eq_true rfl) (oc_one _) (spl_whole rfl) fun w3 hs => ?_)
  refine RW_nil ?_
  refine W_seq ?_
  refine W_region ?_
  refine RW_op (L_build (vs := [(0, .int .u8 1), (1, .int .u32 1)]) (cs := dc (⟨1, 1⟩ : Dot)) BT_34 (rfl) rfl ?_)
  refine RW_op (opW_to (V := .agg (oc (⟨(⟨1, 1⟩ : Dot), 1, 3, 4, 3, 9, vzero⟩ : Opn)).toArray) (V' := .agg (oc aliveB).toArray) (L_build (vs := [(0, .agg (dc (⟨1, 1⟩ : Dot)).toArray), (1, .int .u8 1), (2, .int .u16 3), (3, .int .u16 4), (4, .int .u16 3), (5, .int .u32 9)]) (cs := oc (⟨(⟨1, 1⟩ : Dot), 1, 3, 4, 3, 9, vzero⟩ : Opn)) BT_59 (rfl) rfl ⟨rfl, rfl⟩) rfl ?_)
  refine RW_op (L_alloc (cs := oc (⟨(⟨0, 0⟩ : Dot), 0, 0, 0, 0, 0, vzero⟩ : Opn)) ZV_59 rfl hs fun b4 w5 hs => ?_)
  replace hs : Own w no w5 [blk b1 (oc aliveA) 59, blk b4 (oc (⟨(⟨0, 0⟩ : Dot), 0, 0, 0, 0, 0, vzero⟩ : Opn)) 59] := hs
  refine RW_op (L_st (V := .agg (oc aliveB).toArray) (vs := oc aliveB) (cs' := oc aliveB) SA_59.1 hs 1 rfl rfl rfl rfl rfl (Nat.le_of_ble_eq_true rfl) (oc_one _) (spl_whole rfl) fun w6 hs => ?_)
  refine RW_nil ?_
  refine W_seq ?_
  refine W_region ?_
  refine RW_op (L_build (vs := [(0, .int .u8 2), (1, .int .u32 1)]) (cs := dc (⟨2, 1⟩ : Dot)) BT_34 (rfl) rfl ?_)
  refine RW_op (L_build (vs := [(0, .int .u32 1)]) (cs := vc (vset vzero 0 1)) BT_24 (rfl) rfl ?_)
  refine RW_op (opW_to (V := .agg (oc (⟨(⟨2, 1⟩ : Dot), 2, 3, 4, 1, 7, vset vzero 0 1⟩ : Opn)).toArray) (V' := .agg (oc aliveC).toArray) (L_build (vs := [(0, .agg (dc (⟨2, 1⟩ : Dot)).toArray), (1, .int .u8 2), (2, .int .u16 3), (3, .int .u16 4), (4, .int .u16 1), (5, .int .u32 7), (6, .agg (vc (vset vzero 0 1)).toArray)]) (cs := oc (⟨(⟨2, 1⟩ : Dot), 2, 3, 4, 1, 7, vset vzero 0 1⟩ : Opn)) BT_59 (rfl) rfl ⟨rfl, rfl⟩) rfl ?_)
  refine RW_op (L_alloc (cs := oc (⟨(⟨0, 0⟩ : Dot), 0, 0, 0, 0, 0, vzero⟩ : Opn)) ZV_59 rfl hs fun b7 w8 hs => ?_)
  refine RW_op (L_st (V := .agg (oc aliveC).toArray) (vs := oc aliveC) (cs' := oc aliveC) SA_59.1 hs 2 rfl rfl rfl rfl rfl (Nat.le_of_ble_eq_true rfl) (oc_one _) (spl_whole rfl) fun w9 hs => ?_)
  replace hs : Own w no w9 [blk b1 (oc aliveA) 59, blk b4 (oc aliveB) 59, blk b7 (oc aliveC) 59] := hs
  refine RW_nil ?_
  refine W_seq ?_
  refine W_region ?_
  refine RW_op (L_ldW (cs := oc aliveA) SA_59 hs 0 rfl rfl rfl ?_)
  refine RW_op (L_ldW (cs := oc aliveB) SA_59 hs 1 rfl rfl rfl ?_)
  refine RW_op (L_bs (vals := [.agg (oc aliveA).toArray, .agg (oc aliveB).toArray]) (ls := List.map oc ([aliveA, aliveB] : List Opn)) EL_56 rfl rfl rfl (len_map (enc := oc) (fun _ => rfl) _) (one_map oc_one _) (Nat.le_of_ble_eq_true rfl) hs fun b10 w11 hs => ?_)
  refine RW_op (L_callX (α := Option Addr × Nat) (vs := [.slice (some ⟨b10, 0, none⟩) 2 2, .int .u16 3]) (V := fun x => .agg ([.int .u16 (((⟨3, [⟨4, 5⟩], false, 9⟩ : Vw)).cart), .slice x.1 ([(⟨4, 5⟩ : Line)].length) x.2, .bool false, .int .u32 9]).toArray) (Lo := fun x => [row (.slice x.1 [(⟨4, 5⟩ : Line)].length x.2) ([(⟨4, 5⟩ : Line)].map lc) 67 2]) (F := fun _ _ => True) EN_34 rfl rfl ?hc hs fun x13 w12 hs _ => ?_)
  case hc => exact (fViewE_ok _ (some ⟨b10, 0, none⟩) 2 [aliveA, aliveB] 3 (⟨3, [⟨4, 5⟩], false, 9⟩ : Vw) (aliveV1) (fun o ho => alive_all (by simp only [List.mem_cons, List.not_mem_nil, or_false] at ho; grind)) (by decide) (hs.rd 3 rfl) hsortU)
  refine RW_op (L_alloc (cs := [.int .u16 0, .slice none 0 0, .bool false, .int .u32 0]) ZV_63 rfl hs fun b14 w15 hs => ?_)
  replace hs : Own w no w15 [blk b1 (oc aliveA) 59, blk b4 (oc aliveB) 59, blk b7 (oc aliveC) 59, row (.slice (some ⟨b10, 0, none⟩) 2 2) ([aliveA, aliveB].map oc) 59 23, row (.slice x13.1 ([(⟨4, 5⟩ : Line)].length) x13.2) ([(⟨4, 5⟩ : Line)].map lc) 67 2, blk b14 [.int .u16 0, .slice none 0 0, .bool false, .int .u32 0] 63] := hs
  refine RW_op (L_st (V := .agg ([.int .u16 (((⟨3, [⟨4, 5⟩], false, 9⟩ : Vw)).cart), .slice x13.1 ([(⟨4, 5⟩ : Line)].length) x13.2, .bool false, .int .u32 9]).toArray) (vs := [.int .u16 (((⟨3, [⟨4, 5⟩], false, 9⟩ : Vw)).cart), .slice x13.1 ([(⟨4, 5⟩ : Line)].length) x13.2, .bool false, .int .u32 9]) (cs' := [.int .u16 (((⟨3, [⟨4, 5⟩], false, 9⟩ : Vw)).cart), .slice x13.1 ([(⟨4, 5⟩ : Line)].length) x13.2, .bool false, .int .u32 9]) SA_63.1 hs 5 rfl rfl rfl rfl rfl (Nat.le_of_ble_eq_true rfl) (one_cons rfl (one_cons rfl (one_cons rfl (one_cons rfl one_nil)))) (spl_whole rfl) fun w16 hs => ?_)
  refine RW_nil ?_
  refine W_seq ?_
  refine W_region ?_
  refine RW_op (L_ldW (cs := oc aliveA) SA_59 hs 0 rfl rfl rfl ?_)
  refine RW_op (L_ldW (cs := oc aliveB) SA_59 hs 1 rfl rfl rfl ?_)
  refine RW_op (L_ldW (cs := oc aliveC) SA_59 hs 2 rfl rfl rfl ?_)
  refine RW_op (L_bs (vals := [.agg (oc aliveA).toArray, .agg (oc aliveB).toArray, .agg (oc aliveC).toArray]) (ls := List.map oc ([aliveA, aliveB, aliveC] : List Opn)) EL_56 rfl rfl rfl (len_map (enc := oc) (fun _ => rfl) _) (one_map oc_one _) (Nat.le_of_ble_eq_true rfl) hs fun b17 w18 hs => ?_)
  refine RW_op (L_callX (α := Option Addr × Nat) (vs := [.slice (some ⟨b17, 0, none⟩) 3 3, .int .u16 3]) (V := fun x => .agg ([.int .u16 (((⟨3, [⟨4, 4⟩], false, 9⟩ : Vw)).cart), .slice x.1 ([(⟨4, 4⟩ : Line)].length) x.2, .bool false, .int .u32 9]).toArray) (Lo := fun x => [row (.slice x.1 [(⟨4, 4⟩ : Line)].length x.2) ([(⟨4, 4⟩ : Line)].map lc) 67 2]) (F := fun _ _ => True) EN_34 rfl rfl ?hc hs fun x20 w19 hs _ => ?_)
  case hc => exact (fViewE_ok _ (some ⟨b17, 0, none⟩) 3 [aliveA, aliveB, aliveC] 3 (⟨3, [⟨4, 4⟩], false, 9⟩ : Vw) (aliveV2) (fun o ho => alive_all (by simp only [List.mem_cons, List.not_mem_nil, or_false] at ho; grind)) (by decide) (hs.rd 6 rfl) hsortU)
  replace hs : Own w no w19 [blk b1 (oc aliveA) 59, blk b4 (oc aliveB) 59, blk b7 (oc aliveC) 59, row (.slice (some ⟨b10, 0, none⟩) 2 2) ([aliveA, aliveB].map oc) 59 23, row (.slice x13.1 ([(⟨4, 5⟩ : Line)].length) x13.2) ([(⟨4, 5⟩ : Line)].map lc) 67 2, blk b14 [.int .u16 (((⟨3, [⟨4, 5⟩], false, 9⟩ : Vw)).cart), .slice x13.1 ([(⟨4, 5⟩ : Line)].length) x13.2, .bool false, .int .u32 9] 63, row (.slice (some ⟨b17, 0, none⟩) 3 3) ([aliveA, aliveB, aliveC].map oc) 59 23, row (.slice x20.1 ([(⟨4, 4⟩ : Line)].length) x20.2) ([(⟨4, 4⟩ : Line)].map lc) 67 2] := hs
  refine RW_op (L_alloc (cs := [.int .u16 0, .slice none 0 0, .bool false, .int .u32 0]) ZV_63 rfl hs fun b21 w22 hs => ?_)
  refine RW_op (L_st (V := .agg ([.int .u16 (((⟨3, [⟨4, 4⟩], false, 9⟩ : Vw)).cart), .slice x20.1 ([(⟨4, 4⟩ : Line)].length) x20.2, .bool false, .int .u32 9]).toArray) (vs := [.int .u16 (((⟨3, [⟨4, 4⟩], false, 9⟩ : Vw)).cart), .slice x20.1 ([(⟨4, 4⟩ : Line)].length) x20.2, .bool false, .int .u32 9]) (cs' := [.int .u16 (((⟨3, [⟨4, 4⟩], false, 9⟩ : Vw)).cart), .slice x20.1 ([(⟨4, 4⟩ : Line)].length) x20.2, .bool false, .int .u32 9]) SA_63.1 hs 8 rfl rfl rfl rfl rfl (Nat.le_of_ble_eq_true rfl) (one_cons rfl (one_cons rfl (one_cons rfl (one_cons rfl one_nil)))) (spl_whole rfl) fun w23 hs => ?_)
  refine RW_nil ?_
  refine W_seq ?_
  refine W_region ?_
  refine RW_op (L_fieldAddr FA_63_1 rfl ?_)
  refine RW_op (L_ld (V := .slice x13.1 ([(⟨4, 5⟩ : Line)].length) x13.2) S1_61 hs 5 rfl rfl rfl ?_)
  refine RW_op (L_lenR (n := [(⟨4, 5⟩ : Line)].length) UD_61 (hs.rd 4 rfl) (by simp) rfl ?_)
  refine RW_op (opW_to (V := .bool (decide ((([(⟨4, 5⟩ : Line)].length : Nat) : Int) = 1))) (V' := .bool true) (L_eql rfl rfl ⟨rfl, rfl⟩) (congrArg Value.bool (by decide)) ?_)
  refine RW_op (L_move (V := .bool true) rfl ?_)
  refine RW_gy rfl (L_fieldAddr FA_63_1 rfl ?_)
  refine RW_gy rfl (L_ld (V := .slice x13.1 ([(⟨4, 5⟩ : Line)].length) x13.2) S1_61 hs 5 rfl rfl rfl ?_)
  refine RW_gy rfl (L_ixR UD_61 SA_67.1 (hs.rd 4 rfl) rfl rfl (by decide) (by simp only [List.length_map, List.length_cons, List.length_nil]; omega) ?_)
  refine RW_gy rfl (L_ldRA (j := 0) (vs := lc (gd [(⟨4, 5⟩ : Line)] 0)) 0 SA_67 (hs.rd 4 rfl) (gd_at (by simp only [List.length_cons, List.length_nil]; omega)) rfl rfl rfl (by omega) ?_)
  refine RW_gy rfl (L_build (vs := [(0, .int .u16 4), (1, .int .u32 5)]) (cs := lc (⟨4, 5⟩ : Line)) BT_67 (rfl) rfl ?_)
  refine RW_gy rfl (opW_to (V := .bool (decide (gd [(⟨4, 5⟩ : Line)] 0 = (⟨4, 5⟩ : Line)))) (V' := .bool true) (L_eqA (xs := lc (gd [(⟨4, 5⟩ : Line)] 0)) (ys := lc (⟨4, 5⟩ : Line)) Try.eqGuardType67 (EQ_67 (gd [(⟨4, 5⟩ : Line)] 0) (⟨4, 5⟩ : Line)) rfl rfl rfl ⟨rfl, rfl⟩) (congrArg Value.bool (by decide)) ?_)
  refine RW_op (L_pick (V := .bool true) rfl rfl ?_)
  refine RW_op (L_move (V := .bool true) rfl ?_)
  refine RW_gy rfl (L_fieldAddr FA_63_3 rfl ?_)
  refine RW_gy rfl (L_ld (V := .int .u32 9) S1_22 hs 5 rfl rfl rfl ?_)
  refine RW_gy rfl (opW_to (V := .bool (decide ((9 : Int) = 9))) (V' := .bool true) (L_eql rfl rfl ⟨rfl, rfl⟩) (congrArg Value.bool (by decide)) ?_)
  refine RW_op (L_pick (V := .bool true) rfl rfl ?_)
  refine RW_op (L_move (V := .bool true) rfl ?_)
  refine RW_gy rfl (L_fieldAddr FA_63_1 rfl ?_)
  refine RW_gy rfl (L_ld (V := .slice x20.1 ([(⟨4, 4⟩ : Line)].length) x20.2) S1_61 hs 8 rfl rfl rfl ?_)
  refine RW_gy rfl (L_lenR (n := [(⟨4, 4⟩ : Line)].length) UD_61 (hs.rd 7 rfl) (by simp) rfl ?_)
  refine RW_gy rfl (opW_to (V := .bool (decide ((([(⟨4, 4⟩ : Line)].length : Nat) : Int) = 1))) (V' := .bool true) (L_eql rfl rfl ⟨rfl, rfl⟩) (congrArg Value.bool (by decide)) ?_)
  refine RW_op (L_pick (V := .bool true) rfl rfl ?_)
  refine RW_op (L_move (V := .bool true) rfl ?_)
  refine RW_gy rfl (L_fieldAddr FA_63_1 rfl ?_)
  refine RW_gy rfl (L_ld (V := .slice x20.1 ([(⟨4, 4⟩ : Line)].length) x20.2) S1_61 hs 8 rfl rfl rfl ?_)
  refine RW_gy rfl (L_ixR UD_61 SA_67.1 (hs.rd 7 rfl) rfl rfl (by decide) (by simp only [List.length_map, List.length_cons, List.length_nil]; omega) ?_)
  refine RW_gy rfl (L_fieldAddr FA_67_1 rfl ?_)
  refine RW_gy rfl (L_ldR (j := 1) (V := .int .u32 ((gd [(⟨4, 4⟩ : Line)] 0).qty)) 0 S1_22 (hs.rd 7 rfl) (gd_at (by simp only [List.length_cons, List.length_nil]; omega)) rfl rfl (by omega) ?_)
  refine RW_gy rfl (opW_to (V := .bool (decide ((gd [(⟨4, 4⟩ : Line)] 0).qty = 4))) (V' := .bool true) (L_eql rfl rfl ⟨rfl, rfl⟩) (congrArg Value.bool (by decide)) ?_)
  refine RW_op (L_pick (V := .bool true) rfl rfl ?_)
  refine RW_op (L_move (V := .bool true) rfl ?_)
  refine RW_gy rfl (L_ldW (cs := oc aliveA) SA_59 hs 0 rfl rfl rfl ?_)
  refine RW_gy rfl (L_bs (vals := [.agg (oc aliveA).toArray]) (ls := List.map oc ([aliveA] : List Opn)) EL_56 rfl rfl rfl (len_map (enc := oc) (fun _ => rfl) _) (one_map oc_one _) (Nat.le_of_ble_eq_true rfl) hs fun b24 w25 hs => ?_)
  replace hs : Own w no w25 [blk b1 (oc aliveA) 59, blk b4 (oc aliveB) 59, blk b7 (oc aliveC) 59, row (.slice (some ⟨b10, 0, none⟩) 2 2) ([aliveA, aliveB].map oc) 59 23, row (.slice x13.1 ([(⟨4, 5⟩ : Line)].length) x13.2) ([(⟨4, 5⟩ : Line)].map lc) 67 2, blk b14 [.int .u16 (((⟨3, [⟨4, 5⟩], false, 9⟩ : Vw)).cart), .slice x13.1 ([(⟨4, 5⟩ : Line)].length) x13.2, .bool false, .int .u32 9] 63, row (.slice (some ⟨b17, 0, none⟩) 3 3) ([aliveA, aliveB, aliveC].map oc) 59 23, row (.slice x20.1 ([(⟨4, 4⟩ : Line)].length) x20.2) ([(⟨4, 4⟩ : Line)].map lc) 67 2, blk b21 [.int .u16 (((⟨3, [⟨4, 4⟩], false, 9⟩ : Vw)).cart), .slice x20.1 ([(⟨4, 4⟩ : Line)].length) x20.2, .bool false, .int .u32 9] 63, row (.slice (some ⟨b24, 0, none⟩) 1 1) ([aliveA].map oc) 59 23] := hs
  refine RW_gy rfl (L_callX (α := Option Addr × Nat) (vs := [.slice (some ⟨b24, 0, none⟩) 1 1, .int .u16 2]) (V := fun x => .agg ([.int .u16 (((⟨2, [], false, 0⟩ : Vw)).cart), .slice x.1 (([] : List Line).length) x.2, .bool false, .int .u32 0]).toArray) (Lo := fun x => [row (.slice x.1 ([] : List Line).length x.2) (([] : List Line).map lc) 67 2]) (F := fun _ _ => True) EN_34 rfl rfl ?hc hs fun x27 w26 hs _ => ?_)
  case hc => exact (fViewE_ok _ (some ⟨b24, 0, none⟩) 1 [aliveA] 2 (⟨2, [], false, 0⟩ : Vw) (aliveV3) (fun o ho => alive_all (by simp only [List.mem_cons, List.not_mem_nil, or_false] at ho; grind)) (by decide) (hs.rd 9 rfl) hsortU)
  refine RW_gy rfl (L_fieldV (V := .bool false) (fun w => by simp [Instr.field, part, asAgg]) rfl ?_)
  refine RW_gy rfl (L_not rfl ?_)
  refine RW_op (L_pick (V := .bool true) rfl rfl ?_)
  refine RW_op (L_move (V := .bool true) rfl ?_)
  refine RW_gy rfl (L_ldW (cs := oc aliveC) SA_59 hs 2 rfl rfl rfl ?_)
  refine RW_gy rfl (L_ldW (cs := oc aliveA) SA_59 hs 0 rfl rfl rfl ?_)
  refine RW_gy rfl (L_bs (vals := [.agg (oc aliveC).toArray, .agg (oc aliveA).toArray]) (ls := List.map oc ([aliveC, aliveA] : List Opn)) EL_56 rfl rfl rfl (len_map (enc := oc) (fun _ => rfl) _) (one_map oc_one _) (Nat.le_of_ble_eq_true rfl) hs fun b28 w29 hs => ?_)
  refine RW_gy rfl (L_callPV (V' := .bool true) (congrArg Value.bool (aliveC1)) (vs := [.slice (some ⟨b28, 0, none⟩) 2 2]) (V := .bool (closedP [aliveC, aliveA])) EN_37 rfl rfl ?hc hs fun w30 hs => ?_)
  case hc => exact (fClosed_ok _ (some ⟨b28, 0, none⟩) 2 [aliveC, aliveA] (fun o ho => alive_all (by simp only [List.mem_cons, List.not_mem_nil, or_false] at ho; grind)) (by decide) (hs.rd 11 rfl))
  refine RW_op (L_pick (V := .bool true) rfl rfl ?_)
  refine RW_op (L_move (V := .bool true) rfl ?_)
  refine RW_gy rfl (L_ldW (cs := oc aliveC) SA_59 hs 2 rfl rfl rfl ?_)
  refine RW_gy rfl (L_bs (vals := [.agg (oc aliveC).toArray]) (ls := List.map oc ([aliveC] : List Opn)) EL_56 rfl rfl rfl (len_map (enc := oc) (fun _ => rfl) _) (one_map oc_one _) (Nat.le_of_ble_eq_true rfl) hs fun b31 w32 hs => ?_)
  replace hs : Own w no w32 [blk b1 (oc aliveA) 59, blk b4 (oc aliveB) 59, blk b7 (oc aliveC) 59, row (.slice (some ⟨b10, 0, none⟩) 2 2) ([aliveA, aliveB].map oc) 59 23, row (.slice x13.1 ([(⟨4, 5⟩ : Line)].length) x13.2) ([(⟨4, 5⟩ : Line)].map lc) 67 2, blk b14 [.int .u16 (((⟨3, [⟨4, 5⟩], false, 9⟩ : Vw)).cart), .slice x13.1 ([(⟨4, 5⟩ : Line)].length) x13.2, .bool false, .int .u32 9] 63, row (.slice (some ⟨b17, 0, none⟩) 3 3) ([aliveA, aliveB, aliveC].map oc) 59 23, row (.slice x20.1 ([(⟨4, 4⟩ : Line)].length) x20.2) ([(⟨4, 4⟩ : Line)].map lc) 67 2, blk b21 [.int .u16 (((⟨3, [⟨4, 4⟩], false, 9⟩ : Vw)).cart), .slice x20.1 ([(⟨4, 4⟩ : Line)].length) x20.2, .bool false, .int .u32 9] 63, row (.slice (some ⟨b24, 0, none⟩) 1 1) ([aliveA].map oc) 59 23, row (.slice x27.1 (([] : List Line).length) x27.2) (([] : List Line).map lc) 67 2, row (.slice (some ⟨b28, 0, none⟩) 2 2) ([aliveC, aliveA].map oc) 59 23, row (.slice (some ⟨b31, 0, none⟩) 1 1) ([aliveC].map oc) 59 23] := hs
  refine RW_gy rfl (L_callPV (V' := .bool false) (congrArg Value.bool aliveC2) (vs := [.slice (some ⟨b31, 0, none⟩) 1 1]) (V := .bool (closedP [aliveC])) EN_37 rfl rfl ?hc hs fun w33 hs => ?_)
  case hc => exact (fClosed_ok _ (some ⟨b31, 0, none⟩) 1 [aliveC] (fun o ho => alive_all (by simp only [List.mem_cons, List.not_mem_nil, or_false] at ho; grind)) (by decide) (hs.rd 12 rfl))
  refine RW_gy rfl (L_not rfl ?_)
  refine RW_op (L_pick (V := .bool true) rfl rfl ?_)
  refine RW_op (L_move (V := .bool true) rfl ?_)
  refine RW_gy rfl (L_ldW (cs := oc aliveA) SA_59 hs 0 rfl rfl rfl ?_)
  refine RW_gy rfl (L_ldW (cs := oc aliveC) SA_59 hs 2 rfl rfl rfl ?_)
  refine RW_gy rfl (L_bs (vals := [.agg (oc aliveA).toArray, .agg (oc aliveC).toArray]) (ls := List.map oc ([aliveA, aliveC] : List Opn)) EL_56 rfl rfl rfl (len_map (enc := oc) (fun _ => rfl) _) (one_map oc_one _) (Nat.le_of_ble_eq_true rfl) hs fun b34 w35 hs => ?_)
  refine RW_gy rfl (L_callX (vs := [.slice (some ⟨b34, 0, none⟩) 2 2]) EN_53 rfl rfl (fLives_ok _ (some ⟨b34, 0, none⟩) 2 [aliveA, aliveC] (fun o ho => alive_all (by simp only [List.mem_cons, List.not_mem_nil, or_false] at ho; grind)) (by decide) (hs.rd 13 rfl) ) hs fun x37 w36 hs _ => ?_)
  refine RW_gy rfl (L_lenR (n := ([aliveA, aliveC].map (liveB [aliveA, aliveC])).length) UD_90 (hs.rd 14 rfl) (by simp) rfl ?_)
  refine RW_gy rfl (opW_to (V := .bool (decide (((([aliveA, aliveC].map (liveB [aliveA, aliveC])).length : Nat) : Int) = 2))) (V' := .bool true) (L_eql rfl rfl ⟨rfl, rfl⟩) (congrArg Value.bool (by decide)) ?_)
  refine RW_op (L_pick (V := .bool true) rfl rfl ?_)
  refine RW_op (L_assign (V := .bool true) rfl ?_)
  refine RW_nil ?_
  refine W_ret ?_
  refine ⟨_, res_one (V := .bool true) Try.results32 rfl, ?_⟩
  refine ⟨congrArg Ending.returned ?_, hs.take 0⟩
  rfl
end Tf
end Go.Proofs
namespace Go.Proofs
open Go Go.Vx Go.RowKit
open Tt
namespace Tf
theorem EN_32 : En Try.prog 32 := Try.call32
end Tf
end Go.Proofs
namespace Go.Proofs
open Go Go.Vx Go.RowKit
open Tt
namespace Tf
theorem FA_67_0 : FA Try.prog 67 0 0 := fun b o w => by simp [Instr.fieldAt, Instr.sureAddr, fieldPlace, add_eq]
set_option maxRecDepth 20000 in
set_option maxHeartbeats 4000000 in
theorem foldTicks_ok (w : World) (a : Option Addr) (c : Nat) (l : List Opn) (hl : ∀ o ∈ l, OpnOk o) (hr : Rd w (.slice a l.length c) 23 (l.map oc)) (hsortU : SortI Try.prog 76 .u16 57) (cart : Int) : Calls Try.prog 11 #[.slice a l.length c, .int .u16 cart] w (fun e w' => e = .returned (.bool true) ∧ Own w no w' []) := by
  refine calls_of_Wn (n := 67) Try.func11 rfl Try.ntmps11 rfl ?_
  have hs := Own.start w
  have hn := hr.sml
  refine W_seq ?_
  refine W_region ?_
  refine RW_op (L_assign (V := .bool false) rfl ?_)
  refine RW_nil ?_
  refine W_seq ?_
  refine W_seq ?_
  refine W_region ?_
  refine RW_op (L_callP (vs := []) (V := .bool true) EN_32 rfl rfl ?hc hs fun w1 hs => ?_)
  case hc => exact (alive7_ok _ hsortU)
  refine RW_op (L_not rfl ?_)
  refine RW_nil ?_
  refine W_condF rfl ?_
  refine W_skip ?_
  refine W_seq ?_
  refine W_seq ?_
  refine W_region ?_
  refine RW_op (L_move (V := .slice a l.length c) rfl ?_)
  refine RW_op (L_lenR (n := l.length) UD_56 (Rd.own' hr hs) (by simp) rfl ?_)
  refine RW_op (L_gtr rfl rfl ?_)
  refine RW_nil ?_
  refine W_cond (t := decide (40 < ((l.length : Nat) : Int))) rfl (fun c2 => ?_) (fun c2 => ?_)
  ·
    replace c2 := of_decide_eq_true c2
    refine W_seq ?_
    refine W_region ?_
    refine RW_op (L_assign (V := .bool true) rfl ?_)
    refine RW_nil ?_
    refine W_ret ?_
    refine ⟨_, res_one (V := .bool true) Try.results11 rfl, ?_⟩
    refine ⟨congrArg Ending.returned ?_, hs.take 0⟩
    rfl
  ·
    replace c2 := of_decide_eq_false c2
    refine W_skip ?_
    refine W_seq ?_
    have hlen : l.length ≤ 1000 := by omega
    refine W_region ?_
    refine RW_op (L_move (V := .slice a l.length c) rfl ?_)
    refine RW_op (L_move (V := .int .u16 cart) rfl ?_)
    refine RW_op (L_callX (α := Option Addr × Nat) (vs := [.slice a l.length c, .int .u16 cart]) (V := fun x => .agg ([.int .u16 ((viewP l cart).cart), .slice x.1 (((viewP l cart).lines).length) x.2, .bool ((viewP l cart).out), .int .u32 ((viewP l cart).tick)]).toArray) (Lo := fun x => [row (.slice x.1 ((viewP l cart).lines).length x.2) (((viewP l cart).lines).map lc) 67 2]) (F := fun _ _ => True) EN_34 rfl rfl ?hc hs fun x4 w3 hs _ => ?_)
    case hc => exact (fViewE_ok _ a c l cart (viewP l cart) (rfl) hl (by omega) (Rd.own' hr hs) hsortU)
    refine RW_op (L_alloc (cs := [.int .u16 0, .slice none 0 0, .bool false, .int .u32 0]) ZV_63 rfl hs fun b5 w6 hs => ?_)
    refine RW_op (L_st (V := .agg ([.int .u16 ((viewP l cart).cart), .slice x4.1 (((viewP l cart).lines).length) x4.2, .bool ((viewP l cart).out), .int .u32 ((viewP l cart).tick)]).toArray) (vs := [.int .u16 ((viewP l cart).cart), .slice x4.1 (((viewP l cart).lines).length) x4.2, .bool ((viewP l cart).out), .int .u32 ((viewP l cart).tick)]) (cs' := [.int .u16 ((viewP l cart).cart), .slice x4.1 (((viewP l cart).lines).length) x4.2, .bool ((viewP l cart).out), .int .u32 ((viewP l cart).tick)]) SA_63.1 hs 1 rfl rfl rfl rfl rfl (Nat.le_of_ble_eq_true rfl) (one_cons rfl (one_cons rfl (one_cons rfl (one_cons rfl one_nil)))) (spl_whole rfl) fun w7 hs => ?_)
    refine RW_nil ?_
    refine W_seq ?_
    refine W_region ?_
    refine RW_op (L_fieldAddr FA_63_3 rfl ?_)
    refine RW_op (L_ld (V := .int .u32 ((viewP l cart).tick)) S1_22 hs 1 rfl rfl rfl ?_)
    refine RW_op (L_eql rfl rfl ?_)
    refine RW_op (L_assign (V := .bool (decide ((viewP l cart).tick = 0))) rfl ?_)
    refine RW_nil ?_
    refine W_seq ?_
    refine W_seq ?_
    refine W_region ?_
    refine RW_op (L_move (V := .slice a l.length c) rfl ?_)
    refine RW_op (L_lenR (n := l.length) UD_56 (Rd.own' hr hs) (by simp) rfl ?_)
    refine RW_op (L_move (V := .int .i64 0) rfl ?_)
    refine RW_nil ?_
    refine W_block ?_
    refine W_loopI (fun ρ m ρ' w' => ∃ (ρo : Env) (k : Nat) (fd : Bool), ρ' = upd (upd (mix [4, 6, 8, 23, 24, 25, 26, 27, 28, 29, 30, 31, 32, 33, 34, 35, 36, 37, 38, 39, 40, 41, 42, 43, 44] ρo ρ) 23 (.int .i64 (k : Int))) 6 (.bool fd) ∧ (k ≤ l.length) ∧ (fd = (decide ((viewP l cart).tick = 0) || (l.take k).any fun o : Opn => decide (o.cart = cart) && decide (o.tick = (viewP l cart).tick))) ∧ m = l.length - k ∧ Own w no w' [row (.slice x4.1 (((viewP l cart).lines).length) x4.2) (((viewP l cart).lines).map lc) 67 2, blk b5 [.int .u16 ((viewP l cart).cart), .slice x4.1 (((viewP l cart).lines).length) x4.2, .bool ((viewP l cart).out), .int .u32 ((viewP l cart).tick)] 63]) ?_ ?_
    · exact ⟨_, _, 0, decide ((viewP l cart).tick = 0), upd_of (upd_of (mix_of (ds := [4, 6, 8, 23, 24, 25, 26, 27, 28, 29, 30, 31, 32, 33, 34, 35, 36, 37, 38, 39, 40, 41, 42, 43, 44]) (Agr.refl _ _)) rfl) rfl, (by omega), (any_start _ _ _), rfl, hs⟩
    · rintro m ρ' w8 ⟨ρo, k, fd, rfl, hk, hfd, rfl, hs⟩
      refine W_seq ?_
      refine W_region ?_
      refine RW_op (L_lss rfl rfl ?_)
      refine RW_nil ?_
      refine W_seq ?_
      refine W_cond (t := decide ((k : Int) < ((l.length : Nat) : Int))) rfl (fun c9 => ?_) (fun c9 => ?_)
      ·
        replace c9 := of_decide_eq_true c9
        refine W_skip ?_
        refine W_seq ?_
        refine W_block ?_
        refine W_seq ?_
        refine W_region ?_
        refine RW_op (L_ixR UD_56 SA_59.1 (Rd.own' hr hs) rfl rfl (by omega) (by rw [List.length_map]; omega) ?_)
        refine RW_op (L_ldRA (j := 0) (vs := oc (gd l k)) k SA_59 (Rd.own' hr hs) (gd_at (by omega)) rfl rfl rfl (by omega) ?_)
        refine RW_op (L_alloc (cs := oc (⟨(⟨0, 0⟩ : Dot), 0, 0, 0, 0, 0, vzero⟩ : Opn)) ZV_59 rfl hs fun b10 w11 hs => ?_)
        replace hs : Own w no w11 [row (.slice x4.1 (((viewP l cart).lines).length) x4.2) (((viewP l cart).lines).map lc) 67 2, blk b5 [.int .u16 ((viewP l cart).cart), .slice x4.1 (((viewP l cart).lines).length) x4.2, .bool ((viewP l cart).out), .int .u32 ((viewP l cart).tick)] 63, blk b10 (oc (⟨(⟨0, 0⟩ : Dot), 0, 0, 0, 0, 0, vzero⟩ : Opn)) 59] := hs
        refine RW_op (L_st (V := .agg (oc (gd l k)).toArray) (vs := oc (gd l k)) (cs' := oc (gd l k)) SA_59.1 hs 2 rfl rfl rfl rfl rfl (Nat.le_of_ble_eq_true rfl) (oc_one _) (spl_whole rfl) fun w12 hs => ?_)
        refine RW_nil ?_
        refine W_seq ?_
        refine W_seq ?_
        refine W_region ?_
        refine RW_op (L_fieldAddr FA_59_2 rfl ?_)
        refine RW_op (L_ld (V := .int .u16 ((gd l k).cart)) S1_57 hs 2 rfl rfl rfl ?_)
        refine RW_op (L_move (V := .int .u16 cart) rfl ?_)
        refine RW_op (L_neq rfl rfl ?_)
        refine RW_nil ?_
        refine W_cond (t := !decide ((gd l k).cart = cart)) rfl (fun c13 => ?_) (fun c13 => ?_)
        ·
          replace c13 := not_t c13
          replace c13 := of_decide_eq_false c13
          refine W_exit ?_
          refine W_region ?_
          refine RW_op (L_add (a := (k : Int)) (b := 1) (c := (k : Int) + 1) rfl rfl (wr_i64 (by omega) (by omega)) ?_)
          refine RW_op (L_move (V := .int .i64 ((k : Int) + 1)) rfl ?_)
          refine RW_nil ?_
          refine ⟨_, ?_, _, k + 1, fd, upd_of (upd_of (mix_of (ds := [4, 6, 8, 23, 24, 25, 26, 27, 28, 29, 30, 31, 32, 33, 34, 35, 36, 37, 38, 39, 40, 41, 42, 43, 44]) (by repeat (first | exact Agr.refl _ _ | refine Agr.upd ?_ rfl | refine Agr.mix ?_ rfl))) rfl) rfl, (by omega), (by rw [← any_next (p := fun o : Opn => decide (o.cart = cart) && decide (o.tick = (viewP l cart).tick)) (by omega) hfd]; rw [decide_eq_false c13, Bool.false_and, Bool.or_false]), rfl, hs.take 2⟩
          omega
        ·
          replace c13 := not_f c13
          replace c13 := of_decide_eq_true c13
          refine W_skip ?_
          refine W_seq ?_
          refine W_inv2 [31, 32, 33, 34, 35, 36, 37, 38, 6] [[], [0], [1], [2, 1], [1], [4, 1], [3, 5, 1], [1, 6], [7, 1, 0, 1, 2, 3, 4, 5, 6, 7]] (fun D ρ wx => Own w no wx [row (.slice x4.1 (((viewP l cart).lines).length) x4.2) (((viewP l cart).lines).map lc) 67 2, blk b5 [.int .u16 ((viewP l cart).cart), .slice x4.1 (((viewP l cart).lines).length) x4.2, .bool ((viewP l cart).out), .int .u32 ((viewP l cart).tick)] 63, blk b10 (oc (gd l k)) 59] ∧ (D 0 = true → ρ 31 = .bool fd) ∧ (D 1 = true → ρ 32 = .bool fd) ∧ (D 2 = true → ρ 33 = cond (fd == false) (.pointer (some ⟨b10, 0 + 6, none⟩)) undef) ∧ (D 3 = true → ρ 34 = cond (fd == false) (.int .u32 ((gd l k).tick)) undef) ∧ (D 4 = true → ρ 35 = cond (fd == false) (.pointer (some ⟨b5, 0 + 3, none⟩)) undef) ∧ (D 5 = true → ρ 36 = cond (fd == false) (.int .u32 ((viewP l cart).tick)) undef) ∧ (D 6 = true → ρ 37 = cond (fd == false) (.bool (decide ((gd l k).tick = (viewP l cart).tick))) undef) ∧ (D 7 = true → ρ 38 = .bool (fd || (decide ((gd l k).tick = (viewP l cart).tick)))) ∧ (D 8 = true → ρ 6 = .bool (fd || (decide ((gd l k).tick = (viewP l cart).tick)))) ∧ (D 8 = false → ρ 6 = .bool fd)) rfl rfl rfl ⟨hs, fun h => absurd h Bool.false_ne_true, fun h => absurd h Bool.false_ne_true, fun h => absurd h Bool.false_ne_true, fun h => absurd h Bool.false_ne_true, fun h => absurd h Bool.false_ne_true, fun h => absurd h Bool.false_ne_true, fun h => absurd h Bool.false_ne_true, fun h => absurd h Bool.false_ne_true, fun h => absurd h Bool.false_ne_true, fun _ => rfl⟩ ⟨?_, ?_, ?_, ?_, ?_, ?_, ?_, ?_, ?_, trivial⟩ ?_
          · rintro D ρ wx hD hd hdc hf ⟨hs, f0, f1, f2, f3, f4, f5, f6, f7, f8, q6⟩
            have r6 : ρ 6 = .bool fd := q6 (notYetD hdc (j := 8) rfl rfl hD)
            exact .inl ⟨rfl, L_move (V := .bool fd) r6 ⟨hs, fun _ => rfl, f1, f2, f3, f4, f5, f6, f7, f8, q6⟩⟩
          · rintro D ρ wx hD hd hdc hf ⟨hs, f0, f1, f2, f3, f4, f5, f6, f7, f8, q6⟩
            have g0 := f0 (doneD hd 0 rfl)
            exact .inl ⟨rfl, L_move (V := .bool fd) g0 ⟨hs, f0, fun _ => rfl, f2, f3, f4, f5, f6, f7, f8, q6⟩⟩
          · rintro D ρ wx hD hd hdc hf ⟨hs, f0, f1, f2, f3, f4, f5, f6, f7, f8, q6⟩
            have r8 : ρ 8 = .pointer (some ⟨b10, 0, none⟩) := outD hf 8 rfl
            rcases Bool.eq_false_or_eq_true (fd == false) with hG | hG
            rotate_left
            · exact .inr ⟨(Eq.trans (wantG1 (j := 1) rfl (f1 (doneD hd 1 rfl))) hG), ⟨hs, f0, f1, fun _ => (condF hG).symm, f3, f4, f5, f6, f7, f8, q6⟩⟩
            ·
              exact .inl ⟨(Eq.trans (wantG1 (j := 1) rfl (f1 (doneD hd 1 rfl))) hG), L_fieldAddr FA_59_5 r8 ⟨hs, f0, f1, fun _ => (condT hG).symm, f3, f4, f5, f6, f7, f8, q6⟩⟩
          · rintro D ρ wx hD hd hdc hf ⟨hs, f0, f1, f2, f3, f4, f5, f6, f7, f8, q6⟩
            have g2 := f2 (doneD hd 2 rfl)
            rcases Bool.eq_false_or_eq_true (fd == false) with hG | hG
            rotate_left
            · exact .inr ⟨(Eq.trans (wantG1 (j := 1) rfl (f1 (doneD hd 1 rfl))) hG), ⟨hs, f0, f1, f2, fun _ => (condF hG).symm, f4, f5, f6, f7, f8, q6⟩⟩
            ·
              exact .inl ⟨(Eq.trans (wantG1 (j := 1) rfl (f1 (doneD hd 1 rfl))) hG), L_ld (V := .int .u32 ((gd l k).tick)) S1_22 hs 2 rfl ((g2).trans (condT (by exact hG))) rfl ⟨hs, f0, f1, f2, fun _ => (condT hG).symm, f4, f5, f6, f7, f8, q6⟩⟩
          · rintro D ρ wx hD hd hdc hf ⟨hs, f0, f1, f2, f3, f4, f5, f6, f7, f8, q6⟩
            have r5 : ρ 5 = .pointer (some ⟨b5, 0, none⟩) := outD hf 5 rfl
            rcases Bool.eq_false_or_eq_true (fd == false) with hG | hG
            rotate_left
            · exact .inr ⟨(Eq.trans (wantG1 (j := 1) rfl (f1 (doneD hd 1 rfl))) hG), ⟨hs, f0, f1, f2, f3, fun _ => (condF hG).symm, f5, f6, f7, f8, q6⟩⟩
            ·
              exact .inl ⟨(Eq.trans (wantG1 (j := 1) rfl (f1 (doneD hd 1 rfl))) hG), L_fieldAddr FA_63_3 r5 ⟨hs, f0, f1, f2, f3, fun _ => (condT hG).symm, f5, f6, f7, f8, q6⟩⟩
          · rintro D ρ wx hD hd hdc hf ⟨hs, f0, f1, f2, f3, f4, f5, f6, f7, f8, q6⟩
            have g4 := f4 (doneD hd 4 rfl)
            rcases Bool.eq_false_or_eq_true (fd == false) with hG | hG
            rotate_left
            · exact .inr ⟨(Eq.trans (wantG1 (j := 1) rfl (f1 (doneD hd 1 rfl))) hG), ⟨hs, f0, f1, f2, f3, f4, fun _ => (condF hG).symm, f6, f7, f8, q6⟩⟩
            ·
              exact .inl ⟨(Eq.trans (wantG1 (j := 1) rfl (f1 (doneD hd 1 rfl))) hG), L_ld (V := .int .u32 ((viewP l cart).tick)) S1_22 hs 1 rfl ((g4).trans (condT (by exact hG))) rfl ⟨hs, f0, f1, f2, f3, f4, fun _ => (condT hG).symm, f6, f7, f8, q6⟩⟩
          · rintro D ρ wx hD hd hdc hf ⟨hs, f0, f1, f2, f3, f4, f5, f6, f7, f8, q6⟩
            have g3 := f3 (doneD hd 3 rfl)
            have g5 := f5 (doneD hd 5 rfl)
            rcases Bool.eq_false_or_eq_true (fd == false) with hG | hG
            rotate_left
            · exact .inr ⟨(Eq.trans (wantG1 (j := 1) rfl (f1 (doneD hd 1 rfl))) hG), ⟨hs, f0, f1, f2, f3, f4, f5, fun _ => (condF hG).symm, f7, f8, q6⟩⟩
            ·
              exact .inl ⟨(Eq.trans (wantG1 (j := 1) rfl (f1 (doneD hd 1 rfl))) hG), L_eql ((g3).trans (condT (by exact hG))) ((g5).trans (condT (by exact hG))) ⟨hs, f0, f1, f2, f3, f4, f5, fun _ => (condT hG).symm, f7, f8, q6⟩⟩
          · rintro D ρ wx hD hd hdc hf ⟨hs, f0, f1, f2, f3, f4, f5, f6, f7, f8, q6⟩
            have g1 := f1 (doneD hd 1 rfl)
            have g6 := f6 (doneD hd 6 rfl)
            exact .inl ⟨rfl, L_or g1 rfl (fun hg => ((g6).trans (condT (by first | exact beqT hg | rfl)))) ⟨hs, f0, f1, f2, f3, f4, f5, f6, fun _ => rfl, f8, q6⟩⟩
          · rintro D ρ wx hD hd hdc hf ⟨hs, f0, f1, f2, f3, f4, f5, f6, f7, f8, q6⟩
            have g7 := f7 (doneD hd 7 rfl)
            exact .inl ⟨rfl, L_assign (V := .bool (fd || (decide ((gd l k).tick = (viewP l cart).tick)))) g7 ⟨hs, f0, f1, f2, f3, f4, f5, f6, f7, fun _ => rfl, (fun h => nomatch (show true = false from h))⟩⟩
          · rintro ρ1 w1 D hD hf ⟨hs, f0, f1, f2, f3, f4, f5, f6, f7, f8, q6⟩
            have e8 := f8 (hD 8 rfl)
            clear f0 f1 f2 f3 f4 f5 f6 f7 f8 q6
            obtain ⟨ρ2, hρ⟩ : ∃ ρ2, ρ1 = upd (mix [31, 32, 33, 34, 35, 36, 37, 38, 6] ρ2 _) 6 (.bool (fd || (decide ((gd l k).tick = (viewP l cart).tick)))) := ⟨ρ1, upd_of (mix_of (ds := [31, 32, 33, 34, 35, 36, 37, 38, 6]) hf) e8⟩
            clear hf hD e8
            subst hρ
            refine W_seq ?_
            have htl := view_tick_le l cart _ (gd_mem (l := l) (i := k) (by omega)) (by assumption)
            refine W_region ?_
            refine RW_op (L_fieldAddr FA_59_5 rfl ?_)
            refine RW_op (L_ld (V := .int .u32 ((gd l k).tick)) S1_22 hs 2 rfl rfl rfl ?_)
            refine RW_op (L_fieldAddr FA_63_3 rfl ?_)
            refine RW_op (L_ld (V := .int .u32 ((viewP l cart).tick)) S1_22 hs 1 rfl rfl rfl ?_)
            refine RW_op (opW_to (V := .bool (decide ((viewP l cart).tick < (gd l k).tick))) (V' := .bool false) (L_gtr rfl rfl ⟨rfl, rfl⟩) (congrArg Value.bool (decide_eq_false (by omega))) ?_)
            refine RW_nil ?_
            refine W_condF rfl ?_
            refine W_skip ?_
            refine W_region ?_
            refine RW_op (L_add (a := (k : Int)) (b := 1) (c := (k : Int) + 1) rfl rfl (wr_i64 (by omega) (by omega)) ?_)
            refine RW_op (L_move (V := .int .i64 ((k : Int) + 1)) rfl ?_)
            refine RW_nil ?_
            refine ⟨_, ?_, _, k + 1, fd || (decide ((gd l k).tick = (viewP l cart).tick)), upd_of (upd_of (mix_of (ds := [4, 6, 8, 23, 24, 25, 26, 27, 28, 29, 30, 31, 32, 33, 34, 35, 36, 37, 38, 39, 40, 41, 42, 43, 44]) (by repeat (first | exact Agr.refl _ _ | refine Agr.upd ?_ rfl | refine Agr.mix ?_ rfl))) rfl) rfl, (by omega), (by rw [← any_next (p := fun o : Opn => decide (o.cart = cart) && decide (o.tick = (viewP l cart).tick)) (by omega) hfd]; rw [decide_eq_true c13, Bool.true_and]), rfl, hs.take 2⟩
            omega
      ·
        replace c9 := of_decide_eq_false c9
        refine W_exit ?_
        refine W_seq ?_
        refine W_seq ?_
        have hfd2 := any_end (by omega) hfd
        have htk := view_tick l cart
        have hris := fun (i : Nat) (h : i + 1 < (viewP l cart).lines.length) => view_rising l cart h
        have hvl := view_len l cart
        refine W_region ?_
        refine RW_op (L_assign (V := .int .i64 1) rfl ?_)
        refine RW_nil ?_
        refine W_block ?_
        refine W_loopI (fun ρ m ρ' w' => ∃ (ρo : Env) (i2 : Nat), ρ' = upd (mix [4, 9, 45, 46, 47, 48, 49, 50, 51, 52, 53, 54, 55, 56, 57, 58, 59, 60, 61, 62, 63, 64, 65] ρo ρ) 9 (.int .i64 ((i2 : Nat) : Int)) ∧ (1 ≤ i2 ∧ i2 ≤ (viewP l cart).lines.length + 1) ∧ m = (viewP l cart).lines.length - i2 ∧ Own w no w' [row (.slice x4.1 (((viewP l cart).lines).length) x4.2) (((viewP l cart).lines).map lc) 67 2, blk b5 [.int .u16 ((viewP l cart).cart), .slice x4.1 (((viewP l cart).lines).length) x4.2, .bool ((viewP l cart).out), .int .u32 ((viewP l cart).tick)] 63]) ?_ ?_
        · exact ⟨_, _, 1, upd_of (mix_of (ds := [4, 9, 45, 46, 47, 48, 49, 50, 51, 52, 53, 54, 55, 56, 57, 58, 59, 60, 61, 62, 63, 64, 65]) (Agr.refl _ _)) rfl, (by omega), rfl, hs⟩
        · rintro m ρ' w15 ⟨ρo, i2, rfl, hi2, rfl, hs⟩
          refine W_seq ?_
          refine W_seq ?_
          refine W_region ?_
          refine RW_op (L_move (V := .int .i64 ((i2 : Nat) : Int)) rfl ?_)
          refine RW_op (L_fieldAddr FA_63_1 rfl ?_)
          refine RW_op (L_ld (V := .slice x4.1 (((viewP l cart).lines).length) x4.2) S1_61 hs 1 rfl rfl rfl ?_)
          refine RW_op (L_lenR (n := ((viewP l cart).lines).length) UD_61 (hs.rd 0 rfl) (by simp) rfl ?_)
          refine RW_op (L_lss rfl rfl ?_)
          refine RW_nil ?_
          refine W_cond (t := decide (((i2 : Nat) : Int) < ((((viewP l cart).lines).length : Nat) : Int))) rfl (fun c16 => ?_) (fun c16 => ?_)
          ·
            replace c16 := of_decide_eq_true c16
            refine W_skip ?_
            refine W_seq ?_
            refine W_block ?_
            refine W_seq ?_
            have hlt2 := hris (i2 - 1) (by omega)
            rw [show i2 - 1 + 1 = i2 by omega] at hlt2
            replace hs := hs.drew
            refine W_draw2 HM [52, 53, 54, 55, 56, 57, 58, 59, 60, 61, 62, 63, 64, 65] [[], [0], [], [2], [1, 3], [4], [5], [], [7], [], [8, 9], [10], [11], [6, 12]] (fun D ρ wx => Own w no wx [row (.slice x4.1 (((viewP l cart).lines).length) x4.2) (((viewP l cart).lines).map lc) 67 2, blk b5 [.int .u16 ((viewP l cart).cart), .slice x4.1 (((viewP l cart).lines).length) x4.2, .bool ((viewP l cart).out), .int .u32 ((viewP l cart).tick)] 63] ∧ (D 0 = true → ρ 52 = .pointer (some ⟨b5, 0 + 1, none⟩)) ∧ (D 1 = true → ρ 53 = .slice x4.1 (((viewP l cart).lines).length) x4.2) ∧ (D 2 = true → ρ 54 = .int .i64 ((i2 : Nat) : Int)) ∧ (D 3 = true → ρ 55 = .int .i64 ((i2 - 1 : Nat) : Int)) ∧ (D 4 = true → ρ 56 = .pointer (some ⟨bkS (.slice x4.1 (((viewP l cart).lines).length) x4.2), ofS (.slice x4.1 (((viewP l cart).lines).length) x4.2) + ((i2 - 1 : Nat) : Int).toNat * 2, none⟩)) ∧ (D 5 = true → ρ 57 = .pointer (some ⟨bkS (.slice x4.1 (((viewP l cart).lines).length) x4.2), ofS (.slice x4.1 (((viewP l cart).lines).length) x4.2) + ((i2 - 1 : Nat) : Int).toNat * 2 + 0, none⟩)) ∧ (D 6 = true → ρ 58 = .int .u16 ((gd ((viewP l cart).lines) (i2 - 1)).item)) ∧ (D 7 = true → ρ 59 = .pointer (some ⟨b5, 0 + 1, none⟩)) ∧ (D 8 = true → ρ 60 = .slice x4.1 (((viewP l cart).lines).length) x4.2) ∧ (D 9 = true → ρ 61 = .int .i64 ((i2 : Nat) : Int)) ∧ (D 10 = true → ρ 62 = .pointer (some ⟨bkS (.slice x4.1 (((viewP l cart).lines).length) x4.2), ofS (.slice x4.1 (((viewP l cart).lines).length) x4.2) + ((i2 : Nat) : Int).toNat * 2, none⟩)) ∧ (D 11 = true → ρ 63 = .pointer (some ⟨bkS (.slice x4.1 (((viewP l cart).lines).length) x4.2), ofS (.slice x4.1 (((viewP l cart).lines).length) x4.2) + ((i2 : Nat) : Int).toNat * 2 + 0, none⟩)) ∧ (D 12 = true → ρ 64 = .int .u16 ((gd ((viewP l cart).lines) i2).item)) ∧ (D 13 = true → ρ 65 = .bool false)) rfl rfl rfl ⟨hs, fun h => absurd h Bool.false_ne_true, fun h => absurd h Bool.false_ne_true, fun h => absurd h Bool.false_ne_true, fun h => absurd h Bool.false_ne_true, fun h => absurd h Bool.false_ne_true, fun h => absurd h Bool.false_ne_true, fun h => absurd h Bool.false_ne_true, fun h => absurd h Bool.false_ne_true, fun h => absurd h Bool.false_ne_true, fun h => absurd h Bool.false_ne_true, fun h => absurd h Bool.false_ne_true, fun h => absurd h Bool.false_ne_true, fun h => absurd h Bool.false_ne_true, fun h => absurd h Bool.false_ne_true⟩ ⟨?_, ?_, ?_, ?_, ?_, ?_, ?_, ?_, ?_, ?_, ?_, ?_, ?_, ?_, trivial⟩ ?_
            · rintro D ρ wx hD hd hdc hf ⟨hs, f0, f1, f2, f3, f4, f5, f6, f7, f8, f9, f10, f11, f12, f13⟩
              have r5 : ρ 5 = .pointer (some ⟨b5, 0, none⟩) := outD hf 5 rfl
              exact .inl ⟨rfl, L_fieldAddr FA_63_1 r5 ⟨hs, fun _ => rfl, f1, f2, f3, f4, f5, f6, f7, f8, f9, f10, f11, f12, f13⟩⟩
            · rintro D ρ wx hD hd hdc hf ⟨hs, f0, f1, f2, f3, f4, f5, f6, f7, f8, f9, f10, f11, f12, f13⟩
              have g0 := f0 (doneD hd 0 rfl)
              exact .inl ⟨rfl, L_ld (V := .slice x4.1 (((viewP l cart).lines).length) x4.2) S1_61 hs 1 rfl g0 rfl ⟨hs, f0, fun _ => rfl, f2, f3, f4, f5, f6, f7, f8, f9, f10, f11, f12, f13⟩⟩
            · rintro D ρ wx hD hd hdc hf ⟨hs, f0, f1, f2, f3, f4, f5, f6, f7, f8, f9, f10, f11, f12, f13⟩
              have r9 : ρ 9 = .int .i64 ((i2 : Nat) : Int) := outD hf 9 rfl
              exact .inl ⟨rfl, L_move (V := .int .i64 ((i2 : Nat) : Int)) r9 ⟨hs, f0, f1, fun _ => rfl, f3, f4, f5, f6, f7, f8, f9, f10, f11, f12, f13⟩⟩
            · rintro D ρ wx hD hd hdc hf ⟨hs, f0, f1, f2, f3, f4, f5, f6, f7, f8, f9, f10, f11, f12, f13⟩
              have g2 := f2 (doneD hd 2 rfl)
              exact .inl ⟨rfl, L_sub (a := ((i2 : Nat) : Int)) (b := 1) (c := ((i2 - 1 : Nat) : Int)) g2 rfl (nat_i64 (by omega) (by omega)) ⟨hs, f0, f1, f2, fun _ => rfl, f4, f5, f6, f7, f8, f9, f10, f11, f12, f13⟩⟩
            · rintro D ρ wx hD hd hdc hf ⟨hs, f0, f1, f2, f3, f4, f5, f6, f7, f8, f9, f10, f11, f12, f13⟩
              have g1 := f1 (doneD hd 1 rfl)
              have g3 := f3 (doneD hd 3 rfl)
              exact .inl ⟨rfl, L_ixR UD_61 SA_67.1 (hs.rd 0 rfl) g1 g3 (by omega) (by rw [List.length_map]; omega) ⟨hs, f0, f1, f2, f3, fun _ => rfl, f5, f6, f7, f8, f9, f10, f11, f12, f13⟩⟩
            · rintro D ρ wx hD hd hdc hf ⟨hs, f0, f1, f2, f3, f4, f5, f6, f7, f8, f9, f10, f11, f12, f13⟩
              have g4 := f4 (doneD hd 4 rfl)
              exact .inl ⟨rfl, L_fieldAddr FA_67_0 g4 ⟨hs, f0, f1, f2, f3, f4, fun _ => rfl, f6, f7, f8, f9, f10, f11, f12, f13⟩⟩
            · rintro D ρ wx hD hd hdc hf ⟨hs, f0, f1, f2, f3, f4, f5, f6, f7, f8, f9, f10, f11, f12, f13⟩
              have g5 := f5 (doneD hd 5 rfl)
              exact .inl ⟨rfl, L_ldR (j := 0) (V := .int .u16 ((gd ((viewP l cart).lines) (i2 - 1)).item)) (i2 - 1) S1_57 (hs.rd 0 rfl) (gd_at (by omega)) rfl g5 (by omega) ⟨hs, f0, f1, f2, f3, f4, f5, fun _ => rfl, f7, f8, f9, f10, f11, f12, f13⟩⟩
            · rintro D ρ wx hD hd hdc hf ⟨hs, f0, f1, f2, f3, f4, f5, f6, f7, f8, f9, f10, f11, f12, f13⟩
              have r5 : ρ 5 = .pointer (some ⟨b5, 0, none⟩) := outD hf 5 rfl
              exact .inl ⟨rfl, L_fieldAddr FA_63_1 r5 ⟨hs, f0, f1, f2, f3, f4, f5, f6, fun _ => rfl, f8, f9, f10, f11, f12, f13⟩⟩
            · rintro D ρ wx hD hd hdc hf ⟨hs, f0, f1, f2, f3, f4, f5, f6, f7, f8, f9, f10, f11, f12, f13⟩
              have g7 := f7 (doneD hd 7 rfl)
              exact .inl ⟨rfl, L_ld (V := .slice x4.1 (((viewP l cart).lines).length) x4.2) S1_61 hs 1 rfl g7 rfl ⟨hs, f0, f1, f2, f3, f4, f5, f6, f7, fun _ => rfl, f9, f10, f11, f12, f13⟩⟩
            · rintro D ρ wx hD hd hdc hf ⟨hs, f0, f1, f2, f3, f4, f5, f6, f7, f8, f9, f10, f11, f12, f13⟩
              have r9 : ρ 9 = .int .i64 ((i2 : Nat) : Int) := outD hf 9 rfl
              exact .inl ⟨rfl, L_move (V := .int .i64 ((i2 : Nat) : Int)) r9 ⟨hs, f0, f1, f2, f3, f4, f5, f6, f7, f8, fun _ => rfl, f10, f11, f12, f13⟩⟩
            · rintro D ρ wx hD hd hdc hf ⟨hs, f0, f1, f2, f3, f4, f5, f6, f7, f8, f9, f10, f11, f12, f13⟩
              have g8 := f8 (doneD hd 8 rfl)
              have g9 := f9 (doneD hd 9 rfl)
              exact .inl ⟨rfl, L_ixR UD_61 SA_67.1 (hs.rd 0 rfl) g8 g9 (by omega) (by rw [List.length_map]; omega) ⟨hs, f0, f1, f2, f3, f4, f5, f6, f7, f8, f9, fun _ => rfl, f11, f12, f13⟩⟩
            · rintro D ρ wx hD hd hdc hf ⟨hs, f0, f1, f2, f3, f4, f5, f6, f7, f8, f9, f10, f11, f12, f13⟩
              have g10 := f10 (doneD hd 10 rfl)
              exact .inl ⟨rfl, L_fieldAddr FA_67_0 g10 ⟨hs, f0, f1, f2, f3, f4, f5, f6, f7, f8, f9, f10, fun _ => rfl, f12, f13⟩⟩
            · rintro D ρ wx hD hd hdc hf ⟨hs, f0, f1, f2, f3, f4, f5, f6, f7, f8, f9, f10, f11, f12, f13⟩
              have g11 := f11 (doneD hd 11 rfl)
              exact .inl ⟨rfl, L_ldR (j := 0) (V := .int .u16 ((gd ((viewP l cart).lines) i2).item)) i2 S1_57 (hs.rd 0 rfl) (gd_at (by omega)) rfl g11 (by omega) ⟨hs, f0, f1, f2, f3, f4, f5, f6, f7, f8, f9, f10, f11, fun _ => rfl, f13⟩⟩
            · rintro D ρ wx hD hd hdc hf ⟨hs, f0, f1, f2, f3, f4, f5, f6, f7, f8, f9, f10, f11, f12, f13⟩
              have g6 := f6 (doneD hd 6 rfl)
              have g12 := f12 (doneD hd 12 rfl)
              exact .inl ⟨rfl, opW_to (V := .bool (decide ((gd ((viewP l cart).lines) i2).item ≤ (gd ((viewP l cart).lines) (i2 - 1)).item))) (V' := .bool false) (L_geq g6 g12 ⟨rfl, rfl⟩) (congrArg Value.bool (decide_eq_false (by omega))) ⟨hs, f0, f1, f2, f3, f4, f5, f6, f7, f8, f9, f10, f11, f12, fun _ => rfl⟩⟩
            · rintro ρ1 w1 D hD hf ⟨hs, f0, f1, f2, f3, f4, f5, f6, f7, f8, f9, f10, f11, f12, f13⟩
              have e13 := f13 (hD 13 rfl)
              clear f0 f1 f2 f3 f4 f5 f6 f7 f8 f9 f10 f11 f12 f13
              obtain ⟨ρ2, hρ⟩ : ∃ ρ2, ρ1 = upd (mix [52, 53, 54, 55, 56, 57, 58, 59, 60, 61, 62, 63, 64, 65] ρ2 _) 65 (.bool false) := ⟨ρ1, upd_of (mix_of (ds := [52, 53, 54, 55, 56, 57, 58, 59, 60, 61, 62, 63, 64, 65]) hf) e13⟩
              clear hf hD e13
              subst hρ
              refine W_condF rfl ?_
              refine W_skip ?_
              refine W_region ?_
              refine RW_op (L_move (V := .int .i64 ((i2 : Nat) : Int)) rfl ?_)
              refine RW_op (L_add (a := ((i2 : Nat) : Int)) (b := 1) (c := ((i2 + 1 : Nat) : Int)) rfl rfl (nat_i64 (by omega) (by omega)) ?_)
              refine RW_op (L_assign (V := .int .i64 ((i2 + 1 : Nat) : Int)) rfl ?_)
              refine RW_nil ?_
              refine ⟨_, ?_, _, i2 + 1, upd_of (mix_of (ds := [4, 9, 45, 46, 47, 48, 49, 50, 51, 52, 53, 54, 55, 56, 57, 58, 59, 60, 61, 62, 63, 64, 65]) (by repeat (first | exact Agr.refl _ _ | refine Agr.upd ?_ rfl | refine Agr.mix ?_ rfl))) rfl, (by omega), rfl, hs.take 2⟩
              omega
          ·
            replace c16 := of_decide_eq_false c16
            refine W_exit ?_
            refine W_seq ?_
            refine W_region ?_
            refine RW_op (L_move (V := .bool fd) rfl ?_)
            refine RW_op (L_assign (V := .bool fd) rfl ?_)
            refine RW_nil ?_
            refine W_ret ?_
            refine ⟨_, res_one (V := .bool fd) Try.results11 rfl, ?_⟩
            refine ⟨congrArg Ending.returned ?_, hs.take 0⟩
            exact congrArg Value.bool (hfd2.trans htk)
end Tf
end Go.Proofs
namespace Go.Proofs
open Go.Shelf
def Try.sortD_ren : Go.Shelf.Ren := ⟨fun | 6 => 64 | 15 => 81 | 14 => 80 | 28 => 98 | 29 => 99 | 20 => 90 | 21 => 91 | 22 => 92 | 23 => 93 | 24 => 94 | 25 => 95 | 26 => 96 | 27 => 97 | 46 => 111 | 47 => 112 | 48 => 113 | 49 => 114 | 50 => 115 | 57 => 120 | n => n, fun | 22 => 25 | 24 => 34 | 25 => 88 | 3 => 3 | 39 => 119 | 0 => 0 | 53 => 22 | 55 => 54 | 4 => 4 | 46 => 130 | 45 => 129 | 50 => 134 | 5 => 5 | 9 => 9 | 66 => 145 | 70 => 149 | 76 => 153 | 77 => 154 | n => n, fun | n => n⟩
theorem Try.sortD : Go.Proofs.SlLaysF0.n6 Try.prog Try.sortD_ren := {
  mixed := by kernel_rfl
  f6 := ⟨Try.f64.name, by decide, Try.func64.trans (congrArg some (by kernel_rfl))⟩
  f14 := ⟨Try.f80.name, by decide, Try.func80.trans (congrArg some (by kernel_rfl))⟩
  f15 := Try.func81.trans (congrArg some (by kernel_rfl))
  f20 := ⟨Try.f90.name, by decide, Try.func90.trans (congrArg some (by kernel_rfl))⟩
  f21 := ⟨Try.f91.name, by decide, Try.func91.trans (congrArg some (by kernel_rfl))⟩
  f22 := ⟨Try.f92.name, by decide, Try.func92.trans (congrArg some (by kernel_rfl))⟩
  f23 := ⟨Try.f93.name, by decide, Try.func93.trans (congrArg some (by kernel_rfl))⟩
  f24 := ⟨Try.f94.name, by decide, Try.func94.trans (congrArg some (by kernel_rfl))⟩
  f25 := ⟨Try.f95.name, by decide, Try.func95.trans (congrArg some (by kernel_rfl))⟩
  f26 := ⟨Try.f96.name, by decide, Try.func96.trans (congrArg some (by kernel_rfl))⟩
  f27 := ⟨Try.f97.name, by decide, Try.func97.trans (congrArg some (by kernel_rfl))⟩
  f28 := Try.func98.trans (congrArg some (by kernel_rfl))
  f29 := Try.func99.trans (congrArg some (by kernel_rfl))
  f46 := ⟨Try.f111.name, by decide, Try.func111.trans (congrArg some (by kernel_rfl))⟩
  f47 := Try.func112.trans (congrArg some (by kernel_rfl))
  f48 := Try.func113.trans (congrArg some (by kernel_rfl))
  f49 := ⟨Try.f114.name, by decide, Try.func114.trans (congrArg some (by kernel_rfl))⟩
  f50 := ⟨Try.f115.name, by decide, Try.func115.trans (congrArg some (by kernel_rfl))⟩
  f57 := ⟨Try.f120.name, by decide, Try.func120.trans (congrArg some (by kernel_rfl))⟩
  t0 := Try.underlying0
  a0 := Try.isAgg0
  z0 := Try.sizeOf0
  v0 := Try.zeroValue0
  t3 := Try.underlying3
  a3 := Try.isAgg3
  z3 := Try.sizeOf3
  v3 := Try.zeroValue3
  t4 := Try.underlying4
  a4 := Try.isAgg4
  z4 := Try.sizeOf4
  v4 := Try.zeroValue4
  t5 := Try.underlying5
  a5 := Try.isAgg5
  z5 := Try.sizeOf5
  v5 := Try.zeroValue5
  t9 := Try.underlying9
  a9 := Try.isAgg9
  z9 := Try.sizeOf9
  v9 := Try.zeroValue9
  t22 := Try.underlying25
  a22 := Try.isAgg25
  z22 := Try.sizeOf25
  v22 := Try.zeroValue25
  t25 := Try.underlying88
  a25 := Try.isAgg88
  z25 := Try.sizeOf88
  v25 := Try.zeroValue88
  t39 := Try.underlying119
  a39 := Try.isAgg119
  z39 := Try.sizeOf119
  v39 := Try.zeroValue119
  t45 := Try.underlying129
  a45 := Try.isAgg129
  z45 := Try.sizeOf129
  v45 := Try.zeroValue129
  t46 := Try.underlying130
  a46 := Try.isAgg130
  z46 := Try.sizeOf130
  v46 := Try.zeroValue130
  t50 := Try.underlying134
  a50 := Try.isAgg134
  z50 := Try.sizeOf134
  v50 := Try.zeroValue134
  t53 := Try.underlying22
  a53 := Try.isAgg22
  z53 := Try.sizeOf22
  v53 := Try.zeroValue22
  t55 := Try.underlying54
  a55 := Try.isAgg54
  z55 := Try.sizeOf54
  v55 := Try.zeroValue54
  t66 := Try.underlying145
  a66 := Try.isAgg145
  z66 := Try.sizeOf145
  v66 := Try.zeroValue145
  t70 := Try.underlying149
  a70 := Try.isAgg149
  z70 := Try.sizeOf149
  v70 := Try.zeroValue149
  t76 := Try.underlying153
  a76 := Try.isAgg153
  z76 := Try.sizeOf153
  v76 := Try.zeroValue153
  t77 := Try.underlying154
  a77 := Try.isAgg154
  z77 := Try.sizeOf154
  v77 := Try.zeroValue154 }
end Go.Proofs
namespace Go.Proofs.Ytnanhhiofnohbaa
open Go.Vx Go.Sort Go.Proofs
theorem lenU : LenC Try.prog 81 := fun w n hn => by
  have h := Any.bits_Len (SlLaysF0.n15.bits (P := Try.prog) (ρ := Try.sortD_ren) { Try.sortD with }) (n : Int) w (by omega) (by omega)
  rw [Int.toNat_natCast, bitLen_eq _ (by omega)] at h
  exact h.mono fun e w' ⟨he, hw⟩ => by subst hw; exact ⟨he, Own.start _⟩
theorem xorU : XorC Try.prog 113 145 := fun w S rb X hX hR hlt => xor_ok (P := Try.prog) (ρ := Try.sortD_ren) { Try.sortD with } 145 w S rb X hX hR hlt
theorem powU : PowC Try.prog 112 := fun w n hn => pow_ok (P := Try.prog) (ρ := Try.sortD_ren) { Try.sortD with } w n hn
theorem sortsU : SortI Try.prog 76 .u16 57 := Ts.sort_ok xorU powU lenU
end Go.Proofs.Ytnanhhiofnohbaa
namespace Go.Proofs.Ytnanhhiofnohbaa
open Go.RowKit Go.Vx
theorem Try.own : ownKnob Try.prog.godebug = none := by kernel_rfl
theorem Try.laidOut : laidOutB Try.prog = true := by kernel_rfl
theorem O24 : OpenT Try.prog 24 vc VecOk := O_vec Try.underlying24 Try.underlying22 (by kernel_rfl) (by kernel_rfl)
theorem O34 : OpenT Try.prog 34 dc DotOk := O_dot Try.underlying34 rfl rfl Try.underlying5 Try.underlying22 (by kernel_rfl) (by kernel_rfl) (by kernel_rfl)
end Go.Proofs.Ytnanhhiofnohbaa
namespace Go.Proofs.Ytnanhhiofnohbaa
open Go.RowKit Go.Vx
theorem O59 : OpenT Try.prog 59 oc OpnOk := O_opn Try.underlying59 rfl rfl O34 O24 Try.underlying5 Try.underlying57 Try.underlying57 Try.underlying57 Try.underlying22 (by kernel_rfl) (by kernel_rfl)
end Go.Proofs.Ytnanhhiofnohbaa
