/- A part of a proof: what functions of the program compute, and plain facts on that. -/
import Derived.Test.YtnanhhiofnohbaaVxL
import Derived.Test.YtnanhhiofnohbaaVxQ
import Derived.KernelRfl
import Derived.Test.YtnanhhiofnohbaaProg
namespace Go.Proofs
open Go Go.Vx Go.RowKit
namespace Tt
theorem HM : Try.prog.follows .mixedOrders = true := by kernel_rfl
set_option maxRecDepth 20000 in
theorem EQ_34 (a b : Dot) : EqF Try.prog 2 34 (.agg (dc a).toArray) (.agg (dc b).toArray) (decide (a = b)) := by
  rw [← dec_dot]
  exact EqF_struct Try.underlying34 Try.stoodInHeld34 (.cons (by decide) (PartF_one ⟨Try.sizeOf5, Try.isAgg5⟩ rfl) (PartF_one ⟨Try.sizeOf5, Try.isAgg5⟩ rfl) (EqF_int Try.runUnderlying5) (.cons (by decide) (PartF_one ⟨Try.sizeOf22, Try.isAgg22⟩ rfl) (PartF_one ⟨Try.sizeOf22, Try.isAgg22⟩ rfl) (EqF_int Try.runUnderlying22) .nil))
set_option maxRecDepth 20000 in
theorem BT_24 : Bt Try.prog 24 [(0, 1), (1, 1), (2, 1), (3, 1), (4, 1), (5, 1), (6, 1), (7, 1), (8, 1), (9, 1), (10, 1), (11, 1), (12, 1), (13, 1), (14, 1), (15, 1)] (vc vzero) := Bt_array Try.type24 rfl rfl Try.underlying24 Try.type22 rfl (k := 1) rfl
set_option maxRecDepth 20000 in
theorem BT_34 : Bt Try.prog 34 [(0, 1), (1, 1)] (dc (⟨0, 0⟩ : Dot)) := Bt_struct Try.type34 rfl rfl Try.underlying34 (by kernel_rfl)
set_option maxRecDepth 20000 in
theorem EL_25 : El Try.prog 25 34 2 8 := ⟨Try.underlying25, _, _, Try.type34, rfl, rfl, rfl, rfl, by decide⟩
theorem EN_19 : En Try.prog 19 := Try.call19
theorem EN_23 : En Try.prog 23 := Try.call23
theorem EN_29 : En Try.prog 29 := Try.call29
theorem EN_45 : En Try.prog 45 := Try.call45
theorem EN_46 : En Try.prog 46 := Try.call46
theorem EN_52 : En Try.prog 52 := Try.call52
theorem EN_62 : En Try.prog 62 := Try.call62
theorem EN_69 : En Try.prog 69 := Try.call69
theorem FA_31_0 : FA Try.prog 31 0 0 := fun b o w => by simp [Instr.fieldAt, Instr.sureAddr, fieldPlace, add_eq]
theorem FA_31_1 : FA Try.prog 31 1 16 := fun b o w => by simp [Instr.fieldAt, Instr.sureAddr, fieldPlace, add_eq]
theorem FA_34_0 : FA Try.prog 34 0 0 := fun b o w => by simp [Instr.fieldAt, Instr.sureAddr, fieldPlace, add_eq]
theorem FA_34_1 : FA Try.prog 34 1 1 := fun b o w => by simp [Instr.fieldAt, Instr.sureAddr, fieldPlace, add_eq]
theorem S1_22 : T1 Try.prog 22 := ⟨Try.sizeOf22, Try.isAgg22⟩
theorem S1_25 : T1 Try.prog 25 := ⟨Try.sizeOf25, Try.isAgg25⟩
theorem S1_5 : T1 Try.prog 5 := ⟨Try.sizeOf5, Try.isAgg5⟩
theorem SA_24 : TA Try.prog 24 16 := ⟨Try.sizeOf24, Try.isAgg24⟩
theorem SA_31 : TA Try.prog 31 17 := ⟨Try.sizeOf31, Try.isAgg31⟩
theorem SA_34 : TA Try.prog 34 2 := ⟨Try.sizeOf34, Try.isAgg34⟩
theorem UD_24 : Ud Try.prog 24 (.array 16 22) := Try.runUnderlying24
theorem UD_25 : Ud Try.prog 25 (.slice 34) := Try.runUnderlying25
theorem UD_3 : Ud Try.prog 3 (.int .i64) := Try.runUnderlying3
theorem UD_5 : Ud Try.prog 5 (.int .u8) := Try.runUnderlying5
theorem UDR_4 : Try.prog.underlying 4 = some (.bool) := Try.underlying4
theorem ZV_24 : Zv Try.prog 24 (.agg (vc vzero).toArray) := Try.zeroValue24
theorem ZV_31 : Zv Try.prog 31 (.agg ((vc vzero) ++ [(.slice none 0 0 : Value) ]).toArray) := Try.zeroValue31
theorem ZV_34 : Zv Try.prog 34 (.agg (dc (⟨0, 0⟩ : Dot)).toArray) := Try.zeroValue34
set_option maxRecDepth 20000 in
set_option maxHeartbeats 4000000 in
theorem vdot_ok (w : World) (d : Dot) : Calls Try.prog 62 #[.agg (dc d).toArray] w (fun e w' => e = .returned (.bool (dotB d)) ∧ Own w no w' []) := by
  refine calls_of_Wn (n := 16) Try.func62 rfl Try.ntmps62 rfl ?_
  have hs := Own.start w
  refine W_seq ?_
  refine W_region ?_
  refine RW_op (L_box (V := .agg (dc d).toArray) (cs := dc d) rfl rfl hs fun b1 w2 hs => ?_)
  refine RW_op (L_assign (V := .bool false) rfl ?_)
  refine RW_nil ?_
  refine W_seq ?_
  refine W_inv2 [3, 4, 5, 6, 7, 8, 9, 10, 11, 12, 13, 14, 15, 2] [[], [0], [1], [2], [3], [4, 3], [5, 3], [3, 6], [7, 3], [8], [9, 8], [10, 8], [8, 11], [12, 8, 0, 1, 2, 3, 4, 5, 6, 7, 8, 9, 10, 11, 12]] (fun D ρ wx => Own w no wx [blk b1 (dc d) 34] ∧ (D 0 = true → ρ 3 = .pointer (some ⟨b1, 0 + 0, none⟩)) ∧ (D 1 = true → ρ 4 = .int .u8 d.rep) ∧ (D 2 = true → ρ 5 = .bool (decide (d.rep < 16))) ∧ (D 3 = true → ρ 6 = .bool (decide (d.rep < 16))) ∧ (D 4 = true → ρ 7 = cond ((decide (d.rep < 16)) == true) (.pointer (some ⟨b1, 0 + 1, none⟩)) undef) ∧ (D 5 = true → ρ 8 = cond ((decide (d.rep < 16)) == true) (.int .u32 d.seq) undef) ∧ (D 6 = true → ρ 9 = cond ((decide (d.rep < 16)) == true) (.bool (decide (1 ≤ d.seq))) undef) ∧ (D 7 = true → ρ 10 = .bool ((decide (d.rep < 16)) && (decide (1 ≤ d.seq)))) ∧ (D 8 = true → ρ 11 = .bool ((decide (d.rep < 16)) && (decide (1 ≤ d.seq)))) ∧ (D 9 = true → ρ 12 = cond (((decide (d.rep < 16)) && (decide (1 ≤ d.seq))) == true) (.pointer (some ⟨b1, 0 + 1, none⟩)) undef) ∧ (D 10 = true → ρ 13 = cond (((decide (d.rep < 16)) && (decide (1 ≤ d.seq))) == true) (.int .u32 d.seq) undef) ∧ (D 11 = true → ρ 14 = cond (((decide (d.rep < 16)) && (decide (1 ≤ d.seq))) == true) (.bool (decide (d.seq ≤ 1048576))) undef) ∧ (D 12 = true → ρ 15 = .bool (((decide (d.rep < 16)) && (decide (1 ≤ d.seq))) && (decide (d.seq ≤ 1048576)))) ∧ (D 13 = true → ρ 2 = .bool (((decide (d.rep < 16)) && (decide (1 ≤ d.seq))) && (decide (d.seq ≤ 1048576))))) rfl rfl rfl ⟨hs, fun h => absurd h Bool.false_ne_true, fun h => absurd h Bool.false_ne_true, fun h => absurd h Bool.false_ne_true, fun h => absurd h Bool.false_ne_true, fun h => absurd h Bool.false_ne_true, fun h => absurd h Bool.false_ne_true, fun h => absurd h Bool.false_ne_true, fun h => absurd h Bool.false_ne_true, fun h => absurd h Bool.false_ne_true, fun h => absurd h Bool.false_ne_true, fun h => absurd h Bool.false_ne_true, fun h => absurd h Bool.false_ne_true, fun h => absurd h Bool.false_ne_true, fun h => absurd h Bool.false_ne_true⟩ ⟨?_, ?_, ?_, ?_, ?_, ?_, ?_, ?_, ?_, ?_, ?_, ?_, ?_, ?_, trivial⟩ ?_
  · rintro D ρ wx hD hd hdc hf ⟨hs, f0, f1, f2, f3, f4, f5, f6, f7, f8, f9, f10, f11, f12, f13⟩
    have r1 : ρ 1 = .pointer (some ⟨b1, 0, none⟩) := outD hf 1 rfl
    exact .inl ⟨rfl, L_fieldAddr FA_34_0 r1 ⟨hs, fun _ => rfl, f1, f2, f3, f4, f5, f6, f7, f8, f9, f10, f11, f12, f13⟩⟩
  · rintro D ρ wx hD hd hdc hf ⟨hs, f0, f1, f2, f3, f4, f5, f6, f7, f8, f9, f10, f11, f12, f13⟩
    have g0 := f0 (doneD hd 0 rfl)
    exact .inl ⟨rfl, L_ld (V := .int .u8 d.rep) S1_5 hs 0 rfl g0 rfl ⟨hs, f0, fun _ => rfl, f2, f3, f4, f5, f6, f7, f8, f9, f10, f11, f12, f13⟩⟩
  · rintro D ρ wx hD hd hdc hf ⟨hs, f0, f1, f2, f3, f4, f5, f6, f7, f8, f9, f10, f11, f12, f13⟩
    have g1 := f1 (doneD hd 1 rfl)
    exact .inl ⟨rfl, L_lss g1 rfl ⟨hs, f0, f1, fun _ => rfl, f3, f4, f5, f6, f7, f8, f9, f10, f11, f12, f13⟩⟩
  · rintro D ρ wx hD hd hdc hf ⟨hs, f0, f1, f2, f3, f4, f5, f6, f7, f8, f9, f10, f11, f12, f13⟩
    have g2 := f2 (doneD hd 2 rfl)
    exact .inl ⟨rfl, L_move (V := .bool (decide (d.rep < 16))) g2 ⟨hs, f0, f1, f2, fun _ => rfl, f4, f5, f6, f7, f8, f9, f10, f11, f12, f13⟩⟩
  · rintro D ρ wx hD hd hdc hf ⟨hs, f0, f1, f2, f3, f4, f5, f6, f7, f8, f9, f10, f11, f12, f13⟩
    have r1 : ρ 1 = .pointer (some ⟨b1, 0, none⟩) := outD hf 1 rfl
    rcases Bool.eq_false_or_eq_true ((decide (d.rep < 16)) == true) with hG | hG
    rotate_left
    · exact .inr ⟨(Eq.trans (wantG1 (j := 3) rfl (f3 (doneD hd 3 rfl))) hG), ⟨hs, f0, f1, f2, f3, fun _ => (condF hG).symm, f5, f6, f7, f8, f9, f10, f11, f12, f13⟩⟩
    ·
      exact .inl ⟨(Eq.trans (wantG1 (j := 3) rfl (f3 (doneD hd 3 rfl))) hG), L_fieldAddr FA_34_1 r1 ⟨hs, f0, f1, f2, f3, fun _ => (condT hG).symm, f5, f6, f7, f8, f9, f10, f11, f12, f13⟩⟩
  · rintro D ρ wx hD hd hdc hf ⟨hs, f0, f1, f2, f3, f4, f5, f6, f7, f8, f9, f10, f11, f12, f13⟩
    have g4 := f4 (doneD hd 4 rfl)
    rcases Bool.eq_false_or_eq_true ((decide (d.rep < 16)) == true) with hG | hG
    rotate_left
    · exact .inr ⟨(Eq.trans (wantG1 (j := 3) rfl (f3 (doneD hd 3 rfl))) hG), ⟨hs, f0, f1, f2, f3, f4, fun _ => (condF hG).symm, f6, f7, f8, f9, f10, f11, f12, f13⟩⟩
    ·
      exact .inl ⟨(Eq.trans (wantG1 (j := 3) rfl (f3 (doneD hd 3 rfl))) hG), L_ld (V := .int .u32 d.seq) S1_22 hs 0 rfl ((g4).trans (condT (by exact hG))) rfl ⟨hs, f0, f1, f2, f3, f4, fun _ => (condT hG).symm, f6, f7, f8, f9, f10, f11, f12, f13⟩⟩
  · rintro D ρ wx hD hd hdc hf ⟨hs, f0, f1, f2, f3, f4, f5, f6, f7, f8, f9, f10, f11, f12, f13⟩
    have g5 := f5 (doneD hd 5 rfl)
    rcases Bool.eq_false_or_eq_true ((decide (d.rep < 16)) == true) with hG | hG
    rotate_left
    · exact .inr ⟨(Eq.trans (wantG1 (j := 3) rfl (f3 (doneD hd 3 rfl))) hG), ⟨hs, f0, f1, f2, f3, f4, f5, fun _ => (condF hG).symm, f7, f8, f9, f10, f11, f12, f13⟩⟩
    ·
      exact .inl ⟨(Eq.trans (wantG1 (j := 3) rfl (f3 (doneD hd 3 rfl))) hG), L_geq ((g5).trans (condT (by exact hG))) rfl ⟨hs, f0, f1, f2, f3, f4, f5, fun _ => (condT hG).symm, f7, f8, f9, f10, f11, f12, f13⟩⟩
  · rintro D ρ wx hD hd hdc hf ⟨hs, f0, f1, f2, f3, f4, f5, f6, f7, f8, f9, f10, f11, f12, f13⟩
    have g3 := f3 (doneD hd 3 rfl)
    have g6 := f6 (doneD hd 6 rfl)
    exact .inl ⟨rfl, L_and g3 rfl (fun hg => ((g6).trans (condT (by first | exact beqT hg | rfl)))) ⟨hs, f0, f1, f2, f3, f4, f5, f6, fun _ => rfl, f8, f9, f10, f11, f12, f13⟩⟩
  · rintro D ρ wx hD hd hdc hf ⟨hs, f0, f1, f2, f3, f4, f5, f6, f7, f8, f9, f10, f11, f12, f13⟩
    have g7 := f7 (doneD hd 7 rfl)
    exact .inl ⟨rfl, L_move (V := .bool ((decide (d.rep < 16)) && (decide (1 ≤ d.seq)))) g7 ⟨hs, f0, f1, f2, f3, f4, f5, f6, f7, fun _ => rfl, f9, f10, f11, f12, f13⟩⟩
  · rintro D ρ wx hD hd hdc hf ⟨hs, f0, f1, f2, f3, f4, f5, f6, f7, f8, f9, f10, f11, f12, f13⟩
    have r1 : ρ 1 = .pointer (some ⟨b1, 0, none⟩) := outD hf 1 rfl
    rcases Bool.eq_false_or_eq_true (((decide (d.rep < 16)) && (decide (1 ≤ d.seq))) == true) with hG | hG
    rotate_left
    · exact .inr ⟨(Eq.trans (wantG1 (j := 8) rfl (f8 (doneD hd 8 rfl))) hG), ⟨hs, f0, f1, f2, f3, f4, f5, f6, f7, f8, fun _ => (condF hG).symm, f10, f11, f12, f13⟩⟩
    ·
      exact .inl ⟨(Eq.trans (wantG1 (j := 8) rfl (f8 (doneD hd 8 rfl))) hG), L_fieldAddr FA_34_1 r1 ⟨hs, f0, f1, f2, f3, f4, f5, f6, f7, f8, fun _ => (condT hG).symm, f10, f11, f12, f13⟩⟩
  · rintro D ρ wx hD hd hdc hf ⟨hs, f0, f1, f2, f3, f4, f5, f6, f7, f8, f9, f10, f11, f12, f13⟩
    have g9 := f9 (doneD hd 9 rfl)
    rcases Bool.eq_false_or_eq_true (((decide (d.rep < 16)) && (decide (1 ≤ d.seq))) == true) with hG | hG
    rotate_left
    · exact .inr ⟨(Eq.trans (wantG1 (j := 8) rfl (f8 (doneD hd 8 rfl))) hG), ⟨hs, f0, f1, f2, f3, f4, f5, f6, f7, f8, f9, fun _ => (condF hG).symm, f11, f12, f13⟩⟩
    ·
      exact .inl ⟨(Eq.trans (wantG1 (j := 8) rfl (f8 (doneD hd 8 rfl))) hG), L_ld (V := .int .u32 d.seq) S1_22 hs 0 rfl ((g9).trans (condT (by exact hG))) rfl ⟨hs, f0, f1, f2, f3, f4, f5, f6, f7, f8, f9, fun _ => (condT hG).symm, f11, f12, f13⟩⟩
  · rintro D ρ wx hD hd hdc hf ⟨hs, f0, f1, f2, f3, f4, f5, f6, f7, f8, f9, f10, f11, f12, f13⟩
    have g10 := f10 (doneD hd 10 rfl)
    rcases Bool.eq_false_or_eq_true (((decide (d.rep < 16)) && (decide (1 ≤ d.seq))) == true) with hG | hG
    rotate_left
    · exact .inr ⟨(Eq.trans (wantG1 (j := 8) rfl (f8 (doneD hd 8 rfl))) hG), ⟨hs, f0, f1, f2, f3, f4, f5, f6, f7, f8, f9, f10, fun _ => (condF hG).symm, f12, f13⟩⟩
    ·
      exact .inl ⟨(Eq.trans (wantG1 (j := 8) rfl (f8 (doneD hd 8 rfl))) hG), L_leq ((g10).trans (condT (by exact hG))) rfl ⟨hs, f0, f1, f2, f3, f4, f5, f6, f7, f8, f9, f10, fun _ => (condT hG).symm, f12, f13⟩⟩
  · rintro D ρ wx hD hd hdc hf ⟨hs, f0, f1, f2, f3, f4, f5, f6, f7, f8, f9, f10, f11, f12, f13⟩
    have g8 := f8 (doneD hd 8 rfl)
    have g11 := f11 (doneD hd 11 rfl)
    exact .inl ⟨rfl, L_and g8 rfl (fun hg => ((g11).trans (condT (by first | exact beqT hg | rfl)))) ⟨hs, f0, f1, f2, f3, f4, f5, f6, f7, f8, f9, f10, f11, fun _ => rfl, f13⟩⟩
  · rintro D ρ wx hD hd hdc hf ⟨hs, f0, f1, f2, f3, f4, f5, f6, f7, f8, f9, f10, f11, f12, f13⟩
    have g12 := f12 (doneD hd 12 rfl)
    exact .inl ⟨rfl, L_assign (V := .bool (((decide (d.rep < 16)) && (decide (1 ≤ d.seq))) && (decide (d.seq ≤ 1048576)))) g12 ⟨hs, f0, f1, f2, f3, f4, f5, f6, f7, f8, f9, f10, f11, f12, fun _ => rfl⟩⟩
  · rintro ρ1 w1 D hD hf ⟨hs, f0, f1, f2, f3, f4, f5, f6, f7, f8, f9, f10, f11, f12, f13⟩
    have e13 := f13 (hD 13 rfl)
    clear f0 f1 f2 f3 f4 f5 f6 f7 f8 f9 f10 f11 f12 f13
    obtain ⟨ρ2, hρ⟩ : ∃ ρ2, ρ1 = upd (mix [3, 4, 5, 6, 7, 8, 9, 10, 11, 12, 13, 14, 15, 2] ρ2 _) 2 (.bool (((decide (d.rep < 16)) && (decide (1 ≤ d.seq))) && (decide (d.seq ≤ 1048576)))) := ⟨ρ1, upd_of (mix_of (ds := [3, 4, 5, 6, 7, 8, 9, 10, 11, 12, 13, 14, 15, 2]) hf) e13⟩
    clear hf hD e13
    subst hρ
    refine W_ret ?_
    refine ⟨_, res_one (V := .bool (((decide (d.rep < 16)) && (decide (1 ≤ d.seq))) && (decide (d.seq ≤ 1048576)))) Try.results62 rfl, ?_⟩
    refine ⟨congrArg Ending.returned ?_, hs.take 0⟩
    rfl
set_option maxRecDepth 20000 in
set_option maxHeartbeats 4000000 in
theorem rDot_ok (w : World) (d : Dot) : Calls Try.prog 46 #[.agg (dc d).toArray] w (fun e w' => e = .returned (.bool (dotB d)) ∧ Own w no w' []) := by
  refine calls_of_Wn (n := 16) Try.func46 rfl Try.ntmps46 rfl ?_
  have hs := Own.start w
  refine W_seq ?_
  refine W_region ?_
  refine RW_op (L_box (V := .agg (dc d).toArray) (cs := dc d) rfl rfl hs fun b1 w2 hs => ?_)
  refine RW_op (L_assign (V := .bool false) rfl ?_)
  refine RW_nil ?_
  refine W_seq ?_
  refine W_inv2 [3, 4, 5, 6, 7, 8, 9, 10, 11, 12, 13, 14, 15, 2] [[], [0], [1], [2], [3], [4, 3], [5, 3], [3, 6], [7, 3], [8], [9, 8], [10, 8], [8, 11], [12, 8, 0, 1, 2, 3, 4, 5, 6, 7, 8, 9, 10, 11, 12]] (fun D ρ wx => Own w no wx [blk b1 (dc d) 34] ∧ (D 0 = true → ρ 3 = .pointer (some ⟨b1, 0 + 0, none⟩)) ∧ (D 1 = true → ρ 4 = .int .u8 d.rep) ∧ (D 2 = true → ρ 5 = .bool (decide (d.rep < 16))) ∧ (D 3 = true → ρ 6 = .bool (decide (d.rep < 16))) ∧ (D 4 = true → ρ 7 = cond ((decide (d.rep < 16)) == true) (.pointer (some ⟨b1, 0 + 1, none⟩)) undef) ∧ (D 5 = true → ρ 8 = cond ((decide (d.rep < 16)) == true) (.int .u32 d.seq) undef) ∧ (D 6 = true → ρ 9 = cond ((decide (d.rep < 16)) == true) (.bool (decide (1 ≤ d.seq))) undef) ∧ (D 7 = true → ρ 10 = .bool ((decide (d.rep < 16)) && (decide (1 ≤ d.seq)))) ∧ (D 8 = true → ρ 11 = .bool ((decide (d.rep < 16)) && (decide (1 ≤ d.seq)))) ∧ (D 9 = true → ρ 12 = cond (((decide (d.rep < 16)) && (decide (1 ≤ d.seq))) == true) (.pointer (some ⟨b1, 0 + 1, none⟩)) undef) ∧ (D 10 = true → ρ 13 = cond (((decide (d.rep < 16)) && (decide (1 ≤ d.seq))) == true) (.int .u32 d.seq) undef) ∧ (D 11 = true → ρ 14 = cond (((decide (d.rep < 16)) && (decide (1 ≤ d.seq))) == true) (.bool (decide (d.seq ≤ 1048576))) undef) ∧ (D 12 = true → ρ 15 = .bool (((decide (d.rep < 16)) && (decide (1 ≤ d.seq))) && (decide (d.seq ≤ 1048576)))) ∧ (D 13 = true → ρ 2 = .bool (((decide (d.rep < 16)) && (decide (1 ≤ d.seq))) && (decide (d.seq ≤ 1048576))))) rfl rfl rfl ⟨hs, fun h => absurd h Bool.false_ne_true, fun h => absurd h Bool.false_ne_true, fun h => absurd h Bool.false_ne_true, fun h => absurd h Bool.false_ne_true, fun h => absurd h Bool.false_ne_true, fun h => absurd h Bool.false_ne_true, fun h => absurd h Bool.false_ne_true, fun h => absurd h Bool.false_ne_true, fun h => absurd h Bool.false_ne_true, fun h => absurd h Bool.false_ne_true, fun h => absurd h Bool.false_ne_true, fun h => absurd h Bool.false_ne_true, fun h => absurd h Bool.false_ne_true, fun h => absurd h Bool.false_ne_true⟩ ⟨?_, ?_, ?_, ?_, ?_, ?_, ?_, ?_, ?_, ?_, ?_, ?_, ?_, ?_, trivial⟩ ?_
  · rintro D ρ wx hD hd hdc hf ⟨hs, f0, f1, f2, f3, f4, f5, f6, f7, f8, f9, f10, f11, f12, f13⟩
    have r1 : ρ 1 = .pointer (some ⟨b1, 0, none⟩) := outD hf 1 rfl
    exact .inl ⟨rfl, L_fieldAddr FA_34_0 r1 ⟨hs, fun _ => rfl, f1, f2, f3, f4, f5, f6, f7, f8, f9, f10, f11, f12, f13⟩⟩
  · rintro D ρ wx hD hd hdc hf ⟨hs, f0, f1, f2, f3, f4, f5, f6, f7, f8, f9, f10, f11, f12, f13⟩
    have g0 := f0 (doneD hd 0 rfl)
    exact .inl ⟨rfl, L_ld (V := .int .u8 d.rep) S1_5 hs 0 rfl g0 rfl ⟨hs, f0, fun _ => rfl, f2, f3, f4, f5, f6, f7, f8, f9, f10, f11, f12, f13⟩⟩
  · rintro D ρ wx hD hd hdc hf ⟨hs, f0, f1, f2, f3, f4, f5, f6, f7, f8, f9, f10, f11, f12, f13⟩
    have g1 := f1 (doneD hd 1 rfl)
    exact .inl ⟨rfl, L_lss g1 rfl ⟨hs, f0, f1, fun _ => rfl, f3, f4, f5, f6, f7, f8, f9, f10, f11, f12, f13⟩⟩
  · rintro D ρ wx hD hd hdc hf ⟨hs, f0, f1, f2, f3, f4, f5, f6, f7, f8, f9, f10, f11, f12, f13⟩
    have g2 := f2 (doneD hd 2 rfl)
    exact .inl ⟨rfl, L_move (V := .bool (decide (d.rep < 16))) g2 ⟨hs, f0, f1, f2, fun _ => rfl, f4, f5, f6, f7, f8, f9, f10, f11, f12, f13⟩⟩
  · rintro D ρ wx hD hd hdc hf ⟨hs, f0, f1, f2, f3, f4, f5, f6, f7, f8, f9, f10, f11, f12, f13⟩
    have r1 : ρ 1 = .pointer (some ⟨b1, 0, none⟩) := outD hf 1 rfl
    rcases Bool.eq_false_or_eq_true ((decide (d.rep < 16)) == true) with hG | hG
    rotate_left
    · exact .inr ⟨(Eq.trans (wantG1 (j := 3) rfl (f3 (doneD hd 3 rfl))) hG), ⟨hs, f0, f1, f2, f3, fun _ => (condF hG).symm, f5, f6, f7, f8, f9, f10, f11, f12, f13⟩⟩
    ·
      exact .inl ⟨(Eq.trans (wantG1 (j := 3) rfl (f3 (doneD hd 3 rfl))) hG), L_fieldAddr FA_34_1 r1 ⟨hs, f0, f1, f2, f3, fun _ => (condT hG).symm, f5, f6, f7, f8, f9, f10, f11, f12, f13⟩⟩
  · rintro D ρ wx hD hd hdc hf ⟨hs, f0, f1, f2, f3, f4, f5, f6, f7, f8, f9, f10, f11, f12, f13⟩
    have g4 := f4 (doneD hd 4 rfl)
    rcases Bool.eq_false_or_eq_true ((decide (d.rep < 16)) == true) with hG | hG
    rotate_left
    · exact .inr ⟨(Eq.trans (wantG1 (j := 3) rfl (f3 (doneD hd 3 rfl))) hG), ⟨hs, f0, f1, f2, f3, f4, fun _ => (condF hG).symm, f6, f7, f8, f9, f10, f11, f12, f13⟩⟩
    ·
      exact .inl ⟨(Eq.trans (wantG1 (j := 3) rfl (f3 (doneD hd 3 rfl))) hG), L_ld (V := .int .u32 d.seq) S1_22 hs 0 rfl ((g4).trans (condT (by exact hG))) rfl ⟨hs, f0, f1, f2, f3, f4, fun _ => (condT hG).symm, f6, f7, f8, f9, f10, f11, f12, f13⟩⟩
  · rintro D ρ wx hD hd hdc hf ⟨hs, f0, f1, f2, f3, f4, f5, f6, f7, f8, f9, f10, f11, f12, f13⟩
    have g5 := f5 (doneD hd 5 rfl)
    rcases Bool.eq_false_or_eq_true ((decide (d.rep < 16)) == true) with hG | hG
    rotate_left
    · exact .inr ⟨(Eq.trans (wantG1 (j := 3) rfl (f3 (doneD hd 3 rfl))) hG), ⟨hs, f0, f1, f2, f3, f4, f5, fun _ => (condF hG).symm, f7, f8, f9, f10, f11, f12, f13⟩⟩
    ·
      exact .inl ⟨(Eq.trans (wantG1 (j := 3) rfl (f3 (doneD hd 3 rfl))) hG), L_geq ((g5).trans (condT (by exact hG))) rfl ⟨hs, f0, f1, f2, f3, f4, f5, fun _ => (condT hG).symm, f7, f8, f9, f10, f11, f12, f13⟩⟩
  · rintro D ρ wx hD hd hdc hf ⟨hs, f0, f1, f2, f3, f4, f5, f6, f7, f8, f9, f10, f11, f12, f13⟩
    have g3 := f3 (doneD hd 3 rfl)
    have g6 := f6 (doneD hd 6 rfl)
    exact .inl ⟨rfl, L_and g3 rfl (fun hg => ((g6).trans (condT (by first | exact beqT hg | rfl)))) ⟨hs, f0, f1, f2, f3, f4, f5, f6, fun _ => rfl, f8, f9, f10, f11, f12, f13⟩⟩
  · rintro D ρ wx hD hd hdc hf ⟨hs, f0, f1, f2, f3, f4, f5, f6, f7, f8, f9, f10, f11, f12, f13⟩
    have g7 := f7 (doneD hd 7 rfl)
    exact .inl ⟨rfl, L_move (V := .bool ((decide (d.rep < 16)) && (decide (1 ≤ d.seq)))) g7 ⟨hs, f0, f1, f2, f3, f4, f5, f6, f7, fun _ => rfl, f9, f10, f11, f12, f13⟩⟩
  · rintro D ρ wx hD hd hdc hf ⟨hs, f0, f1, f2, f3, f4, f5, f6, f7, f8, f9, f10, f11, f12, f13⟩
    have r1 : ρ 1 = .pointer (some ⟨b1, 0, none⟩) := outD hf 1 rfl
    rcases Bool.eq_false_or_eq_true (((decide (d.rep < 16)) && (decide (1 ≤ d.seq))) == true) with hG | hG
    rotate_left
    · exact .inr ⟨(Eq.trans (wantG1 (j := 8) rfl (f8 (doneD hd 8 rfl))) hG), ⟨hs, f0, f1, f2, f3, f4, f5, f6, f7, f8, fun _ => (condF hG).symm, f10, f11, f12, f13⟩⟩
    ·
      exact .inl ⟨(Eq.trans (wantG1 (j := 8) rfl (f8 (doneD hd 8 rfl))) hG), L_fieldAddr FA_34_1 r1 ⟨hs, f0, f1, f2, f3, f4, f5, f6, f7, f8, fun _ => (condT hG).symm, f10, f11, f12, f13⟩⟩
  · rintro D ρ wx hD hd hdc hf ⟨hs, f0, f1, f2, f3, f4, f5, f6, f7, f8, f9, f10, f11, f12, f13⟩
    have g9 := f9 (doneD hd 9 rfl)
    rcases Bool.eq_false_or_eq_true (((decide (d.rep < 16)) && (decide (1 ≤ d.seq))) == true) with hG | hG
    rotate_left
    · exact .inr ⟨(Eq.trans (wantG1 (j := 8) rfl (f8 (doneD hd 8 rfl))) hG), ⟨hs, f0, f1, f2, f3, f4, f5, f6, f7, f8, f9, fun _ => (condF hG).symm, f11, f12, f13⟩⟩
    ·
      exact .inl ⟨(Eq.trans (wantG1 (j := 8) rfl (f8 (doneD hd 8 rfl))) hG), L_ld (V := .int .u32 d.seq) S1_22 hs 0 rfl ((g9).trans (condT (by exact hG))) rfl ⟨hs, f0, f1, f2, f3, f4, f5, f6, f7, f8, f9, fun _ => (condT hG).symm, f11, f12, f13⟩⟩
  · rintro D ρ wx hD hd hdc hf ⟨hs, f0, f1, f2, f3, f4, f5, f6, f7, f8, f9, f10, f11, f12, f13⟩
    have g10 := f10 (doneD hd 10 rfl)
    rcases Bool.eq_false_or_eq_true (((decide (d.rep < 16)) && (decide (1 ≤ d.seq))) == true) with hG | hG
    rotate_left
    · exact .inr ⟨(Eq.trans (wantG1 (j := 8) rfl (f8 (doneD hd 8 rfl))) hG), ⟨hs, f0, f1, f2, f3, f4, f5, f6, f7, f8, f9, f10, fun _ => (condF hG).symm, f12, f13⟩⟩
    ·
      exact .inl ⟨(Eq.trans (wantG1 (j := 8) rfl (f8 (doneD hd 8 rfl))) hG), L_leq ((g10).trans (condT (by exact hG))) rfl ⟨hs, f0, f1, f2, f3, f4, f5, f6, f7, f8, f9, f10, fun _ => (condT hG).symm, f12, f13⟩⟩
  · rintro D ρ wx hD hd hdc hf ⟨hs, f0, f1, f2, f3, f4, f5, f6, f7, f8, f9, f10, f11, f12, f13⟩
    have g8 := f8 (doneD hd 8 rfl)
    have g11 := f11 (doneD hd 11 rfl)
    exact .inl ⟨rfl, L_and g8 rfl (fun hg => ((g11).trans (condT (by first | exact beqT hg | rfl)))) ⟨hs, f0, f1, f2, f3, f4, f5, f6, f7, f8, f9, f10, f11, fun _ => rfl, f13⟩⟩
  · rintro D ρ wx hD hd hdc hf ⟨hs, f0, f1, f2, f3, f4, f5, f6, f7, f8, f9, f10, f11, f12, f13⟩
    have g12 := f12 (doneD hd 12 rfl)
    exact .inl ⟨rfl, L_assign (V := .bool (((decide (d.rep < 16)) && (decide (1 ≤ d.seq))) && (decide (d.seq ≤ 1048576)))) g12 ⟨hs, f0, f1, f2, f3, f4, f5, f6, f7, f8, f9, f10, f11, f12, fun _ => rfl⟩⟩
  · rintro ρ1 w1 D hD hf ⟨hs, f0, f1, f2, f3, f4, f5, f6, f7, f8, f9, f10, f11, f12, f13⟩
    have e13 := f13 (hD 13 rfl)
    clear f0 f1 f2 f3 f4 f5 f6 f7 f8 f9 f10 f11 f12 f13
    obtain ⟨ρ2, hρ⟩ : ∃ ρ2, ρ1 = upd (mix [3, 4, 5, 6, 7, 8, 9, 10, 11, 12, 13, 14, 15, 2] ρ2 _) 2 (.bool (((decide (d.rep < 16)) && (decide (1 ≤ d.seq))) && (decide (d.seq ≤ 1048576)))) := ⟨ρ1, upd_of (mix_of (ds := [3, 4, 5, 6, 7, 8, 9, 10, 11, 12, 13, 14, 15, 2]) hf) e13⟩
    clear hf hD e13
    subst hρ
    refine W_ret ?_
    refine ⟨_, res_one (V := .bool (((decide (d.rep < 16)) && (decide (1 ≤ d.seq))) && (decide (d.seq ≤ 1048576)))) Try.results46 rfl, ?_⟩
    refine ⟨congrArg Ending.returned ?_, hs.take 0⟩
    rfl
set_option maxRecDepth 20000 in
set_option maxHeartbeats 4000000 in
theorem vHas_ok (w : World) (v : Vec) (d : Dot) (hd : DotOk d) : Calls Try.prog 45 #[.agg (vc v).toArray, .agg (dc d).toArray] w (fun e w' => e = .returned (.bool (hasB v d)) ∧ Own w no w' []) := by
  refine calls_of_Wn (n := 16) Try.func45 rfl Try.ntmps45 rfl ?_
  have hs := Own.start w
  have ⟨⟨hd1, hd2⟩, hd3, hd4⟩ := hd
  refine W_seq ?_
  refine W_region ?_
  refine RW_op (L_box (V := .agg (vc v).toArray) (cs := vc v) rfl rfl hs fun b1 w2 hs => ?_)
  refine RW_op (L_box (V := .agg (dc d).toArray) (cs := dc d) rfl rfl hs fun b3 w4 hs => ?_)
  refine RW_op (L_assign (V := .bool false) rfl ?_)
  refine RW_nil ?_
  refine W_seq ?_
  replace hs := hs.drew
  refine W_draw2 HM [5, 6, 7, 8, 9, 10, 11, 12, 13, 14, 15, 4] [[], [0], [1, 1], [2], [3, 2], [2], [5, 2], [6, 2], [7, 2], [4, 8, 2], [2, 9], [10, 2, 0, 1, 2, 3, 4, 5, 6, 7, 8, 9, 10]] (fun D ρ wx => Own w no wx [blk b1 (vc v) 24, blk b3 (dc d) 34] ∧ (D 0 = true → ρ 5 = .agg (dc d).toArray) ∧ (D 1 = true → ρ 6 = .bool (dotB d)) ∧ (D 2 = true → ρ 7 = .bool (dotB d)) ∧ (D 3 = true → ρ 8 = cond ((dotB d) == true) (.pointer (some ⟨b3, 0 + 1, none⟩)) undef) ∧ (D 4 = true → ρ 9 = cond ((dotB d) == true) (.int .u32 d.seq) undef) ∧ (D 5 = true → ρ 10 = cond ((dotB d) == true) (.pointer (some ⟨b3, 0 + 0, none⟩)) undef) ∧ (D 6 = true → ρ 11 = cond ((dotB d) == true) (.int .u8 d.rep) undef) ∧ (D 7 = true → ρ 12 = cond ((dotB d) == true) (.pointer (some ⟨b1, 0 + d.rep.toNat, none⟩)) undef) ∧ (D 8 = true → ρ 13 = cond ((dotB d) == true) (.int .u32 (vat v d.rep.toNat)) undef) ∧ (D 9 = true → ρ 14 = cond ((dotB d) == true) (.bool (decide (d.seq ≤ vat v d.rep.toNat))) undef) ∧ (D 10 = true → ρ 15 = .bool ((dotB d) && (decide (d.seq ≤ vat v d.rep.toNat)))) ∧ (D 11 = true → ρ 4 = .bool ((dotB d) && (decide (d.seq ≤ vat v d.rep.toNat))))) rfl rfl rfl ⟨hs, fun h => absurd h Bool.false_ne_true, fun h => absurd h Bool.false_ne_true, fun h => absurd h Bool.false_ne_true, fun h => absurd h Bool.false_ne_true, fun h => absurd h Bool.false_ne_true, fun h => absurd h Bool.false_ne_true, fun h => absurd h Bool.false_ne_true, fun h => absurd h Bool.false_ne_true, fun h => absurd h Bool.false_ne_true, fun h => absurd h Bool.false_ne_true, fun h => absurd h Bool.false_ne_true, fun h => absurd h Bool.false_ne_true⟩ ⟨?_, ?_, ?_, ?_, ?_, ?_, ?_, ?_, ?_, ?_, ?_, ?_, trivial⟩ ?_
  · rintro D ρ wx hD hd hdc hf ⟨hs, f0, f1, f2, f3, f4, f5, f6, f7, f8, f9, f10, f11⟩
    have r3 : ρ 3 = .pointer (some ⟨b3, 0, none⟩) := outD hf 3 rfl
    exact .inl ⟨rfl, L_ldW (cs := dc d) SA_34 hs 1 rfl r3 rfl ⟨hs, fun _ => rfl, f1, f2, f3, f4, f5, f6, f7, f8, f9, f10, f11⟩⟩
  · rintro D ρ wx hD hd hdc hf ⟨hs, f0, f1, f2, f3, f4, f5, f6, f7, f8, f9, f10, f11⟩
    have g0 := f0 (doneD hd 0 rfl)
    exact .inl ⟨rfl, L_callP (vs := [.agg (dc d).toArray]) (V := .bool (dotB d)) EN_62 rfl (mapc g0 rfl) (vdot_ok _ d) hs fun _ hs0 => ⟨hs0, f0, fun _ => rfl, f2, f3, f4, f5, f6, f7, f8, f9, f10, f11⟩⟩
  · rintro D ρ wx hD hd hdc hf ⟨hs, f0, f1, f2, f3, f4, f5, f6, f7, f8, f9, f10, f11⟩
    have g1 := f1 (doneD hd 1 rfl)
    exact .inl ⟨rfl, L_move (V := .bool (dotB d)) g1 ⟨hs, f0, f1, fun _ => rfl, f3, f4, f5, f6, f7, f8, f9, f10, f11⟩⟩
  · rintro D ρ wx hD hd hdc hf ⟨hs, f0, f1, f2, f3, f4, f5, f6, f7, f8, f9, f10, f11⟩
    have r3 : ρ 3 = .pointer (some ⟨b3, 0, none⟩) := outD hf 3 rfl
    rcases Bool.eq_false_or_eq_true ((dotB d) == true) with hG | hG
    rotate_left
    · exact .inr ⟨(Eq.trans (wantG1 (j := 2) rfl (f2 (doneD hd 2 rfl))) hG), ⟨hs, f0, f1, f2, fun _ => (condF hG).symm, f4, f5, f6, f7, f8, f9, f10, f11⟩⟩
    ·
      have hb := dotB_spec (eq_of_beq hG)
      exact .inl ⟨(Eq.trans (wantG1 (j := 2) rfl (f2 (doneD hd 2 rfl))) hG), L_fieldAddr FA_34_1 r3 ⟨hs, f0, f1, f2, fun _ => (condT hG).symm, f4, f5, f6, f7, f8, f9, f10, f11⟩⟩
  · rintro D ρ wx hD hd hdc hf ⟨hs, f0, f1, f2, f3, f4, f5, f6, f7, f8, f9, f10, f11⟩
    have g3 := f3 (doneD hd 3 rfl)
    rcases Bool.eq_false_or_eq_true ((dotB d) == true) with hG | hG
    rotate_left
    · exact .inr ⟨(Eq.trans (wantG1 (j := 2) rfl (f2 (doneD hd 2 rfl))) hG), ⟨hs, f0, f1, f2, f3, fun _ => (condF hG).symm, f5, f6, f7, f8, f9, f10, f11⟩⟩
    ·
      have hb := dotB_spec (eq_of_beq hG)
      exact .inl ⟨(Eq.trans (wantG1 (j := 2) rfl (f2 (doneD hd 2 rfl))) hG), L_ld (V := .int .u32 d.seq) S1_22 hs 1 rfl ((g3).trans (condT (by exact hG))) rfl ⟨hs, f0, f1, f2, f3, fun _ => (condT hG).symm, f5, f6, f7, f8, f9, f10, f11⟩⟩
  · rintro D ρ wx hD hd hdc hf ⟨hs, f0, f1, f2, f3, f4, f5, f6, f7, f8, f9, f10, f11⟩
    have r3 : ρ 3 = .pointer (some ⟨b3, 0, none⟩) := outD hf 3 rfl
    rcases Bool.eq_false_or_eq_true ((dotB d) == true) with hG | hG
    rotate_left
    · exact .inr ⟨(Eq.trans (wantG1 (j := 2) rfl (f2 (doneD hd 2 rfl))) hG), ⟨hs, f0, f1, f2, f3, f4, fun _ => (condF hG).symm, f6, f7, f8, f9, f10, f11⟩⟩
    ·
      have hb := dotB_spec (eq_of_beq hG)
      exact .inl ⟨(Eq.trans (wantG1 (j := 2) rfl (f2 (doneD hd 2 rfl))) hG), L_fieldAddr FA_34_0 r3 ⟨hs, f0, f1, f2, f3, f4, fun _ => (condT hG).symm, f6, f7, f8, f9, f10, f11⟩⟩
  · rintro D ρ wx hD hd hdc hf ⟨hs, f0, f1, f2, f3, f4, f5, f6, f7, f8, f9, f10, f11⟩
    have g5 := f5 (doneD hd 5 rfl)
    rcases Bool.eq_false_or_eq_true ((dotB d) == true) with hG | hG
    rotate_left
    · exact .inr ⟨(Eq.trans (wantG1 (j := 2) rfl (f2 (doneD hd 2 rfl))) hG), ⟨hs, f0, f1, f2, f3, f4, f5, fun _ => (condF hG).symm, f7, f8, f9, f10, f11⟩⟩
    ·
      have hb := dotB_spec (eq_of_beq hG)
      exact .inl ⟨(Eq.trans (wantG1 (j := 2) rfl (f2 (doneD hd 2 rfl))) hG), L_ld (V := .int .u8 d.rep) S1_5 hs 1 rfl ((g5).trans (condT (by exact hG))) rfl ⟨hs, f0, f1, f2, f3, f4, f5, fun _ => (condT hG).symm, f7, f8, f9, f10, f11⟩⟩
  · rintro D ρ wx hD hd hdc hf ⟨hs, f0, f1, f2, f3, f4, f5, f6, f7, f8, f9, f10, f11⟩
    have g6 := f6 (doneD hd 6 rfl)
    have r2 : ρ 2 = .pointer (some ⟨b1, 0, none⟩) := outD hf 2 rfl
    rcases Bool.eq_false_or_eq_true ((dotB d) == true) with hG | hG
    rotate_left
    · exact .inr ⟨(Eq.trans (wantG1 (j := 2) rfl (f2 (doneD hd 2 rfl))) hG), ⟨hs, f0, f1, f2, f3, f4, f5, f6, fun _ => (condF hG).symm, f8, f9, f10, f11⟩⟩
    ·
      have hb := dotB_spec (eq_of_beq hG)
      exact .inl ⟨(Eq.trans (wantG1 (j := 2) rfl (f2 (doneD hd 2 rfl))) hG), L_ixArr1 UD_24 S1_22.1 r2 ((g6).trans (condT (by exact hG))) (by omega) (by omega) ⟨hs, f0, f1, f2, f3, f4, f5, f6, fun _ => (condT hG).symm, f8, f9, f10, f11⟩⟩
  · rintro D ρ wx hD hd hdc hf ⟨hs, f0, f1, f2, f3, f4, f5, f6, f7, f8, f9, f10, f11⟩
    have g7 := f7 (doneD hd 7 rfl)
    rcases Bool.eq_false_or_eq_true ((dotB d) == true) with hG | hG
    rotate_left
    · exact .inr ⟨(Eq.trans (wantG1 (j := 2) rfl (f2 (doneD hd 2 rfl))) hG), ⟨hs, f0, f1, f2, f3, f4, f5, f6, f7, fun _ => (condF hG).symm, f9, f10, f11⟩⟩
    ·
      have hb := dotB_spec (eq_of_beq hG)
      exact .inl ⟨(Eq.trans (wantG1 (j := 2) rfl (f2 (doneD hd 2 rfl))) hG), L_ld (V := .int .u32 (vat v d.rep.toNat)) S1_22 hs 0 rfl ((g7).trans (condT (by exact hG))) (vc_atO (by omega) (by omega)) ⟨hs, f0, f1, f2, f3, f4, f5, f6, f7, fun _ => (condT hG).symm, f9, f10, f11⟩⟩
  · rintro D ρ wx hD hd hdc hf ⟨hs, f0, f1, f2, f3, f4, f5, f6, f7, f8, f9, f10, f11⟩
    have g4 := f4 (doneD hd 4 rfl)
    have g8 := f8 (doneD hd 8 rfl)
    rcases Bool.eq_false_or_eq_true ((dotB d) == true) with hG | hG
    rotate_left
    · exact .inr ⟨(Eq.trans (wantG1 (j := 2) rfl (f2 (doneD hd 2 rfl))) hG), ⟨hs, f0, f1, f2, f3, f4, f5, f6, f7, f8, fun _ => (condF hG).symm, f10, f11⟩⟩
    ·
      have hb := dotB_spec (eq_of_beq hG)
      exact .inl ⟨(Eq.trans (wantG1 (j := 2) rfl (f2 (doneD hd 2 rfl))) hG), L_leq ((g4).trans (condT (by exact hG))) ((g8).trans (condT (by exact hG))) ⟨hs, f0, f1, f2, f3, f4, f5, f6, f7, f8, fun _ => (condT hG).symm, f10, f11⟩⟩
  · rintro D ρ wx hD hd hdc hf ⟨hs, f0, f1, f2, f3, f4, f5, f6, f7, f8, f9, f10, f11⟩
    have g2 := f2 (doneD hd 2 rfl)
    have g9 := f9 (doneD hd 9 rfl)
    exact .inl ⟨rfl, L_and g2 rfl (fun hg => ((g9).trans (condT (by first | exact beqT hg | rfl)))) ⟨hs, f0, f1, f2, f3, f4, f5, f6, f7, f8, f9, fun _ => rfl, f11⟩⟩
  · rintro D ρ wx hD hd hdc hf ⟨hs, f0, f1, f2, f3, f4, f5, f6, f7, f8, f9, f10, f11⟩
    have g10 := f10 (doneD hd 10 rfl)
    exact .inl ⟨rfl, L_assign (V := .bool ((dotB d) && (decide (d.seq ≤ vat v d.rep.toNat)))) g10 ⟨hs, f0, f1, f2, f3, f4, f5, f6, f7, f8, f9, f10, fun _ => rfl⟩⟩
  · rintro ρ1 w1 D hD hf ⟨hs, f0, f1, f2, f3, f4, f5, f6, f7, f8, f9, f10, f11⟩
    have e11 := f11 (hD 11 rfl)
    clear f0 f1 f2 f3 f4 f5 f6 f7 f8 f9 f10 f11
    obtain ⟨ρ2, hρ⟩ : ∃ ρ2, ρ1 = upd (mix [5, 6, 7, 8, 9, 10, 11, 12, 13, 14, 15, 4] ρ2 _) 4 (.bool ((dotB d) && (decide (d.seq ≤ vat v d.rep.toNat)))) := ⟨ρ1, upd_of (mix_of (ds := [5, 6, 7, 8, 9, 10, 11, 12, 13, 14, 15, 4]) hf) e11⟩
    clear hf hD e11
    subst hρ
    refine W_ret ?_
    refine ⟨_, res_one (V := .bool ((dotB d) && (decide (d.seq ≤ vat v d.rep.toNat)))) Try.results45 rfl, ?_⟩
    refine ⟨congrArg Ending.returned ?_, hs.take 0⟩
    rfl
set_option maxRecDepth 20000 in
set_option maxHeartbeats 4000000 in
theorem rHas_ok (w : World) (v : Vec) (d : Dot) (hd : DotOk d) : Calls Try.prog 29 #[.agg (vc v).toArray, .agg (dc d).toArray] w (fun e w' => e = .returned (.bool (hasB v d)) ∧ Own w no w' []) := by
  refine calls_of_Wn (n := 16) Try.func29 rfl Try.ntmps29 rfl ?_
  have hs := Own.start w
  have ⟨⟨hd1, hd2⟩, hd3, hd4⟩ := hd
  refine W_seq ?_
  refine W_region ?_
  refine RW_op (L_box (V := .agg (vc v).toArray) (cs := vc v) rfl rfl hs fun b1 w2 hs => ?_)
  refine RW_op (L_box (V := .agg (dc d).toArray) (cs := dc d) rfl rfl hs fun b3 w4 hs => ?_)
  refine RW_op (L_assign (V := .bool false) rfl ?_)
  refine RW_nil ?_
  refine W_seq ?_
  replace hs := hs.drew
  refine W_draw2 HM [5, 6, 7, 8, 9, 10, 11, 12, 13, 14, 15, 4] [[], [0], [1, 1], [2], [3, 2], [2], [5, 2], [6, 2], [7, 2], [4, 8, 2], [2, 9], [10, 2, 0, 1, 2, 3, 4, 5, 6, 7, 8, 9, 10]] (fun D ρ wx => Own w no wx [blk b1 (vc v) 24, blk b3 (dc d) 34] ∧ (D 0 = true → ρ 5 = .agg (dc d).toArray) ∧ (D 1 = true → ρ 6 = .bool (dotB d)) ∧ (D 2 = true → ρ 7 = .bool (dotB d)) ∧ (D 3 = true → ρ 8 = cond ((dotB d) == true) (.pointer (some ⟨b3, 0 + 1, none⟩)) undef) ∧ (D 4 = true → ρ 9 = cond ((dotB d) == true) (.int .u32 d.seq) undef) ∧ (D 5 = true → ρ 10 = cond ((dotB d) == true) (.pointer (some ⟨b3, 0 + 0, none⟩)) undef) ∧ (D 6 = true → ρ 11 = cond ((dotB d) == true) (.int .u8 d.rep) undef) ∧ (D 7 = true → ρ 12 = cond ((dotB d) == true) (.pointer (some ⟨b1, 0 + d.rep.toNat, none⟩)) undef) ∧ (D 8 = true → ρ 13 = cond ((dotB d) == true) (.int .u32 (vat v d.rep.toNat)) undef) ∧ (D 9 = true → ρ 14 = cond ((dotB d) == true) (.bool (decide (d.seq ≤ vat v d.rep.toNat))) undef) ∧ (D 10 = true → ρ 15 = .bool ((dotB d) && (decide (d.seq ≤ vat v d.rep.toNat)))) ∧ (D 11 = true → ρ 4 = .bool ((dotB d) && (decide (d.seq ≤ vat v d.rep.toNat))))) rfl rfl rfl ⟨hs, fun h => absurd h Bool.false_ne_true, fun h => absurd h Bool.false_ne_true, fun h => absurd h Bool.false_ne_true, fun h => absurd h Bool.false_ne_true, fun h => absurd h Bool.false_ne_true, fun h => absurd h Bool.false_ne_true, fun h => absurd h Bool.false_ne_true, fun h => absurd h Bool.false_ne_true, fun h => absurd h Bool.false_ne_true, fun h => absurd h Bool.false_ne_true, fun h => absurd h Bool.false_ne_true, fun h => absurd h Bool.false_ne_true⟩ ⟨?_, ?_, ?_, ?_, ?_, ?_, ?_, ?_, ?_, ?_, ?_, ?_, trivial⟩ ?_
  · rintro D ρ wx hD hd hdc hf ⟨hs, f0, f1, f2, f3, f4, f5, f6, f7, f8, f9, f10, f11⟩
    have r3 : ρ 3 = .pointer (some ⟨b3, 0, none⟩) := outD hf 3 rfl
    exact .inl ⟨rfl, L_ldW (cs := dc d) SA_34 hs 1 rfl r3 rfl ⟨hs, fun _ => rfl, f1, f2, f3, f4, f5, f6, f7, f8, f9, f10, f11⟩⟩
  · rintro D ρ wx hD hd hdc hf ⟨hs, f0, f1, f2, f3, f4, f5, f6, f7, f8, f9, f10, f11⟩
    have g0 := f0 (doneD hd 0 rfl)
    exact .inl ⟨rfl, L_callP (vs := [.agg (dc d).toArray]) (V := .bool (dotB d)) EN_46 rfl (mapc g0 rfl) (rDot_ok _ d) hs fun _ hs0 => ⟨hs0, f0, fun _ => rfl, f2, f3, f4, f5, f6, f7, f8, f9, f10, f11⟩⟩
  · rintro D ρ wx hD hd hdc hf ⟨hs, f0, f1, f2, f3, f4, f5, f6, f7, f8, f9, f10, f11⟩
    have g1 := f1 (doneD hd 1 rfl)
    exact .inl ⟨rfl, L_move (V := .bool (dotB d)) g1 ⟨hs, f0, f1, fun _ => rfl, f3, f4, f5, f6, f7, f8, f9, f10, f11⟩⟩
  · rintro D ρ wx hD hd hdc hf ⟨hs, f0, f1, f2, f3, f4, f5, f6, f7, f8, f9, f10, f11⟩
    have r3 : ρ 3 = .pointer (some ⟨b3, 0, none⟩) := outD hf 3 rfl
    rcases Bool.eq_false_or_eq_true ((dotB d) == true) with hG | hG
    rotate_left
    · exact .inr ⟨(Eq.trans (wantG1 (j := 2) rfl (f2 (doneD hd 2 rfl))) hG), ⟨hs, f0, f1, f2, fun _ => (condF hG).symm, f4, f5, f6, f7, f8, f9, f10, f11⟩⟩
    ·
      have hb := dotB_spec (eq_of_beq hG)
      exact .inl ⟨(Eq.trans (wantG1 (j := 2) rfl (f2 (doneD hd 2 rfl))) hG), L_fieldAddr FA_34_1 r3 ⟨hs, f0, f1, f2, fun _ => (condT hG).symm, f4, f5, f6, f7, f8, f9, f10, f11⟩⟩
  · rintro D ρ wx hD hd hdc hf ⟨hs, f0, f1, f2, f3, f4, f5, f6, f7, f8, f9, f10, f11⟩
    have g3 := f3 (doneD hd 3 rfl)
    rcases Bool.eq_false_or_eq_true ((dotB d) == true) with hG | hG
    rotate_left
    · exact .inr ⟨(Eq.trans (wantG1 (j := 2) rfl (f2 (doneD hd 2 rfl))) hG), ⟨hs, f0, f1, f2, f3, fun _ => (condF hG).symm, f5, f6, f7, f8, f9, f10, f11⟩⟩
    ·
      have hb := dotB_spec (eq_of_beq hG)
      exact .inl ⟨(Eq.trans (wantG1 (j := 2) rfl (f2 (doneD hd 2 rfl))) hG), L_ld (V := .int .u32 d.seq) S1_22 hs 1 rfl ((g3).trans (condT (by exact hG))) rfl ⟨hs, f0, f1, f2, f3, fun _ => (condT hG).symm, f5, f6, f7, f8, f9, f10, f11⟩⟩
  · rintro D ρ wx hD hd hdc hf ⟨hs, f0, f1, f2, f3, f4, f5, f6, f7, f8, f9, f10, f11⟩
    have r3 : ρ 3 = .pointer (some ⟨b3, 0, none⟩) := outD hf 3 rfl
    rcases Bool.eq_false_or_eq_true ((dotB d) == true) with hG | hG
    rotate_left
    · exact .inr ⟨(Eq.trans (wantG1 (j := 2) rfl (f2 (doneD hd 2 rfl))) hG), ⟨hs, f0, f1, f2, f3, f4, fun _ => (condF hG).symm, f6, f7, f8, f9, f10, f11⟩⟩
    ·
      have hb := dotB_spec (eq_of_beq hG)
      exact .inl ⟨(Eq.trans (wantG1 (j := 2) rfl (f2 (doneD hd 2 rfl))) hG), L_fieldAddr FA_34_0 r3 ⟨hs, f0, f1, f2, f3, f4, fun _ => (condT hG).symm, f6, f7, f8, f9, f10, f11⟩⟩
  · rintro D ρ wx hD hd hdc hf ⟨hs, f0, f1, f2, f3, f4, f5, f6, f7, f8, f9, f10, f11⟩
    have g5 := f5 (doneD hd 5 rfl)
    rcases Bool.eq_false_or_eq_true ((dotB d) == true) with hG | hG
    rotate_left
    · exact .inr ⟨(Eq.trans (wantG1 (j := 2) rfl (f2 (doneD hd 2 rfl))) hG), ⟨hs, f0, f1, f2, f3, f4, f5, fun _ => (condF hG).symm, f7, f8, f9, f10, f11⟩⟩
    ·
      have hb := dotB_spec (eq_of_beq hG)
      exact .inl ⟨(Eq.trans (wantG1 (j := 2) rfl (f2 (doneD hd 2 rfl))) hG), L_ld (V := .int .u8 d.rep) S1_5 hs 1 rfl ((g5).trans (condT (by exact hG))) rfl ⟨hs, f0, f1, f2, f3, f4, f5, fun _ => (condT hG).symm, f7, f8, f9, f10, f11⟩⟩
  · rintro D ρ wx hD hd hdc hf ⟨hs, f0, f1, f2, f3, f4, f5, f6, f7, f8, f9, f10, f11⟩
    have g6 := f6 (doneD hd 6 rfl)
    have r2 : ρ 2 = .pointer (some ⟨b1, 0, none⟩) := outD hf 2 rfl
    rcases Bool.eq_false_or_eq_true ((dotB d) == true) with hG | hG
    rotate_left
    · exact .inr ⟨(Eq.trans (wantG1 (j := 2) rfl (f2 (doneD hd 2 rfl))) hG), ⟨hs, f0, f1, f2, f3, f4, f5, f6, fun _ => (condF hG).symm, f8, f9, f10, f11⟩⟩
    ·
      have hb := dotB_spec (eq_of_beq hG)
      exact .inl ⟨(Eq.trans (wantG1 (j := 2) rfl (f2 (doneD hd 2 rfl))) hG), L_ixArr1 UD_24 S1_22.1 r2 ((g6).trans (condT (by exact hG))) (by omega) (by omega) ⟨hs, f0, f1, f2, f3, f4, f5, f6, fun _ => (condT hG).symm, f8, f9, f10, f11⟩⟩
  · rintro D ρ wx hD hd hdc hf ⟨hs, f0, f1, f2, f3, f4, f5, f6, f7, f8, f9, f10, f11⟩
    have g7 := f7 (doneD hd 7 rfl)
    rcases Bool.eq_false_or_eq_true ((dotB d) == true) with hG | hG
    rotate_left
    · exact .inr ⟨(Eq.trans (wantG1 (j := 2) rfl (f2 (doneD hd 2 rfl))) hG), ⟨hs, f0, f1, f2, f3, f4, f5, f6, f7, fun _ => (condF hG).symm, f9, f10, f11⟩⟩
    ·
      have hb := dotB_spec (eq_of_beq hG)
      exact .inl ⟨(Eq.trans (wantG1 (j := 2) rfl (f2 (doneD hd 2 rfl))) hG), L_ld (V := .int .u32 (vat v d.rep.toNat)) S1_22 hs 0 rfl ((g7).trans (condT (by exact hG))) (vc_atO (by omega) (by omega)) ⟨hs, f0, f1, f2, f3, f4, f5, f6, f7, fun _ => (condT hG).symm, f9, f10, f11⟩⟩
  · rintro D ρ wx hD hd hdc hf ⟨hs, f0, f1, f2, f3, f4, f5, f6, f7, f8, f9, f10, f11⟩
    have g4 := f4 (doneD hd 4 rfl)
    have g8 := f8 (doneD hd 8 rfl)
    rcases Bool.eq_false_or_eq_true ((dotB d) == true) with hG | hG
    rotate_left
    · exact .inr ⟨(Eq.trans (wantG1 (j := 2) rfl (f2 (doneD hd 2 rfl))) hG), ⟨hs, f0, f1, f2, f3, f4, f5, f6, f7, f8, fun _ => (condF hG).symm, f10, f11⟩⟩
    ·
      have hb := dotB_spec (eq_of_beq hG)
      exact .inl ⟨(Eq.trans (wantG1 (j := 2) rfl (f2 (doneD hd 2 rfl))) hG), L_leq ((g4).trans (condT (by exact hG))) ((g8).trans (condT (by exact hG))) ⟨hs, f0, f1, f2, f3, f4, f5, f6, f7, f8, fun _ => (condT hG).symm, f10, f11⟩⟩
  · rintro D ρ wx hD hd hdc hf ⟨hs, f0, f1, f2, f3, f4, f5, f6, f7, f8, f9, f10, f11⟩
    have g2 := f2 (doneD hd 2 rfl)
    have g9 := f9 (doneD hd 9 rfl)
    exact .inl ⟨rfl, L_and g2 rfl (fun hg => ((g9).trans (condT (by first | exact beqT hg | rfl)))) ⟨hs, f0, f1, f2, f3, f4, f5, f6, f7, f8, f9, fun _ => rfl, f11⟩⟩
  · rintro D ρ wx hD hd hdc hf ⟨hs, f0, f1, f2, f3, f4, f5, f6, f7, f8, f9, f10, f11⟩
    have g10 := f10 (doneD hd 10 rfl)
    exact .inl ⟨rfl, L_assign (V := .bool ((dotB d) && (decide (d.seq ≤ vat v d.rep.toNat)))) g10 ⟨hs, f0, f1, f2, f3, f4, f5, f6, f7, f8, f9, f10, fun _ => rfl⟩⟩
  · rintro ρ1 w1 D hD hf ⟨hs, f0, f1, f2, f3, f4, f5, f6, f7, f8, f9, f10, f11⟩
    have e11 := f11 (hD 11 rfl)
    clear f0 f1 f2 f3 f4 f5 f6 f7 f8 f9 f10 f11
    obtain ⟨ρ2, hρ⟩ : ∃ ρ2, ρ1 = upd (mix [5, 6, 7, 8, 9, 10, 11, 12, 13, 14, 15, 4] ρ2 _) 4 (.bool ((dotB d) && (decide (d.seq ≤ vat v d.rep.toNat)))) := ⟨ρ1, upd_of (mix_of (ds := [5, 6, 7, 8, 9, 10, 11, 12, 13, 14, 15, 4]) hf) e11⟩
    clear hf hD e11
    subst hρ
    refine W_ret ?_
    refine ⟨_, res_one (V := .bool ((dotB d) && (decide (d.seq ≤ vat v d.rep.toNat)))) Try.results29 rfl, ?_⟩
    refine ⟨congrArg Ending.returned ?_, hs.take 0⟩
    rfl
set_option maxRecDepth 20000 in
set_option maxHeartbeats 4000000 in
theorem vNext_ok (w : World) (v : Vec) (d : Dot) (hv : VecOk v) (hd : DotOk d) : Calls Try.prog 47 #[.agg (vc v).toArray, .agg (dc d).toArray] w (fun e w' => e = .returned (.tuple #[.agg (vc (nextV v d)).toArray, .int .i64 (nextE v d)]) ∧ Own w no w' []) := by
  refine calls_of_Wn (n := 33) Try.func47 rfl Try.ntmps47 rfl ?_
  have hs := Own.start w
  have ⟨⟨hd1, hd2⟩, hd3, hd4⟩ := hd
  refine W_seq ?_
  refine W_region ?_
  refine RW_op (L_box (V := .agg (vc v).toArray) (cs := vc v) rfl rfl hs fun b1 w2 hs => ?_)
  refine RW_op (L_box (V := .agg (dc d).toArray) (cs := dc d) rfl rfl hs fun b3 w4 hs => ?_)
  refine RW_op (L_alloc (cs := vc vzero) ZV_24 rfl hs fun b5 w6 hs => ?_)
  refine RW_op (L_assign (V := .int .i64 0) rfl ?_)
  refine RW_nil ?_
  refine W_seq ?_
  refine W_block ?_
  refine W_seq ?_
  refine W_region ?_
  refine RW_op (L_ldW (cs := dc d) SA_34 hs 1 rfl rfl rfl ?_)
  refine RW_op (L_callP (vs := [.agg (dc d).toArray]) (V := .bool (dotB d)) EN_62 rfl rfl (vdot_ok _ d) hs fun w7 hs => ?_)
  refine RW_op (L_not rfl ?_)
  refine RW_op (L_assign (V := .bool (!(dotB d))) rfl ?_)
  refine RW_nil ?_
  refine W_cond (t := !(dotB d)) rfl (fun c8 => ?_) (fun c8 => ?_)
  ·
    replace c8 := not_t c8
    refine W_seq ?_
    refine W_region ?_
    refine RW_op (L_build (vs := []) (cs := vc vzero) BT_24 (rfl) rfl ?_)
    refine RW_op (L_st (V := .agg (vc vzero).toArray) (vs := vc vzero) (cs' := vc vzero) SA_24.1 hs 2 rfl rfl rfl rfl rfl (Nat.le_of_ble_eq_true rfl) (vc_one _) (spl_whole rfl) fun w9 hs => ?_)
    refine RW_op (L_assign (V := .int .i64 2) rfl ?_)
    refine RW_nil ?_
    refine W_ret ?_
    refine ⟨_, res_cell2 (cs := vc vzero) (V := .int .i64 2) Try.results47 SA_24 hs 2 rfl rfl rfl rfl, ?_⟩
    refine ⟨congrArg Ending.returned ?_, hs.take 0⟩
    unfold nextV nextE; simp_all
  ·
    replace c8 := not_f c8
    refine W_seq ?_
    refine W_region ?_
    refine RW_op (L_ldW (cs := vc v) SA_24 hs 0 rfl rfl rfl ?_)
    refine RW_op (L_ldW (cs := dc d) SA_34 hs 1 rfl rfl rfl ?_)
    refine RW_op (L_callP (vs := [.agg (vc v).toArray, .agg (dc d).toArray]) (V := .bool (hasB v d)) EN_45 rfl rfl (vHas_ok _ v d (by first | assumption | exact dotOk_mk (by omega) (by omega) (by omega) (by omega))) hs fun w10 hs => ?_)
    refine RW_op (L_assign (V := .bool (hasB v d)) rfl ?_)
    refine RW_nil ?_
    refine W_cond (t := hasB v d) rfl (fun c11 => ?_) (fun c11 => ?_)
    ·
      refine W_seq ?_
      refine W_region ?_
      refine RW_op (L_build (vs := []) (cs := vc vzero) BT_24 (rfl) rfl ?_)
      refine RW_op (L_st (V := .agg (vc vzero).toArray) (vs := vc vzero) (cs' := vc vzero) SA_24.1 hs 2 rfl rfl rfl rfl rfl (Nat.le_of_ble_eq_true rfl) (vc_one _) (spl_whole rfl) fun w12 hs => ?_)
      refine RW_op (L_assign (V := .int .i64 8) rfl ?_)
      refine RW_nil ?_
      refine W_ret ?_
      refine ⟨_, res_cell2 (cs := vc vzero) (V := .int .i64 8) Try.results47 SA_24 hs 2 rfl rfl rfl rfl, ?_⟩
      refine ⟨congrArg Ending.returned ?_, hs.take 0⟩
      unfold nextV nextE; simp_all
    ·
      refine W_seq ?_
      have hb := dotB_spec c8
      have hv1 := vat_ok hv d.rep.toNat
      replace hs := hs.drew
      refine W_draw2 HM [17, 18, 19, 20, 21, 22, 23, 24, 16] [[], [0], [], [2], [3], [4], [5], [1, 6], [7]] (fun D ρ wx => Own w no wx [blk b1 (vc v) 24, blk b3 (dc d) 34, blk b5 (vc vzero) 24] ∧ (D 0 = true → ρ 17 = .pointer (some ⟨b3, 0 + 1, none⟩)) ∧ (D 1 = true → ρ 18 = .int .u32 d.seq) ∧ (D 2 = true → ρ 19 = .pointer (some ⟨b3, 0 + 0, none⟩)) ∧ (D 3 = true → ρ 20 = .int .u8 d.rep) ∧ (D 4 = true → ρ 21 = .pointer (some ⟨b1, 0 + d.rep.toNat, none⟩)) ∧ (D 5 = true → ρ 22 = .int .u32 (vat v d.rep.toNat)) ∧ (D 6 = true → ρ 23 = .int .u32 (((vat v d.rep.toNat) + 1) % 4294967296)) ∧ (D 7 = true → ρ 24 = .bool (!decide (d.seq = ((vat v d.rep.toNat) + 1) % 4294967296))) ∧ (D 8 = true → ρ 16 = .bool (!decide (d.seq = ((vat v d.rep.toNat) + 1) % 4294967296)))) rfl rfl rfl ⟨hs, fun h => absurd h Bool.false_ne_true, fun h => absurd h Bool.false_ne_true, fun h => absurd h Bool.false_ne_true, fun h => absurd h Bool.false_ne_true, fun h => absurd h Bool.false_ne_true, fun h => absurd h Bool.false_ne_true, fun h => absurd h Bool.false_ne_true, fun h => absurd h Bool.false_ne_true, fun h => absurd h Bool.false_ne_true⟩ ⟨?_, ?_, ?_, ?_, ?_, ?_, ?_, ?_, ?_, trivial⟩ ?_
      · rintro D ρ wx hD hd hdc hf ⟨hs, f0, f1, f2, f3, f4, f5, f6, f7, f8⟩
        have r3 : ρ 3 = .pointer (some ⟨b3, 0, none⟩) := outD hf 3 rfl
        exact .inl ⟨rfl, L_fieldAddr FA_34_1 r3 ⟨hs, fun _ => rfl, f1, f2, f3, f4, f5, f6, f7, f8⟩⟩
      · rintro D ρ wx hD hd hdc hf ⟨hs, f0, f1, f2, f3, f4, f5, f6, f7, f8⟩
        have g0 := f0 (doneD hd 0 rfl)
        exact .inl ⟨rfl, L_ld (V := .int .u32 d.seq) S1_22 hs 1 rfl g0 rfl ⟨hs, f0, fun _ => rfl, f2, f3, f4, f5, f6, f7, f8⟩⟩
      · rintro D ρ wx hD hd hdc hf ⟨hs, f0, f1, f2, f3, f4, f5, f6, f7, f8⟩
        have r3 : ρ 3 = .pointer (some ⟨b3, 0, none⟩) := outD hf 3 rfl
        exact .inl ⟨rfl, L_fieldAddr FA_34_0 r3 ⟨hs, f0, f1, fun _ => rfl, f3, f4, f5, f6, f7, f8⟩⟩
      · rintro D ρ wx hD hd hdc hf ⟨hs, f0, f1, f2, f3, f4, f5, f6, f7, f8⟩
        have g2 := f2 (doneD hd 2 rfl)
        exact .inl ⟨rfl, L_ld (V := .int .u8 d.rep) S1_5 hs 1 rfl g2 rfl ⟨hs, f0, f1, f2, fun _ => rfl, f4, f5, f6, f7, f8⟩⟩
      · rintro D ρ wx hD hd hdc hf ⟨hs, f0, f1, f2, f3, f4, f5, f6, f7, f8⟩
        have g3 := f3 (doneD hd 3 rfl)
        have r2 : ρ 2 = .pointer (some ⟨b1, 0, none⟩) := outD hf 2 rfl
        exact .inl ⟨rfl, L_ixArr1 UD_24 S1_22.1 r2 g3 (by omega) (by omega) ⟨hs, f0, f1, f2, f3, fun _ => rfl, f5, f6, f7, f8⟩⟩
      · rintro D ρ wx hD hd hdc hf ⟨hs, f0, f1, f2, f3, f4, f5, f6, f7, f8⟩
        have g4 := f4 (doneD hd 4 rfl)
        exact .inl ⟨rfl, L_ld (V := .int .u32 (vat v d.rep.toNat)) S1_22 hs 0 rfl g4 (vc_atO (by omega) (by omega)) ⟨hs, f0, f1, f2, f3, f4, fun _ => rfl, f6, f7, f8⟩⟩
      · rintro D ρ wx hD hd hdc hf ⟨hs, f0, f1, f2, f3, f4, f5, f6, f7, f8⟩
        have g5 := f5 (doneD hd 5 rfl)
        exact .inl ⟨rfl, L_add (a := vat v d.rep.toNat) (b := 1) (c := ((vat v d.rep.toNat) + 1) % 4294967296) g5 rfl (wm_u32 _) ⟨hs, f0, f1, f2, f3, f4, f5, fun _ => rfl, f7, f8⟩⟩
      · rintro D ρ wx hD hd hdc hf ⟨hs, f0, f1, f2, f3, f4, f5, f6, f7, f8⟩
        have g1 := f1 (doneD hd 1 rfl)
        have g6 := f6 (doneD hd 6 rfl)
        exact .inl ⟨rfl, L_neq g1 g6 ⟨hs, f0, f1, f2, f3, f4, f5, f6, fun _ => rfl, f8⟩⟩
      · rintro D ρ wx hD hd hdc hf ⟨hs, f0, f1, f2, f3, f4, f5, f6, f7, f8⟩
        have g7 := f7 (doneD hd 7 rfl)
        exact .inl ⟨rfl, L_assign (V := .bool (!decide (d.seq = ((vat v d.rep.toNat) + 1) % 4294967296))) g7 ⟨hs, f0, f1, f2, f3, f4, f5, f6, f7, fun _ => rfl⟩⟩
      · rintro ρ1 w1 D hD hf ⟨hs, f0, f1, f2, f3, f4, f5, f6, f7, f8⟩
        have e8 := f8 (hD 8 rfl)
        clear f0 f1 f2 f3 f4 f5 f6 f7 f8
        obtain ⟨ρ2, hρ⟩ : ∃ ρ2, ρ1 = upd (mix [17, 18, 19, 20, 21, 22, 23, 24, 16] ρ2 _) 16 (.bool (!decide (d.seq = ((vat v d.rep.toNat) + 1) % 4294967296))) := ⟨ρ1, upd_of (mix_of (ds := [17, 18, 19, 20, 21, 22, 23, 24, 16]) hf) e8⟩
        clear hf hD e8
        subst hρ
        refine W_cond (t := !decide (d.seq = ((vat v d.rep.toNat) + 1) % 4294967296)) rfl (fun c14 => ?_) (fun c14 => ?_)
        ·
          replace c14 := not_t c14
          replace c14 := of_decide_eq_false c14
          refine W_seq ?_
          refine W_region ?_
          refine RW_op (L_build (vs := []) (cs := vc vzero) BT_24 (rfl) rfl ?_)
          refine RW_op (L_st (V := .agg (vc vzero).toArray) (vs := vc vzero) (cs' := vc vzero) SA_24.1 hs 2 rfl rfl rfl rfl rfl (Nat.le_of_ble_eq_true rfl) (vc_one _) (spl_whole rfl) fun w15 hs => ?_)
          refine RW_op (L_assign (V := .int .i64 9) rfl ?_)
          refine RW_nil ?_
          refine W_ret ?_
          refine ⟨_, res_cell2 (cs := vc vzero) (V := .int .i64 9) Try.results47 SA_24 hs 2 rfl rfl rfl rfl, ?_⟩
          refine ⟨congrArg Ending.returned ?_, hs.take 0⟩
          unfold nextV nextE; simp_all
        ·
          replace c14 := not_f c14
          replace c14 := of_decide_eq_true c14
          refine W_skip ?_
          refine W_seq ?_
          refine W_region ?_
          refine RW_op (L_fieldAddr FA_34_0 rfl ?_)
          refine RW_op (L_ld (V := .int .u8 d.rep) S1_5 hs 1 rfl rfl rfl ?_)
          refine RW_op (L_ixArr1 UD_24 S1_22.1 rfl rfl (by omega) (by omega) ?_)
          refine RW_op (L_ld (V := .int .u32 (vat v d.rep.toNat)) S1_22 hs 0 rfl rfl (vc_atO (by omega) (by omega)) ?_)
          refine RW_op (L_add (a := vat v d.rep.toNat) (b := 1) (c := (vat v d.rep.toNat) + 1) rfl rfl (wr_u32 (by omega) (by omega)) ?_)
          refine RW_op (L_ixArr1 UD_24 S1_22.1 rfl rfl (by omega) (by omega) ?_)
          refine RW_op (L_st1 (V := .int .u32 ((vat v d.rep.toNat) + 1)) (cs' := vc (vset v d.rep.toNat ((vat v d.rep.toNat) + 1))) S1_22 hs 0 rfl rfl rfl rfl (vc_lt (by omega)) (vc_setO (by omega) (by omega)) fun w16 hs => ?_)
          refine RW_nil ?_
          refine W_seq ?_
          refine W_region ?_
          refine RW_op (L_ldW (cs := vc (vset v d.rep.toNat ((vat v d.rep.toNat) + 1))) SA_24 hs 0 rfl rfl rfl ?_)
          refine RW_op (L_st (V := .agg (vc (vset v d.rep.toNat ((vat v d.rep.toNat) + 1))).toArray) (vs := vc (vset v d.rep.toNat ((vat v d.rep.toNat) + 1))) (cs' := vc (vset v d.rep.toNat ((vat v d.rep.toNat) + 1))) SA_24.1 hs 2 rfl rfl rfl rfl rfl (Nat.le_of_ble_eq_true rfl) (vc_one _) (spl_whole rfl) fun w17 hs => ?_)
          refine RW_op (L_assign (V := .int .i64 0) rfl ?_)
          refine RW_nil ?_
          refine W_ret ?_
          refine ⟨_, res_cell2 (cs := vc (vset v d.rep.toNat ((vat v d.rep.toNat) + 1))) (V := .int .i64 0) Try.results47 SA_24 hs 2 rfl rfl rfl rfl, ?_⟩
          refine ⟨congrArg Ending.returned ?_, hs.take 0⟩
          unfold nextV nextE; simp_all
set_option maxRecDepth 20000 in
set_option maxHeartbeats 4000000 in
theorem vRight_ok (w : World) (v : Vec) (n : Int) (hv : VecOk v) : Calls Try.prog 43 #[.agg (vc v).toArray, .int .i64 n] w (fun e w' => e = .returned (.bool (rightB v n)) ∧ Own w no w' []) := by
  refine calls_of_Wn (n := 30) Try.func43 rfl Try.ntmps43 rfl ?_
  have hs := Own.start w
  refine W_seq ?_
  refine W_region ?_
  refine RW_op (L_box (V := .agg (vc v).toArray) (cs := vc v) rfl rfl hs fun b1 w2 hs => ?_)
  refine RW_op (L_assign (V := .bool false) rfl ?_)
  refine RW_nil ?_
  refine W_seq ?_
  refine W_seq ?_
  refine W_inv2 [7, 8, 9, 10, 11, 12] [[], [0], [1], [2], [3, 2], [2, 4]] (fun D ρ wx => Own w no wx [blk b1 (vc v) 24] ∧ (D 0 = true → ρ 7 = .int .i64 n) ∧ (D 1 = true → ρ 8 = .bool (decide (n < 1))) ∧ (D 2 = true → ρ 9 = .bool (decide (n < 1))) ∧ (D 3 = true → ρ 10 = cond ((decide (n < 1)) == false) (.int .i64 n) undef) ∧ (D 4 = true → ρ 11 = cond ((decide (n < 1)) == false) (.bool (decide (16 < n))) undef) ∧ (D 5 = true → ρ 12 = .bool ((decide (n < 1)) || (decide (16 < n))))) rfl rfl rfl ⟨hs, fun h => absurd h Bool.false_ne_true, fun h => absurd h Bool.false_ne_true, fun h => absurd h Bool.false_ne_true, fun h => absurd h Bool.false_ne_true, fun h => absurd h Bool.false_ne_true, fun h => absurd h Bool.false_ne_true⟩ ⟨?_, ?_, ?_, ?_, ?_, ?_, trivial⟩ ?_
  · rintro D ρ wx hD hd hdc hf ⟨hs, f0, f1, f2, f3, f4, f5⟩
    have r1 : ρ 1 = .int .i64 n := outD hf 1 rfl
    exact .inl ⟨rfl, L_move (V := .int .i64 n) r1 ⟨hs, fun _ => rfl, f1, f2, f3, f4, f5⟩⟩
  · rintro D ρ wx hD hd hdc hf ⟨hs, f0, f1, f2, f3, f4, f5⟩
    have g0 := f0 (doneD hd 0 rfl)
    exact .inl ⟨rfl, L_lss g0 rfl ⟨hs, f0, fun _ => rfl, f2, f3, f4, f5⟩⟩
  · rintro D ρ wx hD hd hdc hf ⟨hs, f0, f1, f2, f3, f4, f5⟩
    have g1 := f1 (doneD hd 1 rfl)
    exact .inl ⟨rfl, L_move (V := .bool (decide (n < 1))) g1 ⟨hs, f0, f1, fun _ => rfl, f3, f4, f5⟩⟩
  · rintro D ρ wx hD hd hdc hf ⟨hs, f0, f1, f2, f3, f4, f5⟩
    have r1 : ρ 1 = .int .i64 n := outD hf 1 rfl
    rcases Bool.eq_false_or_eq_true ((decide (n < 1)) == false) with hG | hG
    rotate_left
    · exact .inr ⟨(Eq.trans (wantG1 (j := 2) rfl (f2 (doneD hd 2 rfl))) hG), ⟨hs, f0, f1, f2, fun _ => (condF hG).symm, f4, f5⟩⟩
    ·
      exact .inl ⟨(Eq.trans (wantG1 (j := 2) rfl (f2 (doneD hd 2 rfl))) hG), L_move (V := .int .i64 n) r1 ⟨hs, f0, f1, f2, fun _ => (condT hG).symm, f4, f5⟩⟩
  · rintro D ρ wx hD hd hdc hf ⟨hs, f0, f1, f2, f3, f4, f5⟩
    have g3 := f3 (doneD hd 3 rfl)
    rcases Bool.eq_false_or_eq_true ((decide (n < 1)) == false) with hG | hG
    rotate_left
    · exact .inr ⟨(Eq.trans (wantG1 (j := 2) rfl (f2 (doneD hd 2 rfl))) hG), ⟨hs, f0, f1, f2, f3, fun _ => (condF hG).symm, f5⟩⟩
    ·
      exact .inl ⟨(Eq.trans (wantG1 (j := 2) rfl (f2 (doneD hd 2 rfl))) hG), L_gtr ((g3).trans (condT (by exact hG))) rfl ⟨hs, f0, f1, f2, f3, fun _ => (condT hG).symm, f5⟩⟩
  · rintro D ρ wx hD hd hdc hf ⟨hs, f0, f1, f2, f3, f4, f5⟩
    have g2 := f2 (doneD hd 2 rfl)
    have g4 := f4 (doneD hd 4 rfl)
    exact .inl ⟨rfl, L_or g2 rfl (fun hg => ((g4).trans (condT (by first | exact beqT hg | rfl)))) ⟨hs, f0, f1, f2, f3, f4, fun _ => rfl⟩⟩
  · rintro ρ1 w1 D hD hf ⟨hs, f0, f1, f2, f3, f4, f5⟩
    have e5 := f5 (hD 5 rfl)
    clear f0 f1 f2 f3 f4 f5
    obtain ⟨ρ2, hρ⟩ : ∃ ρ2, ρ1 = upd (mix [7, 8, 9, 10, 11, 12] ρ2 _) 12 (.bool ((decide (n < 1)) || (decide (16 < n)))) := ⟨ρ1, upd_of (mix_of (ds := [7, 8, 9, 10, 11, 12]) hf) e5⟩
    clear hf hD e5
    subst hρ
    refine W_cond (t := (decide (n < 1)) || (decide (16 < n))) rfl (fun c4 => ?_) (fun c4 => ?_)
    ·
      refine W_seq ?_
      refine W_region ?_
      refine RW_op (L_assign (V := .bool false) rfl ?_)
      refine RW_nil ?_
      refine W_ret ?_
      refine ⟨_, res_one (V := .bool false) Try.results43 rfl, ?_⟩
      refine ⟨congrArg Ending.returned ?_, hs.take 0⟩
      exact congrArg Value.bool (rightB_out c4).symm
    ·
      have c4r := or_r c4
      replace c4 := or_l c4
      replace c4 := of_decide_eq_false c4
      replace c4r := of_decide_eq_false c4r
      refine W_skip ?_
      refine W_seq ?_
      refine W_seq ?_
      refine W_region ?_
      refine RW_op (L_ldW (cs := vc v) SA_24 hs 0 rfl rfl rfl ?_)
      refine RW_op (L_move (V := .int .i64 0) rfl ?_)
      refine RW_nil ?_
      refine W_block ?_
      refine W_loopI (fun ρ m ρ' w' => ∃ (ρo : Env) (k : Nat), ρ' = upd (mix [4, 5, 6, 14, 15, 16, 17, 18, 19, 20, 21, 22, 23, 24, 25, 26, 27, 28, 29] ρo ρ) 14 (.int .i64 (k : Int)) ∧ (k ≤ 16) ∧ (∀ j : Nat, j < k → okAt v n j = true) ∧ m = 16 - k ∧ Own w no w' [blk b1 (vc v) 24]) ?_ ?_
      · exact ⟨_, _, 0, upd_of (mix_of (ds := [4, 5, 6, 14, 15, 16, 17, 18, 19, 20, 21, 22, 23, 24, 25, 26, 27, 28, 29]) (Agr.refl _ _)) rfl, (by omega), (fun j hj => absurd hj (Nat.not_lt_zero j)), rfl, hs⟩
      · rintro m ρ' w5 ⟨ρo, k, rfl, hk, hok, rfl, hs⟩
        have hv1 := vat_ok hv ((k : Int).toNat)
        have hkk : ((k : Int)).toNat = k := rfl
        refine W_seq ?_
        refine W_region ?_
        refine RW_op (L_lss rfl rfl ?_)
        refine RW_nil ?_
        refine W_seq ?_
        refine W_cond (t := decide ((k : Int) < 16)) rfl (fun c6 => ?_) (fun c6 => ?_)
        ·
          replace c6 := of_decide_eq_true c6
          refine W_skip ?_
          refine W_seq ?_
          refine W_block ?_
          refine W_seq ?_
          refine W_region ?_
          refine RW_op (L_move (V := .int .i64 (k : Int)) rfl ?_)
          refine RW_op (L_index (V := .int .u32 (vat v k)) UD_24 S1_22 rfl rfl (by omega) (by omega) (by rw [List.getElem?_toArray]; exact vc_at _ _ (by omega)) ?_)
          refine RW_op (L_assign (V := .int .i64 (k : Int)) rfl ?_)
          refine RW_op (L_assign (V := .int .u32 (vat v k)) rfl ?_)
          refine RW_nil ?_
          refine W_seq ?_
          refine W_inv2 [18, 19, 20, 21, 22, 23, 24, 25, 26, 27, 28] [[], [0], [1], [2], [2], [3, 4, 2], [5, 2, 2], [6], [7, 6], [6, 8, 2], [2, 9]] (fun D ρ wx => Own w no wx [blk b1 (vc v) 24] ∧ (D 0 = true → ρ 18 = .int .u32 (vat v k)) ∧ (D 1 = true → ρ 19 = .bool (decide (1048576 < vat v k))) ∧ (D 2 = true → ρ 20 = .bool (decide (1048576 < vat v k))) ∧ (D 3 = true → ρ 21 = cond ((decide (1048576 < vat v k)) == false) (.int .i64 (k : Int)) undef) ∧ (D 4 = true → ρ 22 = cond ((decide (1048576 < vat v k)) == false) (.int .i64 n) undef) ∧ (D 5 = true → ρ 23 = cond ((decide (1048576 < vat v k)) == false) (.bool (decide (n ≤ (k : Int)))) undef) ∧ (D 6 = true → ρ 24 = cond ((decide (1048576 < vat v k)) == false) (.bool (decide (n ≤ (k : Int)))) undef) ∧ (D 7 = true → ρ 25 = cond (((decide (1048576 < vat v k)) == false) && ((decide (n ≤ (k : Int))) == true)) (.int .u32 (vat v k)) undef) ∧ (D 8 = true → ρ 26 = cond (((decide (1048576 < vat v k)) == false) && ((decide (n ≤ (k : Int))) == true)) (.bool (decide (0 < vat v k))) undef) ∧ (D 9 = true → ρ 27 = cond ((decide (1048576 < vat v k)) == false) (.bool ((decide (n ≤ (k : Int))) && (decide (0 < vat v k)))) undef) ∧ (D 10 = true → ρ 28 = .bool ((decide (1048576 < vat v k)) || ((decide (n ≤ (k : Int))) && (decide (0 < vat v k)))))) rfl rfl rfl ⟨hs, fun h => absurd h Bool.false_ne_true, fun h => absurd h Bool.false_ne_true, fun h => absurd h Bool.false_ne_true, fun h => absurd h Bool.false_ne_true, fun h => absurd h Bool.false_ne_true, fun h => absurd h Bool.false_ne_true, fun h => absurd h Bool.false_ne_true, fun h => absurd h Bool.false_ne_true, fun h => absurd h Bool.false_ne_true, fun h => absurd h Bool.false_ne_true, fun h => absurd h Bool.false_ne_true⟩ ⟨?_, ?_, ?_, ?_, ?_, ?_, ?_, ?_, ?_, ?_, ?_, trivial⟩ ?_
          · rintro D ρ wx hD hd hdc hf ⟨hs, f0, f1, f2, f3, f4, f5, f6, f7, f8, f9, f10⟩
            have r6 : ρ 6 = .int .u32 (vat v k) := outD hf 6 rfl
            exact .inl ⟨rfl, L_move (V := .int .u32 (vat v k)) r6 ⟨hs, fun _ => rfl, f1, f2, f3, f4, f5, f6, f7, f8, f9, f10⟩⟩
          · rintro D ρ wx hD hd hdc hf ⟨hs, f0, f1, f2, f3, f4, f5, f6, f7, f8, f9, f10⟩
            have g0 := f0 (doneD hd 0 rfl)
            exact .inl ⟨rfl, L_gtr g0 rfl ⟨hs, f0, fun _ => rfl, f2, f3, f4, f5, f6, f7, f8, f9, f10⟩⟩
          · rintro D ρ wx hD hd hdc hf ⟨hs, f0, f1, f2, f3, f4, f5, f6, f7, f8, f9, f10⟩
            have g1 := f1 (doneD hd 1 rfl)
            exact .inl ⟨rfl, L_move (V := .bool (decide (1048576 < vat v k))) g1 ⟨hs, f0, f1, fun _ => rfl, f3, f4, f5, f6, f7, f8, f9, f10⟩⟩
          · rintro D ρ wx hD hd hdc hf ⟨hs, f0, f1, f2, f3, f4, f5, f6, f7, f8, f9, f10⟩
            have r5 : ρ 5 = .int .i64 (k : Int) := outD hf 5 rfl
            rcases Bool.eq_false_or_eq_true ((decide (1048576 < vat v k)) == false) with hG | hG
            rotate_left
            · exact .inr ⟨(Eq.trans (wantG1 (j := 2) rfl (f2 (doneD hd 2 rfl))) hG), ⟨hs, f0, f1, f2, fun _ => (condF hG).symm, f4, f5, f6, f7, f8, f9, f10⟩⟩
            ·
              exact .inl ⟨(Eq.trans (wantG1 (j := 2) rfl (f2 (doneD hd 2 rfl))) hG), L_move (V := .int .i64 (k : Int)) r5 ⟨hs, f0, f1, f2, fun _ => (condT hG).symm, f4, f5, f6, f7, f8, f9, f10⟩⟩
          · rintro D ρ wx hD hd hdc hf ⟨hs, f0, f1, f2, f3, f4, f5, f6, f7, f8, f9, f10⟩
            have r1 : ρ 1 = .int .i64 n := outD hf 1 rfl
            rcases Bool.eq_false_or_eq_true ((decide (1048576 < vat v k)) == false) with hG | hG
            rotate_left
            · exact .inr ⟨(Eq.trans (wantG1 (j := 2) rfl (f2 (doneD hd 2 rfl))) hG), ⟨hs, f0, f1, f2, f3, fun _ => (condF hG).symm, f5, f6, f7, f8, f9, f10⟩⟩
            ·
              exact .inl ⟨(Eq.trans (wantG1 (j := 2) rfl (f2 (doneD hd 2 rfl))) hG), L_move (V := .int .i64 n) r1 ⟨hs, f0, f1, f2, f3, fun _ => (condT hG).symm, f5, f6, f7, f8, f9, f10⟩⟩
          · rintro D ρ wx hD hd hdc hf ⟨hs, f0, f1, f2, f3, f4, f5, f6, f7, f8, f9, f10⟩
            have g3 := f3 (doneD hd 3 rfl)
            have g4 := f4 (doneD hd 4 rfl)
            rcases Bool.eq_false_or_eq_true ((decide (1048576 < vat v k)) == false) with hG | hG
            rotate_left
            · exact .inr ⟨(Eq.trans (wantG1 (j := 2) rfl (f2 (doneD hd 2 rfl))) hG), ⟨hs, f0, f1, f2, f3, f4, fun _ => (condF hG).symm, f6, f7, f8, f9, f10⟩⟩
            ·
              exact .inl ⟨(Eq.trans (wantG1 (j := 2) rfl (f2 (doneD hd 2 rfl))) hG), L_geq ((g3).trans (condT (by exact hG))) ((g4).trans (condT (by exact hG))) ⟨hs, f0, f1, f2, f3, f4, fun _ => (condT hG).symm, f6, f7, f8, f9, f10⟩⟩
          · rintro D ρ wx hD hd hdc hf ⟨hs, f0, f1, f2, f3, f4, f5, f6, f7, f8, f9, f10⟩
            have g5 := f5 (doneD hd 5 rfl)
            rcases Bool.eq_false_or_eq_true ((decide (1048576 < vat v k)) == false) with hG | hG
            rotate_left
            · exact .inr ⟨(Eq.trans (wantG1 (j := 2) rfl (f2 (doneD hd 2 rfl))) hG), ⟨hs, f0, f1, f2, f3, f4, f5, fun _ => (condF hG).symm, f7, f8, f9, f10⟩⟩
            ·
              exact .inl ⟨(Eq.trans (wantG1 (j := 2) rfl (f2 (doneD hd 2 rfl))) hG), L_move (V := .bool (decide (n ≤ (k : Int)))) ((g5).trans (condT (by exact hG))) ⟨hs, f0, f1, f2, f3, f4, f5, fun _ => (condT hG).symm, f7, f8, f9, f10⟩⟩
          · rintro D ρ wx hD hd hdc hf ⟨hs, f0, f1, f2, f3, f4, f5, f6, f7, f8, f9, f10⟩
            have r6 : ρ 6 = .int .u32 (vat v k) := outD hf 6 rfl
            rcases Bool.eq_false_or_eq_true (((decide (1048576 < vat v k)) == false) && ((decide (n ≤ (k : Int))) == true)) with hG | hG
            rotate_left
            · exact .inr ⟨(Eq.trans (wantG (j := 6) rfl (f6 (doneD hd 6 rfl))) hG), ⟨hs, f0, f1, f2, f3, f4, f5, f6, fun _ => (condF hG).symm, f8, f9, f10⟩⟩
            ·
              exact .inl ⟨(Eq.trans (wantG (j := 6) rfl (f6 (doneD hd 6 rfl))) hG), L_move (V := .int .u32 (vat v k)) r6 ⟨hs, f0, f1, f2, f3, f4, f5, f6, fun _ => (condT hG).symm, f8, f9, f10⟩⟩
          · rintro D ρ wx hD hd hdc hf ⟨hs, f0, f1, f2, f3, f4, f5, f6, f7, f8, f9, f10⟩
            have g7 := f7 (doneD hd 7 rfl)
            rcases Bool.eq_false_or_eq_true (((decide (1048576 < vat v k)) == false) && ((decide (n ≤ (k : Int))) == true)) with hG | hG
            rotate_left
            · exact .inr ⟨(Eq.trans (wantG (j := 6) rfl (f6 (doneD hd 6 rfl))) hG), ⟨hs, f0, f1, f2, f3, f4, f5, f6, f7, fun _ => (condF hG).symm, f9, f10⟩⟩
            ·
              exact .inl ⟨(Eq.trans (wantG (j := 6) rfl (f6 (doneD hd 6 rfl))) hG), L_gtr ((g7).trans (condT (by exact hG))) rfl ⟨hs, f0, f1, f2, f3, f4, f5, f6, f7, fun _ => (condT hG).symm, f9, f10⟩⟩
          · rintro D ρ wx hD hd hdc hf ⟨hs, f0, f1, f2, f3, f4, f5, f6, f7, f8, f9, f10⟩
            have g6 := f6 (doneD hd 6 rfl)
            have g8 := f8 (doneD hd 8 rfl)
            rcases Bool.eq_false_or_eq_true ((decide (1048576 < vat v k)) == false) with hG | hG
            rotate_left
            · exact .inr ⟨(Eq.trans (wantG1 (j := 2) rfl (f2 (doneD hd 2 rfl))) hG), ⟨hs, f0, f1, f2, f3, f4, f5, f6, f7, f8, fun _ => (condF hG).symm, f10⟩⟩
            ·
              exact .inl ⟨(Eq.trans (wantG1 (j := 2) rfl (f2 (doneD hd 2 rfl))) hG), L_and ((g6).trans (condT (by exact hG))) rfl (fun hg => ((g8).trans (condT (by exact and_mk hG (beqT hg))))) ⟨hs, f0, f1, f2, f3, f4, f5, f6, f7, f8, fun _ => (condT hG).symm, f10⟩⟩
          · rintro D ρ wx hD hd hdc hf ⟨hs, f0, f1, f2, f3, f4, f5, f6, f7, f8, f9, f10⟩
            have g2 := f2 (doneD hd 2 rfl)
            have g9 := f9 (doneD hd 9 rfl)
            exact .inl ⟨rfl, L_or g2 rfl (fun hg => ((g9).trans (condT (by first | exact beqT hg | rfl)))) ⟨hs, f0, f1, f2, f3, f4, f5, f6, f7, f8, f9, fun _ => rfl⟩⟩
          · rintro ρ1 w1 D hD hf ⟨hs, f0, f1, f2, f3, f4, f5, f6, f7, f8, f9, f10⟩
            have e10 := f10 (hD 10 rfl)
            clear f0 f1 f2 f3 f4 f5 f6 f7 f8 f9 f10
            obtain ⟨ρ2, hρ⟩ : ∃ ρ2, ρ1 = upd (mix [18, 19, 20, 21, 22, 23, 24, 25, 26, 27, 28] ρ2 _) 28 (.bool ((decide (1048576 < vat v k)) || ((decide (n ≤ (k : Int))) && (decide (0 < vat v k))))) := ⟨ρ1, upd_of (mix_of (ds := [18, 19, 20, 21, 22, 23, 24, 25, 26, 27, 28]) hf) e10⟩
            clear hf hD e10
            subst hρ
            refine W_cond (t := (decide (1048576 < vat v k)) || ((decide (n ≤ (k : Int))) && (decide (0 < vat v k)))) rfl (fun c8 => ?_) (fun c8 => ?_)
            ·
              refine W_seq ?_
              refine W_region ?_
              refine RW_op (L_assign (V := .bool false) rfl ?_)
              refine RW_nil ?_
              refine W_ret ?_
              refine ⟨_, res_one (V := .bool false) Try.results43 rfl, ?_⟩
              refine ⟨congrArg Ending.returned ?_, hs.take 0⟩
              exact congrArg Value.bool (rightB_no (k := k) (by omega) (okAt_no c8)).symm
            ·
              have c8r := or_r c8
              replace c8 := or_l c8
              replace c8 := of_decide_eq_false c8
              refine W_skip ?_
              refine W_region ?_
              refine RW_op (L_add (a := (k : Int)) (b := 1) (c := (k : Int) + 1) rfl rfl (wr_i64 (by omega) (by omega)) ?_)
              refine RW_op (L_move (V := .int .i64 ((k : Int) + 1)) rfl ?_)
              refine RW_nil ?_
              refine ⟨_, ?_, _, k + 1, upd_of (mix_of (ds := [4, 5, 6, 14, 15, 16, 17, 18, 19, 20, 21, 22, 23, 24, 25, 26, 27, 28, 29]) (by repeat (first | exact Agr.refl _ _ | refine Agr.upd ?_ rfl | refine Agr.mix ?_ rfl))) rfl, (by omega), (okAt_step hok (okAt_yes c8 c8r)), rfl, hs.take 1⟩
              omega
        ·
          replace c6 := of_decide_eq_false c6
          refine W_exit ?_
          refine W_seq ?_
          refine W_region ?_
          refine RW_op (L_assign (V := .bool true) rfl ?_)
          refine RW_nil ?_
          refine W_ret ?_
          refine ⟨_, res_one (V := .bool true) Try.results43 rfl, ?_⟩
          refine ⟨congrArg Ending.returned ?_, hs.take 0⟩
          exact congrArg Value.bool ((rightB_yes fun j hj => hok j (by omega)).trans (by simp; omega)).symm
set_option maxRecDepth 20000 in
set_option maxHeartbeats 4000000 in
theorem rRight_ok (w : World) (v : Vec) (n : Int) (hv : VecOk v) : Calls Try.prog 17 #[.agg (vc v).toArray, .int .i64 n] w (fun e w' => e = .returned (.bool (rightB v n)) ∧ Own w no w' []) := by
  refine calls_of_Wn (n := 31) Try.func17 rfl Try.ntmps17 rfl ?_
  have hs := Own.start w
  refine W_seq ?_
  refine W_region ?_
  refine RW_op (L_box (V := .agg (vc v).toArray) (cs := vc v) rfl rfl hs fun b1 w2 hs => ?_)
  refine RW_op (L_assign (V := .bool false) rfl ?_)
  refine RW_nil ?_
  refine W_seq ?_
  refine W_seq ?_
  refine W_region ?_
  refine RW_op (L_assign (V := .int .i64 0) rfl ?_)
  refine RW_nil ?_
  refine W_block ?_
  refine W_loopI (fun ρ m ρ' w' => ∃ (ρo : Env) (k : Nat), ρ' = upd (mix [4, 5, 6, 7, 8, 9, 10, 11, 12, 13, 14, 15, 16, 17, 18, 19, 20, 21, 22, 23, 24] ρo ρ) 5 (.int .i64 (k : Int)) ∧ (k ≤ 16) ∧ (∀ j : Nat, j < k → okAt v n j = true) ∧ m = 16 - k ∧ Own w no w' [blk b1 (vc v) 24]) ?_ ?_
  · exact ⟨_, _, 0, upd_of (mix_of (ds := [4, 5, 6, 7, 8, 9, 10, 11, 12, 13, 14, 15, 16, 17, 18, 19, 20, 21, 22, 23, 24]) (Agr.refl _ _)) rfl, (by omega), (fun j hj => absurd hj (Nat.not_lt_zero j)), rfl, hs⟩
  · rintro m ρ' w3 ⟨ρo, k, rfl, hk, hok, rfl, hs⟩
    have hv1 := vat_ok hv ((k : Int).toNat)
    have hkk : ((k : Int)).toNat = k := rfl
    refine W_seq ?_
    refine W_seq ?_
    refine W_region ?_
    refine RW_op (L_move (V := .int .i64 (k : Int)) rfl ?_)
    refine RW_op (L_lss rfl rfl ?_)
    refine RW_nil ?_
    refine W_cond (t := decide ((k : Int) < 16)) rfl (fun c4 => ?_) (fun c4 => ?_)
    ·
      replace c4 := of_decide_eq_true c4
      refine W_skip ?_
      refine W_seq ?_
      refine W_block ?_
      refine W_seq ?_
      refine W_inv2 [10, 11, 12, 13, 14, 15, 16, 17, 18, 19, 20, 21, 22, 23, 24] [[], [0], [1], [2], [3], [4], [4], [5, 6, 4], [7, 4, 4], [8], [9, 8], [10, 8], [11, 8], [8, 12, 4], [4, 13]] (fun D ρ wx => Own w no wx [blk b1 (vc v) 24] ∧ (D 0 = true → ρ 10 = .int .i64 (k : Int)) ∧ (D 1 = true → ρ 11 = .pointer (some ⟨b1, 0 + (k : Int).toNat, none⟩)) ∧ (D 2 = true → ρ 12 = .int .u32 (vat v k)) ∧ (D 3 = true → ρ 13 = .bool (decide (1048576 < vat v k))) ∧ (D 4 = true → ρ 14 = .bool (decide (1048576 < vat v k))) ∧ (D 5 = true → ρ 15 = cond ((decide (1048576 < vat v k)) == false) (.int .i64 (k : Int)) undef) ∧ (D 6 = true → ρ 16 = cond ((decide (1048576 < vat v k)) == false) (.int .i64 n) undef) ∧ (D 7 = true → ρ 17 = cond ((decide (1048576 < vat v k)) == false) (.bool (decide (n ≤ (k : Int)))) undef) ∧ (D 8 = true → ρ 18 = cond ((decide (1048576 < vat v k)) == false) (.bool (decide (n ≤ (k : Int)))) undef) ∧ (D 9 = true → ρ 19 = cond (((decide (1048576 < vat v k)) == false) && ((decide (n ≤ (k : Int))) == true)) (.int .i64 (k : Int)) undef) ∧ (D 10 = true → ρ 20 = cond (((decide (1048576 < vat v k)) == false) && ((decide (n ≤ (k : Int))) == true)) (.pointer (some ⟨b1, 0 + (k : Int).toNat, none⟩)) undef) ∧ (D 11 = true → ρ 21 = cond (((decide (1048576 < vat v k)) == false) && ((decide (n ≤ (k : Int))) == true)) (.int .u32 (vat v k)) undef) ∧ (D 12 = true → ρ 22 = cond (((decide (1048576 < vat v k)) == false) && ((decide (n ≤ (k : Int))) == true)) (.bool (!decide (vat v k = 0))) undef) ∧ (D 13 = true → ρ 23 = cond ((decide (1048576 < vat v k)) == false) (.bool ((decide (n ≤ (k : Int))) && (!decide (vat v k = 0)))) undef) ∧ (D 14 = true → ρ 24 = .bool ((decide (1048576 < vat v k)) || ((decide (n ≤ (k : Int))) && (!decide (vat v k = 0)))))) rfl rfl rfl ⟨hs, fun h => absurd h Bool.false_ne_true, fun h => absurd h Bool.false_ne_true, fun h => absurd h Bool.false_ne_true, fun h => absurd h Bool.false_ne_true, fun h => absurd h Bool.false_ne_true, fun h => absurd h Bool.false_ne_true, fun h => absurd h Bool.false_ne_true, fun h => absurd h Bool.false_ne_true, fun h => absurd h Bool.false_ne_true, fun h => absurd h Bool.false_ne_true, fun h => absurd h Bool.false_ne_true, fun h => absurd h Bool.false_ne_true, fun h => absurd h Bool.false_ne_true, fun h => absurd h Bool.false_ne_true, fun h => absurd h Bool.false_ne_true⟩ ⟨?_, ?_, ?_, ?_, ?_, ?_, ?_, ?_, ?_, ?_, ?_, ?_, ?_, ?_, ?_, trivial⟩ ?_
      · rintro D ρ wx hD hd hdc hf ⟨hs, f0, f1, f2, f3, f4, f5, f6, f7, f8, f9, f10, f11, f12, f13, f14⟩
        have r5 : ρ 5 = .int .i64 (k : Int) := outD hf 5 rfl
        exact .inl ⟨rfl, L_move (V := .int .i64 (k : Int)) r5 ⟨hs, fun _ => rfl, f1, f2, f3, f4, f5, f6, f7, f8, f9, f10, f11, f12, f13, f14⟩⟩
      · rintro D ρ wx hD hd hdc hf ⟨hs, f0, f1, f2, f3, f4, f5, f6, f7, f8, f9, f10, f11, f12, f13, f14⟩
        have g0 := f0 (doneD hd 0 rfl)
        have r2 : ρ 2 = .pointer (some ⟨b1, 0, none⟩) := outD hf 2 rfl
        exact .inl ⟨rfl, L_ixArr1 UD_24 S1_22.1 r2 g0 (by omega) (by omega) ⟨hs, f0, fun _ => rfl, f2, f3, f4, f5, f6, f7, f8, f9, f10, f11, f12, f13, f14⟩⟩
      · rintro D ρ wx hD hd hdc hf ⟨hs, f0, f1, f2, f3, f4, f5, f6, f7, f8, f9, f10, f11, f12, f13, f14⟩
        have g1 := f1 (doneD hd 1 rfl)
        exact .inl ⟨rfl, L_ld (V := .int .u32 (vat v k)) S1_22 hs 0 rfl g1 (vc_atO (by omega) (by omega)) ⟨hs, f0, f1, fun _ => rfl, f3, f4, f5, f6, f7, f8, f9, f10, f11, f12, f13, f14⟩⟩
      · rintro D ρ wx hD hd hdc hf ⟨hs, f0, f1, f2, f3, f4, f5, f6, f7, f8, f9, f10, f11, f12, f13, f14⟩
        have g2 := f2 (doneD hd 2 rfl)
        exact .inl ⟨rfl, L_gtr g2 rfl ⟨hs, f0, f1, f2, fun _ => rfl, f4, f5, f6, f7, f8, f9, f10, f11, f12, f13, f14⟩⟩
      · rintro D ρ wx hD hd hdc hf ⟨hs, f0, f1, f2, f3, f4, f5, f6, f7, f8, f9, f10, f11, f12, f13, f14⟩
        have g3 := f3 (doneD hd 3 rfl)
        exact .inl ⟨rfl, L_move (V := .bool (decide (1048576 < vat v k))) g3 ⟨hs, f0, f1, f2, f3, fun _ => rfl, f5, f6, f7, f8, f9, f10, f11, f12, f13, f14⟩⟩
      · rintro D ρ wx hD hd hdc hf ⟨hs, f0, f1, f2, f3, f4, f5, f6, f7, f8, f9, f10, f11, f12, f13, f14⟩
        have r5 : ρ 5 = .int .i64 (k : Int) := outD hf 5 rfl
        rcases Bool.eq_false_or_eq_true ((decide (1048576 < vat v k)) == false) with hG | hG
        rotate_left
        · exact .inr ⟨(Eq.trans (wantG1 (j := 4) rfl (f4 (doneD hd 4 rfl))) hG), ⟨hs, f0, f1, f2, f3, f4, fun _ => (condF hG).symm, f6, f7, f8, f9, f10, f11, f12, f13, f14⟩⟩
        ·
          exact .inl ⟨(Eq.trans (wantG1 (j := 4) rfl (f4 (doneD hd 4 rfl))) hG), L_move (V := .int .i64 (k : Int)) r5 ⟨hs, f0, f1, f2, f3, f4, fun _ => (condT hG).symm, f6, f7, f8, f9, f10, f11, f12, f13, f14⟩⟩
      · rintro D ρ wx hD hd hdc hf ⟨hs, f0, f1, f2, f3, f4, f5, f6, f7, f8, f9, f10, f11, f12, f13, f14⟩
        have r1 : ρ 1 = .int .i64 n := outD hf 1 rfl
        rcases Bool.eq_false_or_eq_true ((decide (1048576 < vat v k)) == false) with hG | hG
        rotate_left
        · exact .inr ⟨(Eq.trans (wantG1 (j := 4) rfl (f4 (doneD hd 4 rfl))) hG), ⟨hs, f0, f1, f2, f3, f4, f5, fun _ => (condF hG).symm, f7, f8, f9, f10, f11, f12, f13, f14⟩⟩
        ·
          exact .inl ⟨(Eq.trans (wantG1 (j := 4) rfl (f4 (doneD hd 4 rfl))) hG), L_move (V := .int .i64 n) r1 ⟨hs, f0, f1, f2, f3, f4, f5, fun _ => (condT hG).symm, f7, f8, f9, f10, f11, f12, f13, f14⟩⟩
      · rintro D ρ wx hD hd hdc hf ⟨hs, f0, f1, f2, f3, f4, f5, f6, f7, f8, f9, f10, f11, f12, f13, f14⟩
        have g5 := f5 (doneD hd 5 rfl)
        have g6 := f6 (doneD hd 6 rfl)
        rcases Bool.eq_false_or_eq_true ((decide (1048576 < vat v k)) == false) with hG | hG
        rotate_left
        · exact .inr ⟨(Eq.trans (wantG1 (j := 4) rfl (f4 (doneD hd 4 rfl))) hG), ⟨hs, f0, f1, f2, f3, f4, f5, f6, fun _ => (condF hG).symm, f8, f9, f10, f11, f12, f13, f14⟩⟩
        ·
          exact .inl ⟨(Eq.trans (wantG1 (j := 4) rfl (f4 (doneD hd 4 rfl))) hG), L_geq ((g5).trans (condT (by exact hG))) ((g6).trans (condT (by exact hG))) ⟨hs, f0, f1, f2, f3, f4, f5, f6, fun _ => (condT hG).symm, f8, f9, f10, f11, f12, f13, f14⟩⟩
      · rintro D ρ wx hD hd hdc hf ⟨hs, f0, f1, f2, f3, f4, f5, f6, f7, f8, f9, f10, f11, f12, f13, f14⟩
        have g7 := f7 (doneD hd 7 rfl)
        rcases Bool.eq_false_or_eq_true ((decide (1048576 < vat v k)) == false) with hG | hG
        rotate_left
        · exact .inr ⟨(Eq.trans (wantG1 (j := 4) rfl (f4 (doneD hd 4 rfl))) hG), ⟨hs, f0, f1, f2, f3, f4, f5, f6, f7, fun _ => (condF hG).symm, f9, f10, f11, f12, f13, f14⟩⟩
        ·
          exact .inl ⟨(Eq.trans (wantG1 (j := 4) rfl (f4 (doneD hd 4 rfl))) hG), L_move (V := .bool (decide (n ≤ (k : Int)))) ((g7).trans (condT (by exact hG))) ⟨hs, f0, f1, f2, f3, f4, f5, f6, f7, fun _ => (condT hG).symm, f9, f10, f11, f12, f13, f14⟩⟩
      · rintro D ρ wx hD hd hdc hf ⟨hs, f0, f1, f2, f3, f4, f5, f6, f7, f8, f9, f10, f11, f12, f13, f14⟩
        have r5 : ρ 5 = .int .i64 (k : Int) := outD hf 5 rfl
        rcases Bool.eq_false_or_eq_true (((decide (1048576 < vat v k)) == false) && ((decide (n ≤ (k : Int))) == true)) with hG | hG
        rotate_left
        · exact .inr ⟨(Eq.trans (wantG (j := 8) rfl (f8 (doneD hd 8 rfl))) hG), ⟨hs, f0, f1, f2, f3, f4, f5, f6, f7, f8, fun _ => (condF hG).symm, f10, f11, f12, f13, f14⟩⟩
        ·
          exact .inl ⟨(Eq.trans (wantG (j := 8) rfl (f8 (doneD hd 8 rfl))) hG), L_move (V := .int .i64 (k : Int)) r5 ⟨hs, f0, f1, f2, f3, f4, f5, f6, f7, f8, fun _ => (condT hG).symm, f10, f11, f12, f13, f14⟩⟩
      · rintro D ρ wx hD hd hdc hf ⟨hs, f0, f1, f2, f3, f4, f5, f6, f7, f8, f9, f10, f11, f12, f13, f14⟩
        have g9 := f9 (doneD hd 9 rfl)
        have r2 : ρ 2 = .pointer (some ⟨b1, 0, none⟩) := outD hf 2 rfl
        rcases Bool.eq_false_or_eq_true (((decide (1048576 < vat v k)) == false) && ((decide (n ≤ (k : Int))) == true)) with hG | hG
        rotate_left
        · exact .inr ⟨(Eq.trans (wantG (j := 8) rfl (f8 (doneD hd 8 rfl))) hG), ⟨hs, f0, f1, f2, f3, f4, f5, f6, f7, f8, f9, fun _ => (condF hG).symm, f11, f12, f13, f14⟩⟩
        ·
          exact .inl ⟨(Eq.trans (wantG (j := 8) rfl (f8 (doneD hd 8 rfl))) hG), L_ixArr1 UD_24 S1_22.1 r2 ((g9).trans (condT (by exact hG))) (by omega) (by omega) ⟨hs, f0, f1, f2, f3, f4, f5, f6, f7, f8, f9, fun _ => (condT hG).symm, f11, f12, f13, f14⟩⟩
      · rintro D ρ wx hD hd hdc hf ⟨hs, f0, f1, f2, f3, f4, f5, f6, f7, f8, f9, f10, f11, f12, f13, f14⟩
        have g10 := f10 (doneD hd 10 rfl)
        rcases Bool.eq_false_or_eq_true (((decide (1048576 < vat v k)) == false) && ((decide (n ≤ (k : Int))) == true)) with hG | hG
        rotate_left
        · exact .inr ⟨(Eq.trans (wantG (j := 8) rfl (f8 (doneD hd 8 rfl))) hG), ⟨hs, f0, f1, f2, f3, f4, f5, f6, f7, f8, f9, f10, fun _ => (condF hG).symm, f12, f13, f14⟩⟩
        ·
          exact .inl ⟨(Eq.trans (wantG (j := 8) rfl (f8 (doneD hd 8 rfl))) hG), L_ld (V := .int .u32 (vat v k)) S1_22 hs 0 rfl ((g10).trans (condT (by exact hG))) (vc_atO (by omega) (by omega)) ⟨hs, f0, f1, f2, f3, f4, f5, f6, f7, f8, f9, f10, fun _ => (condT hG).symm, f12, f13, f14⟩⟩
      · rintro D ρ wx hD hd hdc hf ⟨hs, f0, f1, f2, f3, f4, f5, f6, f7, f8, f9, f10, f11, f12, f13, f14⟩
        have g11 := f11 (doneD hd 11 rfl)
        rcases Bool.eq_false_or_eq_true (((decide (1048576 < vat v k)) == false) && ((decide (n ≤ (k : Int))) == true)) with hG | hG
        rotate_left
        · exact .inr ⟨(Eq.trans (wantG (j := 8) rfl (f8 (doneD hd 8 rfl))) hG), ⟨hs, f0, f1, f2, f3, f4, f5, f6, f7, f8, f9, f10, f11, fun _ => (condF hG).symm, f13, f14⟩⟩
        ·
          exact .inl ⟨(Eq.trans (wantG (j := 8) rfl (f8 (doneD hd 8 rfl))) hG), L_neq ((g11).trans (condT (by exact hG))) rfl ⟨hs, f0, f1, f2, f3, f4, f5, f6, f7, f8, f9, f10, f11, fun _ => (condT hG).symm, f13, f14⟩⟩
      · rintro D ρ wx hD hd hdc hf ⟨hs, f0, f1, f2, f3, f4, f5, f6, f7, f8, f9, f10, f11, f12, f13, f14⟩
        have g8 := f8 (doneD hd 8 rfl)
        have g12 := f12 (doneD hd 12 rfl)
        rcases Bool.eq_false_or_eq_true ((decide (1048576 < vat v k)) == false) with hG | hG
        rotate_left
        · exact .inr ⟨(Eq.trans (wantG1 (j := 4) rfl (f4 (doneD hd 4 rfl))) hG), ⟨hs, f0, f1, f2, f3, f4, f5, f6, f7, f8, f9, f10, f11, f12, fun _ => (condF hG).symm, f14⟩⟩
        ·
          exact .inl ⟨(Eq.trans (wantG1 (j := 4) rfl (f4 (doneD hd 4 rfl))) hG), L_and ((g8).trans (condT (by exact hG))) rfl (fun hg => ((g12).trans (condT (by exact and_mk hG (beqT hg))))) ⟨hs, f0, f1, f2, f3, f4, f5, f6, f7, f8, f9, f10, f11, f12, fun _ => (condT hG).symm, f14⟩⟩
      · rintro D ρ wx hD hd hdc hf ⟨hs, f0, f1, f2, f3, f4, f5, f6, f7, f8, f9, f10, f11, f12, f13, f14⟩
        have g4 := f4 (doneD hd 4 rfl)
        have g13 := f13 (doneD hd 13 rfl)
        exact .inl ⟨rfl, L_or g4 rfl (fun hg => ((g13).trans (condT (by first | exact beqT hg | rfl)))) ⟨hs, f0, f1, f2, f3, f4, f5, f6, f7, f8, f9, f10, f11, f12, f13, fun _ => rfl⟩⟩
      · rintro ρ1 w1 D hD hf ⟨hs, f0, f1, f2, f3, f4, f5, f6, f7, f8, f9, f10, f11, f12, f13, f14⟩
        have e14 := f14 (hD 14 rfl)
        clear f0 f1 f2 f3 f4 f5 f6 f7 f8 f9 f10 f11 f12 f13 f14
        obtain ⟨ρ2, hρ⟩ : ∃ ρ2, ρ1 = upd (mix [10, 11, 12, 13, 14, 15, 16, 17, 18, 19, 20, 21, 22, 23, 24] ρ2 _) 24 (.bool ((decide (1048576 < vat v k)) || ((decide (n ≤ (k : Int))) && (!decide (vat v k = 0))))) := ⟨ρ1, upd_of (mix_of (ds := [10, 11, 12, 13, 14, 15, 16, 17, 18, 19, 20, 21, 22, 23, 24]) hf) e14⟩
        clear hf hD e14
        subst hρ
        refine W_cond (t := (decide (1048576 < vat v k)) || ((decide (n ≤ (k : Int))) && (!decide (vat v k = 0)))) rfl (fun c6 => ?_) (fun c6 => ?_)
        ·
          refine W_seq ?_
          refine W_region ?_
          refine RW_op (L_assign (V := .bool false) rfl ?_)
          refine RW_nil ?_
          refine W_ret ?_
          refine ⟨_, res_one (V := .bool false) Try.results17 rfl, ?_⟩
          refine ⟨congrArg Ending.returned ?_, hs.take 0⟩
          exact congrArg Value.bool (rightB_no (k := k) (by omega) (okAt_no' hv c6)).symm
        ·
          have c6r := or_r c6
          replace c6 := or_l c6
          replace c6 := of_decide_eq_false c6
          refine W_skip ?_
          refine W_region ?_
          refine RW_op (L_move (V := .int .i64 (k : Int)) rfl ?_)
          refine RW_op (L_add (a := (k : Int)) (b := 1) (c := (k : Int) + 1) rfl rfl (wr_i64 (by omega) (by omega)) ?_)
          refine RW_op (L_assign (V := .int .i64 ((k : Int) + 1)) rfl ?_)
          refine RW_nil ?_
          refine ⟨_, ?_, _, k + 1, upd_of (mix_of (ds := [4, 5, 6, 7, 8, 9, 10, 11, 12, 13, 14, 15, 16, 17, 18, 19, 20, 21, 22, 23, 24]) (by repeat (first | exact Agr.refl _ _ | refine Agr.upd ?_ rfl | refine Agr.mix ?_ rfl))) rfl, (by omega), (okAt_step hok (okAt_yes' hv c6 c6r)), rfl, hs.take 1⟩
          omega
    ·
      replace c4 := of_decide_eq_false c4
      refine W_exit ?_
      refine W_seq ?_
      refine W_inv2 [25, 26, 27, 28, 29, 30, 4] [[], [0], [1], [2], [3, 2], [2, 4], [5, 2, 0, 1, 2, 3, 4, 5]] (fun D ρ wx => Own w no wx [blk b1 (vc v) 24] ∧ (D 0 = true → ρ 25 = .int .i64 n) ∧ (D 1 = true → ρ 26 = .bool (decide (1 ≤ n))) ∧ (D 2 = true → ρ 27 = .bool (decide (1 ≤ n))) ∧ (D 3 = true → ρ 28 = cond ((decide (1 ≤ n)) == true) (.int .i64 n) undef) ∧ (D 4 = true → ρ 29 = cond ((decide (1 ≤ n)) == true) (.bool (decide (n ≤ 16))) undef) ∧ (D 5 = true → ρ 30 = .bool ((decide (1 ≤ n)) && (decide (n ≤ 16)))) ∧ (D 6 = true → ρ 4 = .bool ((decide (1 ≤ n)) && (decide (n ≤ 16))))) rfl rfl rfl ⟨hs, fun h => absurd h Bool.false_ne_true, fun h => absurd h Bool.false_ne_true, fun h => absurd h Bool.false_ne_true, fun h => absurd h Bool.false_ne_true, fun h => absurd h Bool.false_ne_true, fun h => absurd h Bool.false_ne_true, fun h => absurd h Bool.false_ne_true⟩ ⟨?_, ?_, ?_, ?_, ?_, ?_, ?_, trivial⟩ ?_
      · rintro D ρ wx hD hd hdc hf ⟨hs, f0, f1, f2, f3, f4, f5, f6⟩
        have r1 : ρ 1 = .int .i64 n := outD hf 1 rfl
        exact .inl ⟨rfl, L_move (V := .int .i64 n) r1 ⟨hs, fun _ => rfl, f1, f2, f3, f4, f5, f6⟩⟩
      · rintro D ρ wx hD hd hdc hf ⟨hs, f0, f1, f2, f3, f4, f5, f6⟩
        have g0 := f0 (doneD hd 0 rfl)
        exact .inl ⟨rfl, L_geq g0 rfl ⟨hs, f0, fun _ => rfl, f2, f3, f4, f5, f6⟩⟩
      · rintro D ρ wx hD hd hdc hf ⟨hs, f0, f1, f2, f3, f4, f5, f6⟩
        have g1 := f1 (doneD hd 1 rfl)
        exact .inl ⟨rfl, L_move (V := .bool (decide (1 ≤ n))) g1 ⟨hs, f0, f1, fun _ => rfl, f3, f4, f5, f6⟩⟩
      · rintro D ρ wx hD hd hdc hf ⟨hs, f0, f1, f2, f3, f4, f5, f6⟩
        have r1 : ρ 1 = .int .i64 n := outD hf 1 rfl
        rcases Bool.eq_false_or_eq_true ((decide (1 ≤ n)) == true) with hG | hG
        rotate_left
        · exact .inr ⟨(Eq.trans (wantG1 (j := 2) rfl (f2 (doneD hd 2 rfl))) hG), ⟨hs, f0, f1, f2, fun _ => (condF hG).symm, f4, f5, f6⟩⟩
        ·
          exact .inl ⟨(Eq.trans (wantG1 (j := 2) rfl (f2 (doneD hd 2 rfl))) hG), L_move (V := .int .i64 n) r1 ⟨hs, f0, f1, f2, fun _ => (condT hG).symm, f4, f5, f6⟩⟩
      · rintro D ρ wx hD hd hdc hf ⟨hs, f0, f1, f2, f3, f4, f5, f6⟩
        have g3 := f3 (doneD hd 3 rfl)
        rcases Bool.eq_false_or_eq_true ((decide (1 ≤ n)) == true) with hG | hG
        rotate_left
        · exact .inr ⟨(Eq.trans (wantG1 (j := 2) rfl (f2 (doneD hd 2 rfl))) hG), ⟨hs, f0, f1, f2, f3, fun _ => (condF hG).symm, f5, f6⟩⟩
        ·
          exact .inl ⟨(Eq.trans (wantG1 (j := 2) rfl (f2 (doneD hd 2 rfl))) hG), L_leq ((g3).trans (condT (by exact hG))) rfl ⟨hs, f0, f1, f2, f3, fun _ => (condT hG).symm, f5, f6⟩⟩
      · rintro D ρ wx hD hd hdc hf ⟨hs, f0, f1, f2, f3, f4, f5, f6⟩
        have g2 := f2 (doneD hd 2 rfl)
        have g4 := f4 (doneD hd 4 rfl)
        exact .inl ⟨rfl, L_and g2 rfl (fun hg => ((g4).trans (condT (by first | exact beqT hg | rfl)))) ⟨hs, f0, f1, f2, f3, f4, fun _ => rfl, f6⟩⟩
      · rintro D ρ wx hD hd hdc hf ⟨hs, f0, f1, f2, f3, f4, f5, f6⟩
        have g5 := f5 (doneD hd 5 rfl)
        exact .inl ⟨rfl, L_assign (V := .bool ((decide (1 ≤ n)) && (decide (n ≤ 16)))) g5 ⟨hs, f0, f1, f2, f3, f4, f5, fun _ => rfl⟩⟩
      · rintro ρ1 w1 D hD hf ⟨hs, f0, f1, f2, f3, f4, f5, f6⟩
        have e6 := f6 (hD 6 rfl)
        clear f0 f1 f2 f3 f4 f5 f6
        obtain ⟨ρ2, hρ⟩ : ∃ ρ2, ρ1 = upd (mix [25, 26, 27, 28, 29, 30, 4] ρ2 _) 4 (.bool ((decide (1 ≤ n)) && (decide (n ≤ 16)))) := ⟨ρ1, upd_of (mix_of (ds := [25, 26, 27, 28, 29, 30, 4]) hf) e6⟩
        clear hf hD e6
        subst hρ
        refine W_ret ?_
        refine ⟨_, res_one (V := .bool ((decide (1 ≤ n)) && (decide (n ≤ 16)))) Try.results17 rfl, ?_⟩
        refine ⟨congrArg Ending.returned ?_, hs.take 0⟩
        exact congrArg Value.bool (rightB_yes fun j hj => hok j (by omega)).symm
set_option maxRecDepth 20000 in
set_option maxHeartbeats 4000000 in
theorem rGHas_ok (w : World) (v : Vec) (a : Option Addr) (c : Nat) (l : List Dot) (d : Dot) (hv : VecOk v) (hd : DotOk d) (hr : Rd w (.slice a l.length c) 2 (l.map dc)) : Calls Try.prog 19 #[.agg ((vc v) ++ [(.slice a l.length c : Value) ]).toArray, .agg (dc d).toArray] w (fun e w' => e = .returned (.bool (hasG v l d)) ∧ Own w no w' []) := by
  refine calls_of_Wn (n := 24) Try.func19 rfl Try.ntmps19 rfl ?_
  have hs := Own.start w
  have hn := hr.sml
  refine W_seq ?_
  refine W_region ?_
  refine RW_op (L_box (V := .agg ((vc v) ++ [(.slice a l.length c : Value) ]).toArray) (cs := (vc v) ++ [(.slice a l.length c : Value) ]) rfl rfl hs fun b1 w2 hs => ?_)
  refine RW_op (L_box (V := .agg (dc d).toArray) (cs := dc d) rfl rfl hs fun b3 w4 hs => ?_)
  refine RW_op (L_assign (V := .bool false) rfl ?_)
  refine RW_nil ?_
  refine W_seq ?_
  refine W_seq ?_
  refine W_region ?_
  refine RW_op (L_assign (V := .int .i64 0) rfl ?_)
  refine RW_nil ?_
  refine W_block ?_
  refine W_loopI (fun ρ m ρ' w' => ∃ (ρo : Env) (k : Nat), ρ' = upd (mix [4, 5, 6, 7, 8, 9, 10, 11, 12, 13, 14, 15, 16, 17, 18, 19] ρo ρ) 5 (.int .i64 (k : Int)) ∧ (k ≤ l.length) ∧ (∀ j : Nat, j < k → ¬ gd l j = d) ∧ m = l.length - k ∧ Own w no w' [blk b1 ((vc v) ++ [(.slice a l.length c : Value) ]) 31, blk b3 (dc d) 34]) ?_ ?_
  · exact ⟨_, _, 0, upd_of (mix_of (ds := [4, 5, 6, 7, 8, 9, 10, 11, 12, 13, 14, 15, 16, 17, 18, 19]) (Agr.refl _ _)) rfl, (by omega), (fun j hj => absurd hj (Nat.not_lt_zero j)), rfl, hs⟩
  · rintro m ρ' w5 ⟨ρo, k, rfl, hk, hno, rfl, hs⟩
    refine W_seq ?_
    refine W_seq ?_
    refine W_region ?_
    refine RW_op (L_move (V := .int .i64 (k : Int)) rfl ?_)
    refine RW_op (L_fieldAddr FA_31_1 rfl ?_)
    refine RW_op (L_ld (V := .slice a l.length c) S1_25 hs 0 rfl rfl rfl ?_)
    refine RW_op (L_lenR (n := l.length) UD_25 (Rd.own' hr hs) (by simp) rfl ?_)
    refine RW_op (L_lss rfl rfl ?_)
    refine RW_nil ?_
    refine W_cond (t := decide ((k : Int) < ((l.length : Nat) : Int))) rfl (fun c6 => ?_) (fun c6 => ?_)
    ·
      replace c6 := of_decide_eq_true c6
      refine W_skip ?_
      refine W_seq ?_
      refine W_block ?_
      refine W_seq ?_
      replace hs := hs.drew
      refine W_draw2 HM [13, 14, 15, 16, 17, 18, 19] [[], [0], [], [1, 2], [3], [], [4, 5]] (fun D ρ wx => Own w no wx [blk b1 ((vc v) ++ [(.slice a l.length c : Value) ]) 31, blk b3 (dc d) 34] ∧ (D 0 = true → ρ 13 = .pointer (some ⟨b1, 0 + 16, none⟩)) ∧ (D 1 = true → ρ 14 = .slice a l.length c) ∧ (D 2 = true → ρ 15 = .int .i64 (k : Int)) ∧ (D 3 = true → ρ 16 = .pointer (some ⟨bkS (.slice a l.length c), ofS (.slice a l.length c) + (k : Int).toNat * 2, none⟩)) ∧ (D 4 = true → ρ 17 = .agg (dc (gd l k)).toArray) ∧ (D 5 = true → ρ 18 = .agg (dc d).toArray) ∧ (D 6 = true → ρ 19 = .bool (decide (gd l k = d)))) rfl rfl rfl ⟨hs, fun h => absurd h Bool.false_ne_true, fun h => absurd h Bool.false_ne_true, fun h => absurd h Bool.false_ne_true, fun h => absurd h Bool.false_ne_true, fun h => absurd h Bool.false_ne_true, fun h => absurd h Bool.false_ne_true, fun h => absurd h Bool.false_ne_true⟩ ⟨?_, ?_, ?_, ?_, ?_, ?_, ?_, trivial⟩ ?_
      · rintro D ρ wx hD hd hdc hf ⟨hs, f0, f1, f2, f3, f4, f5, f6⟩
        have r2 : ρ 2 = .pointer (some ⟨b1, 0, none⟩) := outD hf 2 rfl
        exact .inl ⟨rfl, L_fieldAddr FA_31_1 r2 ⟨hs, fun _ => rfl, f1, f2, f3, f4, f5, f6⟩⟩
      · rintro D ρ wx hD hd hdc hf ⟨hs, f0, f1, f2, f3, f4, f5, f6⟩
        have g0 := f0 (doneD hd 0 rfl)
        exact .inl ⟨rfl, L_ld (V := .slice a l.length c) S1_25 hs 0 rfl g0 rfl ⟨hs, f0, fun _ => rfl, f2, f3, f4, f5, f6⟩⟩
      · rintro D ρ wx hD hd hdc hf ⟨hs, f0, f1, f2, f3, f4, f5, f6⟩
        have r5 : ρ 5 = .int .i64 (k : Int) := outD hf 5 rfl
        exact .inl ⟨rfl, L_move (V := .int .i64 (k : Int)) r5 ⟨hs, f0, f1, fun _ => rfl, f3, f4, f5, f6⟩⟩
      · rintro D ρ wx hD hd hdc hf ⟨hs, f0, f1, f2, f3, f4, f5, f6⟩
        have g1 := f1 (doneD hd 1 rfl)
        have g2 := f2 (doneD hd 2 rfl)
        exact .inl ⟨rfl, L_ixR UD_25 SA_34.1 (Rd.own' hr hs) g1 g2 (by omega) (by rw [List.length_map]; omega) ⟨hs, f0, f1, f2, fun _ => rfl, f4, f5, f6⟩⟩
      · rintro D ρ wx hD hd hdc hf ⟨hs, f0, f1, f2, f3, f4, f5, f6⟩
        have g3 := f3 (doneD hd 3 rfl)
        exact .inl ⟨rfl, L_ldRA (j := 0) (vs := dc (gd l k)) k SA_34 (Rd.own' hr hs) (gd_at (by omega)) rfl rfl g3 (by omega) ⟨hs, f0, f1, f2, f3, fun _ => rfl, f5, f6⟩⟩
      · rintro D ρ wx hD hd hdc hf ⟨hs, f0, f1, f2, f3, f4, f5, f6⟩
        have r3 : ρ 3 = .pointer (some ⟨b3, 0, none⟩) := outD hf 3 rfl
        exact .inl ⟨rfl, L_ldW (cs := dc d) SA_34 hs 1 rfl r3 rfl ⟨hs, f0, f1, f2, f3, f4, fun _ => rfl, f6⟩⟩
      · rintro D ρ wx hD hd hdc hf ⟨hs, f0, f1, f2, f3, f4, f5, f6⟩
        have g4 := f4 (doneD hd 4 rfl)
        have g5 := f5 (doneD hd 5 rfl)
        exact .inl ⟨rfl, L_eqA (xs := dc (gd l k)) (ys := dc d) Try.eqGuardType34 (EQ_34 (gd l k) d) rfl g4 g5 ⟨hs, f0, f1, f2, f3, f4, f5, fun _ => rfl⟩⟩
      · rintro ρ1 w1 D hD hf ⟨hs, f0, f1, f2, f3, f4, f5, f6⟩
        have e6 := f6 (hD 6 rfl)
        clear f0 f1 f2 f3 f4 f5 f6
        obtain ⟨ρ2, hρ⟩ : ∃ ρ2, ρ1 = upd (mix [13, 14, 15, 16, 17, 18, 19] ρ2 _) 19 (.bool (decide (gd l k = d))) := ⟨ρ1, upd_of (mix_of (ds := [13, 14, 15, 16, 17, 18, 19]) hf) e6⟩
        clear hf hD e6
        subst hρ
        refine W_cond (t := decide (gd l k = d)) rfl (fun c8 => ?_) (fun c8 => ?_)
        ·
          replace c8 := of_decide_eq_true c8
          refine W_seq ?_
          refine W_region ?_
          refine RW_op (L_assign (V := .bool true) rfl ?_)
          refine RW_nil ?_
          refine W_ret ?_
          refine ⟨_, res_one (V := .bool true) Try.results19 rfl, ?_⟩
          refine ⟨congrArg Ending.returned ?_, hs.take 0⟩
          exact congrArg Value.bool (hasG_yes (k := k) (by omega) c8).symm
        ·
          replace c8 := of_decide_eq_false c8
          refine W_skip ?_
          refine W_region ?_
          refine RW_op (L_move (V := .int .i64 (k : Int)) rfl ?_)
          refine RW_op (L_add (a := (k : Int)) (b := 1) (c := (k : Int) + 1) rfl rfl (wr_i64 (by omega) (by omega)) ?_)
          refine RW_op (L_assign (V := .int .i64 ((k : Int) + 1)) rfl ?_)
          refine RW_nil ?_
          refine ⟨_, ?_, _, k + 1, upd_of (mix_of (ds := [4, 5, 6, 7, 8, 9, 10, 11, 12, 13, 14, 15, 16, 17, 18, 19]) (by repeat (first | exact Agr.refl _ _ | refine Agr.upd ?_ rfl | refine Agr.mix ?_ rfl))) rfl, (by omega), (ne_step hno c8), rfl, hs.take 2⟩
          omega
    ·
      replace c6 := of_decide_eq_false c6
      refine W_exit ?_
      refine W_seq ?_
      refine W_region ?_
      refine RW_op (L_fieldAddr FA_31_0 rfl ?_)
      refine RW_op (L_ldA (vs := vc v) SA_24 hs 0 rfl rfl rfl rfl ?_)
      refine RW_op (L_ldW (cs := dc d) SA_34 hs 1 rfl rfl rfl ?_)
      refine RW_op (L_callP (vs := [.agg (vc v).toArray, .agg (dc d).toArray]) (V := .bool (hasB v d)) EN_29 rfl rfl (rHas_ok _ v d (by first | assumption | exact dotOk_mk (by omega) (by omega) (by omega) (by omega))) hs fun w9 hs => ?_)
      refine RW_op (L_assign (V := .bool (hasB v d)) rfl ?_)
      refine RW_nil ?_
      refine W_ret ?_
      refine ⟨_, res_one (V := .bool (hasB v d)) Try.results19 rfl, ?_⟩
      refine ⟨congrArg Ending.returned ?_, hs.take 0⟩
      exact congrArg Value.bool (hasG_no fun j hj => hno j (by omega)).symm
set_option maxRecDepth 20000 in
set_option maxHeartbeats 4000000 in
theorem rBelow_ok (w : World) (a b : Vec) : Calls Try.prog 30 #[.agg (vc a).toArray, .agg (vc b).toArray] w (fun e w' => e = .returned (.bool (vle a b)) ∧ Own w no w' []) := by
  refine calls_of_Wn (n := 17) Try.func30 rfl Try.ntmps30 rfl ?_
  have hs := Own.start w
  refine W_seq ?_
  refine W_region ?_
  refine RW_op (L_box (V := .agg (vc a).toArray) (cs := vc a) rfl rfl hs fun b1 w2 hs => ?_)
  refine RW_op (L_box (V := .agg (vc b).toArray) (cs := vc b) rfl rfl hs fun b3 w4 hs => ?_)
  refine RW_op (L_assign (V := .bool false) rfl ?_)
  refine RW_nil ?_
  refine W_seq ?_
  refine W_seq ?_
  refine W_region ?_
  refine RW_op (L_assign (V := .int .i64 0) rfl ?_)
  refine RW_nil ?_
  refine W_block ?_
  refine W_loopI (fun ρ m ρ' w' => ∃ (ρo : Env) (k : Nat), ρ' = upd (mix [4, 5, 6, 7, 8, 9, 10, 11, 12, 13, 14, 15, 16] ρo ρ) 5 (.int .i64 (k : Int)) ∧ (k ≤ 16) ∧ (∀ j : Nat, j < k → vat a j ≤ vat b j) ∧ m = 16 - k ∧ Own w no w' [blk b1 (vc a) 24, blk b3 (vc b) 24]) ?_ ?_
  · exact ⟨_, _, 0, upd_of (mix_of (ds := [4, 5, 6, 7, 8, 9, 10, 11, 12, 13, 14, 15, 16]) (Agr.refl _ _)) rfl, (by omega), (fun j hj => absurd hj (Nat.not_lt_zero j)), rfl, hs⟩
  · rintro m ρ' w5 ⟨ρo, k, rfl, hk, hle, rfl, hs⟩
    refine W_seq ?_
    refine W_seq ?_
    refine W_region ?_
    refine RW_op (L_move (V := .int .i64 (k : Int)) rfl ?_)
    refine RW_op (L_lss rfl rfl ?_)
    refine RW_nil ?_
    refine W_cond (t := decide ((k : Int) < 16)) rfl (fun c6 => ?_) (fun c6 => ?_)
    ·
      replace c6 := of_decide_eq_true c6
      refine W_skip ?_
      refine W_seq ?_
      refine W_block ?_
      refine W_seq ?_
      replace hs := hs.drew
      refine W_draw2 HM [10, 11, 12, 13, 14, 15, 16] [[], [0], [1], [], [3], [4], [2, 5]] (fun D ρ wx => Own w no wx [blk b1 (vc a) 24, blk b3 (vc b) 24] ∧ (D 0 = true → ρ 10 = .int .i64 (k : Int)) ∧ (D 1 = true → ρ 11 = .pointer (some ⟨b1, 0 + (k : Int).toNat, none⟩)) ∧ (D 2 = true → ρ 12 = .int .u32 (vat a k)) ∧ (D 3 = true → ρ 13 = .int .i64 (k : Int)) ∧ (D 4 = true → ρ 14 = .pointer (some ⟨b3, 0 + (k : Int).toNat, none⟩)) ∧ (D 5 = true → ρ 15 = .int .u32 (vat b k)) ∧ (D 6 = true → ρ 16 = .bool (decide (vat b k < vat a k)))) rfl rfl rfl ⟨hs, fun h => absurd h Bool.false_ne_true, fun h => absurd h Bool.false_ne_true, fun h => absurd h Bool.false_ne_true, fun h => absurd h Bool.false_ne_true, fun h => absurd h Bool.false_ne_true, fun h => absurd h Bool.false_ne_true, fun h => absurd h Bool.false_ne_true⟩ ⟨?_, ?_, ?_, ?_, ?_, ?_, ?_, trivial⟩ ?_
      · rintro D ρ wx hD hd hdc hf ⟨hs, f0, f1, f2, f3, f4, f5, f6⟩
        have r5 : ρ 5 = .int .i64 (k : Int) := outD hf 5 rfl
        exact .inl ⟨rfl, L_move (V := .int .i64 (k : Int)) r5 ⟨hs, fun _ => rfl, f1, f2, f3, f4, f5, f6⟩⟩
      · rintro D ρ wx hD hd hdc hf ⟨hs, f0, f1, f2, f3, f4, f5, f6⟩
        have g0 := f0 (doneD hd 0 rfl)
        have r2 : ρ 2 = .pointer (some ⟨b1, 0, none⟩) := outD hf 2 rfl
        exact .inl ⟨rfl, L_ixArr1 UD_24 S1_22.1 r2 g0 (by omega) (by omega) ⟨hs, f0, fun _ => rfl, f2, f3, f4, f5, f6⟩⟩
      · rintro D ρ wx hD hd hdc hf ⟨hs, f0, f1, f2, f3, f4, f5, f6⟩
        have g1 := f1 (doneD hd 1 rfl)
        exact .inl ⟨rfl, L_ld (V := .int .u32 (vat a k)) S1_22 hs 0 rfl g1 (vc_atO (by omega) (by omega)) ⟨hs, f0, f1, fun _ => rfl, f3, f4, f5, f6⟩⟩
      · rintro D ρ wx hD hd hdc hf ⟨hs, f0, f1, f2, f3, f4, f5, f6⟩
        have r5 : ρ 5 = .int .i64 (k : Int) := outD hf 5 rfl
        exact .inl ⟨rfl, L_move (V := .int .i64 (k : Int)) r5 ⟨hs, f0, f1, f2, fun _ => rfl, f4, f5, f6⟩⟩
      · rintro D ρ wx hD hd hdc hf ⟨hs, f0, f1, f2, f3, f4, f5, f6⟩
        have g3 := f3 (doneD hd 3 rfl)
        have r3 : ρ 3 = .pointer (some ⟨b3, 0, none⟩) := outD hf 3 rfl
        exact .inl ⟨rfl, L_ixArr1 UD_24 S1_22.1 r3 g3 (by omega) (by omega) ⟨hs, f0, f1, f2, f3, fun _ => rfl, f5, f6⟩⟩
      · rintro D ρ wx hD hd hdc hf ⟨hs, f0, f1, f2, f3, f4, f5, f6⟩
        have g4 := f4 (doneD hd 4 rfl)
        exact .inl ⟨rfl, L_ld (V := .int .u32 (vat b k)) S1_22 hs 1 rfl g4 (vc_atO (by omega) (by omega)) ⟨hs, f0, f1, f2, f3, f4, fun _ => rfl, f6⟩⟩
      · rintro D ρ wx hD hd hdc hf ⟨hs, f0, f1, f2, f3, f4, f5, f6⟩
        have g2 := f2 (doneD hd 2 rfl)
        have g5 := f5 (doneD hd 5 rfl)
        exact .inl ⟨rfl, L_gtr g2 g5 ⟨hs, f0, f1, f2, f3, f4, f5, fun _ => rfl⟩⟩
      · rintro ρ1 w1 D hD hf ⟨hs, f0, f1, f2, f3, f4, f5, f6⟩
        have e6 := f6 (hD 6 rfl)
        clear f0 f1 f2 f3 f4 f5 f6
        obtain ⟨ρ2, hρ⟩ : ∃ ρ2, ρ1 = upd (mix [10, 11, 12, 13, 14, 15, 16] ρ2 _) 16 (.bool (decide (vat b k < vat a k))) := ⟨ρ1, upd_of (mix_of (ds := [10, 11, 12, 13, 14, 15, 16]) hf) e6⟩
        clear hf hD e6
        subst hρ
        refine W_cond (t := decide (vat b k < vat a k)) rfl (fun c8 => ?_) (fun c8 => ?_)
        ·
          replace c8 := of_decide_eq_true c8
          refine W_seq ?_
          refine W_region ?_
          refine RW_op (L_assign (V := .bool false) rfl ?_)
          refine RW_nil ?_
          refine W_ret ?_
          refine ⟨_, res_one (V := .bool false) Try.results30 rfl, ?_⟩
          refine ⟨congrArg Ending.returned ?_, hs.take 0⟩
          exact congrArg Value.bool (vle_no (k := k) (by omega) c8).symm
        ·
          replace c8 := of_decide_eq_false c8
          refine W_skip ?_
          refine W_region ?_
          refine RW_op (L_move (V := .int .i64 (k : Int)) rfl ?_)
          refine RW_op (L_add (a := (k : Int)) (b := 1) (c := (k : Int) + 1) rfl rfl (wr_i64 (by omega) (by omega)) ?_)
          refine RW_op (L_assign (V := .int .i64 ((k : Int) + 1)) rfl ?_)
          refine RW_nil ?_
          refine ⟨_, ?_, _, k + 1, upd_of (mix_of (ds := [4, 5, 6, 7, 8, 9, 10, 11, 12, 13, 14, 15, 16]) (by repeat (first | exact Agr.refl _ _ | refine Agr.upd ?_ rfl | refine Agr.mix ?_ rfl))) rfl, (by omega), (vle_step hle c8), rfl, hs.take 2⟩
          omega
    ·
      replace c6 := of_decide_eq_false c6
      refine W_exit ?_
      refine W_seq ?_
      refine W_region ?_
      refine RW_op (L_assign (V := .bool true) rfl ?_)
      refine RW_nil ?_
      refine W_ret ?_
      refine ⟨_, res_one (V := .bool true) Try.results30 rfl, ?_⟩
      refine ⟨congrArg Ending.returned ?_, hs.take 0⟩
      exact congrArg Value.bool (vle_yes fun j hj => hle j (by omega)).symm
set_option maxRecDepth 20000 in
set_option maxHeartbeats 4000000 in
theorem same_ok (w : World) (a b : Option Addr) (c e : Nat) (l l2 : List Dot) (hr : Rd w (.slice a l.length c) 2 (l.map dc)) (hq : Rd w (.slice b l2.length e) 2 (l2.map dc)) : Calls Try.prog 24 #[.slice a l.length c, .slice b l2.length e] w (fun e w' => e = .returned (.bool (decide (l = l2))) ∧ Own w no w' []) := by
  refine calls_of_Wn (n := 26) Try.func24 rfl Try.ntmps24 rfl ?_
  have hs := Own.start w
  have hn := hr.sml
  refine W_seq ?_
  refine W_region ?_
  refine RW_op (L_assign (V := .bool false) rfl ?_)
  refine RW_nil ?_
  refine W_seq ?_
  refine W_seq ?_
  refine W_region ?_
  refine RW_op (L_move (V := .slice a l.length c) rfl ?_)
  refine RW_op (L_lenR (n := l.length) UD_25 (Rd.own' hr hs) (by simp) rfl ?_)
  refine RW_op (L_move (V := .slice b l2.length e) rfl ?_)
  refine RW_op (L_lenR (n := l2.length) UD_25 (Rd.own' hq hs) (by simp) rfl ?_)
  refine RW_op (L_neq rfl rfl ?_)
  refine RW_nil ?_
  refine W_cond (t := !decide (((l.length : Nat) : Int) = ((l2.length : Nat) : Int))) rfl (fun c1 => ?_) (fun c1 => ?_)
  ·
    replace c1 := not_t c1
    replace c1 := of_decide_eq_false c1
    refine W_seq ?_
    refine W_region ?_
    refine RW_op (L_assign (V := .bool false) rfl ?_)
    refine RW_nil ?_
    refine W_ret ?_
    refine ⟨_, res_one (V := .bool false) Try.results24 rfl, ?_⟩
    refine ⟨congrArg Ending.returned ?_, hs.take 0⟩
    refine congrArg Value.bool (decide_eq_false fun e => ?_).symm
    subst e
    omega
  ·
    replace c1 := not_f c1
    replace c1 := of_decide_eq_true c1
    refine W_skip ?_
    refine W_seq ?_
    refine W_seq ?_
    refine W_region ?_
    refine RW_op (L_move (V := .slice a l.length c) rfl ?_)
    refine RW_op (L_lenR (n := l.length) UD_25 (Rd.own' hr hs) (by simp) rfl ?_)
    refine RW_op (L_move (V := .int .i64 0) rfl ?_)
    refine RW_nil ?_
    refine W_block ?_
    refine W_loopI (fun ρ m ρ' w' => ∃ (ρo : Env) (k : Nat), ρ' = upd (mix [4, 5, 13, 14, 15, 16, 17, 18, 19, 20, 21, 22, 23, 24, 25] ρo ρ) 13 (.int .i64 (k : Int)) ∧ (k ≤ l.length) ∧ (∀ j : Nat, j < k → gd l j = gd l2 j) ∧ m = l.length - k ∧ Own w no w' []) ?_ ?_
    · exact ⟨_, _, 0, upd_of (mix_of (ds := [4, 5, 13, 14, 15, 16, 17, 18, 19, 20, 21, 22, 23, 24, 25]) (Agr.refl _ _)) rfl, (by omega), (fun j hj => absurd hj (Nat.not_lt_zero j)), rfl, hs⟩
    · rintro m ρ' w2 ⟨ρo, k, rfl, hk, heq, rfl, hs⟩
      refine W_seq ?_
      refine W_region ?_
      refine RW_op (L_lss rfl rfl ?_)
      refine RW_nil ?_
      refine W_seq ?_
      refine W_cond (t := decide ((k : Int) < ((l.length : Nat) : Int))) rfl (fun c3 => ?_) (fun c3 => ?_)
      ·
        replace c3 := of_decide_eq_true c3
        refine W_skip ?_
        refine W_seq ?_
        refine W_block ?_
        refine W_seq ?_
        refine W_region ?_
        refine RW_op (L_move (V := .int .i64 (k : Int)) rfl ?_)
        refine RW_op (L_assign (V := .int .i64 (k : Int)) rfl ?_)
        refine RW_nil ?_
        refine W_seq ?_
        replace hs := hs.drew
        refine W_draw2 HM [16, 17, 18, 19, 20, 21, 22, 23, 24] [[], [], [0, 1], [2], [], [], [4, 5], [6], [3, 7]] (fun D ρ wx => Own w no wx [] ∧ (D 0 = true → ρ 16 = .slice a l.length c) ∧ (D 1 = true → ρ 17 = .int .i64 (k : Int)) ∧ (D 2 = true → ρ 18 = .pointer (some ⟨bkS (.slice a l.length c), ofS (.slice a l.length c) + (k : Int).toNat * 2, none⟩)) ∧ (D 3 = true → ρ 19 = .agg (dc (gd l k)).toArray) ∧ (D 4 = true → ρ 20 = .slice b l2.length e) ∧ (D 5 = true → ρ 21 = .int .i64 (k : Int)) ∧ (D 6 = true → ρ 22 = .pointer (some ⟨bkS (.slice b l2.length e), ofS (.slice b l2.length e) + (k : Int).toNat * 2, none⟩)) ∧ (D 7 = true → ρ 23 = .agg (dc (gd l2 k)).toArray) ∧ (D 8 = true → ρ 24 = .bool (!decide (gd l k = gd l2 k)))) rfl rfl rfl ⟨hs, fun h => absurd h Bool.false_ne_true, fun h => absurd h Bool.false_ne_true, fun h => absurd h Bool.false_ne_true, fun h => absurd h Bool.false_ne_true, fun h => absurd h Bool.false_ne_true, fun h => absurd h Bool.false_ne_true, fun h => absurd h Bool.false_ne_true, fun h => absurd h Bool.false_ne_true, fun h => absurd h Bool.false_ne_true⟩ ⟨?_, ?_, ?_, ?_, ?_, ?_, ?_, ?_, ?_, trivial⟩ ?_
        · rintro D ρ wx hD hd hdc hf ⟨hs, f0, f1, f2, f3, f4, f5, f6, f7, f8⟩
          have r0 : ρ 0 = .slice a l.length c := outD hf 0 rfl
          exact .inl ⟨rfl, L_move (V := .slice a l.length c) r0 ⟨hs, fun _ => rfl, f1, f2, f3, f4, f5, f6, f7, f8⟩⟩
        · rintro D ρ wx hD hd hdc hf ⟨hs, f0, f1, f2, f3, f4, f5, f6, f7, f8⟩
          have r5 : ρ 5 = .int .i64 (k : Int) := outD hf 5 rfl
          exact .inl ⟨rfl, L_move (V := .int .i64 (k : Int)) r5 ⟨hs, f0, fun _ => rfl, f2, f3, f4, f5, f6, f7, f8⟩⟩
        · rintro D ρ wx hD hd hdc hf ⟨hs, f0, f1, f2, f3, f4, f5, f6, f7, f8⟩
          have g0 := f0 (doneD hd 0 rfl)
          have g1 := f1 (doneD hd 1 rfl)
          exact .inl ⟨rfl, L_ixR UD_25 SA_34.1 (Rd.own' hr hs) g0 g1 (by omega) (by rw [List.length_map]; omega) ⟨hs, f0, f1, fun _ => rfl, f3, f4, f5, f6, f7, f8⟩⟩
        · rintro D ρ wx hD hd hdc hf ⟨hs, f0, f1, f2, f3, f4, f5, f6, f7, f8⟩
          have g2 := f2 (doneD hd 2 rfl)
          exact .inl ⟨rfl, L_ldRA (j := 0) (vs := dc (gd l k)) k SA_34 (Rd.own' hr hs) (gd_at (by omega)) rfl rfl g2 (by omega) ⟨hs, f0, f1, f2, fun _ => rfl, f4, f5, f6, f7, f8⟩⟩
        · rintro D ρ wx hD hd hdc hf ⟨hs, f0, f1, f2, f3, f4, f5, f6, f7, f8⟩
          have r1 : ρ 1 = .slice b l2.length e := outD hf 1 rfl
          exact .inl ⟨rfl, L_move (V := .slice b l2.length e) r1 ⟨hs, f0, f1, f2, f3, fun _ => rfl, f5, f6, f7, f8⟩⟩
        · rintro D ρ wx hD hd hdc hf ⟨hs, f0, f1, f2, f3, f4, f5, f6, f7, f8⟩
          have r5 : ρ 5 = .int .i64 (k : Int) := outD hf 5 rfl
          exact .inl ⟨rfl, L_move (V := .int .i64 (k : Int)) r5 ⟨hs, f0, f1, f2, f3, f4, fun _ => rfl, f6, f7, f8⟩⟩
        · rintro D ρ wx hD hd hdc hf ⟨hs, f0, f1, f2, f3, f4, f5, f6, f7, f8⟩
          have g4 := f4 (doneD hd 4 rfl)
          have g5 := f5 (doneD hd 5 rfl)
          exact .inl ⟨rfl, L_ixR UD_25 SA_34.1 (Rd.own' hq hs) g4 g5 (by omega) (by rw [List.length_map]; omega) ⟨hs, f0, f1, f2, f3, f4, f5, fun _ => rfl, f7, f8⟩⟩
        · rintro D ρ wx hD hd hdc hf ⟨hs, f0, f1, f2, f3, f4, f5, f6, f7, f8⟩
          have g6 := f6 (doneD hd 6 rfl)
          exact .inl ⟨rfl, L_ldRA (j := 0) (vs := dc (gd l2 k)) k SA_34 (Rd.own' hq hs) (gd_at (by omega)) rfl rfl g6 (by omega) ⟨hs, f0, f1, f2, f3, f4, f5, f6, fun _ => rfl, f8⟩⟩
        · rintro D ρ wx hD hd hdc hf ⟨hs, f0, f1, f2, f3, f4, f5, f6, f7, f8⟩
          have g3 := f3 (doneD hd 3 rfl)
          have g7 := f7 (doneD hd 7 rfl)
          exact .inl ⟨rfl, L_neA (xs := dc (gd l k)) (ys := dc (gd l2 k)) Try.eqGuardType34 (EQ_34 (gd l k) (gd l2 k)) rfl g3 g7 ⟨hs, f0, f1, f2, f3, f4, f5, f6, f7, fun _ => rfl⟩⟩
        · rintro ρ1 w1 D hD hf ⟨hs, f0, f1, f2, f3, f4, f5, f6, f7, f8⟩
          have e8 := f8 (hD 8 rfl)
          clear f0 f1 f2 f3 f4 f5 f6 f7 f8
          obtain ⟨ρ2, hρ⟩ : ∃ ρ2, ρ1 = upd (mix [16, 17, 18, 19, 20, 21, 22, 23, 24] ρ2 _) 24 (.bool (!decide (gd l k = gd l2 k))) := ⟨ρ1, upd_of (mix_of (ds := [16, 17, 18, 19, 20, 21, 22, 23, 24]) hf) e8⟩
          clear hf hD e8
          subst hρ
          refine W_cond (t := !decide (gd l k = gd l2 k)) rfl (fun c5 => ?_) (fun c5 => ?_)
          ·
            replace c5 := not_t c5
            replace c5 := of_decide_eq_false c5
            refine W_seq ?_
            refine W_region ?_
            refine RW_op (L_assign (V := .bool false) rfl ?_)
            refine RW_nil ?_
            refine W_ret ?_
            refine ⟨_, res_one (V := .bool false) Try.results24 rfl, ?_⟩
            refine ⟨congrArg Ending.returned ?_, hs.take 0⟩
            refine congrArg Value.bool (decide_eq_false fun e => ?_).symm
            subst e
            exact c5 rfl
          ·
            replace c5 := not_f c5
            replace c5 := of_decide_eq_true c5
            refine W_skip ?_
            refine W_region ?_
            refine RW_op (L_add (a := (k : Int)) (b := 1) (c := (k : Int) + 1) rfl rfl (wr_i64 (by omega) (by omega)) ?_)
            refine RW_op (L_move (V := .int .i64 ((k : Int) + 1)) rfl ?_)
            refine RW_nil ?_
            refine ⟨_, ?_, _, k + 1, upd_of (mix_of (ds := [4, 5, 13, 14, 15, 16, 17, 18, 19, 20, 21, 22, 23, 24, 25]) (by repeat (first | exact Agr.refl _ _ | refine Agr.upd ?_ rfl | refine Agr.mix ?_ rfl))) rfl, (by omega), (eq_step heq c5), rfl, hs.take 0⟩
            omega
      ·
        replace c3 := of_decide_eq_false c3
        refine W_exit ?_
        refine W_seq ?_
        refine W_region ?_
        refine RW_op (L_assign (V := .bool true) rfl ?_)
        refine RW_nil ?_
        refine W_ret ?_
        refine ⟨_, res_one (V := .bool true) Try.results24 rfl, ?_⟩
        refine ⟨congrArg Ending.returned ?_, hs.take 0⟩
        exact congrArg Value.bool (decide_eq_true (same_yes (by omega) fun j hj => heq j (by omega))).symm
set_option maxRecDepth 20000 in
set_option maxHeartbeats 4000000 in
theorem rClosed_ok (w : World) (v : Vec) (a : Option Addr) (c : Nat) (l : List Dot) (hv : VOk v) (hl : Dots l) (hr : Rd w (.slice a l.length c) 2 (l.map dc)) : Calls Try.prog 23 #[.agg ((vc v) ++ [(.slice a l.length c : Value) ]).toArray] w (fun e w' => e = .returned (.agg (vc (cloV l v)).toArray) ∧ Own w no w' []) := by
  refine calls_of_Wn (n := 27) Try.func23 rfl Try.ntmps23 rfl ?_
  have hs := Own.start w
  have hn := hr.sml
  refine W_seq ?_
  refine W_region ?_
  refine RW_op (L_box (V := .agg ((vc v) ++ [(.slice a l.length c : Value) ]).toArray) (cs := (vc v) ++ [(.slice a l.length c : Value) ]) rfl rfl hs fun b1 w2 hs => ?_)
  refine RW_op (L_alloc (cs := vc vzero) ZV_24 rfl hs fun b3 w4 hs => ?_)
  refine RW_nil ?_
  refine W_seq ?_
  refine W_region ?_
  refine RW_op (L_fieldAddr FA_31_0 rfl ?_)
  refine RW_op (L_ldA (vs := vc v) SA_24 hs 0 rfl rfl rfl rfl ?_)
  refine RW_op (L_alloc (cs := vc vzero) ZV_24 rfl hs fun b5 w6 hs => ?_)
  refine RW_op (L_st (V := .agg (vc v).toArray) (vs := vc v) (cs' := vc v) SA_24.1 hs 2 rfl rfl rfl rfl rfl (Nat.le_of_ble_eq_true rfl) (vc_one _) (spl_whole rfl) fun w7 hs => ?_)
  refine RW_nil ?_
  refine W_seq ?_
  refine W_seq ?_
  refine W_region ?_
  refine RW_op (L_assign (V := .int .i64 0) rfl ?_)
  refine RW_nil ?_
  refine W_block ?_
  refine W_loopI (fun ρ m ρ' w' => ∃ (ρo : Env) (k : Nat) (u : Vec), ρ' = upd (mix [4, 7, 8, 9, 10, 11, 12, 13, 14, 15, 16, 17, 18, 19, 20, 21, 22, 23, 24, 25] ρo ρ) 4 (.int .i64 (k : Int)) ∧ (k ≤ 16) ∧ (cloV l u = cloV l v) ∧ (∀ j, vat v j ≤ vat u j) ∧ (VOk u) ∧ (∀ j : Nat, j < k → (⟨(j : Int), vat u j + 1⟩ : Dot) ∉ l) ∧ m = 16 - k ∧ Own w no w' [blk b1 ((vc v) ++ [(.slice a l.length c : Value) ]) 31, blk b3 (vc vzero) 24, blk b5 (vc u) 24]) ?_ ?_
  · exact ⟨_, _, 0, v, upd_of (mix_of (ds := [4, 7, 8, 9, 10, 11, 12, 13, 14, 15, 16, 17, 18, 19, 20, 21, 22, 23, 24, 25]) (Agr.refl _ _)) rfl, (by omega), rfl, (fun j => Int.le_refl _), hv, (fun j hj => absurd hj (Nat.not_lt_zero j)), rfl, hs⟩
  · rintro m ρ' w8 ⟨ρo, k, u, rfl, hk, hcl, hle, hu, hno, rfl, hs⟩
    refine W_seq ?_
    refine W_seq ?_
    refine W_region ?_
    refine RW_op (L_move (V := .int .i64 (k : Int)) rfl ?_)
    refine RW_op (L_lss rfl rfl ?_)
    refine RW_nil ?_
    refine W_cond (t := decide ((k : Int) < 16)) rfl (fun c9 => ?_) (fun c9 => ?_)
    ·
      replace c9 := of_decide_eq_true c9
      refine W_skip ?_
      refine W_seq ?_
      refine W_block ?_
      refine W_block ?_
      refine W_loopI (fun ρ m ρ' w' => ∃ (ρo : Env) (u : Vec), ρ' = mix [11, 12, 13, 14, 15, 16, 17, 18, 19, 20, 21, 22, 23, 24, 25] ρo ρ ∧ (cloV l u = cloV l v) ∧ (∀ j, vat v j ≤ vat u j) ∧ (VOk u) ∧ (∀ j : Nat, j < k → (⟨(j : Int), vat u j + 1⟩ : Dot) ∉ l) ∧ m = (1048576 - vat u k).toNat ∧ Own w no w' [blk b1 ((vc v) ++ [(.slice a l.length c : Value) ]) 31, blk b3 (vc vzero) 24, blk b5 (vc u) 24]) ?_ ?_
      · exact ⟨_, _, u, mix_of (ds := [11, 12, 13, 14, 15, 16, 17, 18, 19, 20, 21, 22, 23, 24, 25]) (Agr.refl _ _), hcl, hle, hu, hno, rfl, hs⟩
      · rintro m ρ' w10 ⟨ρo, u, rfl, hcl, hle, hu, hno, rfl, hs⟩
        have hu1 := hu.at ((k : Int).toNat)
        have hu2 := hu.at k
        have hle1 := hle ((k : Int).toNat)
        have hkk : ((k : Int)).toNat = k := rfl
        refine W_seq ?_
        refine W_seq ?_
        replace hs := hs.drew
        refine W_draw2 HM [11, 12, 13, 14, 15, 16, 17, 18, 19] [[], [], [1], [], [3], [4], [5], [2, 6], [0, 7]] (fun D ρ wx => Own w no wx [blk b1 ((vc v) ++ [(.slice a l.length c : Value) ]) 31, blk b3 (vc vzero) 24, blk b5 (vc u) 24] ∧ (D 0 = true → ρ 11 = .agg ((vc v) ++ [(.slice a l.length c : Value) ]).toArray) ∧ (D 1 = true → ρ 12 = .int .i64 (k : Int)) ∧ (D 2 = true → ρ 13 = .int .u8 (k : Int)) ∧ (D 3 = true → ρ 14 = .int .i64 (k : Int)) ∧ (D 4 = true → ρ 15 = .pointer (some ⟨b5, 0 + (k : Int).toNat, none⟩)) ∧ (D 5 = true → ρ 16 = .int .u32 (vat u k)) ∧ (D 6 = true → ρ 17 = .int .u32 ((vat u k) + 1)) ∧ (D 7 = true → ρ 18 = .agg (dc (⟨(k : Int), (vat u k) + 1⟩ : Dot)).toArray) ∧ (D 8 = true → ρ 19 = .bool (hasG v l (⟨(k : Int), (vat u k) + 1⟩ : Dot)))) rfl rfl rfl ⟨hs, fun h => absurd h Bool.false_ne_true, fun h => absurd h Bool.false_ne_true, fun h => absurd h Bool.false_ne_true, fun h => absurd h Bool.false_ne_true, fun h => absurd h Bool.false_ne_true, fun h => absurd h Bool.false_ne_true, fun h => absurd h Bool.false_ne_true, fun h => absurd h Bool.false_ne_true, fun h => absurd h Bool.false_ne_true⟩ ⟨?_, ?_, ?_, ?_, ?_, ?_, ?_, ?_, ?_, trivial⟩ ?_
        · rintro D ρ wx hD hd hdc hf ⟨hs, f0, f1, f2, f3, f4, f5, f6, f7, f8⟩
          have r1 : ρ 1 = .pointer (some ⟨b1, 0, none⟩) := outD hf 1 rfl
          exact .inl ⟨rfl, L_ldW (cs := (vc v) ++ [(.slice a l.length c : Value) ]) SA_31 hs 0 rfl r1 rfl ⟨hs, fun _ => rfl, f1, f2, f3, f4, f5, f6, f7, f8⟩⟩
        · rintro D ρ wx hD hd hdc hf ⟨hs, f0, f1, f2, f3, f4, f5, f6, f7, f8⟩
          have r4 : ρ 4 = .int .i64 (k : Int) := outD hf 4 rfl
          exact .inl ⟨rfl, L_move (V := .int .i64 (k : Int)) r4 ⟨hs, f0, fun _ => rfl, f2, f3, f4, f5, f6, f7, f8⟩⟩
        · rintro D ρ wx hD hd hdc hf ⟨hs, f0, f1, f2, f3, f4, f5, f6, f7, f8⟩
          have g1 := f1 (doneD hd 1 rfl)
          exact .inl ⟨rfl, L_conv UD_3 UD_5 g1 (wr_u8 (by omega) (by omega)) ⟨hs, f0, f1, fun _ => rfl, f3, f4, f5, f6, f7, f8⟩⟩
        · rintro D ρ wx hD hd hdc hf ⟨hs, f0, f1, f2, f3, f4, f5, f6, f7, f8⟩
          have r4 : ρ 4 = .int .i64 (k : Int) := outD hf 4 rfl
          exact .inl ⟨rfl, L_move (V := .int .i64 (k : Int)) r4 ⟨hs, f0, f1, f2, fun _ => rfl, f4, f5, f6, f7, f8⟩⟩
        · rintro D ρ wx hD hd hdc hf ⟨hs, f0, f1, f2, f3, f4, f5, f6, f7, f8⟩
          have g3 := f3 (doneD hd 3 rfl)
          have r3 : ρ 3 = .pointer (some ⟨b5, 0, none⟩) := outD hf 3 rfl
          exact .inl ⟨rfl, L_ixArr1 UD_24 S1_22.1 r3 g3 (by omega) (by omega) ⟨hs, f0, f1, f2, f3, fun _ => rfl, f5, f6, f7, f8⟩⟩
        · rintro D ρ wx hD hd hdc hf ⟨hs, f0, f1, f2, f3, f4, f5, f6, f7, f8⟩
          have g4 := f4 (doneD hd 4 rfl)
          exact .inl ⟨rfl, L_ld (V := .int .u32 (vat u k)) S1_22 hs 2 rfl g4 (vc_atO (by omega) (by omega)) ⟨hs, f0, f1, f2, f3, f4, fun _ => rfl, f6, f7, f8⟩⟩
        · rintro D ρ wx hD hd hdc hf ⟨hs, f0, f1, f2, f3, f4, f5, f6, f7, f8⟩
          have g5 := f5 (doneD hd 5 rfl)
          exact .inl ⟨rfl, L_add (a := vat u k) (b := 1) (c := (vat u k) + 1) g5 rfl (wr_u32 (by omega) (by omega)) ⟨hs, f0, f1, f2, f3, f4, f5, fun _ => rfl, f7, f8⟩⟩
        · rintro D ρ wx hD hd hdc hf ⟨hs, f0, f1, f2, f3, f4, f5, f6, f7, f8⟩
          have g2 := f2 (doneD hd 2 rfl)
          have g6 := f6 (doneD hd 6 rfl)
          exact .inl ⟨rfl, L_build (vs := [(0, .int .u8 (k : Int)), (1, .int .u32 ((vat u k) + 1))]) (cs := dc (⟨(k : Int), (vat u k) + 1⟩ : Dot)) BT_34 ((mapb g2 (mapb g6 rfl))) rfl ⟨hs, f0, f1, f2, f3, f4, f5, f6, fun _ => rfl, f8⟩⟩
        · rintro D ρ wx hD hd hdc hf ⟨hs, f0, f1, f2, f3, f4, f5, f6, f7, f8⟩
          have g0 := f0 (doneD hd 0 rfl)
          have g7 := f7 (doneD hd 7 rfl)
          have hv0 := hv.ok
          exact .inl ⟨rfl, L_callP (vs := [.agg ((vc v) ++ [(.slice a l.length c : Value) ]).toArray, .agg (dc (⟨(k : Int), (vat u k) + 1⟩ : Dot)).toArray]) (V := .bool (hasG v l (⟨(k : Int), (vat u k) + 1⟩ : Dot))) EN_19 rfl (mapc g0 (mapc g7 rfl)) (rGHas_ok _ v a c l (⟨(k : Int), (vat u k) + 1⟩ : Dot) (by first | assumption | exact vzero_ok) (by first | assumption | exact dotOk_mk (by omega) (by omega) (by omega) (by omega)) (Rd.own' hr hs)) hs fun _ hs0 => ⟨hs0, f0, f1, f2, f3, f4, f5, f6, f7, fun _ => rfl⟩⟩
        · rintro ρ1 w1 D hD hf ⟨hs, f0, f1, f2, f3, f4, f5, f6, f7, f8⟩
          have e8 := f8 (hD 8 rfl)
          clear f0 f1 f2 f3 f4 f5 f6 f7 f8
          obtain ⟨ρ2, hρ⟩ : ∃ ρ2, ρ1 = upd (mix [11, 12, 13, 14, 15, 16, 17, 18, 19] ρ2 _) 19 (.bool (hasG v l (⟨(k : Int), (vat u k) + 1⟩ : Dot))) := ⟨ρ1, upd_of (mix_of (ds := [11, 12, 13, 14, 15, 16, 17, 18, 19]) hf) e8⟩
          clear hf hD e8
          subst hρ
          refine W_cond (t := hasG v l (⟨(k : Int), (vat u k) + 1⟩ : Dot)) rfl (fun c13 => ?_) (fun c13 => ?_)
          ·
            refine W_skip ?_
            refine W_block ?_
            refine W_region ?_
            refine RW_op (L_move (V := .int .i64 (k : Int)) rfl ?_)
            refine RW_op (L_move (V := .int .i64 (k : Int)) rfl ?_)
            refine RW_op (L_ixArr1 UD_24 S1_22.1 rfl rfl (by omega) (by omega) ?_)
            refine RW_op (L_ld (V := .int .u32 (vat u k)) S1_22 hs 2 rfl rfl (vc_atO (by omega) (by omega)) ?_)
            refine RW_op (L_add (a := vat u k) (b := 1) (c := (vat u k) + 1) rfl rfl (wr_u32 (by omega) (by omega)) ?_)
            refine RW_op (L_ixArr1 UD_24 S1_22.1 rfl rfl (by omega) (by omega) ?_)
            refine RW_op (L_st1 (V := .int .u32 ((vat u k) + 1)) (cs' := vc (vset u k ((vat u k) + 1))) S1_22 hs 2 rfl rfl rfl rfl (vc_lt (by omega)) (vc_setO (by omega) (by omega)) fun w14 hs => ?_)
            refine RW_nil ?_
            have hin := clo_in (k := k) hle1 c13
            have hb := (dotB_spec (hl _ hin).2).2.2
            dsimp only at hb
            refine ⟨_, ?_, _, vset u k (vat u k + 1), mix_of (ds := [11, 12, 13, 14, 15, 16, 17, 18, 19, 20, 21, 22, 23, 24, 25]) (by repeat (first | exact Agr.refl _ _ | refine Agr.upd ?_ rfl | refine Agr.mix ?_ rfl)), (cloV_step hl (by omega) hcl hin), (clo_le hle), (hu.set k (by omega) (by omega)), (clo_below hno), rfl, hs.take 3⟩
            rw [vat_vset _ _ _ _ (by omega), if_pos rfl]; omega
          ·
            refine W_exit ?_
            refine W_region ?_
            refine RW_op (L_move (V := .int .i64 (k : Int)) rfl ?_)
            refine RW_op (L_add (a := (k : Int)) (b := 1) (c := (k : Int) + 1) rfl rfl (wr_i64 (by omega) (by omega)) ?_)
            refine RW_op (L_assign (V := .int .i64 ((k : Int) + 1)) rfl ?_)
            refine RW_nil ?_
            refine ⟨_, ?_, _, k + 1, u, upd_of (mix_of (ds := [4, 7, 8, 9, 10, 11, 12, 13, 14, 15, 16, 17, 18, 19, 20, 21, 22, 23, 24, 25]) (by repeat (first | exact Agr.refl _ _ | refine Agr.upd ?_ rfl | refine Agr.mix ?_ rfl))) rfl, (by omega), hcl, hle, hu, (clo_next hno (clo_out hle1 c13)), rfl, hs.take 3⟩
            omega
    ·
      replace c9 := of_decide_eq_false c9
      refine W_exit ?_
      refine W_seq ?_
      refine W_region ?_
      refine RW_op (L_ldW (cs := vc u) SA_24 hs 2 rfl rfl rfl ?_)
      refine RW_op (L_st (V := .agg (vc u).toArray) (vs := vc u) (cs' := vc u) SA_24.1 hs 1 rfl rfl rfl rfl rfl (Nat.le_of_ble_eq_true rfl) (vc_one _) (spl_whole rfl) fun w15 hs => ?_)
      refine RW_nil ?_
      refine W_ret ?_
      refine ⟨_, res_cell (cs := vc u) Try.results23 SA_24 hs 1 rfl rfl rfl, ?_⟩
      refine ⟨congrArg Ending.returned ?_, hs.take 0⟩
      rw [← hcl, cloV_end (fun j hj => hno j (by omega))]
set_option maxRecDepth 20000 in
set_option maxHeartbeats 4000000 in
theorem rTop_ok (w : World) (v : Vec) (a : Option Addr) (c : Nat) (l : List Dot) (i : Int) (hi : 0 ≤ i) (hi2 : i < 16) (hl : Dots l) (hr : Rd w (.slice a l.length c) 2 (l.map dc)) : Calls Try.prog 69 #[.agg ((vc v) ++ [(.slice a l.length c : Value) ]).toArray, .int .i64 i] w (fun e w' => e = .returned (.int .u32 (topG v l i)) ∧ Own w no w' []) := by
  refine calls_of_Wn (n := 36) Try.func69 rfl Try.ntmps69 rfl ?_
  have hs := Own.start w
  have hn := hr.sml
  refine W_seq ?_
  refine W_region ?_
  refine RW_op (L_box (V := .agg ((vc v) ++ [(.slice a l.length c : Value) ]).toArray) (cs := (vc v) ++ [(.slice a l.length c : Value) ]) rfl rfl hs fun b1 w2 hs => ?_)
  refine RW_op (L_assign (V := .int .u32 0) rfl ?_)
  refine RW_nil ?_
  refine W_seq ?_
  refine W_region ?_
  refine RW_op (L_move (V := .int .i64 i) rfl ?_)
  refine RW_op (L_fieldAddr FA_31_0 rfl ?_)
  refine RW_op (L_ixArr1 UD_24 S1_22.1 rfl rfl (by omega) (by omega) ?_)
  refine RW_op (L_ld (V := .int .u32 (vat v i.toNat)) S1_22 hs 0 rfl rfl (vc_atA (by omega) (by omega)) ?_)
  refine RW_op (L_assign (V := .int .u32 (vat v i.toNat)) rfl ?_)
  refine RW_nil ?_
  refine W_seq ?_
  refine W_seq ?_
  refine W_region ?_
  refine RW_op (L_assign (V := .int .i64 0) rfl ?_)
  refine RW_nil ?_
  refine W_block ?_
  refine W_loopI (fun ρ m ρ' w' => ∃ (ρo : Env) (k : Nat) (n : Int), ρ' = upd (upd (mix [5, 6, 11, 12, 13, 14, 15, 16, 17, 18, 19, 20, 21, 22, 23, 24, 25, 26, 27, 28, 29, 30, 31, 32, 33, 34] ρo ρ) 6 (.int .i64 (k : Int))) 5 (.int .u32 n) ∧ (k ≤ l.length) ∧ (n = topK v l i k) ∧ m = l.length - k ∧ Own w no w' [blk b1 ((vc v) ++ [(.slice a l.length c : Value) ]) 31]) ?_ ?_
  · exact ⟨_, _, 0, vat v i.toNat, upd_of (upd_of (mix_of (ds := [5, 6, 11, 12, 13, 14, 15, 16, 17, 18, 19, 20, 21, 22, 23, 24, 25, 26, 27, 28, 29, 30, 31, 32, 33, 34]) (Agr.refl _ _)) rfl) rfl, (by omega), rfl, rfl, hs⟩
  · rintro m ρ' w3 ⟨ρo, k, n, rfl, hk, htk, rfl, hs⟩
    refine W_seq ?_
    refine W_seq ?_
    refine W_region ?_
    refine RW_op (L_move (V := .int .i64 (k : Int)) rfl ?_)
    refine RW_op (L_fieldAddr FA_31_1 rfl ?_)
    refine RW_op (L_ld (V := .slice a l.length c) S1_25 hs 0 rfl rfl rfl ?_)
    refine RW_op (L_lenR (n := l.length) UD_25 (Rd.own' hr hs) (by simp) rfl ?_)
    refine RW_op (L_lss rfl rfl ?_)
    refine RW_nil ?_
    refine W_cond (t := decide ((k : Int) < ((l.length : Nat) : Int))) rfl (fun c4 => ?_) (fun c4 => ?_)
    ·
      replace c4 := of_decide_eq_true c4
      refine W_skip ?_
      refine W_seq ?_
      refine W_block ?_
      refine W_seq ?_
      have hd := dots_at hl (i := k) (by omega)
      refine W_region ?_
      refine RW_op (L_fieldAddr FA_31_1 rfl ?_)
      refine RW_op (L_ld (V := .slice a l.length c) S1_25 hs 0 rfl rfl rfl ?_)
      refine RW_op (L_move (V := .int .i64 (k : Int)) rfl ?_)
      refine RW_op (L_ixR UD_25 SA_34.1 (Rd.own' hr hs) rfl rfl (by omega) (by rw [List.length_map]; omega) ?_)
      refine RW_op (L_fieldAddr FA_34_0 rfl ?_)
      refine RW_op (L_ldR (j := 0) (V := .int .u8 ((gd l k).rep)) k S1_5 (Rd.own' hr hs) (gd_at (by omega)) rfl rfl (by omega) ?_)
      refine RW_op (L_conv UD_5 UD_3 rfl (wr_i64 (by omega) (by omega)) ?_)
      refine RW_op (L_move (V := .int .i64 i) rfl ?_)
      refine RW_op (L_eql rfl rfl ?_)
      refine RW_nil ?_
      refine W_cond (t := decide ((gd l k).rep = i)) rfl (fun c5 => ?_) (fun c5 => ?_)
      ·
        replace c5 := of_decide_eq_true c5
        refine W_region ?_
        refine RW_op (L_move (V := .int .u32 n) rfl ?_)
        refine RW_op (L_fieldAddr FA_31_1 rfl ?_)
        refine RW_op (L_ld (V := .slice a l.length c) S1_25 hs 0 rfl rfl rfl ?_)
        refine RW_op (L_move (V := .int .i64 (k : Int)) rfl ?_)
        refine RW_op (L_ixR UD_25 SA_34.1 (Rd.own' hr hs) rfl rfl (by omega) (by rw [List.length_map]; omega) ?_)
        refine RW_op (L_fieldAddr FA_34_1 rfl ?_)
        refine RW_op (L_ldR (j := 1) (V := .int .u32 ((gd l k).seq)) k S1_22 (Rd.own' hr hs) (gd_at (by omega)) rfl rfl (by omega) ?_)
        refine RW_op (L_max rfl rfl ?_)
        refine RW_op (L_assign (V := .int .u32 (max n ((gd l k).seq))) rfl ?_)
        refine RW_nil ?_
        refine W_region ?_
        refine RW_op (L_move (V := .int .i64 (k : Int)) rfl ?_)
        refine RW_op (L_add (a := (k : Int)) (b := 1) (c := (k : Int) + 1) rfl rfl (wr_i64 (by omega) (by omega)) ?_)
        refine RW_op (L_assign (V := .int .i64 ((k : Int) + 1)) rfl ?_)
        refine RW_nil ?_
        refine ⟨_, ?_, _, k + 1, max n ((gd l k).seq), upd_of (upd_of (mix_of (ds := [5, 6, 11, 12, 13, 14, 15, 16, 17, 18, 19, 20, 21, 22, 23, 24, 25, 26, 27, 28, 29, 30, 31, 32, 33, 34]) (by repeat (first | exact Agr.refl _ _ | refine Agr.upd ?_ rfl | refine Agr.mix ?_ rfl))) rfl) rfl, (by omega), (top_yes htk c5), rfl, hs.take 1⟩
        omega
      ·
        replace c5 := of_decide_eq_false c5
        refine W_skip ?_
        refine W_region ?_
        refine RW_op (L_move (V := .int .i64 (k : Int)) rfl ?_)
        refine RW_op (L_add (a := (k : Int)) (b := 1) (c := (k : Int) + 1) rfl rfl (wr_i64 (by omega) (by omega)) ?_)
        refine RW_op (L_assign (V := .int .i64 ((k : Int) + 1)) rfl ?_)
        refine RW_nil ?_
        refine ⟨_, ?_, _, k + 1, n, upd_of (upd_of (mix_of (ds := [5, 6, 11, 12, 13, 14, 15, 16, 17, 18, 19, 20, 21, 22, 23, 24, 25, 26, 27, 28, 29, 30, 31, 32, 33, 34]) (by repeat (first | exact Agr.refl _ _ | refine Agr.upd ?_ rfl | refine Agr.mix ?_ rfl))) rfl) rfl, (by omega), (top_no htk c5), rfl, hs.take 1⟩
        omega
    ·
      replace c4 := of_decide_eq_false c4
      refine W_exit ?_
      refine W_seq ?_
      refine W_region ?_
      refine RW_op (L_move (V := .int .u32 n) rfl ?_)
      refine RW_op (L_assign (V := .int .u32 n) rfl ?_)
      refine RW_nil ?_
      refine W_ret ?_
      refine ⟨_, res_one (V := .int .u32 n) Try.results69 rfl, ?_⟩
      refine ⟨congrArg Ending.returned ?_, hs.take 0⟩
      rw [htk, show k = l.length by omega]; rfl
set_option maxRecDepth 20000 in
set_option maxHeartbeats 4000000 in
theorem rAbove_ok (w : World) (v : Vec) (a : Option Addr) (c : Nat) (l : List Dot) (b : Bool) (hv : VOk v) (hl : Dots l) (hr : Rd w (.slice a l.length c) 2 (l.map dc)) : Calls Try.prog 52 #[.agg ((vc v) ++ [(.slice a l.length c : Value) ]).toArray, .bool b] w (fun e w' => ∃ x : Option Addr × Nat, e = .returned (.slice x.1 (aboveG v l b).length x.2) ∧ Own w no w' [row (.slice x.1 (aboveG v l b).length x.2) ((aboveG v l b).map dc) 34 2] ∧ True) := by
  refine calls_of_Wn (n := 43) Try.func52 rfl Try.ntmps52 rfl ?_
  have hs := Own.start w
  have hn := hr.sml
  refine W_seq ?_
  refine W_region ?_
  refine RW_op (L_box (V := .agg ((vc v) ++ [(.slice a l.length c : Value) ]).toArray) (cs := (vc v) ++ [(.slice a l.length c : Value) ]) rfl rfl hs fun b1 w2 hs => ?_)
  refine RW_op (L_assign (V := .slice none 0 0) rfl ?_)
  refine RW_nil ?_
  refine W_seq ?_
  refine W_region ?_
  refine RW_op (L_assign (V := .slice none 0 0) rfl ?_)
  refine RW_nil ?_
  refine W_seq ?_
  refine W_region ?_
  refine RW_op (L_ldW (cs := (vc v) ++ [(.slice a l.length c : Value) ]) SA_31 hs 0 rfl rfl rfl ?_)
  refine RW_op (L_callP (vs := [.agg ((vc v) ++ [(.slice a l.length c : Value) ]).toArray]) (V := .agg (vc (cloV l v)).toArray) EN_23 rfl rfl (rClosed_ok _ v a c l (by assumption) (by assumption) (Rd.own' hr hs)) hs fun w3 hs => ?_)
  refine RW_op (L_alloc (cs := vc vzero) ZV_24 rfl hs fun b4 w5 hs => ?_)
  refine RW_op (L_st (V := .agg (vc (cloV l v)).toArray) (vs := vc (cloV l v)) (cs' := vc (cloV l v)) SA_24.1 hs 1 rfl rfl rfl rfl rfl (Nat.le_of_ble_eq_true rfl) (vc_one _) (spl_whole rfl) fun w6 hs => ?_)
  refine RW_nil ?_
  refine W_seq ?_
  refine W_seq ?_
  refine W_region ?_
  refine RW_op (L_assign (V := .int .i64 0) rfl ?_)
  refine RW_nil ?_
  refine W_block ?_
  replace hs := hs.more (row (.slice none 0 0) (List.map dc []) 34 2) (row_nil _ _ _ _)
  have hcl := (cloV_ok hv hl)
  refine W_loopI (fun ρ m ρ' w' => ∃ (ρo : Env) (k : Nat) (a1 : Option Addr) (c1 : Nat) (out : List Dot), ρ' = upd (upd (mix [5, 7, 8, 9, 10, 13, 14, 15, 16, 17, 18, 19, 20, 21, 22, 23, 24, 25, 26, 27, 28, 29, 30, 31, 32, 33, 34, 35, 36, 37, 38, 39, 40, 41] ρo ρ) 7 (.int .i64 (k : Int))) 5 (.slice a1 out.length c1) ∧ (k ≤ 16) ∧ (out = (List.range k).flatMap (aboveAt v l b)) ∧ (((out.length : Nat) : Int) ≤ (k : Int) * 1048577) ∧ m = 16 - k ∧ Own w no w' [blk b1 ((vc v) ++ [(.slice a l.length c : Value) ]) 31, blk b4 (vc (cloV l v)) 24, row (.slice a1 out.length c1) (out.map dc) 34 2]) ?_ ?_
  · exact ⟨_, _, 0, none, 0, [], upd_of (upd_of (mix_of (ds := [5, 7, 8, 9, 10, 13, 14, 15, 16, 17, 18, 19, 20, 21, 22, 23, 24, 25, 26, 27, 28, 29, 30, 31, 32, 33, 34, 35, 36, 37, 38, 39, 40, 41]) (Agr.refl _ _)) rfl) rfl, (by omega), rfl, (by simp), rfl, hs⟩
  · rintro m ρ' w7 ⟨ρo, k, a1, c1, out, rfl, hk, hout, hlen, rfl, hs⟩
    have hv0 := hv.ok
    have hkk : ((k : Int)).toNat = k := rfl
    have hck := hcl.at k
    refine W_seq ?_
    refine W_seq ?_
    refine W_region ?_
    refine RW_op (L_move (V := .int .i64 (k : Int)) rfl ?_)
    refine RW_op (L_lss rfl rfl ?_)
    refine RW_nil ?_
    refine W_cond (t := decide ((k : Int) < 16)) rfl (fun c8 => ?_) (fun c8 => ?_)
    ·
      replace c8 := of_decide_eq_true c8
      refine W_skip ?_
      refine W_seq ?_
      refine W_block ?_
      refine W_seq ?_
      refine W_region ?_
      refine RW_op (L_ldW (cs := (vc v) ++ [(.slice a l.length c : Value) ]) SA_31 hs 0 rfl rfl rfl ?_)
      refine RW_op (L_move (V := .int .i64 (k : Int)) rfl ?_)
      refine RW_op (L_callP (vs := [.agg ((vc v) ++ [(.slice a l.length c : Value) ]).toArray, .int .i64 (k : Int)]) (V := .int .u32 (topG v l (k : Int))) EN_69 rfl rfl (rTop_ok _ v a c l (k : Int) (by omega) (by omega) (by assumption) (Rd.own' hr hs)) hs fun w9 hs => ?_)
      refine RW_op (L_assign (V := .int .u32 (topG v l (k : Int))) rfl ?_)
      refine RW_nil ?_
      refine W_seq ?_
      refine W_region ?_
      refine RW_op (L_move (V := .int .i64 (k : Int)) rfl ?_)
      refine RW_op (L_ixArr1 UD_24 S1_22.1 rfl rfl (by omega) (by omega) ?_)
      refine RW_op (L_ld (V := .int .u32 (vat (cloV l v) k)) S1_22 hs 1 rfl rfl (vc_atO (by omega) (by omega)) ?_)
      refine RW_op (L_add (a := vat (cloV l v) k) (b := 1) (c := (vat (cloV l v) k) + 1) rfl rfl (wr_u32 (by omega) (by omega)) ?_)
      refine RW_op (L_assign (V := .int .u32 ((vat (cloV l v) k) + 1)) rfl ?_)
      refine RW_nil ?_
      refine W_block ?_
      have htk := topK_le hv hl (k : Int) l.length (Nat.le_refl _)
      rw [vat_cloV _ _ _ (by omega)] at hck
      have htg : topG v l k = topK v l k l.length := rfl
      refine W_loopI (fun ρ m ρ' w' => ∃ (ρo : Env) (c2 : Nat) (n : Int) (a2 : Option Addr) (c3 : Nat) (out2 : List Dot), ρ' = upd (upd (mix [5, 9, 10, 24, 25, 26, 27, 28, 29, 30, 31, 32, 33, 34, 35, 36, 37, 38, 39, 40, 41] ρo ρ) 9 (.int .u32 n)) 5 (.slice a2 out2.length c3) ∧ (n = cloAt l k (vat v k) + 1 + c2) ∧ (out2 = (List.range k).flatMap (aboveAt v l b) ++ (stretch (k : Int) (cloAt l k (vat v k) + 1) c2).filter fun d => hasG v l d == b) ∧ (((out2.length : Nat) : Int) ≤ (k : Int) * 1048577 + (c2 : Int)) ∧ ((c2 : Int) ≤ max 0 (topG v l k - cloAt l k (vat v k))) ∧ m = (topG v l k - n + 1).toNat ∧ Own w no w' [blk b1 ((vc v) ++ [(.slice a l.length c : Value) ]) 31, blk b4 (vc (cloV l v)) 24, row (.slice a2 out2.length c3) (out2.map dc) 34 2]) ?_ ?_
      · exact ⟨_, _, 0, vat (cloV l v) k + 1, a1, c1, out, upd_of (upd_of (mix_of (ds := [5, 9, 10, 24, 25, 26, 27, 28, 29, 30, 31, 32, 33, 34, 35, 36, 37, 38, 39, 40, 41]) (Agr.refl _ _)) rfl) rfl, (cloV_at2 (by omega)), (above_start hout), (by omega), (by omega), rfl, hs⟩
      · rintro m ρ' w10 ⟨ρo, c2, n, a2, c3, out2, rfl, hn2, hout2, hlen2, hc2, rfl, hs⟩
        refine W_seq ?_
        refine W_seq ?_
        refine W_region ?_
        refine RW_op (L_move (V := .int .u32 n) rfl ?_)
        refine RW_op (L_move (V := .int .u32 (topG v l (k : Int))) rfl ?_)
        refine RW_op (L_leq rfl rfl ?_)
        refine RW_nil ?_
        refine W_cond (t := decide (n ≤ topG v l (k : Int))) rfl (fun c11 => ?_) (fun c11 => ?_)
        ·
          replace c11 := of_decide_eq_true c11
          refine W_skip ?_
          refine W_seq ?_
          refine W_block ?_
          refine W_seq ?_
          refine W_region ?_
          refine RW_op (L_move (V := .int .i64 (k : Int)) rfl ?_)
          refine RW_op (L_conv UD_3 UD_5 rfl (wr_u8 (by omega) (by omega)) ?_)
          refine RW_op (L_move (V := .int .u32 n) rfl ?_)
          refine RW_op (L_build (vs := [(0, .int .u8 (k : Int)), (1, .int .u32 n)]) (cs := dc (⟨(k : Int), n⟩ : Dot)) BT_34 (rfl) rfl ?_)
          refine RW_op (L_alloc (cs := dc (⟨0, 0⟩ : Dot)) ZV_34 rfl hs fun b12 w13 hs => ?_)
          refine RW_op (L_st (V := .agg (dc (⟨(k : Int), n⟩ : Dot)).toArray) (vs := dc (⟨(k : Int), n⟩ : Dot)) (cs' := dc (⟨(k : Int), n⟩ : Dot)) SA_34.1 hs 3 rfl rfl rfl rfl rfl (Nat.le_of_ble_eq_true rfl) (dc_one _) (spl_whole rfl) fun w14 hs => ?_)
          refine RW_nil ?_
          refine W_seq ?_
          refine W_region ?_
          refine RW_op (L_ldW (cs := (vc v) ++ [(.slice a l.length c : Value) ]) SA_31 hs 0 rfl rfl rfl ?_)
          refine RW_op (L_ldW (cs := dc (⟨(k : Int), n⟩ : Dot)) SA_34 hs 3 rfl rfl rfl ?_)
          refine RW_op (L_callP (vs := [.agg ((vc v) ++ [(.slice a l.length c : Value) ]).toArray, .agg (dc (⟨(k : Int), n⟩ : Dot)).toArray]) (V := .bool (hasG v l (⟨(k : Int), n⟩ : Dot))) EN_19 rfl rfl (rGHas_ok _ v a c l (⟨(k : Int), n⟩ : Dot) (by first | assumption | exact vzero_ok) (by first | assumption | exact dotOk_mk (by omega) (by omega) (by omega) (by omega)) (Rd.own' hr hs)) hs fun w15 hs => ?_)
          refine RW_op (L_move (V := .bool b) rfl ?_)
          refine RW_op (L_eqb UDR_4 rfl rfl ?_)
          refine RW_nil ?_
          refine W_cond (t := ((hasG v l (⟨(k : Int), n⟩ : Dot)) == b)) rfl (fun c16 => ?_) (fun c16 => ?_)
          ·
            refine W_region ?_
            refine RW_op (L_move (V := .slice a2 out2.length c3) rfl ?_)
            refine RW_op (L_ldW (cs := dc (⟨(k : Int), n⟩ : Dot)) SA_34 hs 3 rfl rfl rfl ?_)
            refine RW_op (L_bs (vals := [.agg (dc (⟨(k : Int), n⟩ : Dot)).toArray]) (ls := List.map dc ([(⟨(k : Int), n⟩ : Dot)] : List Dot)) EL_25 rfl rfl rfl (len_map (enc := dc) (fun _ => rfl) _) (one_map dc_one _) (Nat.le_of_ble_eq_true rfl) hs fun b17 w18 hs => ?_)
            refine RW_op (L_appN (ls' := (out2 ++ [(⟨(k : Int), n⟩ : Dot)]).map dc) (n := (out2 ++ [(⟨(k : Int), n⟩ : Dot)]).length) EL_25 hs 2 rfl rfl rfl (hs.rd 4 rfl) (one_map dc_one _) (by simp only [List.length_map, List.length_append, List.length_cons, List.length_nil]; omega) (by simp) (by simp) fun a19 c19 w20 hs => ?_)
            refine RW_op (L_assign (V := .slice a19 ((out2 ++ [(⟨(k : Int), n⟩ : Dot)]).length) c19) rfl ?_)
            refine RW_nil ?_
            refine W_region ?_
            refine RW_op (L_move (V := .int .u32 n) rfl ?_)
            refine RW_op (L_add (a := n) (b := 1) (c := n + 1) rfl rfl (wr_u32 (by omega) (by omega)) ?_)
            refine RW_op (L_assign (V := .int .u32 (n + 1)) rfl ?_)
            refine RW_nil ?_
            refine ⟨_, ?_, _, c2 + 1, n + 1, a19, c19, out2 ++ [(⟨(k : Int), n⟩ : Dot)], upd_of (upd_of (mix_of (ds := [5, 9, 10, 24, 25, 26, 27, 28, 29, 30, 31, 32, 33, 34, 35, 36, 37, 38, 39, 40, 41]) (by repeat (first | exact Agr.refl _ _ | refine Agr.upd ?_ rfl | refine Agr.mix ?_ rfl))) rfl) rfl, (by omega), (above_yes hout2 hn2 c16), (by first | omega | (simp only [List.length_append, List.length_cons, List.length_nil]; omega)), (by omega), rfl, hs.take 3⟩
            omega
          ·
            refine W_skip ?_
            refine W_region ?_
            refine RW_op (L_move (V := .int .u32 n) rfl ?_)
            refine RW_op (L_add (a := n) (b := 1) (c := n + 1) rfl rfl (wr_u32 (by omega) (by omega)) ?_)
            refine RW_op (L_assign (V := .int .u32 (n + 1)) rfl ?_)
            refine RW_nil ?_
            refine ⟨_, ?_, _, c2 + 1, n + 1, a2, c3, out2, upd_of (upd_of (mix_of (ds := [5, 9, 10, 24, 25, 26, 27, 28, 29, 30, 31, 32, 33, 34, 35, 36, 37, 38, 39, 40, 41]) (by repeat (first | exact Agr.refl _ _ | refine Agr.upd ?_ rfl | refine Agr.mix ?_ rfl))) rfl) rfl, (by omega), (above_no hout2 hn2 c16), (by first | omega | (simp only [List.length_append, List.length_cons, List.length_nil]; omega)), (by omega), rfl, hs.take 3⟩
            omega
        ·
          replace c11 := of_decide_eq_false c11
          refine W_exit ?_
          refine W_region ?_
          refine RW_op (L_move (V := .int .i64 (k : Int)) rfl ?_)
          refine RW_op (L_add (a := (k : Int)) (b := 1) (c := (k : Int) + 1) rfl rfl (wr_i64 (by omega) (by omega)) ?_)
          refine RW_op (L_assign (V := .int .i64 ((k : Int) + 1)) rfl ?_)
          refine RW_nil ?_
          refine ⟨_, ?_, _, k + 1, a2, c3, out2, upd_of (upd_of (mix_of (ds := [5, 7, 8, 9, 10, 13, 14, 15, 16, 17, 18, 19, 20, 21, 22, 23, 24, 25, 26, 27, 28, 29, 30, 31, 32, 33, 34, 35, 36, 37, 38, 39, 40, 41]) (by repeat (first | exact Agr.refl _ _ | refine Agr.upd ?_ rfl | refine Agr.mix ?_ rfl))) rfl) rfl, (by omega), (above_next hout2 (by omega)), (by omega), rfl, hs.take 3⟩
          omega
    ·
      replace c8 := of_decide_eq_false c8
      refine W_exit ?_
      refine W_seq ?_
      refine W_region ?_
      refine RW_op (L_move (V := .slice a1 out.length c1) rfl ?_)
      refine RW_op (L_assign (V := .slice a1 out.length c1) rfl ?_)
      refine RW_nil ?_
      refine W_ret ?_
      refine ⟨_, res_one (V := .slice a1 out.length c1) Try.results52 rfl, ?_⟩
      have hk16 : k = 16 := by omega
      subst hk16
      have ho : out = aboveG v l b := hout
      rw [← ho]
      exact ⟨(_, _), rfl, hs.only 2 rfl, trivial⟩
set_option maxRecDepth 20000 in
set_option maxHeartbeats 4000000 in
theorem rLoose_ok (w : World) (v : Vec) (a : Option Addr) (c : Nat) (l : List Dot) (hv : VOk v) (hl : Dots l) (hr : Rd w (.slice a l.length c) 2 (l.map dc)) : Calls Try.prog 26 #[.agg ((vc v) ++ [(.slice a l.length c : Value) ]).toArray] w (fun e w' => ∃ x : Option Addr × Nat, e = .returned (.slice x.1 (aboveG v l true).length x.2) ∧ Own w no w' [row (.slice x.1 (aboveG v l true).length x.2) ((aboveG v l true).map dc) 34 2] ∧ True) := by
  refine calls_of_Wn (n := 5) Try.func26 rfl Try.ntmps26 rfl ?_
  have hs := Own.start w
  refine W_seq ?_
  refine W_region ?_
  refine RW_op (L_box (V := .agg ((vc v) ++ [(.slice a l.length c : Value) ]).toArray) (cs := (vc v) ++ [(.slice a l.length c : Value) ]) rfl rfl hs fun b1 w2 hs => ?_)
  refine RW_op (L_assign (V := .slice none 0 0) rfl ?_)
  refine RW_nil ?_
  refine W_seq ?_
  refine W_region ?_
  refine RW_op (L_ldW (cs := (vc v) ++ [(.slice a l.length c : Value) ]) SA_31 hs 0 rfl rfl rfl ?_)
  refine RW_op (L_callX (vs := [.agg ((vc v) ++ [(.slice a l.length c : Value) ]).toArray, .bool true]) EN_52 rfl rfl (rAbove_ok _ v a c l true (by assumption) (by assumption) (Rd.own' hr hs)) hs fun x4 w3 hs _ => ?_)
  refine RW_op (L_assign (V := .slice x4.1 ((aboveG v l true).length) x4.2) rfl ?_)
  refine RW_nil ?_
  refine W_ret ?_
  refine ⟨_, res_one (V := .slice x4.1 ((aboveG v l true).length) x4.2) Try.results26 rfl, ?_⟩
  exact ⟨(_, _), rfl, hs.only 1 rfl, trivial⟩
set_option maxRecDepth 20000 in
set_option maxHeartbeats 4000000 in
theorem rMissing_ok (w : World) (v : Vec) (a : Option Addr) (c : Nat) (l : List Dot) (hv : VOk v) (hl : Dots l) (hr : Rd w (.slice a l.length c) 2 (l.map dc)) : Calls Try.prog 28 #[.agg ((vc v) ++ [(.slice a l.length c : Value) ]).toArray] w (fun e w' => ∃ x : Option Addr × Nat, e = .returned (.slice x.1 (aboveG v l false).length x.2) ∧ Own w no w' [row (.slice x.1 (aboveG v l false).length x.2) ((aboveG v l false).map dc) 34 2] ∧ True) := by
  refine calls_of_Wn (n := 5) Try.func28 rfl Try.ntmps28 rfl ?_
  have hs := Own.start w
  refine W_seq ?_
  refine W_region ?_
  refine RW_op (L_box (V := .agg ((vc v) ++ [(.slice a l.length c : Value) ]).toArray) (cs := (vc v) ++ [(.slice a l.length c : Value) ]) rfl rfl hs fun b1 w2 hs => ?_)
  refine RW_op (L_assign (V := .slice none 0 0) rfl ?_)
  refine RW_nil ?_
  refine W_seq ?_
  refine W_region ?_
  refine RW_op (L_ldW (cs := (vc v) ++ [(.slice a l.length c : Value) ]) SA_31 hs 0 rfl rfl rfl ?_)
  refine RW_op (L_callX (vs := [.agg ((vc v) ++ [(.slice a l.length c : Value) ]).toArray, .bool false]) EN_52 rfl rfl (rAbove_ok _ v a c l false (by assumption) (by assumption) (Rd.own' hr hs)) hs fun x4 w3 hs _ => ?_)
  refine RW_op (L_assign (V := .slice x4.1 ((aboveG v l false).length) x4.2) rfl ?_)
  refine RW_nil ?_
  refine W_ret ?_
  refine ⟨_, res_one (V := .slice x4.1 ((aboveG v l false).length) x4.2) Try.results28 rfl, ?_⟩
  exact ⟨(_, _), rfl, hs.only 1 rfl, trivial⟩
set_option maxRecDepth 20000 in
set_option maxHeartbeats 4000000 in
theorem rAdd_ok (w : World) (v : Vec) (a : Option Addr) (c : Nat) (l : List Dot) (d : Dot) (hv : VOk v) (hl : Dots l) (hd : DotOk d) (hlen : l.length ≤ 100000) (hr : Rd w (.slice a l.length c) 2 (l.map dc)) : Calls Try.prog 20 #[.agg ((vc v) ++ [(.slice a l.length c : Value) ]).toArray, .agg (dc d).toArray] w (fun e w' => ∃ x : Option Addr × Nat, e = .returned (.tuple #[.agg (vc v ++ [(.slice x.1 (addL v l d).length x.2 : Value)]).toArray, .int .i64 (addE v l d)]) ∧ Own w no w' [onlyIf (decide (addE v l d = 0)) (row (.slice x.1 (addL v l d).length x.2) ((addL v l d).map dc) 34 2)] ∧ (addE v l d ≠ 0 → x = (a, c))) := by
  refine calls_of_Wn (n := 38) Try.func20 rfl Try.ntmps20 rfl ?_
  have hs := Own.start w
  have hn := hr.sml
  have hv0 := hv.ok
  have ⟨⟨hd1, hd2⟩, hd3, hd4⟩ := hd
  refine W_seq ?_
  refine W_region ?_
  refine RW_op (L_box (V := .agg ((vc v) ++ [(.slice a l.length c : Value) ]).toArray) (cs := (vc v) ++ [(.slice a l.length c : Value) ]) rfl rfl hs fun b1 w2 hs => ?_)
  refine RW_op (L_box (V := .agg (dc d).toArray) (cs := dc d) rfl rfl hs fun b3 w4 hs => ?_)
  refine RW_op (L_alloc (cs := (vc vzero) ++ [(.slice none 0 0 : Value) ]) ZV_31 rfl hs fun b5 w6 hs => ?_)
  refine RW_op (L_assign (V := .int .i64 0) rfl ?_)
  refine RW_nil ?_
  refine W_seq ?_
  refine W_block ?_
  refine W_seq ?_
  refine W_region ?_
  refine RW_op (L_ldW (cs := dc d) SA_34 hs 1 rfl rfl rfl ?_)
  refine RW_op (L_callP (vs := [.agg (dc d).toArray]) (V := .bool (dotB d)) EN_46 rfl rfl (rDot_ok _ d) hs fun w7 hs => ?_)
  refine RW_op (L_not rfl ?_)
  refine RW_op (L_assign (V := .bool (!(dotB d))) rfl ?_)
  refine RW_nil ?_
  refine W_cond (t := !(dotB d)) rfl (fun c8 => ?_) (fun c8 => ?_)
  ·
    replace c8 := not_t c8
    refine W_seq ?_
    refine W_region ?_
    refine RW_op (L_ldW (cs := (vc v) ++ [(.slice a l.length c : Value) ]) SA_31 hs 0 rfl rfl rfl ?_)
    refine RW_op (L_st (V := .agg ((vc v) ++ [(.slice a l.length c : Value) ]).toArray) (vs := (vc v) ++ [(.slice a l.length c : Value) ]) (cs' := (vc v) ++ [(.slice a l.length c : Value) ]) SA_31.1 hs 2 rfl rfl rfl rfl rfl (Nat.le_of_ble_eq_true rfl) (one_app (vc_one _) (one_cons rfl one_nil)) (spl_whole rfl) fun w9 hs => ?_)
    refine RW_op (L_assign (V := .int .i64 2) rfl ?_)
    refine RW_nil ?_
    refine W_ret ?_
    refine ⟨_, res_cell2 (cs := (vc v) ++ [(.slice a l.length c : Value) ]) (V := .int .i64 2) Try.results20 SA_31 hs 2 rfl rfl rfl rfl, ?_⟩
    have hE : addE v l d = 2 := by unfold addE; simp_all
    have hL : addL v l d = l := by unfold addL; rw [if_neg (by rw [hE]; decide)]
    refine ⟨(a, c), ?_, ?_, fun _ => rfl⟩
    · rw [hL, hE]
    · rw [hE]; exact (hs.take 0).more emp trivial
  ·
    replace c8 := not_f c8
    refine W_seq ?_
    refine W_region ?_
    refine RW_op (L_ldW (cs := (vc v) ++ [(.slice a l.length c : Value) ]) SA_31 hs 0 rfl rfl rfl ?_)
    refine RW_op (L_ldW (cs := dc d) SA_34 hs 1 rfl rfl rfl ?_)
    refine RW_op (L_callP (vs := [.agg ((vc v) ++ [(.slice a l.length c : Value) ]).toArray, .agg (dc d).toArray]) (V := .bool (hasG v l d)) EN_19 rfl rfl (rGHas_ok _ v a c l d (by first | assumption | exact vzero_ok) (by first | assumption | exact dotOk_mk (by omega) (by omega) (by omega) (by omega)) (Rd.own' hr hs)) hs fun w10 hs => ?_)
    refine RW_op (L_assign (V := .bool (hasG v l d)) rfl ?_)
    refine RW_nil ?_
    refine W_cond (t := hasG v l d) rfl (fun c11 => ?_) (fun c11 => ?_)
    ·
      refine W_seq ?_
      refine W_region ?_
      refine RW_op (L_ldW (cs := (vc v) ++ [(.slice a l.length c : Value) ]) SA_31 hs 0 rfl rfl rfl ?_)
      refine RW_op (L_st (V := .agg ((vc v) ++ [(.slice a l.length c : Value) ]).toArray) (vs := (vc v) ++ [(.slice a l.length c : Value) ]) (cs' := (vc v) ++ [(.slice a l.length c : Value) ]) SA_31.1 hs 2 rfl rfl rfl rfl rfl (Nat.le_of_ble_eq_true rfl) (one_app (vc_one _) (one_cons rfl one_nil)) (spl_whole rfl) fun w12 hs => ?_)
      refine RW_op (L_assign (V := .int .i64 8) rfl ?_)
      refine RW_nil ?_
      refine W_ret ?_
      refine ⟨_, res_cell2 (cs := (vc v) ++ [(.slice a l.length c : Value) ]) (V := .int .i64 8) Try.results20 SA_31 hs 2 rfl rfl rfl rfl, ?_⟩
      have hE : addE v l d = 8 := by unfold addE; simp_all
      have hL : addL v l d = l := by unfold addL; rw [if_neg (by rw [hE]; decide)]
      refine ⟨(a, c), ?_, ?_, fun _ => rfl⟩
      · rw [hL, hE]
      · rw [hE]; exact (hs.take 0).more emp trivial
    ·
      refine W_seq ?_
      have hb := dotB_spec c8
      have hcl := (cloV_ok hv hl).at d.rep.toNat
      replace hs := hs.drew
      refine W_draw2 HM [18, 19, 20, 21, 22, 23, 24, 25, 26, 17] [[], [0], [], [2], [], [4], [3, 5], [6], [1, 7], [8, 3]] (fun D ρ wx => Own w no wx [blk b1 ((vc v) ++ [(.slice a l.length c : Value) ]) 31, blk b3 (dc d) 34, blk b5 ((vc vzero) ++ [(.slice none 0 0 : Value) ]) 31] ∧ (D 0 = true → ρ 18 = .pointer (some ⟨b3, 0 + 1, none⟩)) ∧ (D 1 = true → ρ 19 = .int .u32 d.seq) ∧ (D 2 = true → ρ 20 = .agg ((vc v) ++ [(.slice a l.length c : Value) ]).toArray) ∧ (D 3 = true → ρ 21 = .agg (vc (cloV l v)).toArray) ∧ (D 4 = true → ρ 22 = .pointer (some ⟨b3, 0 + 0, none⟩)) ∧ (D 5 = true → ρ 23 = .int .u8 d.rep) ∧ (D 6 = true → ρ 24 = .int .u32 (vat (cloV l v) d.rep.toNat)) ∧ (D 7 = true → ρ 25 = .int .u32 ((vat (cloV l v) d.rep.toNat) + 256)) ∧ (D 8 = true → ρ 26 = .bool (decide ((vat (cloV l v) d.rep.toNat) + 256 < d.seq))) ∧ (D 9 = true → ρ 17 = .bool (decide ((vat (cloV l v) d.rep.toNat) + 256 < d.seq)))) rfl rfl rfl ⟨hs, fun h => absurd h Bool.false_ne_true, fun h => absurd h Bool.false_ne_true, fun h => absurd h Bool.false_ne_true, fun h => absurd h Bool.false_ne_true, fun h => absurd h Bool.false_ne_true, fun h => absurd h Bool.false_ne_true, fun h => absurd h Bool.false_ne_true, fun h => absurd h Bool.false_ne_true, fun h => absurd h Bool.false_ne_true, fun h => absurd h Bool.false_ne_true⟩ ⟨?_, ?_, ?_, ?_, ?_, ?_, ?_, ?_, ?_, ?_, trivial⟩ ?_
      · rintro D ρ wx hD hd hdc hf ⟨hs, f0, f1, f2, f3, f4, f5, f6, f7, f8, f9⟩
        have r3 : ρ 3 = .pointer (some ⟨b3, 0, none⟩) := outD hf 3 rfl
        exact .inl ⟨rfl, L_fieldAddr FA_34_1 r3 ⟨hs, fun _ => rfl, f1, f2, f3, f4, f5, f6, f7, f8, f9⟩⟩
      · rintro D ρ wx hD hd hdc hf ⟨hs, f0, f1, f2, f3, f4, f5, f6, f7, f8, f9⟩
        have g0 := f0 (doneD hd 0 rfl)
        exact .inl ⟨rfl, L_ld (V := .int .u32 d.seq) S1_22 hs 1 rfl g0 rfl ⟨hs, f0, fun _ => rfl, f2, f3, f4, f5, f6, f7, f8, f9⟩⟩
      · rintro D ρ wx hD hd hdc hf ⟨hs, f0, f1, f2, f3, f4, f5, f6, f7, f8, f9⟩
        have r2 : ρ 2 = .pointer (some ⟨b1, 0, none⟩) := outD hf 2 rfl
        exact .inl ⟨rfl, L_ldW (cs := (vc v) ++ [(.slice a l.length c : Value) ]) SA_31 hs 0 rfl r2 rfl ⟨hs, f0, f1, fun _ => rfl, f3, f4, f5, f6, f7, f8, f9⟩⟩
      · rintro D ρ wx hD hd hdc hf ⟨hs, f0, f1, f2, f3, f4, f5, f6, f7, f8, f9⟩
        have g2 := f2 (doneD hd 2 rfl)
        exact .inl ⟨rfl, L_callP (vs := [.agg ((vc v) ++ [(.slice a l.length c : Value) ]).toArray]) (V := .agg (vc (cloV l v)).toArray) EN_23 rfl (mapc g2 rfl) (rClosed_ok _ v a c l (by assumption) (by assumption) (Rd.own' hr hs)) hs fun _ hs0 => ⟨hs0, f0, f1, f2, fun _ => rfl, f4, f5, f6, f7, f8, f9⟩⟩
      · rintro D ρ wx hD hd hdc hf ⟨hs, f0, f1, f2, f3, f4, f5, f6, f7, f8, f9⟩
        have r3 : ρ 3 = .pointer (some ⟨b3, 0, none⟩) := outD hf 3 rfl
        exact .inl ⟨rfl, L_fieldAddr FA_34_0 r3 ⟨hs, f0, f1, f2, f3, fun _ => rfl, f5, f6, f7, f8, f9⟩⟩
      · rintro D ρ wx hD hd hdc hf ⟨hs, f0, f1, f2, f3, f4, f5, f6, f7, f8, f9⟩
        have g4 := f4 (doneD hd 4 rfl)
        exact .inl ⟨rfl, L_ld (V := .int .u8 d.rep) S1_5 hs 1 rfl g4 rfl ⟨hs, f0, f1, f2, f3, f4, fun _ => rfl, f6, f7, f8, f9⟩⟩
      · rintro D ρ wx hD hd hdc hf ⟨hs, f0, f1, f2, f3, f4, f5, f6, f7, f8, f9⟩
        have g3 := f3 (doneD hd 3 rfl)
        have g5 := f5 (doneD hd 5 rfl)
        exact .inl ⟨rfl, L_index (V := .int .u32 (vat (cloV l v) d.rep.toNat)) UD_24 S1_22 g3 g5 (by omega) (by omega) (by rw [List.getElem?_toArray]; exact vc_at _ _ (by omega)) ⟨hs, f0, f1, f2, f3, f4, f5, fun _ => rfl, f7, f8, f9⟩⟩
      · rintro D ρ wx hD hd hdc hf ⟨hs, f0, f1, f2, f3, f4, f5, f6, f7, f8, f9⟩
        have g6 := f6 (doneD hd 6 rfl)
        exact .inl ⟨rfl, L_add (a := vat (cloV l v) d.rep.toNat) (b := 256) (c := (vat (cloV l v) d.rep.toNat) + 256) g6 rfl (wr_u32 (by omega) (by omega)) ⟨hs, f0, f1, f2, f3, f4, f5, f6, fun _ => rfl, f8, f9⟩⟩
      · rintro D ρ wx hD hd hdc hf ⟨hs, f0, f1, f2, f3, f4, f5, f6, f7, f8, f9⟩
        have g1 := f1 (doneD hd 1 rfl)
        have g7 := f7 (doneD hd 7 rfl)
        exact .inl ⟨rfl, L_gtr g1 g7 ⟨hs, f0, f1, f2, f3, f4, f5, f6, f7, fun _ => rfl, f9⟩⟩
      · rintro D ρ wx hD hd hdc hf ⟨hs, f0, f1, f2, f3, f4, f5, f6, f7, f8, f9⟩
        have g8 := f8 (doneD hd 8 rfl)
        exact .inl ⟨rfl, L_assign (V := .bool (decide ((vat (cloV l v) d.rep.toNat) + 256 < d.seq))) g8 ⟨hs, f0, f1, f2, f3, f4, f5, f6, f7, f8, fun _ => rfl⟩⟩
      · rintro ρ1 w1 D hD hf ⟨hs, f0, f1, f2, f3, f4, f5, f6, f7, f8, f9⟩
        have e9 := f9 (hD 9 rfl)
        clear f0 f1 f2 f3 f4 f5 f6 f7 f8 f9
        obtain ⟨ρ2, hρ⟩ : ∃ ρ2, ρ1 = upd (mix [18, 19, 20, 21, 22, 23, 24, 25, 26, 17] ρ2 _) 17 (.bool (decide ((vat (cloV l v) d.rep.toNat) + 256 < d.seq))) := ⟨ρ1, upd_of (mix_of (ds := [18, 19, 20, 21, 22, 23, 24, 25, 26, 17]) hf) e9⟩
        clear hf hD e9
        subst hρ
        refine W_cond (t := decide ((vat (cloV l v) d.rep.toNat) + 256 < d.seq)) rfl (fun c15 => ?_) (fun c15 => ?_)
        ·
          replace c15 := of_decide_eq_true c15
          refine W_seq ?_
          refine W_region ?_
          refine RW_op (L_ldW (cs := (vc v) ++ [(.slice a l.length c : Value) ]) SA_31 hs 0 rfl rfl rfl ?_)
          refine RW_op (L_st (V := .agg ((vc v) ++ [(.slice a l.length c : Value) ]).toArray) (vs := (vc v) ++ [(.slice a l.length c : Value) ]) (cs' := (vc v) ++ [(.slice a l.length c : Value) ]) SA_31.1 hs 2 rfl rfl rfl rfl rfl (Nat.le_of_ble_eq_true rfl) (one_app (vc_one _) (one_cons rfl one_nil)) (spl_whole rfl) fun w16 hs => ?_)
          refine RW_op (L_assign (V := .int .i64 10) rfl ?_)
          refine RW_nil ?_
          refine W_ret ?_
          refine ⟨_, res_cell2 (cs := (vc v) ++ [(.slice a l.length c : Value) ]) (V := .int .i64 10) Try.results20 SA_31 hs 2 rfl rfl rfl rfl, ?_⟩
          have hE : addE v l d = 10 := by unfold addE; simp_all
          have hL : addL v l d = l := by unfold addL; rw [if_neg (by rw [hE]; decide)]
          refine ⟨(a, c), ?_, ?_, fun _ => rfl⟩
          · rw [hL, hE]
          · rw [hE]; exact (hs.take 0).more emp trivial
        ·
          replace c15 := of_decide_eq_false c15
          refine W_skip ?_
          refine W_seq ?_
          refine W_region ?_
          refine RW_op (L_bs (vals := []) (ls := List.map dc ([] : List Dot)) EL_25 rfl rfl rfl (len_map (enc := dc) (fun _ => rfl) _) (one_map dc_one _) (Nat.le_of_ble_eq_true rfl) hs fun b17 w18 hs => ?_)
          refine RW_op (L_fieldAddr FA_31_1 rfl ?_)
          refine RW_op (L_ld (V := .slice a l.length c) S1_25 hs 0 rfl rfl rfl ?_)
          refine RW_op (L_appN (ls' := l.map dc) (n := l.length) EL_25 hs 3 rfl rfl rfl (Rd.own' hr hs) (one_map dc_one _) (by simp only [List.length_map, List.length_append, List.length_cons, List.length_nil]; omega) (by simp) (by simp) fun a19 c19 w20 hs => ?_)
          refine RW_op (L_assign (V := .slice a19 l.length c19) rfl ?_)
          refine RW_nil ?_
          refine W_seq ?_
          refine W_region ?_
          refine RW_op (L_move (V := .slice a19 l.length c19) rfl ?_)
          refine RW_op (L_ldW (cs := dc d) SA_34 hs 1 rfl rfl rfl ?_)
          refine RW_op (L_bs (vals := [.agg (dc d).toArray]) (ls := List.map dc ([d] : List Dot)) EL_25 rfl rfl rfl (len_map (enc := dc) (fun _ => rfl) _) (one_map dc_one _) (Nat.le_of_ble_eq_true rfl) hs fun b21 w22 hs => ?_)
          refine RW_op (L_appN (ls' := (l ++ [d]).map dc) (n := (l ++ [d]).length) EL_25 hs 3 rfl rfl rfl (hs.rd 4 rfl) (one_map dc_one _) (by simp only [List.length_map, List.length_append, List.length_cons, List.length_nil]; omega) (by simp) (by simp) fun a23 c23 w24 hs => ?_)
          refine RW_op (L_fieldAddr FA_31_1 rfl ?_)
          refine RW_op (L_st1 (V := .slice a23 ((l ++ [d]).length) c23) (cs' := (vc v) ++ [(.slice a23 ((l ++ [d]).length) c23 : Value) ]) S1_25 hs 0 rfl rfl rfl rfl (Nat.le_of_ble_eq_true rfl) rfl fun w25 hs => ?_)
          refine RW_nil ?_
          refine W_seq ?_
          refine W_region ?_
          refine RW_op (L_ldW (cs := (vc v) ++ [(.slice a23 ((l ++ [d]).length) c23 : Value) ]) SA_31 hs 0 rfl rfl rfl ?_)
          refine RW_op (L_st (V := .agg ((vc v) ++ [(.slice a23 ((l ++ [d]).length) c23 : Value) ]).toArray) (vs := (vc v) ++ [(.slice a23 ((l ++ [d]).length) c23 : Value) ]) (cs' := (vc v) ++ [(.slice a23 ((l ++ [d]).length) c23 : Value) ]) SA_31.1 hs 2 rfl rfl rfl rfl rfl (Nat.le_of_ble_eq_true rfl) (one_app (vc_one _) (one_cons rfl one_nil)) (spl_whole rfl) fun w26 hs => ?_)
          refine RW_op (L_assign (V := .int .i64 0) rfl ?_)
          refine RW_nil ?_
          refine W_ret ?_
          refine ⟨_, res_cell2 (cs := (vc v) ++ [(.slice a23 ((l ++ [d]).length) c23 : Value) ]) (V := .int .i64 0) Try.results20 SA_31 hs 2 rfl rfl rfl rfl, ?_⟩
          have hE : addE v l d = 0 := by unfold addE; simp_all
          have hL : addL v l d = l ++ [d] := by unfold addL; rw [if_pos hE]
          refine ⟨(a23, c23), ?_, ?_, fun h => absurd hE h⟩
          · rw [hL, hE]
          · rw [hL, hE]; exact hs.only 3 rfl
end Tt
end Go.Proofs
