/- A part of a proof: what functions of the program compute, and plain facts on that. -/
import Derived.Test.YtnanhhiofnohbaaVtA
namespace Go.Proofs
open Go Go.Vx Go.RowKit
namespace Tt
theorem EN_44 : En Try.prog 44 := Try.call44
theorem FA_52_0 : FA Try.prog 52 0 0 := fun b o w => by simp [Instr.fieldAt, Instr.sureAddr, fieldPlace, add_eq]
theorem FA_52_1 : FA Try.prog 52 1 16 := fun b o w => by simp [Instr.fieldAt, Instr.sureAddr, fieldPlace, add_eq]
set_option maxRecDepth 20000 in
theorem KO_34 : KeyOk Try.prog 34 dv := KeyOk_dot Try.underlying34 (by decide) (by decide) rfl rfl ⟨Try.sizeOf5, Try.isAgg5⟩ ⟨Try.sizeOf22, Try.isAgg22⟩ Try.runUnderlying5 Try.runUnderlying22 EQ_34
theorem S1_50 : T1 Try.prog 50 := ⟨Try.sizeOf50, Try.isAgg50⟩
theorem SA_79 : TA Try.prog 79 0 := ⟨Try.sizeOf79, Try.isAgg79⟩
theorem UD_27 : Ud Try.prog 27 (.pointer 52) := Try.runUnderlying27
theorem UD_50 : Ud Try.prog 50 (.map 34 79) := Try.runUnderlying50
theorem ZV_79 : Zv Try.prog 79 (.agg #[]) := Try.zeroValue79
set_option maxRecDepth 20000 in
set_option maxHeartbeats 4000000 in
theorem gGood_ok (w : World) (b r : Nat) (g : Grp) (hc : CellsF w b (gcs r g)) (hm : MapF w r dv uv g.l) : Calls Try.prog 44 #[.pointer (some ⟨b, 0, none⟩)] w (fun e w' => e = .returned (.bool true) ∧ Own w no w' []) := by
  refine calls_of_Wn (n := 12) Try.func44 rfl Try.ntmps44 rfl ?_
  have hs := Own.start w
  refine W_seq ?_
  refine W_region ?_
  refine RW_op (L_assign (V := .bool false) rfl ?_)
  refine RW_nil ?_
  refine W_seq ?_
  refine W_inv2 [3, 4, 5, 6, 7, 8, 9, 10, 11, 2] [[], [0], [1], [2], [3, 2], [4, 2], [5, 2], [6, 2], [2, 7], [8, 2, 0, 1, 2, 3, 4, 5, 6, 7, 8]] (fun D ρ wx => Own w no wx [] ∧ (D 0 = true → ρ 3 = .pointer (some ⟨b, 0, none⟩)) ∧ (D 1 = true → ρ 4 = .bool true) ∧ (D 2 = true → ρ 5 = .bool true) ∧ (D 3 = true → ρ 6 = .pointer (some ⟨b, 0, none⟩)) ∧ (D 4 = true → ρ 7 = .pointer (some ⟨b, 0, none⟩)) ∧ (D 5 = true → ρ 8 = .pointer (some ⟨b, 0 + 16, none⟩)) ∧ (D 6 = true → ρ 9 = .map (some r)) ∧ (D 7 = true → ρ 10 = .bool true) ∧ (D 8 = true → ρ 11 = .bool true) ∧ (D 9 = true → ρ 2 = .bool true)) rfl rfl rfl ⟨hs, fun h => absurd h Bool.false_ne_true, fun h => absurd h Bool.false_ne_true, fun h => absurd h Bool.false_ne_true, fun h => absurd h Bool.false_ne_true, fun h => absurd h Bool.false_ne_true, fun h => absurd h Bool.false_ne_true, fun h => absurd h Bool.false_ne_true, fun h => absurd h Bool.false_ne_true, fun h => absurd h Bool.false_ne_true, fun h => absurd h Bool.false_ne_true⟩ ⟨?_, ?_, ?_, ?_, ?_, ?_, ?_, ?_, ?_, ?_, trivial⟩ ?_
  · rintro D ρ wx hD hd hdc hf ⟨hs, f0, f1, f2, f3, f4, f5, f6, f7, f8, f9⟩
    have r0 : ρ 0 = .pointer (some ⟨b, 0, none⟩) := outD hf 0 rfl
    exact .inl ⟨rfl, L_move (V := .pointer (some ⟨b, 0, none⟩)) r0 ⟨hs, fun _ => rfl, f1, f2, f3, f4, f5, f6, f7, f8, f9⟩⟩
  · rintro D ρ wx hD hd hdc hf ⟨hs, f0, f1, f2, f3, f4, f5, f6, f7, f8, f9⟩
    have g0 := f0 (doneD hd 0 rfl)
    exact .inl ⟨rfl, L_ptrnn UD_27 g0 rfl ⟨hs, f0, fun _ => rfl, f2, f3, f4, f5, f6, f7, f8, f9⟩⟩
  · rintro D ρ wx hD hd hdc hf ⟨hs, f0, f1, f2, f3, f4, f5, f6, f7, f8, f9⟩
    have g1 := f1 (doneD hd 1 rfl)
    exact .inl ⟨rfl, L_move (V := .bool true) g1 ⟨hs, f0, f1, fun _ => rfl, f3, f4, f5, f6, f7, f8, f9⟩⟩
  · rintro D ρ wx hD hd hdc hf ⟨hs, f0, f1, f2, f3, f4, f5, f6, f7, f8, f9⟩
    have r0 : ρ 0 = .pointer (some ⟨b, 0, none⟩) := outD hf 0 rfl
    exact .inl ⟨(Eq.trans (wantG1 (j := 2) rfl (f2 (doneD hd 2 rfl))) rfl), L_move (V := .pointer (some ⟨b, 0, none⟩)) r0 ⟨hs, f0, f1, f2, fun _ => rfl, f4, f5, f6, f7, f8, f9⟩⟩
  · rintro D ρ wx hD hd hdc hf ⟨hs, f0, f1, f2, f3, f4, f5, f6, f7, f8, f9⟩
    have g3 := f3 (doneD hd 3 rfl)
    exact .inl ⟨(Eq.trans (wantG1 (j := 2) rfl (f2 (doneD hd 2 rfl))) rfl), L_nilCheck g3 ⟨hs, f0, f1, f2, f3, fun _ => rfl, f5, f6, f7, f8, f9⟩⟩
  · rintro D ρ wx hD hd hdc hf ⟨hs, f0, f1, f2, f3, f4, f5, f6, f7, f8, f9⟩
    have g4 := f4 (doneD hd 4 rfl)
    exact .inl ⟨(Eq.trans (wantG1 (j := 2) rfl (f2 (doneD hd 2 rfl))) rfl), L_fieldAddr FA_52_1 g4 ⟨hs, f0, f1, f2, f3, f4, fun _ => rfl, f6, f7, f8, f9⟩⟩
  · rintro D ρ wx hD hd hdc hf ⟨hs, f0, f1, f2, f3, f4, f5, f6, f7, f8, f9⟩
    have g5 := f5 (doneD hd 5 rfl)
    exact .inl ⟨(Eq.trans (wantG1 (j := 2) rfl (f2 (doneD hd 2 rfl))) rfl), L_ldF (V := .map (some r)) S1_50 (hc.own' hs) g5 rfl ⟨hs, f0, f1, f2, f3, f4, f5, fun _ => rfl, f7, f8, f9⟩⟩
  · rintro D ρ wx hD hd hdc hf ⟨hs, f0, f1, f2, f3, f4, f5, f6, f7, f8, f9⟩
    have g6 := f6 (doneD hd 6 rfl)
    exact .inl ⟨(Eq.trans (wantG1 (j := 2) rfl (f2 (doneD hd 2 rfl))) rfl), L_mapnn UD_50 g6 rfl ⟨hs, f0, f1, f2, f3, f4, f5, f6, fun _ => rfl, f8, f9⟩⟩
  · rintro D ρ wx hD hd hdc hf ⟨hs, f0, f1, f2, f3, f4, f5, f6, f7, f8, f9⟩
    have g2 := f2 (doneD hd 2 rfl)
    have g7 := f7 (doneD hd 7 rfl)
    exact .inl ⟨rfl, L_pick (V := .bool true) g2 g7 ⟨hs, f0, f1, f2, f3, f4, f5, f6, f7, fun _ => rfl, f9⟩⟩
  · rintro D ρ wx hD hd hdc hf ⟨hs, f0, f1, f2, f3, f4, f5, f6, f7, f8, f9⟩
    have g8 := f8 (doneD hd 8 rfl)
    exact .inl ⟨rfl, L_assign (V := .bool true) g8 ⟨hs, f0, f1, f2, f3, f4, f5, f6, f7, f8, fun _ => rfl⟩⟩
  · rintro ρ1 w1 D hD hf ⟨hs, f0, f1, f2, f3, f4, f5, f6, f7, f8, f9⟩
    have e9 := f9 (hD 9 rfl)
    clear f0 f1 f2 f3 f4 f5 f6 f7 f8 f9
    obtain ⟨ρ2, hρ⟩ : ∃ ρ2, ρ1 = upd (mix [3, 4, 5, 6, 7, 8, 9, 10, 11, 2] ρ2 _) 2 (.bool true) := ⟨ρ1, upd_of (mix_of (ds := [3, 4, 5, 6, 7, 8, 9, 10, 11, 2]) hf) e9⟩
    clear hf hD e9
    subst hρ
    refine W_ret ?_
    refine ⟨_, res_one (V := .bool true) Try.results44 rfl, ?_⟩
    refine ⟨congrArg Ending.returned ?_, hs.take 0⟩
    rfl
set_option maxRecDepth 20000 in
set_option maxHeartbeats 4000000 in
theorem gHas_ok (w : World) (b r : Nat) (g : Grp) (d : Dot) (hd : DotOk d) (hc : CellsF w b (gcs r g)) (hm : MapF w r dv uv g.l) : Calls Try.prog 18 #[.pointer (some ⟨b, 0, none⟩), .agg (dc d).toArray] w (fun e w' => e = .returned (.bool (gHas g d)) ∧ Own w no w' []) := by
  refine calls_of_Wn (n := 28) Try.func18 rfl Try.ntmps18 rfl ?_
  have hs := Own.start w
  refine W_seq ?_
  refine W_region ?_
  refine RW_op (L_box (V := .agg (dc d).toArray) (cs := dc d) rfl rfl hs fun b1 w2 hs => ?_)
  refine RW_op (L_assign (V := .bool false) rfl ?_)
  refine RW_nil ?_
  refine W_seq ?_
  refine W_seq ?_
  refine W_region ?_
  refine RW_op (L_move (V := .pointer (some ⟨b, 0, none⟩)) rfl ?_)
  refine RW_op (L_callP (vs := [.pointer (some ⟨b, 0, none⟩)]) (V := .bool true) EN_44 rfl rfl (gGood_ok _ b r g  (hc.own' hs) (MapF.own' hm hs)) hs fun w3 hs => ?_)
  refine RW_op (L_not rfl ?_)
  refine RW_nil ?_
  refine W_condF rfl ?_
  refine W_skip ?_
  refine W_seq ?_
  replace hs := hs.more emp trivial
  replace hs := hs.drew
  refine W_draw2 HM [11, 12, 13, 14, 15, 16, 10, 17, 18, 5, 6] [[], [0], [1], [2], [], [3, 4], [5], [6], [6], [], [9, 7, 0, 1, 2, 3, 4, 5, 6, 7, 9], [8, 10, 0, 1, 2, 3, 4, 5, 6, 7, 8, 9, 10]] (fun D ρ wx => Own w no wx [blk b1 (dc d) 34, cond (D 10) (blk (bOf (ρ 5)) [] 79) (cond (D 9) (blk (bOf (ρ 5)) [] 79) (emp))] ∧ (D 0 = true → ρ 11 = .pointer (some ⟨b, 0, none⟩)) ∧ (D 1 = true → ρ 12 = .pointer (some ⟨b, 0, none⟩)) ∧ (D 2 = true → ρ 13 = .pointer (some ⟨b, 0 + 16, none⟩)) ∧ (D 3 = true → ρ 14 = .map (some r)) ∧ (D 4 = true → ρ 15 = .agg (dc d).toArray) ∧ (D 5 = true → ρ 16 = .tuple #[.agg #[], .bool ((mget d g.l).isSome)]) ∧ (D 6 = true → ρ 10 = .tuple #[.agg #[], .bool ((mget d g.l).isSome)]) ∧ (D 7 = true → ρ 17 = .agg #[]) ∧ (D 8 = true → ρ 18 = .bool ((mget d g.l).isSome)) ∧ (D 9 = true → ρ 5 = .pointer (some ⟨(bOf (ρ 5)), 0, none⟩)) ∧ (True) ∧ (D 11 = true → ρ 6 = .bool ((mget d g.l).isSome))) rfl rfl rfl ⟨hs, fun h => absurd h Bool.false_ne_true, fun h => absurd h Bool.false_ne_true, fun h => absurd h Bool.false_ne_true, fun h => absurd h Bool.false_ne_true, fun h => absurd h Bool.false_ne_true, fun h => absurd h Bool.false_ne_true, fun h => absurd h Bool.false_ne_true, fun h => absurd h Bool.false_ne_true, fun h => absurd h Bool.false_ne_true, fun h => absurd h Bool.false_ne_true, trivial, fun h => absurd h Bool.false_ne_true⟩ ⟨?_, ?_, ?_, ?_, ?_, ?_, ?_, ?_, ?_, ?_, ?_, ?_, trivial⟩ ?_
  · rintro D ρ wx hD hd hdc hf ⟨hs, f0, f1, f2, f3, f4, f5, f6, f7, f8, f9, f10, f11⟩
    have r0 : ρ 0 = .pointer (some ⟨b, 0, none⟩) := outD hf 0 rfl
    exact .inl ⟨rfl, L_move (V := .pointer (some ⟨b, 0, none⟩)) r0 ⟨hs, fun _ => rfl, f1, f2, f3, f4, f5, f6, f7, f8, f9, f10, f11⟩⟩
  · rintro D ρ wx hD hd hdc hf ⟨hs, f0, f1, f2, f3, f4, f5, f6, f7, f8, f9, f10, f11⟩
    have g0 := f0 (doneD hd 0 rfl)
    exact .inl ⟨rfl, L_nilCheck g0 ⟨hs, f0, fun _ => rfl, f2, f3, f4, f5, f6, f7, f8, f9, f10, f11⟩⟩
  · rintro D ρ wx hD hd hdc hf ⟨hs, f0, f1, f2, f3, f4, f5, f6, f7, f8, f9, f10, f11⟩
    have g1 := f1 (doneD hd 1 rfl)
    exact .inl ⟨rfl, L_fieldAddr FA_52_1 g1 ⟨hs, f0, f1, fun _ => rfl, f3, f4, f5, f6, f7, f8, f9, f10, f11⟩⟩
  · rintro D ρ wx hD hd hdc hf ⟨hs, f0, f1, f2, f3, f4, f5, f6, f7, f8, f9, f10, f11⟩
    have g2 := f2 (doneD hd 2 rfl)
    exact .inl ⟨rfl, L_ldF (V := .map (some r)) S1_50 (hc.own' hs) g2 rfl ⟨hs, f0, f1, f2, fun _ => rfl, f4, f5, f6, f7, f8, f9, f10, f11⟩⟩
  · rintro D ρ wx hD hd hdc hf ⟨hs, f0, f1, f2, f3, f4, f5, f6, f7, f8, f9, f10, f11⟩
    have r3 : ρ 3 = .pointer (some ⟨b1, 0, none⟩) := outD hf 3 rfl
    exact .inl ⟨rfl, L_ldW (cs := dc d) SA_34 hs 0 rfl r3 rfl ⟨hs, f0, f1, f2, f3, fun _ => rfl, f5, f6, f7, f8, f9, f10, f11⟩⟩
  · rintro D ρ wx hD hd hdc hf ⟨hs, f0, f1, f2, f3, f4, f5, f6, f7, f8, f9, f10, f11⟩
    have g3 := f3 (doneD hd 3 rfl)
    have g4 := f4 (doneD hd 4 rfl)
    exact .inl ⟨rfl, L_lookupOkU (k := d) UD_50 KO_34 ZV_79 (MapF.own hm hs (fun h => h)) g3 g4 ⟨hs, f0, f1, f2, f3, f4, fun _ => rfl, f6, f7, f8, f9, f10, f11⟩⟩
  · rintro D ρ wx hD hd hdc hf ⟨hs, f0, f1, f2, f3, f4, f5, f6, f7, f8, f9, f10, f11⟩
    have g5 := f5 (doneD hd 5 rfl)
    exact .inl ⟨rfl, L_move (V := .tuple #[.agg #[], .bool ((mget d g.l).isSome)]) g5 ⟨hs, f0, f1, f2, f3, f4, f5, fun _ => rfl, f7, f8, f9, f10, f11⟩⟩
  · rintro D ρ wx hD hd hdc hf ⟨hs, f0, f1, f2, f3, f4, f5, f6, f7, f8, f9, f10, f11⟩
    have g6 := f6 (doneD hd 6 rfl)
    exact .inl ⟨rfl, L_extract (V := .agg #[]) g6 rfl ⟨hs, f0, f1, f2, f3, f4, f5, f6, fun _ => rfl, f8, f9, f10, f11⟩⟩
  · rintro D ρ wx hD hd hdc hf ⟨hs, f0, f1, f2, f3, f4, f5, f6, f7, f8, f9, f10, f11⟩
    have g6 := f6 (doneD hd 6 rfl)
    exact .inl ⟨rfl, L_extract (V := .bool ((mget d g.l).isSome)) g6 rfl ⟨hs, f0, f1, f2, f3, f4, f5, f6, f7, fun _ => rfl, f9, f10, f11⟩⟩
  · rintro D ρ wx hD hd hdc hf ⟨hs, f0, f1, f2, f3, f4, f5, f6, f7, f8, f9, f10, f11⟩
    refine .inl ⟨rfl, L_alloc (cs := []) ZV_79 rfl hs fun b _ hs0 => ⟨?_, f0, f1, f2, f3, f4, f5, f6, f7, f8, fun _ => rfl, f10, f11⟩⟩
    have d10 : D 10 = false := (notYetD hdc (j := 10) rfl rfl hD)
    rw [show Go.Vx.mark D 9 10 = false from d10]
    exact hs0.put 1 (Nat.le_of_ble_eq_true rfl)
  · rintro D ρ wx hD hd hdc hf ⟨hs, f0, f1, f2, f3, f4, f5, f6, f7, f8, f9, f10, f11⟩
    have g7 := f7 (doneD hd 7 rfl)
    have g9 := f9 (doneD hd 9 rfl)
    have d9 : D 9 = true := doneD hd 9 rfl
    have d10 : D 10 = false := hD
    have hs0 := hs; rw [d9, d10] at hs0
    refine .inl ⟨rfl, L_st (V := .agg #[]) (vs := []) (cs' := []) SA_79.1 hs0 1 rfl g9 g7 rfl rfl (Nat.le_of_ble_eq_true rfl) one_nil (spl_whole rfl) fun _ hs0 => ⟨?_, f0, f1, f2, f3, f4, f5, f6, f7, f8, f9, trivial, f11⟩⟩
    rw [show Go.Vx.mark D 10 9 = true from d9]
    exact hs0
  · rintro D ρ wx hD hd hdc hf ⟨hs, f0, f1, f2, f3, f4, f5, f6, f7, f8, f9, f10, f11⟩
    have g8 := f8 (doneD hd 8 rfl)
    exact .inl ⟨rfl, L_assign (V := .bool ((mget d g.l).isSome)) g8 ⟨hs, f0, f1, f2, f3, f4, f5, f6, f7, f8, f9, f10, fun _ => rfl⟩⟩
  · rintro ρ1 w1 D hD hf ⟨hs, f0, f1, f2, f3, f4, f5, f6, f7, f8, f9, f10, f11⟩
    rw [hD 9 rfl, hD 10 rfl] at hs
    have e11 := f11 (hD 11 rfl)
    clear f0 f1 f2 f3 f4 f5 f6 f7 f8 f9 f10 f11
    obtain ⟨b6, hb6⟩ : ∃ b, bOf (ρ1 5) = b := ⟨_, rfl⟩
    try rw [hb6] at hs
    obtain ⟨ρ2, hρ⟩ : ∃ ρ2, ρ1 = upd (mix [11, 12, 13, 14, 15, 16, 10, 17, 18, 5, 6] ρ2 _) 6 (.bool ((mget d g.l).isSome)) := ⟨ρ1, upd_of (mix_of (ds := [11, 12, 13, 14, 15, 16, 10, 17, 18, 5, 6]) hf) e11⟩
    clear hf hD e11
    subst hρ
    refine W_seq ?_
    replace hs := hs.drew
    refine W_draw2 HM [19, 20, 21, 22, 23, 24, 25, 26, 27, 4] [[], [0], [1], [2, 1], [3, 1], [4, 1], [1], [5, 6, 1, 1], [1, 7], [8, 7, 0, 1, 2, 3, 4, 5, 6, 7, 8]] (fun D ρ wx => Own w no wx [blk b1 (dc d) 34, blk b6 [] 79] ∧ (D 0 = true → ρ 19 = .bool ((mget d g.l).isSome)) ∧ (D 1 = true → ρ 20 = .bool ((mget d g.l).isSome)) ∧ (D 2 = true → ρ 21 = cond (((mget d g.l).isSome) == false) (.pointer (some ⟨b, 0, none⟩)) undef) ∧ (D 3 = true → ρ 22 = cond (((mget d g.l).isSome) == false) (.pointer (some ⟨b, 0, none⟩)) undef) ∧ (D 4 = true → ρ 23 = cond (((mget d g.l).isSome) == false) (.pointer (some ⟨b, 0 + 0, none⟩)) undef) ∧ (D 5 = true → ρ 24 = cond (((mget d g.l).isSome) == false) (.agg (vc g.v).toArray) undef) ∧ (D 6 = true → ρ 25 = cond (((mget d g.l).isSome) == false) (.agg (dc d).toArray) undef) ∧ (D 7 = true → ρ 26 = cond (((mget d g.l).isSome) == false) (.bool (hasB g.v d)) undef) ∧ (D 8 = true → ρ 27 = .bool (((mget d g.l).isSome) || (hasB g.v d))) ∧ (D 9 = true → ρ 4 = .bool (((mget d g.l).isSome) || (hasB g.v d)))) rfl rfl rfl ⟨hs, fun h => absurd h Bool.false_ne_true, fun h => absurd h Bool.false_ne_true, fun h => absurd h Bool.false_ne_true, fun h => absurd h Bool.false_ne_true, fun h => absurd h Bool.false_ne_true, fun h => absurd h Bool.false_ne_true, fun h => absurd h Bool.false_ne_true, fun h => absurd h Bool.false_ne_true, fun h => absurd h Bool.false_ne_true, fun h => absurd h Bool.false_ne_true⟩ ⟨?_, ?_, ?_, ?_, ?_, ?_, ?_, ?_, ?_, ?_, trivial⟩ ?_
    · rintro D ρ wx hD hd hdc hf ⟨hs, f0, f1, f2, f3, f4, f5, f6, f7, f8, f9⟩
      have r6 : ρ 6 = .bool ((mget d g.l).isSome) := outD hf 6 rfl
      exact .inl ⟨rfl, L_move (V := .bool ((mget d g.l).isSome)) r6 ⟨hs, fun _ => rfl, f1, f2, f3, f4, f5, f6, f7, f8, f9⟩⟩
    · rintro D ρ wx hD hd hdc hf ⟨hs, f0, f1, f2, f3, f4, f5, f6, f7, f8, f9⟩
      have g0 := f0 (doneD hd 0 rfl)
      exact .inl ⟨rfl, L_move (V := .bool ((mget d g.l).isSome)) g0 ⟨hs, f0, fun _ => rfl, f2, f3, f4, f5, f6, f7, f8, f9⟩⟩
    · rintro D ρ wx hD hd hdc hf ⟨hs, f0, f1, f2, f3, f4, f5, f6, f7, f8, f9⟩
      have r0 : ρ 0 = .pointer (some ⟨b, 0, none⟩) := outD hf 0 rfl
      rcases Bool.eq_false_or_eq_true (((mget d g.l).isSome) == false) with hG | hG
      rotate_left
      · exact .inr ⟨(Eq.trans (wantG1 (j := 1) rfl (f1 (doneD hd 1 rfl))) hG), ⟨hs, f0, f1, fun _ => (condF hG).symm, f3, f4, f5, f6, f7, f8, f9⟩⟩
      ·
        exact .inl ⟨(Eq.trans (wantG1 (j := 1) rfl (f1 (doneD hd 1 rfl))) hG), L_move (V := .pointer (some ⟨b, 0, none⟩)) r0 ⟨hs, f0, f1, fun _ => (condT hG).symm, f3, f4, f5, f6, f7, f8, f9⟩⟩
    · rintro D ρ wx hD hd hdc hf ⟨hs, f0, f1, f2, f3, f4, f5, f6, f7, f8, f9⟩
      have g2 := f2 (doneD hd 2 rfl)
      rcases Bool.eq_false_or_eq_true (((mget d g.l).isSome) == false) with hG | hG
      rotate_left
      · exact .inr ⟨(Eq.trans (wantG1 (j := 1) rfl (f1 (doneD hd 1 rfl))) hG), ⟨hs, f0, f1, f2, fun _ => (condF hG).symm, f4, f5, f6, f7, f8, f9⟩⟩
      ·
        exact .inl ⟨(Eq.trans (wantG1 (j := 1) rfl (f1 (doneD hd 1 rfl))) hG), L_nilCheck ((g2).trans (condT (by exact hG))) ⟨hs, f0, f1, f2, fun _ => (condT hG).symm, f4, f5, f6, f7, f8, f9⟩⟩
    · rintro D ρ wx hD hd hdc hf ⟨hs, f0, f1, f2, f3, f4, f5, f6, f7, f8, f9⟩
      have g3 := f3 (doneD hd 3 rfl)
      rcases Bool.eq_false_or_eq_true (((mget d g.l).isSome) == false) with hG | hG
      rotate_left
      · exact .inr ⟨(Eq.trans (wantG1 (j := 1) rfl (f1 (doneD hd 1 rfl))) hG), ⟨hs, f0, f1, f2, f3, fun _ => (condF hG).symm, f5, f6, f7, f8, f9⟩⟩
      ·
        exact .inl ⟨(Eq.trans (wantG1 (j := 1) rfl (f1 (doneD hd 1 rfl))) hG), L_fieldAddr FA_52_0 ((g3).trans (condT (by exact hG))) ⟨hs, f0, f1, f2, f3, fun _ => (condT hG).symm, f5, f6, f7, f8, f9⟩⟩
    · rintro D ρ wx hD hd hdc hf ⟨hs, f0, f1, f2, f3, f4, f5, f6, f7, f8, f9⟩
      have g4 := f4 (doneD hd 4 rfl)
      rcases Bool.eq_false_or_eq_true (((mget d g.l).isSome) == false) with hG | hG
      rotate_left
      · exact .inr ⟨(Eq.trans (wantG1 (j := 1) rfl (f1 (doneD hd 1 rfl))) hG), ⟨hs, f0, f1, f2, f3, f4, fun _ => (condF hG).symm, f6, f7, f8, f9⟩⟩
      ·
        exact .inl ⟨(Eq.trans (wantG1 (j := 1) rfl (f1 (doneD hd 1 rfl))) hG), L_ldFA (vs := vc g.v) SA_24 (hc.own' hs) ((g4).trans (condT (by exact hG))) rfl rfl ⟨hs, f0, f1, f2, f3, f4, fun _ => (condT hG).symm, f6, f7, f8, f9⟩⟩
    · rintro D ρ wx hD hd hdc hf ⟨hs, f0, f1, f2, f3, f4, f5, f6, f7, f8, f9⟩
      have r3 : ρ 3 = .pointer (some ⟨b1, 0, none⟩) := outD hf 3 rfl
      rcases Bool.eq_false_or_eq_true (((mget d g.l).isSome) == false) with hG | hG
      rotate_left
      · exact .inr ⟨(Eq.trans (wantG1 (j := 1) rfl (f1 (doneD hd 1 rfl))) hG), ⟨hs, f0, f1, f2, f3, f4, f5, fun _ => (condF hG).symm, f7, f8, f9⟩⟩
      ·
        exact .inl ⟨(Eq.trans (wantG1 (j := 1) rfl (f1 (doneD hd 1 rfl))) hG), L_ldW (cs := dc d) SA_34 hs 0 rfl r3 rfl ⟨hs, f0, f1, f2, f3, f4, f5, fun _ => (condT hG).symm, f7, f8, f9⟩⟩
    · rintro D ρ wx hD hd hdc hf ⟨hs, f0, f1, f2, f3, f4, f5, f6, f7, f8, f9⟩
      have g5 := f5 (doneD hd 5 rfl)
      have g6 := f6 (doneD hd 6 rfl)
      rcases Bool.eq_false_or_eq_true (((mget d g.l).isSome) == false) with hG | hG
      rotate_left
      · exact .inr ⟨(Eq.trans (wantG1 (j := 1) rfl (f1 (doneD hd 1 rfl))) hG), ⟨hs, f0, f1, f2, f3, f4, f5, f6, fun _ => (condF hG).symm, f8, f9⟩⟩
      ·
        exact .inl ⟨(Eq.trans (wantG1 (j := 1) rfl (f1 (doneD hd 1 rfl))) hG), L_callP (vs := [.agg (vc g.v).toArray, .agg (dc d).toArray]) (V := .bool (hasB g.v d)) EN_45 rfl (mapc ((g5).trans (condT (by exact hG))) (mapc ((g6).trans (condT (by exact hG))) rfl)) (vHas_ok _ g.v d (by first | assumption | exact dotOk_mk (by omega) (by omega) (by omega) (by omega))) hs fun _ hs0 => ⟨hs0, f0, f1, f2, f3, f4, f5, f6, fun _ => (condT hG).symm, f8, f9⟩⟩
    · rintro D ρ wx hD hd hdc hf ⟨hs, f0, f1, f2, f3, f4, f5, f6, f7, f8, f9⟩
      have g1 := f1 (doneD hd 1 rfl)
      have g7 := f7 (doneD hd 7 rfl)
      exact .inl ⟨rfl, L_or g1 rfl (fun hg => ((g7).trans (condT (by first | exact beqT hg | rfl)))) ⟨hs, f0, f1, f2, f3, f4, f5, f6, f7, fun _ => rfl, f9⟩⟩
    · rintro D ρ wx hD hd hdc hf ⟨hs, f0, f1, f2, f3, f4, f5, f6, f7, f8, f9⟩
      have g8 := f8 (doneD hd 8 rfl)
      exact .inl ⟨rfl, L_assign (V := .bool (((mget d g.l).isSome) || (hasB g.v d))) g8 ⟨hs, f0, f1, f2, f3, f4, f5, f6, f7, f8, fun _ => rfl⟩⟩
    · rintro ρ1 w1 D hD hf ⟨hs, f0, f1, f2, f3, f4, f5, f6, f7, f8, f9⟩
      have e9 := f9 (hD 9 rfl)
      clear f0 f1 f2 f3 f4 f5 f6 f7 f8 f9
      obtain ⟨ρ2, hρ⟩ : ∃ ρ2, ρ1 = upd (mix [19, 20, 21, 22, 23, 24, 25, 26, 27, 4] ρ2 _) 4 (.bool (((mget d g.l).isSome) || (hasB g.v d))) := ⟨ρ1, upd_of (mix_of (ds := [19, 20, 21, 22, 23, 24, 25, 26, 27, 4]) hf) e9⟩
      clear hf hD e9
      subst hρ
      refine W_ret ?_
      refine ⟨_, res_one (V := .bool (((mget d g.l).isSome) || (hasB g.v d))) Try.results18 rfl, ?_⟩
      refine ⟨congrArg Ending.returned ?_, hs.take 0⟩
      rfl
set_option maxRecDepth 20000 in
set_option maxHeartbeats 4000000 in
theorem gClosed_ok (w : World) (b r : Nat) (g : Grp) (hc : CellsF w b (gcs r g)) (hm : MapF w r dv uv g.l) : Calls Try.prog 22 #[.pointer (some ⟨b, 0, none⟩)] w (fun e w' => e = .returned (.agg (vc g.v).toArray) ∧ Own w no w' []) := by
  refine calls_of_Wn (n := 11) Try.func22 rfl Try.ntmps22 rfl ?_
  have hs := Own.start w
  refine W_seq ?_
  refine W_region ?_
  refine RW_op (L_alloc (cs := vc vzero) ZV_24 rfl hs fun b1 w2 hs => ?_)
  refine RW_nil ?_
  refine W_seq ?_
  refine W_seq ?_
  refine W_region ?_
  refine RW_op (L_move (V := .pointer (some ⟨b, 0, none⟩)) rfl ?_)
  refine RW_op (L_callP (vs := [.pointer (some ⟨b, 0, none⟩)]) (V := .bool true) EN_44 rfl rfl (gGood_ok _ b r g  (hc.own' hs) (MapF.own' hm hs)) hs fun w3 hs => ?_)
  refine RW_op (L_not rfl ?_)
  refine RW_nil ?_
  refine W_condF rfl ?_
  refine W_skip ?_
  refine W_seq ?_
  refine W_region ?_
  refine RW_op (L_move (V := .pointer (some ⟨b, 0, none⟩)) rfl ?_)
  refine RW_op (L_nilCheck rfl ?_)
  refine RW_op (L_fieldAddr FA_52_0 rfl ?_)
  refine RW_op (L_ldFA (vs := vc g.v) SA_24 (hc.own' hs) rfl rfl rfl ?_)
  refine RW_op (L_st (V := .agg (vc g.v).toArray) (vs := vc g.v) (cs' := vc g.v) SA_24.1 hs 0 rfl rfl rfl rfl rfl (Nat.le_of_ble_eq_true rfl) (vc_one _) (spl_whole rfl) fun w4 hs => ?_)
  refine RW_nil ?_
  refine W_ret ?_
  refine ⟨_, res_cell (cs := vc g.v) Try.results22 SA_24 hs 0 rfl rfl rfl, ?_⟩
  refine ⟨congrArg Ending.returned ?_, hs.take 0⟩
  rfl
end Tt
end Go.Proofs
