/- A part of a proof: what functions of the program compute, and plain facts on that. -/
import Derived.Test.YtnanhhiofnohbaaVtT
namespace Go.Proofs
open Go Go.Vx Go.RowKit
namespace Tt

set_option maxRecDepth 20000 in
set_option maxHeartbeats 4000000 in
theorem dotsActs_no (w : World) (v : Vec) (a : Option Addr) (c : Nat) (l : List Dot) (hv : VecOk v) (hl : ∀ d ∈ l, DotOk d) (hr : Rd w (.slice a l.length c) 2 (l.map dc)) (hsort : SortC Try.prog 64 51 dc 34 2 sortD) (hB : rightB v 16 = false) : Calls Try.prog 3 #[.agg (vc v).toArray, .slice a l.length c] w (fun e w' => e = .returned (.bool true) ∧ Own w no w' []) := by
  refine calls_of_Wn (n := 104) Try.func3 rfl Try.ntmps3 rfl ?_
  have hs := Own.start w
  have hn := hr.sml
  refine W_seq ?_
  refine W_region ?_
  refine RW_op (L_box (V := .agg (vc v).toArray) (cs := vc v) rfl rfl hs fun b1 w2 hs => ?_)
  refine RW_op (L_assign (V := .bool false) rfl ?_)
  refine RW_nil ?_
  refine W_seq ?_
  refine W_seq ?_
  refine W_region ?_
  refine RW_op (L_callP (vs := []) (V := .bool true) EN_15 rfl rfl (alive5_ok _ hsort) hs fun w3 hs => ?_)
  refine RW_op (L_not rfl ?_)
  refine RW_nil ?_
  refine W_condF rfl ?_
  refine W_skip ?_
  refine W_seq ?_
  refine W_region ?_
  refine RW_op (L_ldW (cs := vc v) SA_24 hs 0 rfl rfl rfl ?_)
  refine RW_op (L_callP (vs := [.agg (vc v).toArray]) (V := .pointer none) EN_16 rfl rfl (gNew_no _ v hv hB) hs fun w4 hs => ?_)
  refine RW_op (L_assign (V := .pointer none) rfl ?_)
  refine RW_nil ?_
  refine W_seq ?_
  refine W_seq ?_
  refine W_region ?_
  refine RW_op (L_move (V := .pointer none) rfl ?_)
  refine RW_op (L_ptrnn UD_27 rfl rfl ?_)
  refine RW_op (L_ldW (cs := vc v) SA_24 hs 0 rfl rfl rfl ?_)
  refine RW_op (L_callP (vs := [.agg (vc v).toArray, .int .i64 16]) (V := .bool (rightB v 16)) EN_17 rfl rfl (rRight_ok _ v 16 (by first | assumption | exact vzero_ok)) hs fun w5 hs => ?_)
  refine RW_op (opW_to (V := .bool (!(false == (rightB v 16)))) (V' := .bool false) (L_neb UDR_4 rfl rfl ⟨rfl, rfl⟩) (congrArg Value.bool (by rw [hB]; rfl)) ?_)
  refine RW_nil ?_
  refine W_condF rfl ?_
  refine W_skip ?_
  refine W_seq ?_
  refine W_region ?_
  refine RW_op (L_ldW (cs := vc v) SA_24 hs 0 rfl rfl rfl ?_)
  refine RW_op (L_build (vs := [(0, .agg (vc v).toArray)]) (cs := (vc v) ++ [(.slice none 0 0 : Value) ]) BT_31 (rfl) rfl ?_)
  refine RW_op (L_alloc (cs := (vc vzero) ++ [(.slice none 0 0 : Value) ]) ZV_31 rfl hs fun b6 w7 hs => ?_)
  refine RW_op (L_st (V := .agg ((vc v) ++ [(.slice none 0 0 : Value) ]).toArray) (vs := (vc v) ++ [(.slice none 0 0 : Value) ]) (cs' := (vc v) ++ [(.slice none 0 0 : Value) ]) SA_31.1 hs 1 rfl rfl rfl rfl rfl (Nat.le_of_ble_eq_true rfl) (one_app (vc_one _) (one_cons rfl one_nil)) (spl_whole rfl) fun w8 hs => ?_)
  refine RW_nil ?_
  refine W_seq ?_
  refine W_seq ?_
  refine W_region ?_
  refine RW_op (L_assign (V := .int .i64 0) rfl ?_)
  refine RW_nil ?_
  refine W_block ?_
  refine W_loopI (fun ρ m ρ' w' => ∃ (ρo : Env), ρ' = upd (mix [4, 7, 8, 9, 21, 22, 23, 24, 25, 26, 27, 28, 29, 30, 31, 32, 33, 34, 35, 36, 37, 38, 39, 40, 41, 42, 43, 44, 45, 46, 47, 48, 49, 50, 51, 52, 53, 54, 55, 56, 57, 58, 59, 60, 61, 62, 63, 64, 65, 66, 67, 68, 69, 70, 71, 72, 73, 74, 75, 76, 77, 78, 79, 80, 81, 82, 83, 84, 85, 86, 87, 88, 89, 90, 91, 92, 93, 94, 95, 96, 97, 98, 99, 100, 101, 102, 103] ρo ρ) 7 (.int .i64 0) ∧ m = 0 ∧ Own w no w' [blk b1 (vc v) 24, blk b6 ((vc v) ++ [(.slice none 0 0 : Value) ]) 31]) ?_ ?_
  · exact ⟨_, _, upd_of (mix_of (ds := [4, 7, 8, 9, 21, 22, 23, 24, 25, 26, 27, 28, 29, 30, 31, 32, 33, 34, 35, 36, 37, 38, 39, 40, 41, 42, 43, 44, 45, 46, 47, 48, 49, 50, 51, 52, 53, 54, 55, 56, 57, 58, 59, 60, 61, 62, 63, 64, 65, 66, 67, 68, 69, 70, 71, 72, 73, 74, 75, 76, 77, 78, 79, 80, 81, 82, 83, 84, 85, 86, 87, 88, 89, 90, 91, 92, 93, 94, 95, 96, 97, 98, 99, 100, 101, 102, 103]) (Agr.refl _ _)) rfl, rfl, hs⟩
  · rintro m ρ' w9 ⟨ρo, rfl, rfl, hs⟩
    refine W_seq ?_
    refine W_seq ?_
    refine W_inv2 [21, 22, 23, 24, 25, 26, 27, 28, 29, 30, 31, 32] [[], [0], [1], [2], [2], [4, 2], [3, 5, 2], [2, 6], [7, 2], [8], [9, 8], [8, 10]] (fun D ρ wx => Own w no wx [blk b1 (vc v) 24, blk b6 ((vc v) ++ [(.slice none 0 0 : Value) ]) 31] ∧ (D 0 = true → ρ 21 = .pointer none) ∧ (D 1 = true → ρ 22 = .bool false) ∧ (D 2 = true → ρ 23 = .bool false) ∧ (D 3 = true → ρ 24 = undef) ∧ (D 4 = true → ρ 25 = undef) ∧ (D 5 = true → ρ 26 = undef) ∧ (D 6 = true → ρ 27 = undef) ∧ (D 7 = true → ρ 28 = .bool false) ∧ (D 8 = true → ρ 29 = .bool false) ∧ (D 9 = true → ρ 30 = undef) ∧ (D 10 = true → ρ 31 = undef) ∧ (D 11 = true → ρ 32 = .bool false)) rfl rfl rfl ⟨hs, fun h => absurd h Bool.false_ne_true, fun h => absurd h Bool.false_ne_true, fun h => absurd h Bool.false_ne_true, fun h => absurd h Bool.false_ne_true, fun h => absurd h Bool.false_ne_true, fun h => absurd h Bool.false_ne_true, fun h => absurd h Bool.false_ne_true, fun h => absurd h Bool.false_ne_true, fun h => absurd h Bool.false_ne_true, fun h => absurd h Bool.false_ne_true, fun h => absurd h Bool.false_ne_true, fun h => absurd h Bool.false_ne_true⟩ ⟨?_, ?_, ?_, ?_, ?_, ?_, ?_, ?_, ?_, ?_, ?_, ?_, trivial⟩ ?_
    · rintro D ρ wx hD hd hdc hf ⟨hs, f0, f1, f2, f3, f4, f5, f6, f7, f8, f9, f10, f11⟩
      have r5 : ρ 5 = .pointer none := outD hf 5 rfl
      exact .inl ⟨rfl, L_move (V := .pointer none) r5 ⟨hs, fun _ => rfl, f1, f2, f3, f4, f5, f6, f7, f8, f9, f10, f11⟩⟩
    · rintro D ρ wx hD hd hdc hf ⟨hs, f0, f1, f2, f3, f4, f5, f6, f7, f8, f9, f10, f11⟩
      have g0 := f0 (doneD hd 0 rfl)
      exact .inl ⟨rfl, L_ptrnn UD_27 g0 rfl ⟨hs, f0, fun _ => rfl, f2, f3, f4, f5, f6, f7, f8, f9, f10, f11⟩⟩
    · rintro D ρ wx hD hd hdc hf ⟨hs, f0, f1, f2, f3, f4, f5, f6, f7, f8, f9, f10, f11⟩
      have g1 := f1 (doneD hd 1 rfl)
      exact .inl ⟨rfl, L_move (V := .bool false) g1 ⟨hs, f0, f1, fun _ => rfl, f3, f4, f5, f6, f7, f8, f9, f10, f11⟩⟩
    · rintro D ρ wx hD hd hdc hf ⟨hs, f0, f1, f2, f3, f4, f5, f6, f7, f8, f9, f10, f11⟩
      exact .inr ⟨(Eq.trans (wantG1 (j := 2) rfl (f2 (doneD hd 2 rfl))) rfl), ⟨hs, f0, f1, f2, fun _ => rfl, f4, f5, f6, f7, f8, f9, f10, f11⟩⟩
    · rintro D ρ wx hD hd hdc hf ⟨hs, f0, f1, f2, f3, f4, f5, f6, f7, f8, f9, f10, f11⟩
      exact .inr ⟨(Eq.trans (wantG1 (j := 2) rfl (f2 (doneD hd 2 rfl))) rfl), ⟨hs, f0, f1, f2, f3, fun _ => rfl, f5, f6, f7, f8, f9, f10, f11⟩⟩
    · rintro D ρ wx hD hd hdc hf ⟨hs, f0, f1, f2, f3, f4, f5, f6, f7, f8, f9, f10, f11⟩
      exact .inr ⟨(Eq.trans (wantG1 (j := 2) rfl (f2 (doneD hd 2 rfl))) rfl), ⟨hs, f0, f1, f2, f3, f4, fun _ => rfl, f6, f7, f8, f9, f10, f11⟩⟩
    · rintro D ρ wx hD hd hdc hf ⟨hs, f0, f1, f2, f3, f4, f5, f6, f7, f8, f9, f10, f11⟩
      exact .inr ⟨(Eq.trans (wantG1 (j := 2) rfl (f2 (doneD hd 2 rfl))) rfl), ⟨hs, f0, f1, f2, f3, f4, f5, fun _ => rfl, f7, f8, f9, f10, f11⟩⟩
    · rintro D ρ wx hD hd hdc hf ⟨hs, f0, f1, f2, f3, f4, f5, f6, f7, f8, f9, f10, f11⟩
      have g2 := f2 (doneD hd 2 rfl)
      exact .inl ⟨rfl, L_pick (V := .bool false) g2 rfl ⟨hs, f0, f1, f2, f3, f4, f5, f6, fun _ => rfl, f8, f9, f10, f11⟩⟩
    · rintro D ρ wx hD hd hdc hf ⟨hs, f0, f1, f2, f3, f4, f5, f6, f7, f8, f9, f10, f11⟩
      have g7 := f7 (doneD hd 7 rfl)
      exact .inl ⟨rfl, L_move (V := .bool false) g7 ⟨hs, f0, f1, f2, f3, f4, f5, f6, f7, fun _ => rfl, f9, f10, f11⟩⟩
    · rintro D ρ wx hD hd hdc hf ⟨hs, f0, f1, f2, f3, f4, f5, f6, f7, f8, f9, f10, f11⟩
      exact .inr ⟨(Eq.trans (wantG1 (j := 8) rfl (f8 (doneD hd 8 rfl))) rfl), ⟨hs, f0, f1, f2, f3, f4, f5, f6, f7, f8, fun _ => rfl, f10, f11⟩⟩
    · rintro D ρ wx hD hd hdc hf ⟨hs, f0, f1, f2, f3, f4, f5, f6, f7, f8, f9, f10, f11⟩
      exact .inr ⟨(Eq.trans (wantG1 (j := 8) rfl (f8 (doneD hd 8 rfl))) rfl), ⟨hs, f0, f1, f2, f3, f4, f5, f6, f7, f8, f9, fun _ => rfl, f11⟩⟩
    · rintro D ρ wx hD hd hdc hf ⟨hs, f0, f1, f2, f3, f4, f5, f6, f7, f8, f9, f10, f11⟩
      have g8 := f8 (doneD hd 8 rfl)
      exact .inl ⟨rfl, L_pick (V := .bool false) g8 rfl ⟨hs, f0, f1, f2, f3, f4, f5, f6, f7, f8, f9, f10, fun _ => rfl⟩⟩
    · rintro ρ1 w1 D hD hf ⟨hs, f0, f1, f2, f3, f4, f5, f6, f7, f8, f9, f10, f11⟩
      have e11 := f11 (hD 11 rfl)
      clear f0 f1 f2 f3 f4 f5 f6 f7 f8 f9 f10 f11
      obtain ⟨ρ2, hρ⟩ : ∃ ρ2, ρ1 = upd (mix [21, 22, 23, 24, 25, 26, 27, 28, 29, 30, 31, 32] ρ2 _) 32 (.bool false) := ⟨ρ1, upd_of (mix_of (ds := [21, 22, 23, 24, 25, 26, 27, 28, 29, 30, 31, 32]) hf) e11⟩
      clear hf hD e11
      subst hρ
      refine W_condF rfl ?_
      refine W_exit ?_
      refine W_seq ?_
      refine W_region ?_
      refine RW_op (L_assign (V := .bool true) rfl ?_)
      refine RW_nil ?_
      refine W_ret ?_
      refine ⟨_, res_one (V := .bool true) Try.results3 rfl, ?_⟩
      refine ⟨congrArg Ending.returned ?_, hs.take 0⟩
      rfl
end Tt
end Go.Proofs
