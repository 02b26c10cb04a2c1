/- A part of a proof: what functions of the program compute, and plain facts on that. -/
import Derived.Test.YtnanhhiofnohbaaFoldTicksP3
set_option linter.unusedVariables false
set_option linter.unusedSimpArgs false
namespace Go.Proofs
open Go Go.Vx Go.RowKit
namespace Ts
set_option maxRecDepth 20000 in
set_option maxHeartbeats 4000000 in
theorem pt_ok (w : World) (S : Nat → Prop) (a : Option Addr) (N c : Nat) (d : Array Int) (hsz : d.size = N) (hN : N ≤ 2305843009213693951) (lo hi pv : Nat) (h1 : lo ≤ pv) (h2 : pv < hi) (h3 : hi ≤ N) (hR : (row (.slice a N c) (d.toList.map (ic .u16)) 57 1).holds w S) (hlt : ∀ x, S x → x < w.heap.size) : Calls Try.prog 110 #[.slice a N c, .int .i64 ((lo : Nat) : Int), .int .i64 ((hi : Nat) : Int), .int .i64 ((pv : Nat) : Int)] w (fun e w' => ∃ _u : Unit, e = .returned (.tuple #[.int .i64 (((Sort.partition Sort.ltInt d lo hi pv).1 : Nat) : Int), .bool (Sort.partition Sort.ltInt d lo hi pv).2.1]) ∧ Own w S w' [row (.slice a N c) (((Sort.partition Sort.ltInt d lo hi pv).2.2).toList.map (ic .u16)) 57 1] ∧ (Sort.partition Sort.ltInt d lo hi pv).2.2.size = N) := by
  refine calls_of_Wn (n := 168) Try.func110 rfl Try.ntmps110 rfl ?_
  have hs := Own.lent hR hlt
  refine W_seq ?_
  refine W_region ?_
  refine RW_op (L_assign (V := .int .i64 0) rfl ?_)
  refine RW_op (L_assign (V := .bool false) rfl ?_)
  refine RW_nil ?_
  refine W_seq ?_
  replace hs := hs.drew
  refine W_draw2 HM [12, 13, 14, 15, 16, 17, 18, 19, 20, 21, 22, 23, 24, 25] [[], [], [], [], [], [], [4, 5], [6], [], [], [8, 9], [10], [0, 1, 0, 1, 4, 5, 6, 7, 11], [12, 7, 0, 1, 4, 5, 6, 7, 11], [2, 3, 0, 1, 2, 3, 4, 5, 6, 7, 8, 9, 10, 11, 12, 13], [14, 11, 13, 0, 1, 2, 3, 4, 5, 6, 7, 8, 9, 10, 11, 12, 13]] (fun D ρ wx => Own w S wx [cond (D 15) (row (.slice a N c) ((((d.setIfInBounds lo (d[pv]!)).setIfInBounds pv (d[lo]!)).toList).map (ic .u16)) 57 1) (cond (D 13) (row (.slice a N c) (((d.setIfInBounds lo (d[pv]!)).toList).map (ic .u16)) 57 1) (row (.slice a N c) (d.toList.map (ic .u16)) 57 1))] ∧ (D 0 = true → ρ 12 = .slice a N c) ∧ (D 1 = true → ρ 13 = .int .i64 ((lo : Nat) : Int)) ∧ (D 2 = true → ρ 14 = .slice a N c) ∧ (D 3 = true → ρ 15 = .int .i64 ((pv : Nat) : Int)) ∧ (D 4 = true → ρ 16 = .slice a N c) ∧ (D 5 = true → ρ 17 = .int .i64 ((pv : Nat) : Int)) ∧ (D 6 = true → ρ 18 = .pointer (some ⟨bkS (.slice a N c), ofS (.slice a N c) + ((pv : Nat) : Int).toNat * 1, none⟩)) ∧ (D 7 = true → ρ 19 = .int .u16 (d[pv]!)) ∧ (D 8 = true → ρ 20 = .slice a N c) ∧ (D 9 = true → ρ 21 = .int .i64 ((lo : Nat) : Int)) ∧ (D 10 = true → ρ 22 = .pointer (some ⟨bkS (.slice a N c), ofS (.slice a N c) + ((lo : Nat) : Int).toNat * 1, none⟩)) ∧ (D 11 = true → ρ 23 = .int .u16 (d[lo]!)) ∧ (D 12 = true → ρ 24 = .pointer (some ⟨bkS (.slice a N c), ofS (.slice a N c) + ((lo : Nat) : Int).toNat * 1, none⟩)) ∧ (True) ∧ (D 14 = true → ρ 25 = .pointer (some ⟨bkS (.slice a N c), ofS (.slice a N c) + ((pv : Nat) : Int).toNat * 1, none⟩)) ∧ (True)) rfl rfl rfl ⟨hs, fun h => absurd h Bool.false_ne_true, fun h => absurd h Bool.false_ne_true, fun h => absurd h Bool.false_ne_true, fun h => absurd h Bool.false_ne_true, fun h => absurd h Bool.false_ne_true, fun h => absurd h Bool.false_ne_true, fun h => absurd h Bool.false_ne_true, fun h => absurd h Bool.false_ne_true, fun h => absurd h Bool.false_ne_true, fun h => absurd h Bool.false_ne_true, fun h => absurd h Bool.false_ne_true, fun h => absurd h Bool.false_ne_true, fun h => absurd h Bool.false_ne_true, trivial, fun h => absurd h Bool.false_ne_true, trivial⟩ ⟨?_, ?_, ?_, ?_, ?_, ?_, ?_, ?_, ?_, ?_, ?_, ?_, ?_, ?_, ?_, ?_, trivial⟩ ?_
  · rintro D ρ wx hD hd hdc hf ⟨hs, f0, f1, f2, f3, f4, f5, f6, f7, f8, f9, f10, f11, f12, f13, f14, f15⟩
    have r0 : ρ 0 = .slice a N c := outD hf 0 rfl
    exact .inl ⟨rfl, L_move (V := .slice a N c) r0 ⟨hs, fun _ => rfl, f1, f2, f3, f4, f5, f6, f7, f8, f9, f10, f11, f12, f13, f14, f15⟩⟩
  · rintro D ρ wx hD hd hdc hf ⟨hs, f0, f1, f2, f3, f4, f5, f6, f7, f8, f9, f10, f11, f12, f13, f14, f15⟩
    have r1 : ρ 1 = .int .i64 ((lo : Nat) : Int) := outD hf 1 rfl
    exact .inl ⟨rfl, L_move (V := .int .i64 ((lo : Nat) : Int)) r1 ⟨hs, f0, fun _ => rfl, f2, f3, f4, f5, f6, f7, f8, f9, f10, f11, f12, f13, f14, f15⟩⟩
  · rintro D ρ wx hD hd hdc hf ⟨hs, f0, f1, f2, f3, f4, f5, f6, f7, f8, f9, f10, f11, f12, f13, f14, f15⟩
    have r0 : ρ 0 = .slice a N c := outD hf 0 rfl
    exact .inl ⟨rfl, L_move (V := .slice a N c) r0 ⟨hs, f0, f1, fun _ => rfl, f3, f4, f5, f6, f7, f8, f9, f10, f11, f12, f13, f14, f15⟩⟩
  · rintro D ρ wx hD hd hdc hf ⟨hs, f0, f1, f2, f3, f4, f5, f6, f7, f8, f9, f10, f11, f12, f13, f14, f15⟩
    have r3 : ρ 3 = .int .i64 ((pv : Nat) : Int) := outD hf 3 rfl
    exact .inl ⟨rfl, L_move (V := .int .i64 ((pv : Nat) : Int)) r3 ⟨hs, f0, f1, f2, fun _ => rfl, f4, f5, f6, f7, f8, f9, f10, f11, f12, f13, f14, f15⟩⟩
  · rintro D ρ wx hD hd hdc hf ⟨hs, f0, f1, f2, f3, f4, f5, f6, f7, f8, f9, f10, f11, f12, f13, f14, f15⟩
    have r0 : ρ 0 = .slice a N c := outD hf 0 rfl
    exact .inl ⟨rfl, L_move (V := .slice a N c) r0 ⟨hs, f0, f1, f2, f3, fun _ => rfl, f5, f6, f7, f8, f9, f10, f11, f12, f13, f14, f15⟩⟩
  · rintro D ρ wx hD hd hdc hf ⟨hs, f0, f1, f2, f3, f4, f5, f6, f7, f8, f9, f10, f11, f12, f13, f14, f15⟩
    have r3 : ρ 3 = .int .i64 ((pv : Nat) : Int) := outD hf 3 rfl
    exact .inl ⟨rfl, L_move (V := .int .i64 ((pv : Nat) : Int)) r3 ⟨hs, f0, f1, f2, f3, f4, fun _ => rfl, f6, f7, f8, f9, f10, f11, f12, f13, f14, f15⟩⟩
  · rintro D ρ wx hD hd hdc hf ⟨hs, f0, f1, f2, f3, f4, f5, f6, f7, f8, f9, f10, f11, f12, f13, f14, f15⟩
    have g4 := f4 (doneD hd 4 rfl)
    have g5 := f5 (doneD hd 5 rfl)
    have d13 : D 13 = false := (notYetD hdc (j := 13) rfl rfl hD)
    have d15 : D 15 = false := (notYetD hdc (j := 15) rfl rfl hD)
    have hs0 := hs; rw [d13, d15] at hs0
    exact .inl ⟨rfl, L_ixR UD_72 S1_57.1 (hs0.rd 0 rfl) g4 g5 (by omega) (by simp only [List.length_map, Array.length_toList, Array.size_setIfInBounds, Go.Sort.size_swp]; omega) ⟨hs, f0, f1, f2, f3, f4, f5, fun _ => rfl, f7, f8, f9, f10, f11, f12, f13, f14, f15⟩⟩
  · rintro D ρ wx hD hd hdc hf ⟨hs, f0, f1, f2, f3, f4, f5, f6, f7, f8, f9, f10, f11, f12, f13, f14, f15⟩
    have g6 := f6 (doneD hd 6 rfl)
    have d13 : D 13 = false := (notYetD hdc (j := 13) rfl rfl hD)
    have d15 : D 15 = false := (notYetD hdc (j := 15) rfl rfl hD)
    have hs0 := hs; rw [d13, d15] at hs0
    exact .inl ⟨rfl, L_ldR (j := 0) (V := .int .u16 (d[pv]!)) pv S1_57 (hs0.rd 0 rfl) (da_at (by omega)) rfl g6 (by omega) ⟨hs, f0, f1, f2, f3, f4, f5, f6, fun _ => rfl, f8, f9, f10, f11, f12, f13, f14, f15⟩⟩
  · rintro D ρ wx hD hd hdc hf ⟨hs, f0, f1, f2, f3, f4, f5, f6, f7, f8, f9, f10, f11, f12, f13, f14, f15⟩
    have r0 : ρ 0 = .slice a N c := outD hf 0 rfl
    exact .inl ⟨rfl, L_move (V := .slice a N c) r0 ⟨hs, f0, f1, f2, f3, f4, f5, f6, f7, fun _ => rfl, f9, f10, f11, f12, f13, f14, f15⟩⟩
  · rintro D ρ wx hD hd hdc hf ⟨hs, f0, f1, f2, f3, f4, f5, f6, f7, f8, f9, f10, f11, f12, f13, f14, f15⟩
    have r1 : ρ 1 = .int .i64 ((lo : Nat) : Int) := outD hf 1 rfl
    exact .inl ⟨rfl, L_move (V := .int .i64 ((lo : Nat) : Int)) r1 ⟨hs, f0, f1, f2, f3, f4, f5, f6, f7, f8, fun _ => rfl, f10, f11, f12, f13, f14, f15⟩⟩
  · rintro D ρ wx hD hd hdc hf ⟨hs, f0, f1, f2, f3, f4, f5, f6, f7, f8, f9, f10, f11, f12, f13, f14, f15⟩
    have g8 := f8 (doneD hd 8 rfl)
    have g9 := f9 (doneD hd 9 rfl)
    have d13 : D 13 = false := (notYetD hdc (j := 13) rfl rfl (notYetD hdc (j := 11) rfl rfl hD))
    have d15 : D 15 = false := (notYetD hdc (j := 15) rfl rfl hD)
    have hs0 := hs; rw [d13, d15] at hs0
    exact .inl ⟨rfl, L_ixR UD_72 S1_57.1 (hs0.rd 0 rfl) g8 g9 (by omega) (by simp only [List.length_map, Array.length_toList, Array.size_setIfInBounds, Go.Sort.size_swp]; omega) ⟨hs, f0, f1, f2, f3, f4, f5, f6, f7, f8, f9, fun _ => rfl, f11, f12, f13, f14, f15⟩⟩
  · rintro D ρ wx hD hd hdc hf ⟨hs, f0, f1, f2, f3, f4, f5, f6, f7, f8, f9, f10, f11, f12, f13, f14, f15⟩
    have g10 := f10 (doneD hd 10 rfl)
    have d13 : D 13 = false := (notYetD hdc (j := 13) rfl rfl hD)
    have d15 : D 15 = false := (notYetD hdc (j := 15) rfl rfl hD)
    have hs0 := hs; rw [d13, d15] at hs0
    exact .inl ⟨rfl, L_ldR (j := 0) (V := .int .u16 (d[lo]!)) lo S1_57 (hs0.rd 0 rfl) (da_at (by omega)) rfl g10 (by omega) ⟨hs, f0, f1, f2, f3, f4, f5, f6, f7, f8, f9, f10, fun _ => rfl, f12, f13, f14, f15⟩⟩
  · rintro D ρ wx hD hd hdc hf ⟨hs, f0, f1, f2, f3, f4, f5, f6, f7, f8, f9, f10, f11, f12, f13, f14, f15⟩
    have g0 := f0 (doneD hd 0 rfl)
    have g1 := f1 (doneD hd 1 rfl)
    have d13 : D 13 = false := (notYetD hdc (j := 13) rfl rfl hD)
    have d15 : D 15 = false := (notYetD hdc (j := 15) rfl rfl hD)
    have hs0 := hs; rw [d13, d15] at hs0
    exact .inl ⟨rfl, L_ixR UD_72 S1_57.1 (hs0.rd 0 rfl) g0 g1 (by omega) (by simp only [List.length_map, Array.length_toList, Array.size_setIfInBounds, Go.Sort.size_swp]; omega) ⟨hs, f0, f1, f2, f3, f4, f5, f6, f7, f8, f9, f10, f11, fun _ => rfl, f13, f14, f15⟩⟩
  · rintro D ρ wx hD hd hdc hf ⟨hs, f0, f1, f2, f3, f4, f5, f6, f7, f8, f9, f10, f11, f12, f13, f14, f15⟩
    have g7 := f7 (doneD hd 7 rfl)
    have g12 := f12 (doneD hd 12 rfl)
    have d13 : D 13 = false := hD
    have d15 : D 15 = false := (notYetD hdc (j := 15) rfl rfl hD)
    have hs0 := hs; rw [d13, d15] at hs0
    refine .inl ⟨rfl, L_stA (z := d[pv]!) lo S1_57 hs0 0 rfl g12 (by omega) (by first | omega | (simp only [Array.size_setIfInBounds, Go.Sort.size_swp]; omega)) g7 rfl rfl fun _ hs0 => ⟨?_, f0, f1, f2, f3, f4, f5, f6, f7, f8, f9, f10, f11, f12, trivial, f14, f15⟩⟩
    rw [show Go.Vx.mark D 13 15 = false from d15]
    exact hs0
  · rintro D ρ wx hD hd hdc hf ⟨hs, f0, f1, f2, f3, f4, f5, f6, f7, f8, f9, f10, f11, f12, f13, f14, f15⟩
    have g2 := f2 (doneD hd 2 rfl)
    have g3 := f3 (doneD hd 3 rfl)
    have d13 : D 13 = true := doneD hd 13 rfl
    have d15 : D 15 = false := (notYetD hdc (j := 15) rfl rfl hD)
    have hs0 := hs; rw [d13, d15] at hs0
    exact .inl ⟨rfl, L_ixR UD_72 S1_57.1 (hs0.rd 0 rfl) g2 g3 (by omega) (by simp only [List.length_map, Array.length_toList, Array.size_setIfInBounds, Go.Sort.size_swp]; omega) ⟨hs, f0, f1, f2, f3, f4, f5, f6, f7, f8, f9, f10, f11, f12, f13, fun _ => rfl, f15⟩⟩
  · rintro D ρ wx hD hd hdc hf ⟨hs, f0, f1, f2, f3, f4, f5, f6, f7, f8, f9, f10, f11, f12, f13, f14, f15⟩
    have g11 := f11 (doneD hd 11 rfl)
    have g14 := f14 (doneD hd 14 rfl)
    have d13 : D 13 = true := doneD hd 13 rfl
    have d15 : D 15 = false := hD
    have hs0 := hs; rw [d13, d15] at hs0
    refine .inl ⟨rfl, L_stA (z := d[lo]!) pv S1_57 hs0 0 rfl g14 (by omega) (by first | omega | (simp only [Array.size_setIfInBounds, Go.Sort.size_swp]; omega)) g11 rfl rfl fun _ hs0 => ⟨?_, f0, f1, f2, f3, f4, f5, f6, f7, f8, f9, f10, f11, f12, f13, f14, trivial⟩⟩
    rw [show Go.Vx.mark D 15 13 = true from d13]
    exact hs0
  · rintro ρ1 w1 D hD hf ⟨hs, f0, f1, f2, f3, f4, f5, f6, f7, f8, f9, f10, f11, f12, f13, f14, f15⟩
    rw [hD 13 rfl, hD 15 rfl] at hs
    clear f0 f1 f2 f3 f4 f5 f6 f7 f8 f9 f10 f11 f12 f13 f14 f15
    obtain ⟨ρ2, hρ⟩ : ∃ ρ2, ρ1 = mix [12, 13, 14, 15, 16, 17, 18, 19, 20, 21, 22, 23, 24, 25] ρ2 _ := ⟨ρ1, mix_of (ds := [12, 13, 14, 15, 16, 17, 18, 19, 20, 21, 22, 23, 24, 25]) hf⟩
    clear hf hD
    subst hρ
    refine W_seq ?_
    refine W_region ?_
    refine RW_op (L_move (V := .int .i64 ((lo : Nat) : Int)) rfl ?_)
    refine RW_op (L_add (a := ((lo : Nat) : Int)) (b := 1) (c := ((lo + 1 : Nat) : Int)) rfl rfl (nat_i64 (by omega) (by omega)) ?_)
    refine RW_op (L_move (V := .int .i64 ((hi : Nat) : Int)) rfl ?_)
    refine RW_op (L_sub (a := ((hi : Nat) : Int)) (b := 1) (c := ((hi - 1 : Nat) : Int)) rfl rfl (nat_i64 (by omega) (by omega)) ?_)
    refine RW_op (L_assign (V := .int .i64 ((lo + 1 : Nat) : Int)) rfl ?_)
    refine RW_op (L_assign (V := .int .i64 ((hi - 1 : Nat) : Int)) rfl ?_)
    refine RW_nil ?_
    refine W_seq ?_
    refine W_block ?_
    obtain ⟨dd, hdd⟩ : ∃ dd, dd = (Sort.swp d lo pv) := ⟨_, rfl⟩
    replace hs := hs.conv 0 rfl (R' := row (.slice a N c) (dd.toList.map (ic .u16)) 57 1) (fun S h => by rw [hdd]; exact h)
    have hzd : dd.size = N := by rw [hdd, Go.Sort.size_swp]; exact hsz
    refine W_loopI (fun ρ m ρ' w' => ∃ (ρo : Env) (i2 : Nat), ρ' = upd (mix [10, 30, 31, 32, 33, 34, 35, 36, 37, 38, 39, 40, 41, 42, 43, 44, 45] ρo ρ) 10 (.int .i64 ((i2 : Nat) : Int)) ∧ ((lo + 1) ≤ i2) ∧ (i2 ≤ hi + 1) ∧ (Sort.scanUp (fun x => Sort.ltInt x dd[lo]!) dd (hi - 1) i2 = Sort.scanUp (fun x => Sort.ltInt x dd[lo]!) dd (hi - 1) ((lo + 1))) ∧ m = (hi - 1) + 1 - i2 ∧ Own w S w' [row (.slice a N c) (dd.toList.map (ic .u16)) 57 1]) ?_ ?_
    · exact ⟨_, _, (lo + 1), upd_of (mix_of (ds := [10, 30, 31, 32, 33, 34, 35, 36, 37, 38, 39, 40, 41, 42, 43, 44, 45]) (Agr.refl _ _)) rfl, (Nat.le_refl _), (by omega), rfl, rfl, hs⟩
    · rintro m ρ' w4 ⟨ρo, i2, rfl, hi2a, hi2b, hsu, rfl, hs⟩
      refine W_seq ?_
      refine W_seq ?_
      replace hs := hs.drew
      refine W_draw2 HM [30, 31, 32, 33, 34, 35, 36, 37, 38, 39, 40, 41, 42, 43] [[], [], [0, 1], [2], [3], [3], [4, 5, 3], [6, 3], [3], [3], [8, 9, 3], [10, 3], [7, 11, 3, 3], [3, 12]] (fun D ρ wx => Own w S wx [row (.slice a N c) (dd.toList.map (ic .u16)) 57 1] ∧ (D 0 = true → ρ 30 = .int .i64 ((i2 : Nat) : Int)) ∧ (D 1 = true → ρ 31 = .int .i64 ((hi - 1 : Nat) : Int)) ∧ (D 2 = true → ρ 32 = .bool (decide (((i2 : Nat) : Int) ≤ ((hi - 1 : Nat) : Int)))) ∧ (D 3 = true → ρ 33 = .bool (decide (((i2 : Nat) : Int) ≤ ((hi - 1 : Nat) : Int)))) ∧ (D 4 = true → ρ 34 = cond ((decide (((i2 : Nat) : Int) ≤ ((hi - 1 : Nat) : Int))) == true) (.slice a N c) undef) ∧ (D 5 = true → ρ 35 = cond ((decide (((i2 : Nat) : Int) ≤ ((hi - 1 : Nat) : Int))) == true) (.int .i64 ((i2 : Nat) : Int)) undef) ∧ (D 6 = true → ρ 36 = cond ((decide (((i2 : Nat) : Int) ≤ ((hi - 1 : Nat) : Int))) == true) (.pointer (some ⟨bkS (.slice a N c), ofS (.slice a N c) + ((i2 : Nat) : Int).toNat * 1, none⟩)) undef) ∧ (D 7 = true → ρ 37 = cond ((decide (((i2 : Nat) : Int) ≤ ((hi - 1 : Nat) : Int))) == true) (.int .u16 (dd[i2]!)) undef) ∧ (D 8 = true → ρ 38 = cond ((decide (((i2 : Nat) : Int) ≤ ((hi - 1 : Nat) : Int))) == true) (.slice a N c) undef) ∧ (D 9 = true → ρ 39 = cond ((decide (((i2 : Nat) : Int) ≤ ((hi - 1 : Nat) : Int))) == true) (.int .i64 ((lo : Nat) : Int)) undef) ∧ (D 10 = true → ρ 40 = cond ((decide (((i2 : Nat) : Int) ≤ ((hi - 1 : Nat) : Int))) == true) (.pointer (some ⟨bkS (.slice a N c), ofS (.slice a N c) + ((lo : Nat) : Int).toNat * 1, none⟩)) undef) ∧ (D 11 = true → ρ 41 = cond ((decide (((i2 : Nat) : Int) ≤ ((hi - 1 : Nat) : Int))) == true) (.int .u16 (dd[lo]!)) undef) ∧ (D 12 = true → ρ 42 = cond ((decide (((i2 : Nat) : Int) ≤ ((hi - 1 : Nat) : Int))) == true) (.bool (decide (dd[i2]! < dd[lo]!))) undef) ∧ (D 13 = true → ρ 43 = .bool ((decide (((i2 : Nat) : Int) ≤ ((hi - 1 : Nat) : Int))) && (decide (dd[i2]! < dd[lo]!))))) rfl rfl rfl ⟨hs, fun h => absurd h Bool.false_ne_true, fun h => absurd h Bool.false_ne_true, fun h => absurd h Bool.false_ne_true, fun h => absurd h Bool.false_ne_true, fun h => absurd h Bool.false_ne_true, fun h => absurd h Bool.false_ne_true, fun h => absurd h Bool.false_ne_true, fun h => absurd h Bool.false_ne_true, fun h => absurd h Bool.false_ne_true, fun h => absurd h Bool.false_ne_true, fun h => absurd h Bool.false_ne_true, fun h => absurd h Bool.false_ne_true, fun h => absurd h Bool.false_ne_true, fun h => absurd h Bool.false_ne_true⟩ ⟨?_, ?_, ?_, ?_, ?_, ?_, ?_, ?_, ?_, ?_, ?_, ?_, ?_, ?_, trivial⟩ ?_
      · rintro D ρ wx hD hd hdc hf ⟨hs, f0, f1, f2, f3, f4, f5, f6, f7, f8, f9, f10, f11, f12, f13⟩
        have r10 : ρ 10 = .int .i64 ((i2 : Nat) : Int) := outD hf 10 rfl
        exact .inl ⟨rfl, L_move (V := .int .i64 ((i2 : Nat) : Int)) r10 ⟨hs, fun _ => rfl, f1, f2, f3, f4, f5, f6, f7, f8, f9, f10, f11, f12, f13⟩⟩
      · rintro D ρ wx hD hd hdc hf ⟨hs, f0, f1, f2, f3, f4, f5, f6, f7, f8, f9, f10, f11, f12, f13⟩
        have r11 : ρ 11 = .int .i64 ((hi - 1 : Nat) : Int) := outD hf 11 rfl
        exact .inl ⟨rfl, L_move (V := .int .i64 ((hi - 1 : Nat) : Int)) r11 ⟨hs, f0, fun _ => rfl, f2, f3, f4, f5, f6, f7, f8, f9, f10, f11, f12, f13⟩⟩
      · rintro D ρ wx hD hd hdc hf ⟨hs, f0, f1, f2, f3, f4, f5, f6, f7, f8, f9, f10, f11, f12, f13⟩
        have g0 := f0 (doneD hd 0 rfl)
        have g1 := f1 (doneD hd 1 rfl)
        exact .inl ⟨rfl, L_leq g0 g1 ⟨hs, f0, f1, fun _ => rfl, f3, f4, f5, f6, f7, f8, f9, f10, f11, f12, f13⟩⟩
      · rintro D ρ wx hD hd hdc hf ⟨hs, f0, f1, f2, f3, f4, f5, f6, f7, f8, f9, f10, f11, f12, f13⟩
        have g2 := f2 (doneD hd 2 rfl)
        exact .inl ⟨rfl, L_move (V := .bool (decide (((i2 : Nat) : Int) ≤ ((hi - 1 : Nat) : Int)))) g2 ⟨hs, f0, f1, f2, fun _ => rfl, f4, f5, f6, f7, f8, f9, f10, f11, f12, f13⟩⟩
      · rintro D ρ wx hD hd hdc hf ⟨hs, f0, f1, f2, f3, f4, f5, f6, f7, f8, f9, f10, f11, f12, f13⟩
        have r0 : ρ 0 = .slice a N c := outD hf 0 rfl
        rcases Bool.eq_false_or_eq_true ((decide (((i2 : Nat) : Int) ≤ ((hi - 1 : Nat) : Int))) == true) with hG | hG
        rotate_left
        · exact .inr ⟨(Eq.trans (wantG1 (j := 3) rfl (f3 (doneD hd 3 rfl))) hG), ⟨hs, f0, f1, f2, f3, fun _ => (condF hG).symm, f5, f6, f7, f8, f9, f10, f11, f12, f13⟩⟩
        ·
          have hgd := of_decide_eq_true (eq_of_beq hG)
          exact .inl ⟨(Eq.trans (wantG1 (j := 3) rfl (f3 (doneD hd 3 rfl))) hG), L_move (V := .slice a N c) r0 ⟨hs, f0, f1, f2, f3, fun _ => (condT hG).symm, f5, f6, f7, f8, f9, f10, f11, f12, f13⟩⟩
      · rintro D ρ wx hD hd hdc hf ⟨hs, f0, f1, f2, f3, f4, f5, f6, f7, f8, f9, f10, f11, f12, f13⟩
        have r10 : ρ 10 = .int .i64 ((i2 : Nat) : Int) := outD hf 10 rfl
        rcases Bool.eq_false_or_eq_true ((decide (((i2 : Nat) : Int) ≤ ((hi - 1 : Nat) : Int))) == true) with hG | hG
        rotate_left
        · exact .inr ⟨(Eq.trans (wantG1 (j := 3) rfl (f3 (doneD hd 3 rfl))) hG), ⟨hs, f0, f1, f2, f3, f4, fun _ => (condF hG).symm, f6, f7, f8, f9, f10, f11, f12, f13⟩⟩
        ·
          have hgd := of_decide_eq_true (eq_of_beq hG)
          exact .inl ⟨(Eq.trans (wantG1 (j := 3) rfl (f3 (doneD hd 3 rfl))) hG), L_move (V := .int .i64 ((i2 : Nat) : Int)) r10 ⟨hs, f0, f1, f2, f3, f4, fun _ => (condT hG).symm, f6, f7, f8, f9, f10, f11, f12, f13⟩⟩
      · rintro D ρ wx hD hd hdc hf ⟨hs, f0, f1, f2, f3, f4, f5, f6, f7, f8, f9, f10, f11, f12, f13⟩
        have g4 := f4 (doneD hd 4 rfl)
        have g5 := f5 (doneD hd 5 rfl)
        rcases Bool.eq_false_or_eq_true ((decide (((i2 : Nat) : Int) ≤ ((hi - 1 : Nat) : Int))) == true) with hG | hG
        rotate_left
        · exact .inr ⟨(Eq.trans (wantG1 (j := 3) rfl (f3 (doneD hd 3 rfl))) hG), ⟨hs, f0, f1, f2, f3, f4, f5, fun _ => (condF hG).symm, f7, f8, f9, f10, f11, f12, f13⟩⟩
        ·
          have hgd := of_decide_eq_true (eq_of_beq hG)
          exact .inl ⟨(Eq.trans (wantG1 (j := 3) rfl (f3 (doneD hd 3 rfl))) hG), L_ixR UD_72 S1_57.1 (hs.rd 0 rfl) ((g4).trans (condT (by exact hG))) ((g5).trans (condT (by exact hG))) (by omega) (by simp only [List.length_map, Array.length_toList, Array.size_setIfInBounds, Go.Sort.size_swp]; omega) ⟨hs, f0, f1, f2, f3, f4, f5, fun _ => (condT hG).symm, f7, f8, f9, f10, f11, f12, f13⟩⟩
      · rintro D ρ wx hD hd hdc hf ⟨hs, f0, f1, f2, f3, f4, f5, f6, f7, f8, f9, f10, f11, f12, f13⟩
        have g6 := f6 (doneD hd 6 rfl)
        rcases Bool.eq_false_or_eq_true ((decide (((i2 : Nat) : Int) ≤ ((hi - 1 : Nat) : Int))) == true) with hG | hG
        rotate_left
        · exact .inr ⟨(Eq.trans (wantG1 (j := 3) rfl (f3 (doneD hd 3 rfl))) hG), ⟨hs, f0, f1, f2, f3, f4, f5, f6, fun _ => (condF hG).symm, f8, f9, f10, f11, f12, f13⟩⟩
        ·
          have hgd := of_decide_eq_true (eq_of_beq hG)
          exact .inl ⟨(Eq.trans (wantG1 (j := 3) rfl (f3 (doneD hd 3 rfl))) hG), L_ldR (j := 0) (V := .int .u16 (dd[i2]!)) i2 S1_57 (hs.rd 0 rfl) (da_at (by omega)) rfl ((g6).trans (condT (by exact hG))) (by omega) ⟨hs, f0, f1, f2, f3, f4, f5, f6, fun _ => (condT hG).symm, f8, f9, f10, f11, f12, f13⟩⟩
      · rintro D ρ wx hD hd hdc hf ⟨hs, f0, f1, f2, f3, f4, f5, f6, f7, f8, f9, f10, f11, f12, f13⟩
        have r0 : ρ 0 = .slice a N c := outD hf 0 rfl
        rcases Bool.eq_false_or_eq_true ((decide (((i2 : Nat) : Int) ≤ ((hi - 1 : Nat) : Int))) == true) with hG | hG
        rotate_left
        · exact .inr ⟨(Eq.trans (wantG1 (j := 3) rfl (f3 (doneD hd 3 rfl))) hG), ⟨hs, f0, f1, f2, f3, f4, f5, f6, f7, fun _ => (condF hG).symm, f9, f10, f11, f12, f13⟩⟩
        ·
          have hgd := of_decide_eq_true (eq_of_beq hG)
          exact .inl ⟨(Eq.trans (wantG1 (j := 3) rfl (f3 (doneD hd 3 rfl))) hG), L_move (V := .slice a N c) r0 ⟨hs, f0, f1, f2, f3, f4, f5, f6, f7, fun _ => (condT hG).symm, f9, f10, f11, f12, f13⟩⟩
      · rintro D ρ wx hD hd hdc hf ⟨hs, f0, f1, f2, f3, f4, f5, f6, f7, f8, f9, f10, f11, f12, f13⟩
        have r1 : ρ 1 = .int .i64 ((lo : Nat) : Int) := outD hf 1 rfl
        rcases Bool.eq_false_or_eq_true ((decide (((i2 : Nat) : Int) ≤ ((hi - 1 : Nat) : Int))) == true) with hG | hG
        rotate_left
        · exact .inr ⟨(Eq.trans (wantG1 (j := 3) rfl (f3 (doneD hd 3 rfl))) hG), ⟨hs, f0, f1, f2, f3, f4, f5, f6, f7, f8, fun _ => (condF hG).symm, f10, f11, f12, f13⟩⟩
        ·
          have hgd := of_decide_eq_true (eq_of_beq hG)
          exact .inl ⟨(Eq.trans (wantG1 (j := 3) rfl (f3 (doneD hd 3 rfl))) hG), L_move (V := .int .i64 ((lo : Nat) : Int)) r1 ⟨hs, f0, f1, f2, f3, f4, f5, f6, f7, f8, fun _ => (condT hG).symm, f10, f11, f12, f13⟩⟩
      · rintro D ρ wx hD hd hdc hf ⟨hs, f0, f1, f2, f3, f4, f5, f6, f7, f8, f9, f10, f11, f12, f13⟩
        have g8 := f8 (doneD hd 8 rfl)
        have g9 := f9 (doneD hd 9 rfl)
        rcases Bool.eq_false_or_eq_true ((decide (((i2 : Nat) : Int) ≤ ((hi - 1 : Nat) : Int))) == true) with hG | hG
        rotate_left
        · exact .inr ⟨(Eq.trans (wantG1 (j := 3) rfl (f3 (doneD hd 3 rfl))) hG), ⟨hs, f0, f1, f2, f3, f4, f5, f6, f7, f8, f9, fun _ => (condF hG).symm, f11, f12, f13⟩⟩
        ·
          have hgd := of_decide_eq_true (eq_of_beq hG)
          exact .inl ⟨(Eq.trans (wantG1 (j := 3) rfl (f3 (doneD hd 3 rfl))) hG), L_ixR UD_72 S1_57.1 (hs.rd 0 rfl) ((g8).trans (condT (by exact hG))) ((g9).trans (condT (by exact hG))) (by omega) (by simp only [List.length_map, Array.length_toList, Array.size_setIfInBounds, Go.Sort.size_swp]; omega) ⟨hs, f0, f1, f2, f3, f4, f5, f6, f7, f8, f9, fun _ => (condT hG).symm, f11, f12, f13⟩⟩
      · rintro D ρ wx hD hd hdc hf ⟨hs, f0, f1, f2, f3, f4, f5, f6, f7, f8, f9, f10, f11, f12, f13⟩
        have g10 := f10 (doneD hd 10 rfl)
        rcases Bool.eq_false_or_eq_true ((decide (((i2 : Nat) : Int) ≤ ((hi - 1 : Nat) : Int))) == true) with hG | hG
        rotate_left
        · exact .inr ⟨(Eq.trans (wantG1 (j := 3) rfl (f3 (doneD hd 3 rfl))) hG), ⟨hs, f0, f1, f2, f3, f4, f5, f6, f7, f8, f9, f10, fun _ => (condF hG).symm, f12, f13⟩⟩
        ·
          have hgd := of_decide_eq_true (eq_of_beq hG)
          exact .inl ⟨(Eq.trans (wantG1 (j := 3) rfl (f3 (doneD hd 3 rfl))) hG), L_ldR (j := 0) (V := .int .u16 (dd[lo]!)) lo S1_57 (hs.rd 0 rfl) (da_at (by omega)) rfl ((g10).trans (condT (by exact hG))) (by omega) ⟨hs, f0, f1, f2, f3, f4, f5, f6, f7, f8, f9, f10, fun _ => (condT hG).symm, f12, f13⟩⟩
      · rintro D ρ wx hD hd hdc hf ⟨hs, f0, f1, f2, f3, f4, f5, f6, f7, f8, f9, f10, f11, f12, f13⟩
        have g7 := f7 (doneD hd 7 rfl)
        have g11 := f11 (doneD hd 11 rfl)
        rcases Bool.eq_false_or_eq_true ((decide (((i2 : Nat) : Int) ≤ ((hi - 1 : Nat) : Int))) == true) with hG | hG
        rotate_left
        · exact .inr ⟨(Eq.trans (wantG1 (j := 3) rfl (f3 (doneD hd 3 rfl))) hG), ⟨hs, f0, f1, f2, f3, f4, f5, f6, f7, f8, f9, f10, f11, fun _ => (condF hG).symm, f13⟩⟩
        ·
          have hgd := of_decide_eq_true (eq_of_beq hG)
          exact .inl ⟨(Eq.trans (wantG1 (j := 3) rfl (f3 (doneD hd 3 rfl))) hG), L_callP (vs := [.int .u16 (dd[i2]!), .int .u16 (dd[lo]!)]) (V := .bool (decide (dd[i2]! < dd[lo]!))) EN_108 rfl (mapc ((g7).trans (condT (by exact hG))) (mapc ((g11).trans (condT (by exact hG))) rfl)) (less_ok _ (dd[i2]!) (dd[lo]!)) hs fun _ hs0 => ⟨hs0, f0, f1, f2, f3, f4, f5, f6, f7, f8, f9, f10, f11, fun _ => (condT hG).symm, f13⟩⟩
      · rintro D ρ wx hD hd hdc hf ⟨hs, f0, f1, f2, f3, f4, f5, f6, f7, f8, f9, f10, f11, f12, f13⟩
        have g3 := f3 (doneD hd 3 rfl)
        have g12 := f12 (doneD hd 12 rfl)
        exact .inl ⟨rfl, L_and g3 rfl (fun hg => ((g12).trans (condT (by first | exact beqT hg | rfl)))) ⟨hs, f0, f1, f2, f3, f4, f5, f6, f7, f8, f9, f10, f11, f12, fun _ => rfl⟩⟩
      · rintro ρ1 w1 D hD hf ⟨hs, f0, f1, f2, f3, f4, f5, f6, f7, f8, f9, f10, f11, f12, f13⟩
        have e13 := f13 (hD 13 rfl)
        clear f0 f1 f2 f3 f4 f5 f6 f7 f8 f9 f10 f11 f12 f13
        obtain ⟨ρ2, hρ⟩ : ∃ ρ2, ρ1 = upd (mix [30, 31, 32, 33, 34, 35, 36, 37, 38, 39, 40, 41, 42, 43] ρ2 _) 43 (.bool ((decide (((i2 : Nat) : Int) ≤ ((hi - 1 : Nat) : Int))) && (decide (dd[i2]! < dd[lo]!)))) := ⟨ρ1, upd_of (mix_of (ds := [30, 31, 32, 33, 34, 35, 36, 37, 38, 39, 40, 41, 42, 43]) hf) e13⟩
        clear hf hD e13
        subst hρ
        refine W_cond (t := (decide (((i2 : Nat) : Int) ≤ ((hi - 1 : Nat) : Int))) && (decide (dd[i2]! < dd[lo]!))) rfl (fun c7 => ?_) (fun c7 => ?_)
        ·
          have c7r := and_r c7
          replace c7 := and_l c7
          replace c7 := of_decide_eq_true c7
          replace c7r := of_decide_eq_true c7r
          refine W_skip ?_
          refine W_block ?_
          refine W_region ?_
          refine RW_op (L_move (V := .int .i64 ((i2 : Nat) : Int)) rfl ?_)
          refine RW_op (L_add (a := ((i2 : Nat) : Int)) (b := 1) (c := ((i2 + 1 : Nat) : Int)) rfl rfl (nat_i64 (by omega) (by omega)) ?_)
          refine RW_op (L_assign (V := .int .i64 ((i2 + 1 : Nat) : Int)) rfl ?_)
          refine RW_nil ?_
          refine ⟨_, ?_, _, i2 + 1, upd_of (mix_of (ds := [10, 30, 31, 32, 33, 34, 35, 36, 37, 38, 39, 40, 41, 42, 43, 44, 45]) (by repeat (first | exact Agr.refl _ _ | refine Agr.upd ?_ rfl | refine Agr.mix ?_ rfl))) rfl, (by omega), (by omega), (by rw [← hsu, su_yes (p := fun x => Sort.ltInt x dd[lo]!) (b := decide (dd[i2]! < dd[lo]!)) rfl c7 (decide_eq_true c7r)]), rfl, hs.take 1⟩
          omega
        ·
          refine W_exit ?_
          refine W_seq ?_
          refine W_block ?_
          have hi2 : i2 = Sort.scanUp (fun x => Sort.ltInt x dd[lo]!) dd (hi - 1) (lo + 1) := by rw [← hsu, su_no (p := fun x => Sort.ltInt x dd[lo]!) (b := decide (dd[i2]! < dd[lo]!)) rfl c7]
          refine W_loopI (fun ρ m ρ' w' => ∃ (ρo : Env) (j2 : Nat), ρ' = upd (mix [11, 46, 47, 48, 49, 50, 51, 52, 53, 54, 55, 56, 57, 58, 59, 60, 61, 62] ρo ρ) 11 (.int .i64 ((j2 : Nat) : Int)) ∧ (j2 ≤ (hi - 1)) ∧ (Sort.scanDown (fun x => !Sort.ltInt x dd[lo]!) dd i2 j2 = Sort.scanDown (fun x => !Sort.ltInt x dd[lo]!) dd i2 ((hi - 1))) ∧ (lo ≤ j2) ∧ m = 2 * j2 ∧ Own w S w' [row (.slice a N c) (dd.toList.map (ic .u16)) 57 1]) ?_ ?_
          · exact ⟨_, _, (hi - 1), upd_of (mix_of (ds := [11, 46, 47, 48, 49, 50, 51, 52, 53, 54, 55, 56, 57, 58, 59, 60, 61, 62]) (Agr.refl _ _)) rfl, (Nat.le_refl _), rfl, (by omega), rfl, hs⟩
          · rintro m ρ' w8 ⟨ρo, j2, rfl, hj2b, hsd, hlowj2, rfl, hs⟩
            refine W_seq ?_
            refine W_seq ?_
            replace hs := hs.drew
            refine W_draw2 HM [46, 47, 48, 49, 50, 51, 52, 53, 54, 55, 56, 57, 58, 59, 60] [[], [], [0, 1], [2], [3], [3], [4, 5, 3], [6, 3], [3], [3], [8, 9, 3], [10, 3], [7, 11, 3, 3], [12, 3], [3, 13]] (fun D ρ wx => Own w S wx [row (.slice a N c) (dd.toList.map (ic .u16)) 57 1] ∧ (D 0 = true → ρ 46 = .int .i64 ((i2 : Nat) : Int)) ∧ (D 1 = true → ρ 47 = .int .i64 ((j2 : Nat) : Int)) ∧ (D 2 = true → ρ 48 = .bool (decide (((i2 : Nat) : Int) ≤ ((j2 : Nat) : Int)))) ∧ (D 3 = true → ρ 49 = .bool (decide (((i2 : Nat) : Int) ≤ ((j2 : Nat) : Int)))) ∧ (D 4 = true → ρ 50 = cond ((decide (((i2 : Nat) : Int) ≤ ((j2 : Nat) : Int))) == true) (.slice a N c) undef) ∧ (D 5 = true → ρ 51 = cond ((decide (((i2 : Nat) : Int) ≤ ((j2 : Nat) : Int))) == true) (.int .i64 ((j2 : Nat) : Int)) undef) ∧ (D 6 = true → ρ 52 = cond ((decide (((i2 : Nat) : Int) ≤ ((j2 : Nat) : Int))) == true) (.pointer (some ⟨bkS (.slice a N c), ofS (.slice a N c) + ((j2 : Nat) : Int).toNat * 1, none⟩)) undef) ∧ (D 7 = true → ρ 53 = cond ((decide (((i2 : Nat) : Int) ≤ ((j2 : Nat) : Int))) == true) (.int .u16 (dd[j2]!)) undef) ∧ (D 8 = true → ρ 54 = cond ((decide (((i2 : Nat) : Int) ≤ ((j2 : Nat) : Int))) == true) (.slice a N c) undef) ∧ (D 9 = true → ρ 55 = cond ((decide (((i2 : Nat) : Int) ≤ ((j2 : Nat) : Int))) == true) (.int .i64 ((lo : Nat) : Int)) undef) ∧ (D 10 = true → ρ 56 = cond ((decide (((i2 : Nat) : Int) ≤ ((j2 : Nat) : Int))) == true) (.pointer (some ⟨bkS (.slice a N c), ofS (.slice a N c) + ((lo : Nat) : Int).toNat * 1, none⟩)) undef) ∧ (D 11 = true → ρ 57 = cond ((decide (((i2 : Nat) : Int) ≤ ((j2 : Nat) : Int))) == true) (.int .u16 (dd[lo]!)) undef) ∧ (D 12 = true → ρ 58 = cond ((decide (((i2 : Nat) : Int) ≤ ((j2 : Nat) : Int))) == true) (.bool (decide (dd[j2]! < dd[lo]!))) undef) ∧ (D 13 = true → ρ 59 = cond ((decide (((i2 : Nat) : Int) ≤ ((j2 : Nat) : Int))) == true) (.bool (!decide (dd[j2]! < dd[lo]!))) undef) ∧ (D 14 = true → ρ 60 = .bool ((decide (((i2 : Nat) : Int) ≤ ((j2 : Nat) : Int))) && (!decide (dd[j2]! < dd[lo]!))))) rfl rfl rfl ⟨hs, fun h => absurd h Bool.false_ne_true, fun h => absurd h Bool.false_ne_true, fun h => absurd h Bool.false_ne_true, fun h => absurd h Bool.false_ne_true, fun h => absurd h Bool.false_ne_true, fun h => absurd h Bool.false_ne_true, fun h => absurd h Bool.false_ne_true, fun h => absurd h Bool.false_ne_true, fun h => absurd h Bool.false_ne_true, fun h => absurd h Bool.false_ne_true, fun h => absurd h Bool.false_ne_true, fun h => absurd h Bool.false_ne_true, fun h => absurd h Bool.false_ne_true, fun h => absurd h Bool.false_ne_true, fun h => absurd h Bool.false_ne_true⟩ ⟨?_, ?_, ?_, ?_, ?_, ?_, ?_, ?_, ?_, ?_, ?_, ?_, ?_, ?_, ?_, trivial⟩ ?_
            · rintro D ρ wx hD hd hdc hf ⟨hs, f0, f1, f2, f3, f4, f5, f6, f7, f8, f9, f10, f11, f12, f13, f14⟩
              have r10 : ρ 10 = .int .i64 ((i2 : Nat) : Int) := outD hf 10 rfl
              exact .inl ⟨rfl, L_move (V := .int .i64 ((i2 : Nat) : Int)) r10 ⟨hs, fun _ => rfl, f1, f2, f3, f4, f5, f6, f7, f8, f9, f10, f11, f12, f13, f14⟩⟩
            · rintro D ρ wx hD hd hdc hf ⟨hs, f0, f1, f2, f3, f4, f5, f6, f7, f8, f9, f10, f11, f12, f13, f14⟩
              have r11 : ρ 11 = .int .i64 ((j2 : Nat) : Int) := outD hf 11 rfl
              exact .inl ⟨rfl, L_move (V := .int .i64 ((j2 : Nat) : Int)) r11 ⟨hs, f0, fun _ => rfl, f2, f3, f4, f5, f6, f7, f8, f9, f10, f11, f12, f13, f14⟩⟩
            · rintro D ρ wx hD hd hdc hf ⟨hs, f0, f1, f2, f3, f4, f5, f6, f7, f8, f9, f10, f11, f12, f13, f14⟩
              have g0 := f0 (doneD hd 0 rfl)
              have g1 := f1 (doneD hd 1 rfl)
              exact .inl ⟨rfl, L_leq g0 g1 ⟨hs, f0, f1, fun _ => rfl, f3, f4, f5, f6, f7, f8, f9, f10, f11, f12, f13, f14⟩⟩
            · rintro D ρ wx hD hd hdc hf ⟨hs, f0, f1, f2, f3, f4, f5, f6, f7, f8, f9, f10, f11, f12, f13, f14⟩
              have g2 := f2 (doneD hd 2 rfl)
              exact .inl ⟨rfl, L_move (V := .bool (decide (((i2 : Nat) : Int) ≤ ((j2 : Nat) : Int)))) g2 ⟨hs, f0, f1, f2, fun _ => rfl, f4, f5, f6, f7, f8, f9, f10, f11, f12, f13, f14⟩⟩
            · rintro D ρ wx hD hd hdc hf ⟨hs, f0, f1, f2, f3, f4, f5, f6, f7, f8, f9, f10, f11, f12, f13, f14⟩
              have r0 : ρ 0 = .slice a N c := outD hf 0 rfl
              rcases Bool.eq_false_or_eq_true ((decide (((i2 : Nat) : Int) ≤ ((j2 : Nat) : Int))) == true) with hG | hG
              rotate_left
              · exact .inr ⟨(Eq.trans (wantG1 (j := 3) rfl (f3 (doneD hd 3 rfl))) hG), ⟨hs, f0, f1, f2, f3, fun _ => (condF hG).symm, f5, f6, f7, f8, f9, f10, f11, f12, f13, f14⟩⟩
              ·
                have hgd := of_decide_eq_true (eq_of_beq hG)
                exact .inl ⟨(Eq.trans (wantG1 (j := 3) rfl (f3 (doneD hd 3 rfl))) hG), L_move (V := .slice a N c) r0 ⟨hs, f0, f1, f2, f3, fun _ => (condT hG).symm, f5, f6, f7, f8, f9, f10, f11, f12, f13, f14⟩⟩
            · rintro D ρ wx hD hd hdc hf ⟨hs, f0, f1, f2, f3, f4, f5, f6, f7, f8, f9, f10, f11, f12, f13, f14⟩
              have r11 : ρ 11 = .int .i64 ((j2 : Nat) : Int) := outD hf 11 rfl
              rcases Bool.eq_false_or_eq_true ((decide (((i2 : Nat) : Int) ≤ ((j2 : Nat) : Int))) == true) with hG | hG
              rotate_left
              · exact .inr ⟨(Eq.trans (wantG1 (j := 3) rfl (f3 (doneD hd 3 rfl))) hG), ⟨hs, f0, f1, f2, f3, f4, fun _ => (condF hG).symm, f6, f7, f8, f9, f10, f11, f12, f13, f14⟩⟩
              ·
                have hgd := of_decide_eq_true (eq_of_beq hG)
                exact .inl ⟨(Eq.trans (wantG1 (j := 3) rfl (f3 (doneD hd 3 rfl))) hG), L_move (V := .int .i64 ((j2 : Nat) : Int)) r11 ⟨hs, f0, f1, f2, f3, f4, fun _ => (condT hG).symm, f6, f7, f8, f9, f10, f11, f12, f13, f14⟩⟩
            · rintro D ρ wx hD hd hdc hf ⟨hs, f0, f1, f2, f3, f4, f5, f6, f7, f8, f9, f10, f11, f12, f13, f14⟩
              have g4 := f4 (doneD hd 4 rfl)
              have g5 := f5 (doneD hd 5 rfl)
              rcases Bool.eq_false_or_eq_true ((decide (((i2 : Nat) : Int) ≤ ((j2 : Nat) : Int))) == true) with hG | hG
              rotate_left
              · exact .inr ⟨(Eq.trans (wantG1 (j := 3) rfl (f3 (doneD hd 3 rfl))) hG), ⟨hs, f0, f1, f2, f3, f4, f5, fun _ => (condF hG).symm, f7, f8, f9, f10, f11, f12, f13, f14⟩⟩
              ·
                have hgd := of_decide_eq_true (eq_of_beq hG)
                exact .inl ⟨(Eq.trans (wantG1 (j := 3) rfl (f3 (doneD hd 3 rfl))) hG), L_ixR UD_72 S1_57.1 (hs.rd 0 rfl) ((g4).trans (condT (by exact hG))) ((g5).trans (condT (by exact hG))) (by omega) (by simp only [List.length_map, Array.length_toList, Array.size_setIfInBounds, Go.Sort.size_swp]; omega) ⟨hs, f0, f1, f2, f3, f4, f5, fun _ => (condT hG).symm, f7, f8, f9, f10, f11, f12, f13, f14⟩⟩
            · rintro D ρ wx hD hd hdc hf ⟨hs, f0, f1, f2, f3, f4, f5, f6, f7, f8, f9, f10, f11, f12, f13, f14⟩
              have g6 := f6 (doneD hd 6 rfl)
              rcases Bool.eq_false_or_eq_true ((decide (((i2 : Nat) : Int) ≤ ((j2 : Nat) : Int))) == true) with hG | hG
              rotate_left
              · exact .inr ⟨(Eq.trans (wantG1 (j := 3) rfl (f3 (doneD hd 3 rfl))) hG), ⟨hs, f0, f1, f2, f3, f4, f5, f6, fun _ => (condF hG).symm, f8, f9, f10, f11, f12, f13, f14⟩⟩
              ·
                have hgd := of_decide_eq_true (eq_of_beq hG)
                exact .inl ⟨(Eq.trans (wantG1 (j := 3) rfl (f3 (doneD hd 3 rfl))) hG), L_ldR (j := 0) (V := .int .u16 (dd[j2]!)) j2 S1_57 (hs.rd 0 rfl) (da_at (by omega)) rfl ((g6).trans (condT (by exact hG))) (by omega) ⟨hs, f0, f1, f2, f3, f4, f5, f6, fun _ => (condT hG).symm, f8, f9, f10, f11, f12, f13, f14⟩⟩
            · rintro D ρ wx hD hd hdc hf ⟨hs, f0, f1, f2, f3, f4, f5, f6, f7, f8, f9, f10, f11, f12, f13, f14⟩
              have r0 : ρ 0 = .slice a N c := outD hf 0 rfl
              rcases Bool.eq_false_or_eq_true ((decide (((i2 : Nat) : Int) ≤ ((j2 : Nat) : Int))) == true) with hG | hG
              rotate_left
              · exact .inr ⟨(Eq.trans (wantG1 (j := 3) rfl (f3 (doneD hd 3 rfl))) hG), ⟨hs, f0, f1, f2, f3, f4, f5, f6, f7, fun _ => (condF hG).symm, f9, f10, f11, f12, f13, f14⟩⟩
              ·
                have hgd := of_decide_eq_true (eq_of_beq hG)
                exact .inl ⟨(Eq.trans (wantG1 (j := 3) rfl (f3 (doneD hd 3 rfl))) hG), L_move (V := .slice a N c) r0 ⟨hs, f0, f1, f2, f3, f4, f5, f6, f7, fun _ => (condT hG).symm, f9, f10, f11, f12, f13, f14⟩⟩
            · rintro D ρ wx hD hd hdc hf ⟨hs, f0, f1, f2, f3, f4, f5, f6, f7, f8, f9, f10, f11, f12, f13, f14⟩
              have r1 : ρ 1 = .int .i64 ((lo : Nat) : Int) := outD hf 1 rfl
              rcases Bool.eq_false_or_eq_true ((decide (((i2 : Nat) : Int) ≤ ((j2 : Nat) : Int))) == true) with hG | hG
              rotate_left
              · exact .inr ⟨(Eq.trans (wantG1 (j := 3) rfl (f3 (doneD hd 3 rfl))) hG), ⟨hs, f0, f1, f2, f3, f4, f5, f6, f7, f8, fun _ => (condF hG).symm, f10, f11, f12, f13, f14⟩⟩
              ·
                have hgd := of_decide_eq_true (eq_of_beq hG)
                exact .inl ⟨(Eq.trans (wantG1 (j := 3) rfl (f3 (doneD hd 3 rfl))) hG), L_move (V := .int .i64 ((lo : Nat) : Int)) r1 ⟨hs, f0, f1, f2, f3, f4, f5, f6, f7, f8, fun _ => (condT hG).symm, f10, f11, f12, f13, f14⟩⟩
            · rintro D ρ wx hD hd hdc hf ⟨hs, f0, f1, f2, f3, f4, f5, f6, f7, f8, f9, f10, f11, f12, f13, f14⟩
              have g8 := f8 (doneD hd 8 rfl)
              have g9 := f9 (doneD hd 9 rfl)
              rcases Bool.eq_false_or_eq_true ((decide (((i2 : Nat) : Int) ≤ ((j2 : Nat) : Int))) == true) with hG | hG
              rotate_left
              · exact .inr ⟨(Eq.trans (wantG1 (j := 3) rfl (f3 (doneD hd 3 rfl))) hG), ⟨hs, f0, f1, f2, f3, f4, f5, f6, f7, f8, f9, fun _ => (condF hG).symm, f11, f12, f13, f14⟩⟩
              ·
                have hgd := of_decide_eq_true (eq_of_beq hG)
                exact .inl ⟨(Eq.trans (wantG1 (j := 3) rfl (f3 (doneD hd 3 rfl))) hG), L_ixR UD_72 S1_57.1 (hs.rd 0 rfl) ((g8).trans (condT (by exact hG))) ((g9).trans (condT (by exact hG))) (by omega) (by simp only [List.length_map, Array.length_toList, Array.size_setIfInBounds, Go.Sort.size_swp]; omega) ⟨hs, f0, f1, f2, f3, f4, f5, f6, f7, f8, f9, fun _ => (condT hG).symm, f11, f12, f13, f14⟩⟩
            · rintro D ρ wx hD hd hdc hf ⟨hs, f0, f1, f2, f3, f4, f5, f6, f7, f8, f9, f10, f11, f12, f13, f14⟩
              have g10 := f10 (doneD hd 10 rfl)
              rcases Bool.eq_false_or_eq_true ((decide (((i2 : Nat) : Int) ≤ ((j2 : Nat) : Int))) == true) with hG | hG
              rotate_left
              · exact .inr ⟨(Eq.trans (wantG1 (j := 3) rfl (f3 (doneD hd 3 rfl))) hG), ⟨hs, f0, f1, f2, f3, f4, f5, f6, f7, f8, f9, f10, fun _ => (condF hG).symm, f12, f13, f14⟩⟩
              ·
                have hgd := of_decide_eq_true (eq_of_beq hG)
                exact .inl ⟨(Eq.trans (wantG1 (j := 3) rfl (f3 (doneD hd 3 rfl))) hG), L_ldR (j := 0) (V := .int .u16 (dd[lo]!)) lo S1_57 (hs.rd 0 rfl) (da_at (by omega)) rfl ((g10).trans (condT (by exact hG))) (by omega) ⟨hs, f0, f1, f2, f3, f4, f5, f6, f7, f8, f9, f10, fun _ => (condT hG).symm, f12, f13, f14⟩⟩
            · rintro D ρ wx hD hd hdc hf ⟨hs, f0, f1, f2, f3, f4, f5, f6, f7, f8, f9, f10, f11, f12, f13, f14⟩
              have g7 := f7 (doneD hd 7 rfl)
              have g11 := f11 (doneD hd 11 rfl)
              rcases Bool.eq_false_or_eq_true ((decide (((i2 : Nat) : Int) ≤ ((j2 : Nat) : Int))) == true) with hG | hG
              rotate_left
              · exact .inr ⟨(Eq.trans (wantG1 (j := 3) rfl (f3 (doneD hd 3 rfl))) hG), ⟨hs, f0, f1, f2, f3, f4, f5, f6, f7, f8, f9, f10, f11, fun _ => (condF hG).symm, f13, f14⟩⟩
              ·
                have hgd := of_decide_eq_true (eq_of_beq hG)
                exact .inl ⟨(Eq.trans (wantG1 (j := 3) rfl (f3 (doneD hd 3 rfl))) hG), L_callP (vs := [.int .u16 (dd[j2]!), .int .u16 (dd[lo]!)]) (V := .bool (decide (dd[j2]! < dd[lo]!))) EN_108 rfl (mapc ((g7).trans (condT (by exact hG))) (mapc ((g11).trans (condT (by exact hG))) rfl)) (less_ok _ (dd[j2]!) (dd[lo]!)) hs fun _ hs0 => ⟨hs0, f0, f1, f2, f3, f4, f5, f6, f7, f8, f9, f10, f11, fun _ => (condT hG).symm, f13, f14⟩⟩
            · rintro D ρ wx hD hd hdc hf ⟨hs, f0, f1, f2, f3, f4, f5, f6, f7, f8, f9, f10, f11, f12, f13, f14⟩
              have g12 := f12 (doneD hd 12 rfl)
              rcases Bool.eq_false_or_eq_true ((decide (((i2 : Nat) : Int) ≤ ((j2 : Nat) : Int))) == true) with hG | hG
              rotate_left
              · exact .inr ⟨(Eq.trans (wantG1 (j := 3) rfl (f3 (doneD hd 3 rfl))) hG), ⟨hs, f0, f1, f2, f3, f4, f5, f6, f7, f8, f9, f10, f11, f12, fun _ => (condF hG).symm, f14⟩⟩
              ·
                have hgd := of_decide_eq_true (eq_of_beq hG)
                exact .inl ⟨(Eq.trans (wantG1 (j := 3) rfl (f3 (doneD hd 3 rfl))) hG), L_not ((g12).trans (condT (by exact hG))) ⟨hs, f0, f1, f2, f3, f4, f5, f6, f7, f8, f9, f10, f11, f12, fun _ => (condT hG).symm, f14⟩⟩
            · rintro D ρ wx hD hd hdc hf ⟨hs, f0, f1, f2, f3, f4, f5, f6, f7, f8, f9, f10, f11, f12, f13, f14⟩
              have g3 := f3 (doneD hd 3 rfl)
              have g13 := f13 (doneD hd 13 rfl)
              exact .inl ⟨rfl, L_and g3 rfl (fun hg => ((g13).trans (condT (by first | exact beqT hg | rfl)))) ⟨hs, f0, f1, f2, f3, f4, f5, f6, f7, f8, f9, f10, f11, f12, f13, fun _ => rfl⟩⟩
            · rintro ρ1 w1 D hD hf ⟨hs, f0, f1, f2, f3, f4, f5, f6, f7, f8, f9, f10, f11, f12, f13, f14⟩
              have e14 := f14 (hD 14 rfl)
              clear f0 f1 f2 f3 f4 f5 f6 f7 f8 f9 f10 f11 f12 f13 f14
              obtain ⟨ρ2, hρ⟩ : ∃ ρ2, ρ1 = upd (mix [46, 47, 48, 49, 50, 51, 52, 53, 54, 55, 56, 57, 58, 59, 60] ρ2 _) 60 (.bool ((decide (((i2 : Nat) : Int) ≤ ((j2 : Nat) : Int))) && (!decide (dd[j2]! < dd[lo]!)))) := ⟨ρ1, upd_of (mix_of (ds := [46, 47, 48, 49, 50, 51, 52, 53, 54, 55, 56, 57, 58, 59, 60]) hf) e14⟩
              clear hf hD e14
              subst hρ
              refine W_cond (t := (decide (((i2 : Nat) : Int) ≤ ((j2 : Nat) : Int))) && (!decide (dd[j2]! < dd[lo]!))) rfl (fun c11 => ?_) (fun c11 => ?_)
              ·
                have c11r := and_r c11
                replace c11 := and_l c11
                replace c11 := of_decide_eq_true c11
                replace c11r := not_t c11r
                replace c11r := of_decide_eq_false c11r
                refine W_skip ?_
                refine W_block ?_
                refine W_region ?_
                refine RW_op (L_move (V := .int .i64 ((j2 : Nat) : Int)) rfl ?_)
                refine RW_op (L_sub (a := ((j2 : Nat) : Int)) (b := 1) (c := ((j2 - 1 : Nat) : Int)) rfl rfl (nat_i64 (by omega) (by omega)) ?_)
                refine RW_op (L_assign (V := .int .i64 ((j2 - 1 : Nat) : Int)) rfl ?_)
                refine RW_nil ?_
                refine ⟨_, ?_, _, j2 - 1, upd_of (mix_of (ds := [11, 46, 47, 48, 49, 50, 51, 52, 53, 54, 55, 56, 57, 58, 59, 60, 61, 62]) (by repeat (first | exact Agr.refl _ _ | refine Agr.upd ?_ rfl | refine Agr.mix ?_ rfl))) rfl, (by omega), (by rw [← hsd, sw_yes (p := fun x => !Sort.ltInt x dd[lo]!) (b := !decide (dd[j2]! < dd[lo]!)) (by omega) rfl c11 (by rw [decide_eq_false c11r]; rfl)]), (by omega), rfl, hs.take 1⟩
                omega
              ·
                refine W_exit ?_
                refine W_seq ?_
                refine W_seq ?_
                have hj2 : j2 = Sort.scanDown (fun x => !Sort.ltInt x dd[lo]!) dd i2 (hi - 1) := by rw [← hsd, sw_no (p := fun x => !Sort.ltInt x dd[lo]!) (b := !decide (dd[j2]! < dd[lo]!)) rfl c11]
                refine W_region ?_
                refine RW_op (L_move (V := .int .i64 ((i2 : Nat) : Int)) rfl ?_)
                refine RW_op (L_move (V := .int .i64 ((j2 : Nat) : Int)) rfl ?_)
                refine RW_op (L_gtr rfl rfl ?_)
                refine RW_nil ?_
                refine W_cond (t := decide (((j2 : Nat) : Int) < ((i2 : Nat) : Int))) rfl (fun c12 => ?_) (fun c12 => ?_)
                ·
                  replace c12 := of_decide_eq_true c12
                  refine W_seq ?_
                  replace hs := hs.drew
                  refine W_draw2 HM [66, 67, 68, 69, 70, 71, 72, 73, 74, 75, 76, 77, 78, 79] [[], [], [], [], [], [], [4, 5], [6], [], [], [8, 9], [10], [0, 1, 0, 1, 4, 5, 6, 7, 11], [12, 7, 0, 1, 4, 5, 6, 7, 11], [2, 3, 0, 1, 2, 3, 4, 5, 6, 7, 8, 9, 10, 11, 12, 13], [14, 11, 13, 0, 1, 2, 3, 4, 5, 6, 7, 8, 9, 10, 11, 12, 13]] (fun D ρ wx => Own w S wx [cond (D 15) (row (.slice a N c) ((((dd.setIfInBounds j2 (dd[lo]!)).setIfInBounds lo (dd[j2]!)).toList).map (ic .u16)) 57 1) (cond (D 13) (row (.slice a N c) (((dd.setIfInBounds j2 (dd[lo]!)).toList).map (ic .u16)) 57 1) (row (.slice a N c) (dd.toList.map (ic .u16)) 57 1))] ∧ (D 0 = true → ρ 66 = .slice a N c) ∧ (D 1 = true → ρ 67 = .int .i64 ((j2 : Nat) : Int)) ∧ (D 2 = true → ρ 68 = .slice a N c) ∧ (D 3 = true → ρ 69 = .int .i64 ((lo : Nat) : Int)) ∧ (D 4 = true → ρ 70 = .slice a N c) ∧ (D 5 = true → ρ 71 = .int .i64 ((lo : Nat) : Int)) ∧ (D 6 = true → ρ 72 = .pointer (some ⟨bkS (.slice a N c), ofS (.slice a N c) + ((lo : Nat) : Int).toNat * 1, none⟩)) ∧ (D 7 = true → ρ 73 = .int .u16 (dd[lo]!)) ∧ (D 8 = true → ρ 74 = .slice a N c) ∧ (D 9 = true → ρ 75 = .int .i64 ((j2 : Nat) : Int)) ∧ (D 10 = true → ρ 76 = .pointer (some ⟨bkS (.slice a N c), ofS (.slice a N c) + ((j2 : Nat) : Int).toNat * 1, none⟩)) ∧ (D 11 = true → ρ 77 = .int .u16 (dd[j2]!)) ∧ (D 12 = true → ρ 78 = .pointer (some ⟨bkS (.slice a N c), ofS (.slice a N c) + ((j2 : Nat) : Int).toNat * 1, none⟩)) ∧ (True) ∧ (D 14 = true → ρ 79 = .pointer (some ⟨bkS (.slice a N c), ofS (.slice a N c) + ((lo : Nat) : Int).toNat * 1, none⟩)) ∧ (True)) rfl rfl rfl ⟨hs, fun h => absurd h Bool.false_ne_true, fun h => absurd h Bool.false_ne_true, fun h => absurd h Bool.false_ne_true, fun h => absurd h Bool.false_ne_true, fun h => absurd h Bool.false_ne_true, fun h => absurd h Bool.false_ne_true, fun h => absurd h Bool.false_ne_true, fun h => absurd h Bool.false_ne_true, fun h => absurd h Bool.false_ne_true, fun h => absurd h Bool.false_ne_true, fun h => absurd h Bool.false_ne_true, fun h => absurd h Bool.false_ne_true, fun h => absurd h Bool.false_ne_true, trivial, fun h => absurd h Bool.false_ne_true, trivial⟩ ⟨?_, ?_, ?_, ?_, ?_, ?_, ?_, ?_, ?_, ?_, ?_, ?_, ?_, ?_, ?_, ?_, trivial⟩ ?_
                  · rintro D ρ wx hD hd hdc hf ⟨hs, f0, f1, f2, f3, f4, f5, f6, f7, f8, f9, f10, f11, f12, f13, f14, f15⟩
                    have r0 : ρ 0 = .slice a N c := outD hf 0 rfl
                    exact .inl ⟨rfl, L_move (V := .slice a N c) r0 ⟨hs, fun _ => rfl, f1, f2, f3, f4, f5, f6, f7, f8, f9, f10, f11, f12, f13, f14, f15⟩⟩
                  · rintro D ρ wx hD hd hdc hf ⟨hs, f0, f1, f2, f3, f4, f5, f6, f7, f8, f9, f10, f11, f12, f13, f14, f15⟩
                    have r11 : ρ 11 = .int .i64 ((j2 : Nat) : Int) := outD hf 11 rfl
                    exact .inl ⟨rfl, L_move (V := .int .i64 ((j2 : Nat) : Int)) r11 ⟨hs, f0, fun _ => rfl, f2, f3, f4, f5, f6, f7, f8, f9, f10, f11, f12, f13, f14, f15⟩⟩
                  · rintro D ρ wx hD hd hdc hf ⟨hs, f0, f1, f2, f3, f4, f5, f6, f7, f8, f9, f10, f11, f12, f13, f14, f15⟩
                    have r0 : ρ 0 = .slice a N c := outD hf 0 rfl
                    exact .inl ⟨rfl, L_move (V := .slice a N c) r0 ⟨hs, f0, f1, fun _ => rfl, f3, f4, f5, f6, f7, f8, f9, f10, f11, f12, f13, f14, f15⟩⟩
                  · rintro D ρ wx hD hd hdc hf ⟨hs, f0, f1, f2, f3, f4, f5, f6, f7, f8, f9, f10, f11, f12, f13, f14, f15⟩
                    have r1 : ρ 1 = .int .i64 ((lo : Nat) : Int) := outD hf 1 rfl
                    exact .inl ⟨rfl, L_move (V := .int .i64 ((lo : Nat) : Int)) r1 ⟨hs, f0, f1, f2, fun _ => rfl, f4, f5, f6, f7, f8, f9, f10, f11, f12, f13, f14, f15⟩⟩
                  · rintro D ρ wx hD hd hdc hf ⟨hs, f0, f1, f2, f3, f4, f5, f6, f7, f8, f9, f10, f11, f12, f13, f14, f15⟩
                    have r0 : ρ 0 = .slice a N c := outD hf 0 rfl
                    exact .inl ⟨rfl, L_move (V := .slice a N c) r0 ⟨hs, f0, f1, f2, f3, fun _ => rfl, f5, f6, f7, f8, f9, f10, f11, f12, f13, f14, f15⟩⟩
                  · rintro D ρ wx hD hd hdc hf ⟨hs, f0, f1, f2, f3, f4, f5, f6, f7, f8, f9, f10, f11, f12, f13, f14, f15⟩
                    have r1 : ρ 1 = .int .i64 ((lo : Nat) : Int) := outD hf 1 rfl
                    exact .inl ⟨rfl, L_move (V := .int .i64 ((lo : Nat) : Int)) r1 ⟨hs, f0, f1, f2, f3, f4, fun _ => rfl, f6, f7, f8, f9, f10, f11, f12, f13, f14, f15⟩⟩
                  · rintro D ρ wx hD hd hdc hf ⟨hs, f0, f1, f2, f3, f4, f5, f6, f7, f8, f9, f10, f11, f12, f13, f14, f15⟩
                    have g4 := f4 (doneD hd 4 rfl)
                    have g5 := f5 (doneD hd 5 rfl)
                    have d13 : D 13 = false := (notYetD hdc (j := 13) rfl rfl hD)
                    have d15 : D 15 = false := (notYetD hdc (j := 15) rfl rfl hD)
                    have hs0 := hs; rw [d13, d15] at hs0
                    exact .inl ⟨rfl, L_ixR UD_72 S1_57.1 (hs0.rd 0 rfl) g4 g5 (by omega) (by simp only [List.length_map, Array.length_toList, Array.size_setIfInBounds, Go.Sort.size_swp]; omega) ⟨hs, f0, f1, f2, f3, f4, f5, fun _ => rfl, f7, f8, f9, f10, f11, f12, f13, f14, f15⟩⟩
                  · rintro D ρ wx hD hd hdc hf ⟨hs, f0, f1, f2, f3, f4, f5, f6, f7, f8, f9, f10, f11, f12, f13, f14, f15⟩
                    have g6 := f6 (doneD hd 6 rfl)
                    have d13 : D 13 = false := (notYetD hdc (j := 13) rfl rfl hD)
                    have d15 : D 15 = false := (notYetD hdc (j := 15) rfl rfl hD)
                    have hs0 := hs; rw [d13, d15] at hs0
                    exact .inl ⟨rfl, L_ldR (j := 0) (V := .int .u16 (dd[lo]!)) lo S1_57 (hs0.rd 0 rfl) (da_at (by omega)) rfl g6 (by omega) ⟨hs, f0, f1, f2, f3, f4, f5, f6, fun _ => rfl, f8, f9, f10, f11, f12, f13, f14, f15⟩⟩
                  · rintro D ρ wx hD hd hdc hf ⟨hs, f0, f1, f2, f3, f4, f5, f6, f7, f8, f9, f10, f11, f12, f13, f14, f15⟩
                    have r0 : ρ 0 = .slice a N c := outD hf 0 rfl
                    exact .inl ⟨rfl, L_move (V := .slice a N c) r0 ⟨hs, f0, f1, f2, f3, f4, f5, f6, f7, fun _ => rfl, f9, f10, f11, f12, f13, f14, f15⟩⟩
                  · rintro D ρ wx hD hd hdc hf ⟨hs, f0, f1, f2, f3, f4, f5, f6, f7, f8, f9, f10, f11, f12, f13, f14, f15⟩
                    have r11 : ρ 11 = .int .i64 ((j2 : Nat) : Int) := outD hf 11 rfl
                    exact .inl ⟨rfl, L_move (V := .int .i64 ((j2 : Nat) : Int)) r11 ⟨hs, f0, f1, f2, f3, f4, f5, f6, f7, f8, fun _ => rfl, f10, f11, f12, f13, f14, f15⟩⟩
                  · rintro D ρ wx hD hd hdc hf ⟨hs, f0, f1, f2, f3, f4, f5, f6, f7, f8, f9, f10, f11, f12, f13, f14, f15⟩
                    have g8 := f8 (doneD hd 8 rfl)
                    have g9 := f9 (doneD hd 9 rfl)
                    have d13 : D 13 = false := (notYetD hdc (j := 13) rfl rfl (notYetD hdc (j := 11) rfl rfl hD))
                    have d15 : D 15 = false := (notYetD hdc (j := 15) rfl rfl hD)
                    have hs0 := hs; rw [d13, d15] at hs0
                    exact .inl ⟨rfl, L_ixR UD_72 S1_57.1 (hs0.rd 0 rfl) g8 g9 (by omega) (by simp only [List.length_map, Array.length_toList, Array.size_setIfInBounds, Go.Sort.size_swp]; omega) ⟨hs, f0, f1, f2, f3, f4, f5, f6, f7, f8, f9, fun _ => rfl, f11, f12, f13, f14, f15⟩⟩
                  · rintro D ρ wx hD hd hdc hf ⟨hs, f0, f1, f2, f3, f4, f5, f6, f7, f8, f9, f10, f11, f12, f13, f14, f15⟩
                    have g10 := f10 (doneD hd 10 rfl)
                    have d13 : D 13 = false := (notYetD hdc (j := 13) rfl rfl hD)
                    have d15 : D 15 = false := (notYetD hdc (j := 15) rfl rfl hD)
                    have hs0 := hs; rw [d13, d15] at hs0
                    exact .inl ⟨rfl, L_ldR (j := 0) (V := .int .u16 (dd[j2]!)) j2 S1_57 (hs0.rd 0 rfl) (da_at (by omega)) rfl g10 (by omega) ⟨hs, f0, f1, f2, f3, f4, f5, f6, f7, f8, f9, f10, fun _ => rfl, f12, f13, f14, f15⟩⟩
                  · rintro D ρ wx hD hd hdc hf ⟨hs, f0, f1, f2, f3, f4, f5, f6, f7, f8, f9, f10, f11, f12, f13, f14, f15⟩
                    have g0 := f0 (doneD hd 0 rfl)
                    have g1 := f1 (doneD hd 1 rfl)
                    have d13 : D 13 = false := (notYetD hdc (j := 13) rfl rfl hD)
                    have d15 : D 15 = false := (notYetD hdc (j := 15) rfl rfl hD)
                    have hs0 := hs; rw [d13, d15] at hs0
                    exact .inl ⟨rfl, L_ixR UD_72 S1_57.1 (hs0.rd 0 rfl) g0 g1 (by omega) (by simp only [List.length_map, Array.length_toList, Array.size_setIfInBounds, Go.Sort.size_swp]; omega) ⟨hs, f0, f1, f2, f3, f4, f5, f6, f7, f8, f9, f10, f11, fun _ => rfl, f13, f14, f15⟩⟩
                  · rintro D ρ wx hD hd hdc hf ⟨hs, f0, f1, f2, f3, f4, f5, f6, f7, f8, f9, f10, f11, f12, f13, f14, f15⟩
                    have g7 := f7 (doneD hd 7 rfl)
                    have g12 := f12 (doneD hd 12 rfl)
                    have d13 : D 13 = false := hD
                    have d15 : D 15 = false := (notYetD hdc (j := 15) rfl rfl hD)
                    have hs0 := hs; rw [d13, d15] at hs0
                    refine .inl ⟨rfl, L_stA (z := dd[lo]!) j2 S1_57 hs0 0 rfl g12 (by omega) (by first | omega | (simp only [Array.size_setIfInBounds, Go.Sort.size_swp]; omega)) g7 rfl rfl fun _ hs0 => ⟨?_, f0, f1, f2, f3, f4, f5, f6, f7, f8, f9, f10, f11, f12, trivial, f14, f15⟩⟩
                    rw [show Go.Vx.mark D 13 15 = false from d15]
                    exact hs0
                  · rintro D ρ wx hD hd hdc hf ⟨hs, f0, f1, f2, f3, f4, f5, f6, f7, f8, f9, f10, f11, f12, f13, f14, f15⟩
                    have g2 := f2 (doneD hd 2 rfl)
                    have g3 := f3 (doneD hd 3 rfl)
                    have d13 : D 13 = true := doneD hd 13 rfl
                    have d15 : D 15 = false := (notYetD hdc (j := 15) rfl rfl hD)
                    have hs0 := hs; rw [d13, d15] at hs0
                    exact .inl ⟨rfl, L_ixR UD_72 S1_57.1 (hs0.rd 0 rfl) g2 g3 (by omega) (by simp only [List.length_map, Array.length_toList, Array.size_setIfInBounds, Go.Sort.size_swp]; omega) ⟨hs, f0, f1, f2, f3, f4, f5, f6, f7, f8, f9, f10, f11, f12, f13, fun _ => rfl, f15⟩⟩
                  · rintro D ρ wx hD hd hdc hf ⟨hs, f0, f1, f2, f3, f4, f5, f6, f7, f8, f9, f10, f11, f12, f13, f14, f15⟩
                    have g11 := f11 (doneD hd 11 rfl)
                    have g14 := f14 (doneD hd 14 rfl)
                    have d13 : D 13 = true := doneD hd 13 rfl
                    have d15 : D 15 = false := hD
                    have hs0 := hs; rw [d13, d15] at hs0
                    refine .inl ⟨rfl, L_stA (z := dd[j2]!) lo S1_57 hs0 0 rfl g14 (by omega) (by first | omega | (simp only [Array.size_setIfInBounds, Go.Sort.size_swp]; omega)) g11 rfl rfl fun _ hs0 => ⟨?_, f0, f1, f2, f3, f4, f5, f6, f7, f8, f9, f10, f11, f12, f13, f14, trivial⟩⟩
                    rw [show Go.Vx.mark D 15 13 = true from d13]
                    exact hs0
                  · rintro ρ1 w1 D hD hf ⟨hs, f0, f1, f2, f3, f4, f5, f6, f7, f8, f9, f10, f11, f12, f13, f14, f15⟩
                    rw [hD 13 rfl, hD 15 rfl] at hs
                    clear f0 f1 f2 f3 f4 f5 f6 f7 f8 f9 f10 f11 f12 f13 f14 f15
                    obtain ⟨ρ2, hρ⟩ : ∃ ρ2, ρ1 = mix [66, 67, 68, 69, 70, 71, 72, 73, 74, 75, 76, 77, 78, 79] ρ2 _ := ⟨ρ1, mix_of (ds := [66, 67, 68, 69, 70, 71, 72, 73, 74, 75, 76, 77, 78, 79]) hf⟩
                    clear hf hD
                    subst hρ
                    refine W_seq ?_
                    refine W_region ?_
                    refine RW_op (L_move (V := .int .i64 ((j2 : Nat) : Int)) rfl ?_)
                    refine RW_op (L_assign (V := .int .i64 ((j2 : Nat) : Int)) rfl ?_)
                    refine RW_op (L_assign (V := .bool true) rfl ?_)
                    refine RW_nil ?_
                    refine W_ret ?_
                    refine ⟨_, res_two (U := .int .i64 ((j2 : Nat) : Int)) (V := .bool true) Try.results110 rfl rfl, ?_⟩
                    have hX : Sort.partition Sort.ltInt d lo hi pv = (j2, true, Sort.swp dd j2 lo) := pt_stop hdd hi2 hj2 c12
                    rw [hX]
                    exact ⟨(), rfl, hs.take 1, by first | (rw [Go.Sort.size_swp]; assumption) | assumption⟩
                ·
                  replace c12 := of_decide_eq_false c12
                  refine W_skip ?_
                  refine W_seq ?_
                  replace hs := hs.drew
                  refine W_draw2 HM [81, 82, 83, 84, 85, 86, 87, 88, 89, 90, 91, 92, 93, 94] [[], [], [], [], [], [], [4, 5], [6], [], [], [8, 9], [10], [0, 1, 0, 1, 4, 5, 6, 7, 11], [12, 7, 0, 1, 4, 5, 6, 7, 11], [2, 3, 0, 1, 2, 3, 4, 5, 6, 7, 8, 9, 10, 11, 12, 13], [14, 11, 13, 0, 1, 2, 3, 4, 5, 6, 7, 8, 9, 10, 11, 12, 13]] (fun D ρ wx => Own w S wx [cond (D 15) (row (.slice a N c) ((((dd.setIfInBounds i2 (dd[j2]!)).setIfInBounds j2 (dd[i2]!)).toList).map (ic .u16)) 57 1) (cond (D 13) (row (.slice a N c) (((dd.setIfInBounds i2 (dd[j2]!)).toList).map (ic .u16)) 57 1) (row (.slice a N c) (dd.toList.map (ic .u16)) 57 1))] ∧ (D 0 = true → ρ 81 = .slice a N c) ∧ (D 1 = true → ρ 82 = .int .i64 ((i2 : Nat) : Int)) ∧ (D 2 = true → ρ 83 = .slice a N c) ∧ (D 3 = true → ρ 84 = .int .i64 ((j2 : Nat) : Int)) ∧ (D 4 = true → ρ 85 = .slice a N c) ∧ (D 5 = true → ρ 86 = .int .i64 ((j2 : Nat) : Int)) ∧ (D 6 = true → ρ 87 = .pointer (some ⟨bkS (.slice a N c), ofS (.slice a N c) + ((j2 : Nat) : Int).toNat * 1, none⟩)) ∧ (D 7 = true → ρ 88 = .int .u16 (dd[j2]!)) ∧ (D 8 = true → ρ 89 = .slice a N c) ∧ (D 9 = true → ρ 90 = .int .i64 ((i2 : Nat) : Int)) ∧ (D 10 = true → ρ 91 = .pointer (some ⟨bkS (.slice a N c), ofS (.slice a N c) + ((i2 : Nat) : Int).toNat * 1, none⟩)) ∧ (D 11 = true → ρ 92 = .int .u16 (dd[i2]!)) ∧ (D 12 = true → ρ 93 = .pointer (some ⟨bkS (.slice a N c), ofS (.slice a N c) + ((i2 : Nat) : Int).toNat * 1, none⟩)) ∧ (True) ∧ (D 14 = true → ρ 94 = .pointer (some ⟨bkS (.slice a N c), ofS (.slice a N c) + ((j2 : Nat) : Int).toNat * 1, none⟩)) ∧ (True)) rfl rfl rfl ⟨hs, fun h => absurd h Bool.false_ne_true, fun h => absurd h Bool.false_ne_true, fun h => absurd h Bool.false_ne_true, fun h => absurd h Bool.false_ne_true, fun h => absurd h Bool.false_ne_true, fun h => absurd h Bool.false_ne_true, fun h => absurd h Bool.false_ne_true, fun h => absurd h Bool.false_ne_true, fun h => absurd h Bool.false_ne_true, fun h => absurd h Bool.false_ne_true, fun h => absurd h Bool.false_ne_true, fun h => absurd h Bool.false_ne_true, fun h => absurd h Bool.false_ne_true, trivial, fun h => absurd h Bool.false_ne_true, trivial⟩ ⟨?_, ?_, ?_, ?_, ?_, ?_, ?_, ?_, ?_, ?_, ?_, ?_, ?_, ?_, ?_, ?_, trivial⟩ ?_
                  · rintro D ρ wx hD hd hdc hf ⟨hs, f0, f1, f2, f3, f4, f5, f6, f7, f8, f9, f10, f11, f12, f13, f14, f15⟩
                    have r0 : ρ 0 = .slice a N c := outD hf 0 rfl
                    exact .inl ⟨rfl, L_move (V := .slice a N c) r0 ⟨hs, fun _ => rfl, f1, f2, f3, f4, f5, f6, f7, f8, f9, f10, f11, f12, f13, f14, f15⟩⟩
                  · rintro D ρ wx hD hd hdc hf ⟨hs, f0, f1, f2, f3, f4, f5, f6, f7, f8, f9, f10, f11, f12, f13, f14, f15⟩
                    have r10 : ρ 10 = .int .i64 ((i2 : Nat) : Int) := outD hf 10 rfl
                    exact .inl ⟨rfl, L_move (V := .int .i64 ((i2 : Nat) : Int)) r10 ⟨hs, f0, fun _ => rfl, f2, f3, f4, f5, f6, f7, f8, f9, f10, f11, f12, f13, f14, f15⟩⟩
                  · rintro D ρ wx hD hd hdc hf ⟨hs, f0, f1, f2, f3, f4, f5, f6, f7, f8, f9, f10, f11, f12, f13, f14, f15⟩
                    have r0 : ρ 0 = .slice a N c := outD hf 0 rfl
                    exact .inl ⟨rfl, L_move (V := .slice a N c) r0 ⟨hs, f0, f1, fun _ => rfl, f3, f4, f5, f6, f7, f8, f9, f10, f11, f12, f13, f14, f15⟩⟩
                  · rintro D ρ wx hD hd hdc hf ⟨hs, f0, f1, f2, f3, f4, f5, f6, f7, f8, f9, f10, f11, f12, f13, f14, f15⟩
                    have r11 : ρ 11 = .int .i64 ((j2 : Nat) : Int) := outD hf 11 rfl
                    exact .inl ⟨rfl, L_move (V := .int .i64 ((j2 : Nat) : Int)) r11 ⟨hs, f0, f1, f2, fun _ => rfl, f4, f5, f6, f7, f8, f9, f10, f11, f12, f13, f14, f15⟩⟩
                  · rintro D ρ wx hD hd hdc hf ⟨hs, f0, f1, f2, f3, f4, f5, f6, f7, f8, f9, f10, f11, f12, f13, f14, f15⟩
                    have r0 : ρ 0 = .slice a N c := outD hf 0 rfl
                    exact .inl ⟨rfl, L_move (V := .slice a N c) r0 ⟨hs, f0, f1, f2, f3, fun _ => rfl, f5, f6, f7, f8, f9, f10, f11, f12, f13, f14, f15⟩⟩
                  · rintro D ρ wx hD hd hdc hf ⟨hs, f0, f1, f2, f3, f4, f5, f6, f7, f8, f9, f10, f11, f12, f13, f14, f15⟩
                    have r11 : ρ 11 = .int .i64 ((j2 : Nat) : Int) := outD hf 11 rfl
                    exact .inl ⟨rfl, L_move (V := .int .i64 ((j2 : Nat) : Int)) r11 ⟨hs, f0, f1, f2, f3, f4, fun _ => rfl, f6, f7, f8, f9, f10, f11, f12, f13, f14, f15⟩⟩
                  · rintro D ρ wx hD hd hdc hf ⟨hs, f0, f1, f2, f3, f4, f5, f6, f7, f8, f9, f10, f11, f12, f13, f14, f15⟩
                    have g4 := f4 (doneD hd 4 rfl)
                    have g5 := f5 (doneD hd 5 rfl)
                    have d13 : D 13 = false := (notYetD hdc (j := 13) rfl rfl hD)
                    have d15 : D 15 = false := (notYetD hdc (j := 15) rfl rfl hD)
                    have hs0 := hs; rw [d13, d15] at hs0
                    exact .inl ⟨rfl, L_ixR UD_72 S1_57.1 (hs0.rd 0 rfl) g4 g5 (by omega) (by simp only [List.length_map, Array.length_toList, Array.size_setIfInBounds, Go.Sort.size_swp]; omega) ⟨hs, f0, f1, f2, f3, f4, f5, fun _ => rfl, f7, f8, f9, f10, f11, f12, f13, f14, f15⟩⟩
                  · rintro D ρ wx hD hd hdc hf ⟨hs, f0, f1, f2, f3, f4, f5, f6, f7, f8, f9, f10, f11, f12, f13, f14, f15⟩
                    have g6 := f6 (doneD hd 6 rfl)
                    have d13 : D 13 = false := (notYetD hdc (j := 13) rfl rfl hD)
                    have d15 : D 15 = false := (notYetD hdc (j := 15) rfl rfl hD)
                    have hs0 := hs; rw [d13, d15] at hs0
                    exact .inl ⟨rfl, L_ldR (j := 0) (V := .int .u16 (dd[j2]!)) j2 S1_57 (hs0.rd 0 rfl) (da_at (by omega)) rfl g6 (by omega) ⟨hs, f0, f1, f2, f3, f4, f5, f6, fun _ => rfl, f8, f9, f10, f11, f12, f13, f14, f15⟩⟩
                  · rintro D ρ wx hD hd hdc hf ⟨hs, f0, f1, f2, f3, f4, f5, f6, f7, f8, f9, f10, f11, f12, f13, f14, f15⟩
                    have r0 : ρ 0 = .slice a N c := outD hf 0 rfl
                    exact .inl ⟨rfl, L_move (V := .slice a N c) r0 ⟨hs, f0, f1, f2, f3, f4, f5, f6, f7, fun _ => rfl, f9, f10, f11, f12, f13, f14, f15⟩⟩
                  · rintro D ρ wx hD hd hdc hf ⟨hs, f0, f1, f2, f3, f4, f5, f6, f7, f8, f9, f10, f11, f12, f13, f14, f15⟩
                    have r10 : ρ 10 = .int .i64 ((i2 : Nat) : Int) := outD hf 10 rfl
                    exact .inl ⟨rfl, L_move (V := .int .i64 ((i2 : Nat) : Int)) r10 ⟨hs, f0, f1, f2, f3, f4, f5, f6, f7, f8, fun _ => rfl, f10, f11, f12, f13, f14, f15⟩⟩
                  · rintro D ρ wx hD hd hdc hf ⟨hs, f0, f1, f2, f3, f4, f5, f6, f7, f8, f9, f10, f11, f12, f13, f14, f15⟩
                    have g8 := f8 (doneD hd 8 rfl)
                    have g9 := f9 (doneD hd 9 rfl)
                    have d13 : D 13 = false := (notYetD hdc (j := 13) rfl rfl (notYetD hdc (j := 11) rfl rfl hD))
                    have d15 : D 15 = false := (notYetD hdc (j := 15) rfl rfl hD)
                    have hs0 := hs; rw [d13, d15] at hs0
                    exact .inl ⟨rfl, L_ixR UD_72 S1_57.1 (hs0.rd 0 rfl) g8 g9 (by omega) (by simp only [List.length_map, Array.length_toList, Array.size_setIfInBounds, Go.Sort.size_swp]; omega) ⟨hs, f0, f1, f2, f3, f4, f5, f6, f7, f8, f9, fun _ => rfl, f11, f12, f13, f14, f15⟩⟩
                  · rintro D ρ wx hD hd hdc hf ⟨hs, f0, f1, f2, f3, f4, f5, f6, f7, f8, f9, f10, f11, f12, f13, f14, f15⟩
                    have g10 := f10 (doneD hd 10 rfl)
                    have d13 : D 13 = false := (notYetD hdc (j := 13) rfl rfl hD)
                    have d15 : D 15 = false := (notYetD hdc (j := 15) rfl rfl hD)
                    have hs0 := hs; rw [d13, d15] at hs0
                    exact .inl ⟨rfl, L_ldR (j := 0) (V := .int .u16 (dd[i2]!)) i2 S1_57 (hs0.rd 0 rfl) (da_at (by omega)) rfl g10 (by omega) ⟨hs, f0, f1, f2, f3, f4, f5, f6, f7, f8, f9, f10, fun _ => rfl, f12, f13, f14, f15⟩⟩
                  · rintro D ρ wx hD hd hdc hf ⟨hs, f0, f1, f2, f3, f4, f5, f6, f7, f8, f9, f10, f11, f12, f13, f14, f15⟩
                    have g0 := f0 (doneD hd 0 rfl)
                    have g1 := f1 (doneD hd 1 rfl)
                    have d13 : D 13 = false := (notYetD hdc (j := 13) rfl rfl hD)
                    have d15 : D 15 = false := (notYetD hdc (j := 15) rfl rfl hD)
                    have hs0 := hs; rw [d13, d15] at hs0
                    exact .inl ⟨rfl, L_ixR UD_72 S1_57.1 (hs0.rd 0 rfl) g0 g1 (by omega) (by simp only [List.length_map, Array.length_toList, Array.size_setIfInBounds, Go.Sort.size_swp]; omega) ⟨hs, f0, f1, f2, f3, f4, f5, f6, f7, f8, f9, f10, f11, fun _ => rfl, f13, f14, f15⟩⟩
                  · rintro D ρ wx hD hd hdc hf ⟨hs, f0, f1, f2, f3, f4, f5, f6, f7, f8, f9, f10, f11, f12, f13, f14, f15⟩
                    have g7 := f7 (doneD hd 7 rfl)
                    have g12 := f12 (doneD hd 12 rfl)
                    have d13 : D 13 = false := hD
                    have d15 : D 15 = false := (notYetD hdc (j := 15) rfl rfl hD)
                    have hs0 := hs; rw [d13, d15] at hs0
                    refine .inl ⟨rfl, L_stA (z := dd[j2]!) i2 S1_57 hs0 0 rfl g12 (by omega) (by first | omega | (simp only [Array.size_setIfInBounds, Go.Sort.size_swp]; omega)) g7 rfl rfl fun _ hs0 => ⟨?_, f0, f1, f2, f3, f4, f5, f6, f7, f8, f9, f10, f11, f12, trivial, f14, f15⟩⟩
                    rw [show Go.Vx.mark D 13 15 = false from d15]
                    exact hs0
                  · rintro D ρ wx hD hd hdc hf ⟨hs, f0, f1, f2, f3, f4, f5, f6, f7, f8, f9, f10, f11, f12, f13, f14, f15⟩
                    have g2 := f2 (doneD hd 2 rfl)
                    have g3 := f3 (doneD hd 3 rfl)
                    have d13 : D 13 = true := doneD hd 13 rfl
                    have d15 : D 15 = false := (notYetD hdc (j := 15) rfl rfl hD)
                    have hs0 := hs; rw [d13, d15] at hs0
                    exact .inl ⟨rfl, L_ixR UD_72 S1_57.1 (hs0.rd 0 rfl) g2 g3 (by omega) (by simp only [List.length_map, Array.length_toList, Array.size_setIfInBounds, Go.Sort.size_swp]; omega) ⟨hs, f0, f1, f2, f3, f4, f5, f6, f7, f8, f9, f10, f11, f12, f13, fun _ => rfl, f15⟩⟩
                  · rintro D ρ wx hD hd hdc hf ⟨hs, f0, f1, f2, f3, f4, f5, f6, f7, f8, f9, f10, f11, f12, f13, f14, f15⟩
                    have g11 := f11 (doneD hd 11 rfl)
                    have g14 := f14 (doneD hd 14 rfl)
                    have d13 : D 13 = true := doneD hd 13 rfl
                    have d15 : D 15 = false := hD
                    have hs0 := hs; rw [d13, d15] at hs0
                    refine .inl ⟨rfl, L_stA (z := dd[i2]!) j2 S1_57 hs0 0 rfl g14 (by omega) (by first | omega | (simp only [Array.size_setIfInBounds, Go.Sort.size_swp]; omega)) g11 rfl rfl fun _ hs0 => ⟨?_, f0, f1, f2, f3, f4, f5, f6, f7, f8, f9, f10, f11, f12, f13, f14, trivial⟩⟩
                    rw [show Go.Vx.mark D 15 13 = true from d13]
                    exact hs0
                  · rintro ρ1 w1 D hD hf ⟨hs, f0, f1, f2, f3, f4, f5, f6, f7, f8, f9, f10, f11, f12, f13, f14, f15⟩
                    rw [hD 13 rfl, hD 15 rfl] at hs
                    clear f0 f1 f2 f3 f4 f5 f6 f7 f8 f9 f10 f11 f12 f13 f14 f15
                    obtain ⟨ρ2, hρ⟩ : ∃ ρ2, ρ1 = mix [81, 82, 83, 84, 85, 86, 87, 88, 89, 90, 91, 92, 93, 94] ρ2 _ := ⟨ρ1, mix_of (ds := [81, 82, 83, 84, 85, 86, 87, 88, 89, 90, 91, 92, 93, 94]) hf⟩
                    clear hf hD
                    subst hρ
                    refine W_seq ?_
                    refine W_region ?_
                    refine RW_op (L_move (V := .int .i64 ((i2 : Nat) : Int)) rfl ?_)
                    refine RW_op (L_add (a := ((i2 : Nat) : Int)) (b := 1) (c := ((i2 + 1 : Nat) : Int)) rfl rfl (nat_i64 (by omega) (by omega)) ?_)
                    refine RW_op (L_assign (V := .int .i64 ((i2 + 1 : Nat) : Int)) rfl ?_)
                    refine RW_nil ?_
                    refine W_seq ?_
                    refine W_region ?_
                    refine RW_op (L_move (V := .int .i64 ((j2 : Nat) : Int)) rfl ?_)
                    refine RW_op (L_sub (a := ((j2 : Nat) : Int)) (b := 1) (c := ((j2 - 1 : Nat) : Int)) rfl rfl (nat_i64 (by omega) (by omega)) ?_)
                    refine RW_op (L_assign (V := .int .i64 ((j2 - 1 : Nat) : Int)) rfl ?_)
                    refine RW_nil ?_
                    refine W_seq ?_
                    refine W_block ?_
                    have hpt := pt_go hdd hi2 hj2 c12
                    refine W_loopI (fun ρ m ρ' w' => ∃ (ρo : Env) (i : Nat) (j : Nat) (d1 : Array Int), ρ' = upd (upd (mix [10, 11, 99, 100, 101, 102, 103, 104, 105, 106, 107, 108, 109, 110, 111, 112, 113, 114, 115, 116, 117, 118, 119, 120, 121, 122, 123, 124, 125, 126, 127, 128, 129, 130, 131, 132, 133, 134, 135, 136, 137, 138, 139, 140, 141, 142, 143, 144, 145, 146, 147, 148, 149, 150, 151, 152] ρo ρ) 10 (.int .i64 ((i : Nat) : Int))) 11 (.int .i64 ((j : Nat) : Int)) ∧ (lo + 1 ≤ i) ∧ (i ≤ hi + 1) ∧ (j < hi ∧ lo ≤ j) ∧ (d1.size = N) ∧ (Sort.partLoop Sort.ltInt lo i j d1 = Sort.partLoop Sort.ltInt lo (i2 + 1) (j2 - 1) (Sort.swp dd i2 j2)) ∧ m = j + 1 - i ∧ Own w S w' [row (.slice a N c) (d1.toList.map (ic .u16)) 57 1]) ?_ ?_
                    · exact ⟨_, _, i2 + 1, j2 - 1, ((dd.setIfInBounds i2 (dd[j2]!)).setIfInBounds j2 (dd[i2]!)), upd_of (upd_of (mix_of (ds := [10, 11, 99, 100, 101, 102, 103, 104, 105, 106, 107, 108, 109, 110, 111, 112, 113, 114, 115, 116, 117, 118, 119, 120, 121, 122, 123, 124, 125, 126, 127, 128, 129, 130, 131, 132, 133, 134, 135, 136, 137, 138, 139, 140, 141, 142, 143, 144, 145, 146, 147, 148, 149, 150, 151, 152]) (Agr.refl _ _)) rfl) rfl, (by omega), (by omega), (by omega), (by simp only [Array.size_setIfInBounds]; exact hzd), rfl, rfl, hs⟩
                    · rintro m ρ' w19 ⟨ρo, i, j, d1, rfl, hi0, hi1, hj, hz1, hev, rfl, hs⟩
                      refine W_block ?_
                      refine W_seq ?_
                      refine W_block ?_
                      refine W_loopI (fun ρ m ρ' w' => ∃ (ρo : Env) (i4 : Nat), ρ' = upd (mix [10, 99, 100, 101, 102, 103, 104, 105, 106, 107, 108, 109, 110, 111, 112, 113, 114] ρo ρ) 10 (.int .i64 ((i4 : Nat) : Int)) ∧ (i ≤ i4) ∧ (i4 ≤ hi + 1) ∧ (Sort.scanUp (fun x => Sort.ltInt x d1[lo]!) d1 (j) i4 = Sort.scanUp (fun x => Sort.ltInt x d1[lo]!) d1 (j) (i)) ∧ m = j + 1 - i4 ∧ Own w S w' [row (.slice a N c) (d1.toList.map (ic .u16)) 57 1]) ?_ ?_
                      · exact ⟨_, _, i, upd_of (mix_of (ds := [10, 99, 100, 101, 102, 103, 104, 105, 106, 107, 108, 109, 110, 111, 112, 113, 114]) (Agr.refl _ _)) rfl, (Nat.le_refl _), (by omega), rfl, rfl, hs⟩
                      · rintro m ρ' w20 ⟨ρo, i4, rfl, hi4a, hi4b, hsu4, rfl, hs⟩
                        refine W_seq ?_
                        refine W_seq ?_
                        replace hs := hs.drew
                        refine W_draw2 HM [99, 100, 101, 102, 103, 104, 105, 106, 107, 108, 109, 110, 111, 112] [[], [], [0, 1], [2], [3], [3], [4, 5, 3], [6, 3], [3], [3], [8, 9, 3], [10, 3], [7, 11, 3, 3], [3, 12]] (fun D ρ wx => Own w S wx [row (.slice a N c) (d1.toList.map (ic .u16)) 57 1] ∧ (D 0 = true → ρ 99 = .int .i64 ((i4 : Nat) : Int)) ∧ (D 1 = true → ρ 100 = .int .i64 ((j : Nat) : Int)) ∧ (D 2 = true → ρ 101 = .bool (decide (((i4 : Nat) : Int) ≤ ((j : Nat) : Int)))) ∧ (D 3 = true → ρ 102 = .bool (decide (((i4 : Nat) : Int) ≤ ((j : Nat) : Int)))) ∧ (D 4 = true → ρ 103 = cond ((decide (((i4 : Nat) : Int) ≤ ((j : Nat) : Int))) == true) (.slice a N c) undef) ∧ (D 5 = true → ρ 104 = cond ((decide (((i4 : Nat) : Int) ≤ ((j : Nat) : Int))) == true) (.int .i64 ((i4 : Nat) : Int)) undef) ∧ (D 6 = true → ρ 105 = cond ((decide (((i4 : Nat) : Int) ≤ ((j : Nat) : Int))) == true) (.pointer (some ⟨bkS (.slice a N c), ofS (.slice a N c) + ((i4 : Nat) : Int).toNat * 1, none⟩)) undef) ∧ (D 7 = true → ρ 106 = cond ((decide (((i4 : Nat) : Int) ≤ ((j : Nat) : Int))) == true) (.int .u16 (d1[i4]!)) undef) ∧ (D 8 = true → ρ 107 = cond ((decide (((i4 : Nat) : Int) ≤ ((j : Nat) : Int))) == true) (.slice a N c) undef) ∧ (D 9 = true → ρ 108 = cond ((decide (((i4 : Nat) : Int) ≤ ((j : Nat) : Int))) == true) (.int .i64 ((lo : Nat) : Int)) undef) ∧ (D 10 = true → ρ 109 = cond ((decide (((i4 : Nat) : Int) ≤ ((j : Nat) : Int))) == true) (.pointer (some ⟨bkS (.slice a N c), ofS (.slice a N c) + ((lo : Nat) : Int).toNat * 1, none⟩)) undef) ∧ (D 11 = true → ρ 110 = cond ((decide (((i4 : Nat) : Int) ≤ ((j : Nat) : Int))) == true) (.int .u16 (d1[lo]!)) undef) ∧ (D 12 = true → ρ 111 = cond ((decide (((i4 : Nat) : Int) ≤ ((j : Nat) : Int))) == true) (.bool (decide (d1[i4]! < d1[lo]!))) undef) ∧ (D 13 = true → ρ 112 = .bool ((decide (((i4 : Nat) : Int) ≤ ((j : Nat) : Int))) && (decide (d1[i4]! < d1[lo]!))))) rfl rfl rfl ⟨hs, fun h => absurd h Bool.false_ne_true, fun h => absurd h Bool.false_ne_true, fun h => absurd h Bool.false_ne_true, fun h => absurd h Bool.false_ne_true, fun h => absurd h Bool.false_ne_true, fun h => absurd h Bool.false_ne_true, fun h => absurd h Bool.false_ne_true, fun h => absurd h Bool.false_ne_true, fun h => absurd h Bool.false_ne_true, fun h => absurd h Bool.false_ne_true, fun h => absurd h Bool.false_ne_true, fun h => absurd h Bool.false_ne_true, fun h => absurd h Bool.false_ne_true, fun h => absurd h Bool.false_ne_true⟩ ⟨?_, ?_, ?_, ?_, ?_, ?_, ?_, ?_, ?_, ?_, ?_, ?_, ?_, ?_, trivial⟩ ?_
                        · rintro D ρ wx hD hd hdc hf ⟨hs, f0, f1, f2, f3, f4, f5, f6, f7, f8, f9, f10, f11, f12, f13⟩
                          have r10 : ρ 10 = .int .i64 ((i4 : Nat) : Int) := outD hf 10 rfl
                          exact .inl ⟨rfl, L_move (V := .int .i64 ((i4 : Nat) : Int)) r10 ⟨hs, fun _ => rfl, f1, f2, f3, f4, f5, f6, f7, f8, f9, f10, f11, f12, f13⟩⟩
                        · rintro D ρ wx hD hd hdc hf ⟨hs, f0, f1, f2, f3, f4, f5, f6, f7, f8, f9, f10, f11, f12, f13⟩
                          have r11 : ρ 11 = .int .i64 ((j : Nat) : Int) := outD hf 11 rfl
                          exact .inl ⟨rfl, L_move (V := .int .i64 ((j : Nat) : Int)) r11 ⟨hs, f0, fun _ => rfl, f2, f3, f4, f5, f6, f7, f8, f9, f10, f11, f12, f13⟩⟩
                        · rintro D ρ wx hD hd hdc hf ⟨hs, f0, f1, f2, f3, f4, f5, f6, f7, f8, f9, f10, f11, f12, f13⟩
                          have g0 := f0 (doneD hd 0 rfl)
                          have g1 := f1 (doneD hd 1 rfl)
                          exact .inl ⟨rfl, L_leq g0 g1 ⟨hs, f0, f1, fun _ => rfl, f3, f4, f5, f6, f7, f8, f9, f10, f11, f12, f13⟩⟩
                        · rintro D ρ wx hD hd hdc hf ⟨hs, f0, f1, f2, f3, f4, f5, f6, f7, f8, f9, f10, f11, f12, f13⟩
                          have g2 := f2 (doneD hd 2 rfl)
                          exact .inl ⟨rfl, L_move (V := .bool (decide (((i4 : Nat) : Int) ≤ ((j : Nat) : Int)))) g2 ⟨hs, f0, f1, f2, fun _ => rfl, f4, f5, f6, f7, f8, f9, f10, f11, f12, f13⟩⟩
                        · rintro D ρ wx hD hd hdc hf ⟨hs, f0, f1, f2, f3, f4, f5, f6, f7, f8, f9, f10, f11, f12, f13⟩
                          have r0 : ρ 0 = .slice a N c := outD hf 0 rfl
                          rcases Bool.eq_false_or_eq_true ((decide (((i4 : Nat) : Int) ≤ ((j : Nat) : Int))) == true) with hG | hG
                          rotate_left
                          · exact .inr ⟨(Eq.trans (wantG1 (j := 3) rfl (f3 (doneD hd 3 rfl))) hG), ⟨hs, f0, f1, f2, f3, fun _ => (condF hG).symm, f5, f6, f7, f8, f9, f10, f11, f12, f13⟩⟩
                          ·
                            have hgd := of_decide_eq_true (eq_of_beq hG)
                            exact .inl ⟨(Eq.trans (wantG1 (j := 3) rfl (f3 (doneD hd 3 rfl))) hG), L_move (V := .slice a N c) r0 ⟨hs, f0, f1, f2, f3, fun _ => (condT hG).symm, f5, f6, f7, f8, f9, f10, f11, f12, f13⟩⟩
                        · rintro D ρ wx hD hd hdc hf ⟨hs, f0, f1, f2, f3, f4, f5, f6, f7, f8, f9, f10, f11, f12, f13⟩
                          have r10 : ρ 10 = .int .i64 ((i4 : Nat) : Int) := outD hf 10 rfl
                          rcases Bool.eq_false_or_eq_true ((decide (((i4 : Nat) : Int) ≤ ((j : Nat) : Int))) == true) with hG | hG
                          rotate_left
                          · exact .inr ⟨(Eq.trans (wantG1 (j := 3) rfl (f3 (doneD hd 3 rfl))) hG), ⟨hs, f0, f1, f2, f3, f4, fun _ => (condF hG).symm, f6, f7, f8, f9, f10, f11, f12, f13⟩⟩
                          ·
                            have hgd := of_decide_eq_true (eq_of_beq hG)
                            exact .inl ⟨(Eq.trans (wantG1 (j := 3) rfl (f3 (doneD hd 3 rfl))) hG), L_move (V := .int .i64 ((i4 : Nat) : Int)) r10 ⟨hs, f0, f1, f2, f3, f4, fun _ => (condT hG).symm, f6, f7, f8, f9, f10, f11, f12, f13⟩⟩
                        · rintro D ρ wx hD hd hdc hf ⟨hs, f0, f1, f2, f3, f4, f5, f6, f7, f8, f9, f10, f11, f12, f13⟩
                          have g4 := f4 (doneD hd 4 rfl)
                          have g5 := f5 (doneD hd 5 rfl)
                          rcases Bool.eq_false_or_eq_true ((decide (((i4 : Nat) : Int) ≤ ((j : Nat) : Int))) == true) with hG | hG
                          rotate_left
                          · exact .inr ⟨(Eq.trans (wantG1 (j := 3) rfl (f3 (doneD hd 3 rfl))) hG), ⟨hs, f0, f1, f2, f3, f4, f5, fun _ => (condF hG).symm, f7, f8, f9, f10, f11, f12, f13⟩⟩
                          ·
                            have hgd := of_decide_eq_true (eq_of_beq hG)
                            exact .inl ⟨(Eq.trans (wantG1 (j := 3) rfl (f3 (doneD hd 3 rfl))) hG), L_ixR UD_72 S1_57.1 (hs.rd 0 rfl) ((g4).trans (condT (by exact hG))) ((g5).trans (condT (by exact hG))) (by omega) (by simp only [List.length_map, Array.length_toList, Array.size_setIfInBounds, Go.Sort.size_swp]; omega) ⟨hs, f0, f1, f2, f3, f4, f5, fun _ => (condT hG).symm, f7, f8, f9, f10, f11, f12, f13⟩⟩
                        · rintro D ρ wx hD hd hdc hf ⟨hs, f0, f1, f2, f3, f4, f5, f6, f7, f8, f9, f10, f11, f12, f13⟩
                          have g6 := f6 (doneD hd 6 rfl)
                          rcases Bool.eq_false_or_eq_true ((decide (((i4 : Nat) : Int) ≤ ((j : Nat) : Int))) == true) with hG | hG
                          rotate_left
                          · exact .inr ⟨(Eq.trans (wantG1 (j := 3) rfl (f3 (doneD hd 3 rfl))) hG), ⟨hs, f0, f1, f2, f3, f4, f5, f6, fun _ => (condF hG).symm, f8, f9, f10, f11, f12, f13⟩⟩
                          ·
                            have hgd := of_decide_eq_true (eq_of_beq hG)
                            exact .inl ⟨(Eq.trans (wantG1 (j := 3) rfl (f3 (doneD hd 3 rfl))) hG), L_ldR (j := 0) (V := .int .u16 (d1[i4]!)) i4 S1_57 (hs.rd 0 rfl) (da_at (by omega)) rfl ((g6).trans (condT (by exact hG))) (by omega) ⟨hs, f0, f1, f2, f3, f4, f5, f6, fun _ => (condT hG).symm, f8, f9, f10, f11, f12, f13⟩⟩
                        · rintro D ρ wx hD hd hdc hf ⟨hs, f0, f1, f2, f3, f4, f5, f6, f7, f8, f9, f10, f11, f12, f13⟩
                          have r0 : ρ 0 = .slice a N c := outD hf 0 rfl
                          rcases Bool.eq_false_or_eq_true ((decide (((i4 : Nat) : Int) ≤ ((j : Nat) : Int))) == true) with hG | hG
                          rotate_left
                          · exact .inr ⟨(Eq.trans (wantG1 (j := 3) rfl (f3 (doneD hd 3 rfl))) hG), ⟨hs, f0, f1, f2, f3, f4, f5, f6, f7, fun _ => (condF hG).symm, f9, f10, f11, f12, f13⟩⟩
                          ·
                            have hgd := of_decide_eq_true (eq_of_beq hG)
                            exact .inl ⟨(Eq.trans (wantG1 (j := 3) rfl (f3 (doneD hd 3 rfl))) hG), L_move (V := .slice a N c) r0 ⟨hs, f0, f1, f2, f3, f4, f5, f6, f7, fun _ => (condT hG).symm, f9, f10, f11, f12, f13⟩⟩
                        · rintro D ρ wx hD hd hdc hf ⟨hs, f0, f1, f2, f3, f4, f5, f6, f7, f8, f9, f10, f11, f12, f13⟩
                          have r1 : ρ 1 = .int .i64 ((lo : Nat) : Int) := outD hf 1 rfl
                          rcases Bool.eq_false_or_eq_true ((decide (((i4 : Nat) : Int) ≤ ((j : Nat) : Int))) == true) with hG | hG
                          rotate_left
                          · exact .inr ⟨(Eq.trans (wantG1 (j := 3) rfl (f3 (doneD hd 3 rfl))) hG), ⟨hs, f0, f1, f2, f3, f4, f5, f6, f7, f8, fun _ => (condF hG).symm, f10, f11, f12, f13⟩⟩
                          ·
                            have hgd := of_decide_eq_true (eq_of_beq hG)
                            exact .inl ⟨(Eq.trans (wantG1 (j := 3) rfl (f3 (doneD hd 3 rfl))) hG), L_move (V := .int .i64 ((lo : Nat) : Int)) r1 ⟨hs, f0, f1, f2, f3, f4, f5, f6, f7, f8, fun _ => (condT hG).symm, f10, f11, f12, f13⟩⟩
                        · rintro D ρ wx hD hd hdc hf ⟨hs, f0, f1, f2, f3, f4, f5, f6, f7, f8, f9, f10, f11, f12, f13⟩
                          have g8 := f8 (doneD hd 8 rfl)
                          have g9 := f9 (doneD hd 9 rfl)
                          rcases Bool.eq_false_or_eq_true ((decide (((i4 : Nat) : Int) ≤ ((j : Nat) : Int))) == true) with hG | hG
                          rotate_left
                          · exact .inr ⟨(Eq.trans (wantG1 (j := 3) rfl (f3 (doneD hd 3 rfl))) hG), ⟨hs, f0, f1, f2, f3, f4, f5, f6, f7, f8, f9, fun _ => (condF hG).symm, f11, f12, f13⟩⟩
                          ·
                            have hgd := of_decide_eq_true (eq_of_beq hG)
                            exact .inl ⟨(Eq.trans (wantG1 (j := 3) rfl (f3 (doneD hd 3 rfl))) hG), L_ixR UD_72 S1_57.1 (hs.rd 0 rfl) ((g8).trans (condT (by exact hG))) ((g9).trans (condT (by exact hG))) (by omega) (by simp only [List.length_map, Array.length_toList, Array.size_setIfInBounds, Go.Sort.size_swp]; omega) ⟨hs, f0, f1, f2, f3, f4, f5, f6, f7, f8, f9, fun _ => (condT hG).symm, f11, f12, f13⟩⟩
                        · rintro D ρ wx hD hd hdc hf ⟨hs, f0, f1, f2, f3, f4, f5, f6, f7, f8, f9, f10, f11, f12, f13⟩
                          have g10 := f10 (doneD hd 10 rfl)
                          rcases Bool.eq_false_or_eq_true ((decide (((i4 : Nat) : Int) ≤ ((j : Nat) : Int))) == true) with hG | hG
                          rotate_left
                          · exact .inr ⟨(Eq.trans (wantG1 (j := 3) rfl (f3 (doneD hd 3 rfl))) hG), ⟨hs, f0, f1, f2, f3, f4, f5, f6, f7, f8, f9, f10, fun _ => (condF hG).symm, f12, f13⟩⟩
                          ·
                            have hgd := of_decide_eq_true (eq_of_beq hG)
                            exact .inl ⟨(Eq.trans (wantG1 (j := 3) rfl (f3 (doneD hd 3 rfl))) hG), L_ldR (j := 0) (V := .int .u16 (d1[lo]!)) lo S1_57 (hs.rd 0 rfl) (da_at (by omega)) rfl ((g10).trans (condT (by exact hG))) (by omega) ⟨hs, f0, f1, f2, f3, f4, f5, f6, f7, f8, f9, f10, fun _ => (condT hG).symm, f12, f13⟩⟩
                        · rintro D ρ wx hD hd hdc hf ⟨hs, f0, f1, f2, f3, f4, f5, f6, f7, f8, f9, f10, f11, f12, f13⟩
                          have g7 := f7 (doneD hd 7 rfl)
                          have g11 := f11 (doneD hd 11 rfl)
                          rcases Bool.eq_false_or_eq_true ((decide (((i4 : Nat) : Int) ≤ ((j : Nat) : Int))) == true) with hG | hG
                          rotate_left
                          · exact .inr ⟨(Eq.trans (wantG1 (j := 3) rfl (f3 (doneD hd 3 rfl))) hG), ⟨hs, f0, f1, f2, f3, f4, f5, f6, f7, f8, f9, f10, f11, fun _ => (condF hG).symm, f13⟩⟩
                          ·
                            have hgd := of_decide_eq_true (eq_of_beq hG)
                            exact .inl ⟨(Eq.trans (wantG1 (j := 3) rfl (f3 (doneD hd 3 rfl))) hG), L_callP (vs := [.int .u16 (d1[i4]!), .int .u16 (d1[lo]!)]) (V := .bool (decide (d1[i4]! < d1[lo]!))) EN_108 rfl (mapc ((g7).trans (condT (by exact hG))) (mapc ((g11).trans (condT (by exact hG))) rfl)) (less_ok _ (d1[i4]!) (d1[lo]!)) hs fun _ hs0 => ⟨hs0, f0, f1, f2, f3, f4, f5, f6, f7, f8, f9, f10, f11, fun _ => (condT hG).symm, f13⟩⟩
                        · rintro D ρ wx hD hd hdc hf ⟨hs, f0, f1, f2, f3, f4, f5, f6, f7, f8, f9, f10, f11, f12, f13⟩
                          have g3 := f3 (doneD hd 3 rfl)
                          have g12 := f12 (doneD hd 12 rfl)
                          exact .inl ⟨rfl, L_and g3 rfl (fun hg => ((g12).trans (condT (by first | exact beqT hg | rfl)))) ⟨hs, f0, f1, f2, f3, f4, f5, f6, f7, f8, f9, f10, f11, f12, fun _ => rfl⟩⟩
                        · rintro ρ1 w1 D hD hf ⟨hs, f0, f1, f2, f3, f4, f5, f6, f7, f8, f9, f10, f11, f12, f13⟩
                          have e13 := f13 (hD 13 rfl)
                          clear f0 f1 f2 f3 f4 f5 f6 f7 f8 f9 f10 f11 f12 f13
                          obtain ⟨ρ2, hρ⟩ : ∃ ρ2, ρ1 = upd (mix [99, 100, 101, 102, 103, 104, 105, 106, 107, 108, 109, 110, 111, 112] ρ2 _) 112 (.bool ((decide (((i4 : Nat) : Int) ≤ ((j : Nat) : Int))) && (decide (d1[i4]! < d1[lo]!)))) := ⟨ρ1, upd_of (mix_of (ds := [99, 100, 101, 102, 103, 104, 105, 106, 107, 108, 109, 110, 111, 112]) hf) e13⟩
                          clear hf hD e13
                          subst hρ
                          refine W_cond (t := (decide (((i4 : Nat) : Int) ≤ ((j : Nat) : Int))) && (decide (d1[i4]! < d1[lo]!))) rfl (fun c23 => ?_) (fun c23 => ?_)
                          ·
                            have c23r := and_r c23
                            replace c23 := and_l c23
                            replace c23 := of_decide_eq_true c23
                            replace c23r := of_decide_eq_true c23r
                            refine W_skip ?_
                            refine W_block ?_
                            refine W_region ?_
                            refine RW_op (L_move (V := .int .i64 ((i4 : Nat) : Int)) rfl ?_)
                            refine RW_op (L_add (a := ((i4 : Nat) : Int)) (b := 1) (c := ((i4 + 1 : Nat) : Int)) rfl rfl (nat_i64 (by omega) (by omega)) ?_)
                            refine RW_op (L_assign (V := .int .i64 ((i4 + 1 : Nat) : Int)) rfl ?_)
                            refine RW_nil ?_
                            refine ⟨_, ?_, _, i4 + 1, upd_of (mix_of (ds := [10, 99, 100, 101, 102, 103, 104, 105, 106, 107, 108, 109, 110, 111, 112, 113, 114]) (by repeat (first | exact Agr.refl _ _ | refine Agr.upd ?_ rfl | refine Agr.mix ?_ rfl))) rfl, (by omega), (by omega), (by rw [← hsu4, su_yes (p := fun x => Sort.ltInt x d1[lo]!) (b := decide (d1[i4]! < d1[lo]!)) rfl c23 (decide_eq_true c23r)]), rfl, hs.take 1⟩
                            omega
                          ·
                            refine W_exit ?_
                            refine W_seq ?_
                            refine W_block ?_
                            have hi4 : i4 = Sort.scanUp (fun x => Sort.ltInt x d1[lo]!) d1 j i := by rw [← hsu4, su_no (p := fun x => Sort.ltInt x d1[lo]!) (b := decide (d1[i4]! < d1[lo]!)) rfl c23]
                            refine W_loopI (fun ρ m ρ' w' => ∃ (ρo : Env) (j4 : Nat), ρ' = upd (mix [11, 115, 116, 117, 118, 119, 120, 121, 122, 123, 124, 125, 126, 127, 128, 129, 130, 131] ρo ρ) 11 (.int .i64 ((j4 : Nat) : Int)) ∧ (j4 ≤ j) ∧ (Sort.scanDown (fun x => !Sort.ltInt x d1[lo]!) d1 i4 j4 = Sort.scanDown (fun x => !Sort.ltInt x d1[lo]!) d1 i4 (j)) ∧ (lo ≤ j4) ∧ m = 2 * j4 ∧ Own w S w' [row (.slice a N c) (d1.toList.map (ic .u16)) 57 1]) ?_ ?_
                            · exact ⟨_, _, j, upd_of (mix_of (ds := [11, 115, 116, 117, 118, 119, 120, 121, 122, 123, 124, 125, 126, 127, 128, 129, 130, 131]) (Agr.refl _ _)) rfl, (Nat.le_refl _), rfl, (by omega), rfl, hs⟩
                            · rintro m ρ' w24 ⟨ρo, j4, rfl, hj4b, hsd4, hlowj4, rfl, hs⟩
                              refine W_seq ?_
                              refine W_seq ?_
                              replace hs := hs.drew
                              refine W_draw2 HM [115, 116, 117, 118, 119, 120, 121, 122, 123, 124, 125, 126, 127, 128, 129] [[], [], [0, 1], [2], [3], [3], [4, 5, 3], [6, 3], [3], [3], [8, 9, 3], [10, 3], [7, 11, 3, 3], [12, 3], [3, 13]] (fun D ρ wx => Own w S wx [row (.slice a N c) (d1.toList.map (ic .u16)) 57 1] ∧ (D 0 = true → ρ 115 = .int .i64 ((i4 : Nat) : Int)) ∧ (D 1 = true → ρ 116 = .int .i64 ((j4 : Nat) : Int)) ∧ (D 2 = true → ρ 117 = .bool (decide (((i4 : Nat) : Int) ≤ ((j4 : Nat) : Int)))) ∧ (D 3 = true → ρ 118 = .bool (decide (((i4 : Nat) : Int) ≤ ((j4 : Nat) : Int)))) ∧ (D 4 = true → ρ 119 = cond ((decide (((i4 : Nat) : Int) ≤ ((j4 : Nat) : Int))) == true) (.slice a N c) undef) ∧ (D 5 = true → ρ 120 = cond ((decide (((i4 : Nat) : Int) ≤ ((j4 : Nat) : Int))) == true) (.int .i64 ((j4 : Nat) : Int)) undef) ∧ (D 6 = true → ρ 121 = cond ((decide (((i4 : Nat) : Int) ≤ ((j4 : Nat) : Int))) == true) (.pointer (some ⟨bkS (.slice a N c), ofS (.slice a N c) + ((j4 : Nat) : Int).toNat * 1, none⟩)) undef) ∧ (D 7 = true → ρ 122 = cond ((decide (((i4 : Nat) : Int) ≤ ((j4 : Nat) : Int))) == true) (.int .u16 (d1[j4]!)) undef) ∧ (D 8 = true → ρ 123 = cond ((decide (((i4 : Nat) : Int) ≤ ((j4 : Nat) : Int))) == true) (.slice a N c) undef) ∧ (D 9 = true → ρ 124 = cond ((decide (((i4 : Nat) : Int) ≤ ((j4 : Nat) : Int))) == true) (.int .i64 ((lo : Nat) : Int)) undef) ∧ (D 10 = true → ρ 125 = cond ((decide (((i4 : Nat) : Int) ≤ ((j4 : Nat) : Int))) == true) (.pointer (some ⟨bkS (.slice a N c), ofS (.slice a N c) + ((lo : Nat) : Int).toNat * 1, none⟩)) undef) ∧ (D 11 = true → ρ 126 = cond ((decide (((i4 : Nat) : Int) ≤ ((j4 : Nat) : Int))) == true) (.int .u16 (d1[lo]!)) undef) ∧ (D 12 = true → ρ 127 = cond ((decide (((i4 : Nat) : Int) ≤ ((j4 : Nat) : Int))) == true) (.bool (decide (d1[j4]! < d1[lo]!))) undef) ∧ (D 13 = true → ρ 128 = cond ((decide (((i4 : Nat) : Int) ≤ ((j4 : Nat) : Int))) == true) (.bool (!decide (d1[j4]! < d1[lo]!))) undef) ∧ (D 14 = true → ρ 129 = .bool ((decide (((i4 : Nat) : Int) ≤ ((j4 : Nat) : Int))) && (!decide (d1[j4]! < d1[lo]!))))) rfl rfl rfl ⟨hs, fun h => absurd h Bool.false_ne_true, fun h => absurd h Bool.false_ne_true, fun h => absurd h Bool.false_ne_true, fun h => absurd h Bool.false_ne_true, fun h => absurd h Bool.false_ne_true, fun h => absurd h Bool.false_ne_true, fun h => absurd h Bool.false_ne_true, fun h => absurd h Bool.false_ne_true, fun h => absurd h Bool.false_ne_true, fun h => absurd h Bool.false_ne_true, fun h => absurd h Bool.false_ne_true, fun h => absurd h Bool.false_ne_true, fun h => absurd h Bool.false_ne_true, fun h => absurd h Bool.false_ne_true, fun h => absurd h Bool.false_ne_true⟩ ⟨?_, ?_, ?_, ?_, ?_, ?_, ?_, ?_, ?_, ?_, ?_, ?_, ?_, ?_, ?_, trivial⟩ ?_
                              · rintro D ρ wx hD hd hdc hf ⟨hs, f0, f1, f2, f3, f4, f5, f6, f7, f8, f9, f10, f11, f12, f13, f14⟩
                                have r10 : ρ 10 = .int .i64 ((i4 : Nat) : Int) := outD hf 10 rfl
                                exact .inl ⟨rfl, L_move (V := .int .i64 ((i4 : Nat) : Int)) r10 ⟨hs, fun _ => rfl, f1, f2, f3, f4, f5, f6, f7, f8, f9, f10, f11, f12, f13, f14⟩⟩
                              · rintro D ρ wx hD hd hdc hf ⟨hs, f0, f1, f2, f3, f4, f5, f6, f7, f8, f9, f10, f11, f12, f13, f14⟩
                                have r11 : ρ 11 = .int .i64 ((j4 : Nat) : Int) := outD hf 11 rfl
                                exact .inl ⟨rfl, L_move (V := .int .i64 ((j4 : Nat) : Int)) r11 ⟨hs, f0, fun _ => rfl, f2, f3, f4, f5, f6, f7, f8, f9, f10, f11, f12, f13, f14⟩⟩
                              · rintro D ρ wx hD hd hdc hf ⟨hs, f0, f1, f2, f3, f4, f5, f6, f7, f8, f9, f10, f11, f12, f13, f14⟩
                                have g0 := f0 (doneD hd 0 rfl)
                                have g1 := f1 (doneD hd 1 rfl)
                                exact .inl ⟨rfl, L_leq g0 g1 ⟨hs, f0, f1, fun _ => rfl, f3, f4, f5, f6, f7, f8, f9, f10, f11, f12, f13, f14⟩⟩
                              · rintro D ρ wx hD hd hdc hf ⟨hs, f0, f1, f2, f3, f4, f5, f6, f7, f8, f9, f10, f11, f12, f13, f14⟩
                                have g2 := f2 (doneD hd 2 rfl)
                                exact .inl ⟨rfl, L_move (V := .bool (decide (((i4 : Nat) : Int) ≤ ((j4 : Nat) : Int)))) g2 ⟨hs, f0, f1, f2, fun _ => rfl, f4, f5, f6, f7, f8, f9, f10, f11, f12, f13, f14⟩⟩
                              · rintro D ρ wx hD hd hdc hf ⟨hs, f0, f1, f2, f3, f4, f5, f6, f7, f8, f9, f10, f11, f12, f13, f14⟩
                                have r0 : ρ 0 = .slice a N c := outD hf 0 rfl
                                rcases Bool.eq_false_or_eq_true ((decide (((i4 : Nat) : Int) ≤ ((j4 : Nat) : Int))) == true) with hG | hG
                                rotate_left
                                · exact .inr ⟨(Eq.trans (wantG1 (j := 3) rfl (f3 (doneD hd 3 rfl))) hG), ⟨hs, f0, f1, f2, f3, fun _ => (condF hG).symm, f5, f6, f7, f8, f9, f10, f11, f12, f13, f14⟩⟩
                                ·
                                  have hgd := of_decide_eq_true (eq_of_beq hG)
                                  exact .inl ⟨(Eq.trans (wantG1 (j := 3) rfl (f3 (doneD hd 3 rfl))) hG), L_move (V := .slice a N c) r0 ⟨hs, f0, f1, f2, f3, fun _ => (condT hG).symm, f5, f6, f7, f8, f9, f10, f11, f12, f13, f14⟩⟩
                              · rintro D ρ wx hD hd hdc hf ⟨hs, f0, f1, f2, f3, f4, f5, f6, f7, f8, f9, f10, f11, f12, f13, f14⟩
                                have r11 : ρ 11 = .int .i64 ((j4 : Nat) : Int) := outD hf 11 rfl
                                rcases Bool.eq_false_or_eq_true ((decide (((i4 : Nat) : Int) ≤ ((j4 : Nat) : Int))) == true) with hG | hG
                                rotate_left
                                · exact .inr ⟨(Eq.trans (wantG1 (j := 3) rfl (f3 (doneD hd 3 rfl))) hG), ⟨hs, f0, f1, f2, f3, f4, fun _ => (condF hG).symm, f6, f7, f8, f9, f10, f11, f12, f13, f14⟩⟩
                                ·
                                  have hgd := of_decide_eq_true (eq_of_beq hG)
                                  exact .inl ⟨(Eq.trans (wantG1 (j := 3) rfl (f3 (doneD hd 3 rfl))) hG), L_move (V := .int .i64 ((j4 : Nat) : Int)) r11 ⟨hs, f0, f1, f2, f3, f4, fun _ => (condT hG).symm, f6, f7, f8, f9, f10, f11, f12, f13, f14⟩⟩
                              · rintro D ρ wx hD hd hdc hf ⟨hs, f0, f1, f2, f3, f4, f5, f6, f7, f8, f9, f10, f11, f12, f13, f14⟩
                                have g4 := f4 (doneD hd 4 rfl)
                                have g5 := f5 (doneD hd 5 rfl)
                                rcases Bool.eq_false_or_eq_true ((decide (((i4 : Nat) : Int) ≤ ((j4 : Nat) : Int))) == true) with hG | hG
                                rotate_left
                                · exact .inr ⟨(Eq.trans (wantG1 (j := 3) rfl (f3 (doneD hd 3 rfl))) hG), ⟨hs, f0, f1, f2, f3, f4, f5, fun _ => (condF hG).symm, f7, f8, f9, f10, f11, f12, f13, f14⟩⟩
                                ·
                                  have hgd := of_decide_eq_true (eq_of_beq hG)
                                  exact .inl ⟨(Eq.trans (wantG1 (j := 3) rfl (f3 (doneD hd 3 rfl))) hG), L_ixR UD_72 S1_57.1 (hs.rd 0 rfl) ((g4).trans (condT (by exact hG))) ((g5).trans (condT (by exact hG))) (by omega) (by simp only [List.length_map, Array.length_toList, Array.size_setIfInBounds, Go.Sort.size_swp]; omega) ⟨hs, f0, f1, f2, f3, f4, f5, fun _ => (condT hG).symm, f7, f8, f9, f10, f11, f12, f13, f14⟩⟩
                              · rintro D ρ wx hD hd hdc hf ⟨hs, f0, f1, f2, f3, f4, f5, f6, f7, f8, f9, f10, f11, f12, f13, f14⟩
                                have g6 := f6 (doneD hd 6 rfl)
                                rcases Bool.eq_false_or_eq_true ((decide (((i4 : Nat) : Int) ≤ ((j4 : Nat) : Int))) == true) with hG | hG
                                rotate_left
                                · exact .inr ⟨(Eq.trans (wantG1 (j := 3) rfl (f3 (doneD hd 3 rfl))) hG), ⟨hs, f0, f1, f2, f3, f4, f5, f6, fun _ => (condF hG).symm, f8, f9, f10, f11, f12, f13, f14⟩⟩
                                ·
                                  have hgd := of_decide_eq_true (eq_of_beq hG)
                                  exact .inl ⟨(Eq.trans (wantG1 (j := 3) rfl (f3 (doneD hd 3 rfl))) hG), L_ldR (j := 0) (V := .int .u16 (d1[j4]!)) j4 S1_57 (hs.rd 0 rfl) (da_at (by omega)) rfl ((g6).trans (condT (by exact hG))) (by omega) ⟨hs, f0, f1, f2, f3, f4, f5, f6, fun _ => (condT hG).symm, f8, f9, f10, f11, f12, f13, f14⟩⟩
                              · rintro D ρ wx hD hd hdc hf ⟨hs, f0, f1, f2, f3, f4, f5, f6, f7, f8, f9, f10, f11, f12, f13, f14⟩
                                have r0 : ρ 0 = .slice a N c := outD hf 0 rfl
                                rcases Bool.eq_false_or_eq_true ((decide (((i4 : Nat) : Int) ≤ ((j4 : Nat) : Int))) == true) with hG | hG
                                rotate_left
                                · exact .inr ⟨(Eq.trans (wantG1 (j := 3) rfl (f3 (doneD hd 3 rfl))) hG), ⟨hs, f0, f1, f2, f3, f4, f5, f6, f7, fun _ => (condF hG).symm, f9, f10, f11, f12, f13, f14⟩⟩
                                ·
                                  have hgd := of_decide_eq_true (eq_of_beq hG)
                                  exact .inl ⟨(Eq.trans (wantG1 (j := 3) rfl (f3 (doneD hd 3 rfl))) hG), L_move (V := .slice a N c) r0 ⟨hs, f0, f1, f2, f3, f4, f5, f6, f7, fun _ => (condT hG).symm, f9, f10, f11, f12, f13, f14⟩⟩
                              · rintro D ρ wx hD hd hdc hf ⟨hs, f0, f1, f2, f3, f4, f5, f6, f7, f8, f9, f10, f11, f12, f13, f14⟩
                                have r1 : ρ 1 = .int .i64 ((lo : Nat) : Int) := outD hf 1 rfl
                                rcases Bool.eq_false_or_eq_true ((decide (((i4 : Nat) : Int) ≤ ((j4 : Nat) : Int))) == true) with hG | hG
                                rotate_left
                                · exact .inr ⟨(Eq.trans (wantG1 (j := 3) rfl (f3 (doneD hd 3 rfl))) hG), ⟨hs, f0, f1, f2, f3, f4, f5, f6, f7, f8, fun _ => (condF hG).symm, f10, f11, f12, f13, f14⟩⟩
                                ·
                                  have hgd := of_decide_eq_true (eq_of_beq hG)
                                  exact .inl ⟨(Eq.trans (wantG1 (j := 3) rfl (f3 (doneD hd 3 rfl))) hG), L_move (V := .int .i64 ((lo : Nat) : Int)) r1 ⟨hs, f0, f1, f2, f3, f4, f5, f6, f7, f8, fun _ => (condT hG).symm, f10, f11, f12, f13, f14⟩⟩
                              · rintro D ρ wx hD hd hdc hf ⟨hs, f0, f1, f2, f3, f4, f5, f6, f7, f8, f9, f10, f11, f12, f13, f14⟩
                                have g8 := f8 (doneD hd 8 rfl)
                                have g9 := f9 (doneD hd 9 rfl)
                                rcases Bool.eq_false_or_eq_true ((decide (((i4 : Nat) : Int) ≤ ((j4 : Nat) : Int))) == true) with hG | hG
                                rotate_left
                                · exact .inr ⟨(Eq.trans (wantG1 (j := 3) rfl (f3 (doneD hd 3 rfl))) hG), ⟨hs, f0, f1, f2, f3, f4, f5, f6, f7, f8, f9, fun _ => (condF hG).symm, f11, f12, f13, f14⟩⟩
                                ·
                                  have hgd := of_decide_eq_true (eq_of_beq hG)
                                  exact .inl ⟨(Eq.trans (wantG1 (j := 3) rfl (f3 (doneD hd 3 rfl))) hG), L_ixR UD_72 S1_57.1 (hs.rd 0 rfl) ((g8).trans (condT (by exact hG))) ((g9).trans (condT (by exact hG))) (by omega) (by simp only [List.length_map, Array.length_toList, Array.size_setIfInBounds, Go.Sort.size_swp]; omega) ⟨hs, f0, f1, f2, f3, f4, f5, f6, f7, f8, f9, fun _ => (condT hG).symm, f11, f12, f13, f14⟩⟩
                              · rintro D ρ wx hD hd hdc hf ⟨hs, f0, f1, f2, f3, f4, f5, f6, f7, f8, f9, f10, f11, f12, f13, f14⟩
                                have g10 := f10 (doneD hd 10 rfl)
                                rcases Bool.eq_false_or_eq_true ((decide (((i4 : Nat) : Int) ≤ ((j4 : Nat) : Int))) == true) with hG | hG
                                rotate_left
                                · exact .inr ⟨(Eq.trans (wantG1 (j := 3) rfl (f3 (doneD hd 3 rfl))) hG), ⟨hs, f0, f1, f2, f3, f4, f5, f6, f7, f8, f9, f10, fun _ => (condF hG).symm, f12, f13, f14⟩⟩
                                ·
                                  have hgd := of_decide_eq_true (eq_of_beq hG)
                                  exact .inl ⟨(Eq.trans (wantG1 (j := 3) rfl (f3 (doneD hd 3 rfl))) hG), L_ldR (j := 0) (V := .int .u16 (d1[lo]!)) lo S1_57 (hs.rd 0 rfl) (da_at (by omega)) rfl ((g10).trans (condT (by exact hG))) (by omega) ⟨hs, f0, f1, f2, f3, f4, f5, f6, f7, f8, f9, f10, fun _ => (condT hG).symm, f12, f13, f14⟩⟩
                              · rintro D ρ wx hD hd hdc hf ⟨hs, f0, f1, f2, f3, f4, f5, f6, f7, f8, f9, f10, f11, f12, f13, f14⟩
                                have g7 := f7 (doneD hd 7 rfl)
                                have g11 := f11 (doneD hd 11 rfl)
                                rcases Bool.eq_false_or_eq_true ((decide (((i4 : Nat) : Int) ≤ ((j4 : Nat) : Int))) == true) with hG | hG
                                rotate_left
                                · exact .inr ⟨(Eq.trans (wantG1 (j := 3) rfl (f3 (doneD hd 3 rfl))) hG), ⟨hs, f0, f1, f2, f3, f4, f5, f6, f7, f8, f9, f10, f11, fun _ => (condF hG).symm, f13, f14⟩⟩
                                ·
                                  have hgd := of_decide_eq_true (eq_of_beq hG)
                                  exact .inl ⟨(Eq.trans (wantG1 (j := 3) rfl (f3 (doneD hd 3 rfl))) hG), L_callP (vs := [.int .u16 (d1[j4]!), .int .u16 (d1[lo]!)]) (V := .bool (decide (d1[j4]! < d1[lo]!))) EN_108 rfl (mapc ((g7).trans (condT (by exact hG))) (mapc ((g11).trans (condT (by exact hG))) rfl)) (less_ok _ (d1[j4]!) (d1[lo]!)) hs fun _ hs0 => ⟨hs0, f0, f1, f2, f3, f4, f5, f6, f7, f8, f9, f10, f11, fun _ => (condT hG).symm, f13, f14⟩⟩
                              · rintro D ρ wx hD hd hdc hf ⟨hs, f0, f1, f2, f3, f4, f5, f6, f7, f8, f9, f10, f11, f12, f13, f14⟩
                                have g12 := f12 (doneD hd 12 rfl)
                                rcases Bool.eq_false_or_eq_true ((decide (((i4 : Nat) : Int) ≤ ((j4 : Nat) : Int))) == true) with hG | hG
                                rotate_left
                                · exact .inr ⟨(Eq.trans (wantG1 (j := 3) rfl (f3 (doneD hd 3 rfl))) hG), ⟨hs, f0, f1, f2, f3, f4, f5, f6, f7, f8, f9, f10, f11, f12, fun _ => (condF hG).symm, f14⟩⟩
                                ·
                                  have hgd := of_decide_eq_true (eq_of_beq hG)
                                  exact .inl ⟨(Eq.trans (wantG1 (j := 3) rfl (f3 (doneD hd 3 rfl))) hG), L_not ((g12).trans (condT (by exact hG))) ⟨hs, f0, f1, f2, f3, f4, f5, f6, f7, f8, f9, f10, f11, f12, fun _ => (condT hG).symm, f14⟩⟩
                              · rintro D ρ wx hD hd hdc hf ⟨hs, f0, f1, f2, f3, f4, f5, f6, f7, f8, f9, f10, f11, f12, f13, f14⟩
                                have g3 := f3 (doneD hd 3 rfl)
                                have g13 := f13 (doneD hd 13 rfl)
                                exact .inl ⟨rfl, L_and g3 rfl (fun hg => ((g13).trans (condT (by first | exact beqT hg | rfl)))) ⟨hs, f0, f1, f2, f3, f4, f5, f6, f7, f8, f9, f10, f11, f12, f13, fun _ => rfl⟩⟩
                              · rintro ρ1 w1 D hD hf ⟨hs, f0, f1, f2, f3, f4, f5, f6, f7, f8, f9, f10, f11, f12, f13, f14⟩
                                have e14 := f14 (hD 14 rfl)
                                clear f0 f1 f2 f3 f4 f5 f6 f7 f8 f9 f10 f11 f12 f13 f14
                                obtain ⟨ρ2, hρ⟩ : ∃ ρ2, ρ1 = upd (mix [115, 116, 117, 118, 119, 120, 121, 122, 123, 124, 125, 126, 127, 128, 129] ρ2 _) 129 (.bool ((decide (((i4 : Nat) : Int) ≤ ((j4 : Nat) : Int))) && (!decide (d1[j4]! < d1[lo]!)))) := ⟨ρ1, upd_of (mix_of (ds := [115, 116, 117, 118, 119, 120, 121, 122, 123, 124, 125, 126, 127, 128, 129]) hf) e14⟩
                                clear hf hD e14
                                subst hρ
                                refine W_cond (t := (decide (((i4 : Nat) : Int) ≤ ((j4 : Nat) : Int))) && (!decide (d1[j4]! < d1[lo]!))) rfl (fun c27 => ?_) (fun c27 => ?_)
                                ·
                                  have c27r := and_r c27
                                  replace c27 := and_l c27
                                  replace c27 := of_decide_eq_true c27
                                  replace c27r := not_t c27r
                                  replace c27r := of_decide_eq_false c27r
                                  refine W_skip ?_
                                  refine W_block ?_
                                  refine W_region ?_
                                  refine RW_op (L_move (V := .int .i64 ((j4 : Nat) : Int)) rfl ?_)
                                  refine RW_op (L_sub (a := ((j4 : Nat) : Int)) (b := 1) (c := ((j4 - 1 : Nat) : Int)) rfl rfl (nat_i64 (by omega) (by omega)) ?_)
                                  refine RW_op (L_assign (V := .int .i64 ((j4 - 1 : Nat) : Int)) rfl ?_)
                                  refine RW_nil ?_
                                  refine ⟨_, ?_, _, j4 - 1, upd_of (mix_of (ds := [11, 115, 116, 117, 118, 119, 120, 121, 122, 123, 124, 125, 126, 127, 128, 129, 130, 131]) (by repeat (first | exact Agr.refl _ _ | refine Agr.upd ?_ rfl | refine Agr.mix ?_ rfl))) rfl, (by omega), (by rw [← hsd4, sw_yes (p := fun x => !Sort.ltInt x d1[lo]!) (b := !decide (d1[j4]! < d1[lo]!)) (by omega) rfl c27 (by rw [decide_eq_false c27r]; rfl)]), (by omega), rfl, hs.take 1⟩
                                  omega
                                ·
                                  refine W_exit ?_
                                  refine W_seq ?_
                                  refine W_seq ?_
                                  have hj4 : j4 = Sort.scanDown (fun x => !Sort.ltInt x d1[lo]!) d1 i4 j := by rw [← hsd4, sw_no (p := fun x => !Sort.ltInt x d1[lo]!) (b := !decide (d1[j4]! < d1[lo]!)) rfl c27]
                                  refine W_region ?_
                                  refine RW_op (L_move (V := .int .i64 ((i4 : Nat) : Int)) rfl ?_)
                                  refine RW_op (L_move (V := .int .i64 ((j4 : Nat) : Int)) rfl ?_)
                                  refine RW_op (L_gtr rfl rfl ?_)
                                  refine RW_nil ?_
                                  refine W_cond (t := decide (((j4 : Nat) : Int) < ((i4 : Nat) : Int))) rfl (fun c28 => ?_) (fun c28 => ?_)
                                  ·
                                    replace c28 := of_decide_eq_true c28
                                    refine W_exit ?_
                                    refine W_seq ?_
                                    replace hs := hs.drew
                                    refine W_draw2 HM [153, 154, 155, 156, 157, 158, 159, 160, 161, 162, 163, 164, 165, 166] [[], [], [], [], [], [], [4, 5], [6], [], [], [8, 9], [10], [0, 1, 0, 1, 4, 5, 6, 7, 11], [12, 7, 0, 1, 4, 5, 6, 7, 11], [2, 3, 0, 1, 2, 3, 4, 5, 6, 7, 8, 9, 10, 11, 12, 13], [14, 11, 13, 0, 1, 2, 3, 4, 5, 6, 7, 8, 9, 10, 11, 12, 13]] (fun D ρ wx => Own w S wx [cond (D 15) (row (.slice a N c) ((((d1.setIfInBounds j4 (d1[lo]!)).setIfInBounds lo (d1[j4]!)).toList).map (ic .u16)) 57 1) (cond (D 13) (row (.slice a N c) (((d1.setIfInBounds j4 (d1[lo]!)).toList).map (ic .u16)) 57 1) (row (.slice a N c) (d1.toList.map (ic .u16)) 57 1))] ∧ (D 0 = true → ρ 153 = .slice a N c) ∧ (D 1 = true → ρ 154 = .int .i64 ((j4 : Nat) : Int)) ∧ (D 2 = true → ρ 155 = .slice a N c) ∧ (D 3 = true → ρ 156 = .int .i64 ((lo : Nat) : Int)) ∧ (D 4 = true → ρ 157 = .slice a N c) ∧ (D 5 = true → ρ 158 = .int .i64 ((lo : Nat) : Int)) ∧ (D 6 = true → ρ 159 = .pointer (some ⟨bkS (.slice a N c), ofS (.slice a N c) + ((lo : Nat) : Int).toNat * 1, none⟩)) ∧ (D 7 = true → ρ 160 = .int .u16 (d1[lo]!)) ∧ (D 8 = true → ρ 161 = .slice a N c) ∧ (D 9 = true → ρ 162 = .int .i64 ((j4 : Nat) : Int)) ∧ (D 10 = true → ρ 163 = .pointer (some ⟨bkS (.slice a N c), ofS (.slice a N c) + ((j4 : Nat) : Int).toNat * 1, none⟩)) ∧ (D 11 = true → ρ 164 = .int .u16 (d1[j4]!)) ∧ (D 12 = true → ρ 165 = .pointer (some ⟨bkS (.slice a N c), ofS (.slice a N c) + ((j4 : Nat) : Int).toNat * 1, none⟩)) ∧ (True) ∧ (D 14 = true → ρ 166 = .pointer (some ⟨bkS (.slice a N c), ofS (.slice a N c) + ((lo : Nat) : Int).toNat * 1, none⟩)) ∧ (True)) rfl rfl rfl ⟨hs, fun h => absurd h Bool.false_ne_true, fun h => absurd h Bool.false_ne_true, fun h => absurd h Bool.false_ne_true, fun h => absurd h Bool.false_ne_true, fun h => absurd h Bool.false_ne_true, fun h => absurd h Bool.false_ne_true, fun h => absurd h Bool.false_ne_true, fun h => absurd h Bool.false_ne_true, fun h => absurd h Bool.false_ne_true, fun h => absurd h Bool.false_ne_true, fun h => absurd h Bool.false_ne_true, fun h => absurd h Bool.false_ne_true, fun h => absurd h Bool.false_ne_true, trivial, fun h => absurd h Bool.false_ne_true, trivial⟩ ⟨?_, ?_, ?_, ?_, ?_, ?_, ?_, ?_, ?_, ?_, ?_, ?_, ?_, ?_, ?_, ?_, trivial⟩ ?_
                                    · rintro D ρ wx hD hd hdc hf ⟨hs, f0, f1, f2, f3, f4, f5, f6, f7, f8, f9, f10, f11, f12, f13, f14, f15⟩
                                      have r0 : ρ 0 = .slice a N c := outD hf 0 rfl
                                      exact .inl ⟨rfl, L_move (V := .slice a N c) r0 ⟨hs, fun _ => rfl, f1, f2, f3, f4, f5, f6, f7, f8, f9, f10, f11, f12, f13, f14, f15⟩⟩
                                    · rintro D ρ wx hD hd hdc hf ⟨hs, f0, f1, f2, f3, f4, f5, f6, f7, f8, f9, f10, f11, f12, f13, f14, f15⟩
                                      have r11 : ρ 11 = .int .i64 ((j4 : Nat) : Int) := outD hf 11 rfl
                                      exact .inl ⟨rfl, L_move (V := .int .i64 ((j4 : Nat) : Int)) r11 ⟨hs, f0, fun _ => rfl, f2, f3, f4, f5, f6, f7, f8, f9, f10, f11, f12, f13, f14, f15⟩⟩
                                    · rintro D ρ wx hD hd hdc hf ⟨hs, f0, f1, f2, f3, f4, f5, f6, f7, f8, f9, f10, f11, f12, f13, f14, f15⟩
                                      have r0 : ρ 0 = .slice a N c := outD hf 0 rfl
                                      exact .inl ⟨rfl, L_move (V := .slice a N c) r0 ⟨hs, f0, f1, fun _ => rfl, f3, f4, f5, f6, f7, f8, f9, f10, f11, f12, f13, f14, f15⟩⟩
                                    · rintro D ρ wx hD hd hdc hf ⟨hs, f0, f1, f2, f3, f4, f5, f6, f7, f8, f9, f10, f11, f12, f13, f14, f15⟩
                                      have r1 : ρ 1 = .int .i64 ((lo : Nat) : Int) := outD hf 1 rfl
                                      exact .inl ⟨rfl, L_move (V := .int .i64 ((lo : Nat) : Int)) r1 ⟨hs, f0, f1, f2, fun _ => rfl, f4, f5, f6, f7, f8, f9, f10, f11, f12, f13, f14, f15⟩⟩
                                    · rintro D ρ wx hD hd hdc hf ⟨hs, f0, f1, f2, f3, f4, f5, f6, f7, f8, f9, f10, f11, f12, f13, f14, f15⟩
                                      have r0 : ρ 0 = .slice a N c := outD hf 0 rfl
                                      exact .inl ⟨rfl, L_move (V := .slice a N c) r0 ⟨hs, f0, f1, f2, f3, fun _ => rfl, f5, f6, f7, f8, f9, f10, f11, f12, f13, f14, f15⟩⟩
                                    · rintro D ρ wx hD hd hdc hf ⟨hs, f0, f1, f2, f3, f4, f5, f6, f7, f8, f9, f10, f11, f12, f13, f14, f15⟩
                                      have r1 : ρ 1 = .int .i64 ((lo : Nat) : Int) := outD hf 1 rfl
                                      exact .inl ⟨rfl, L_move (V := .int .i64 ((lo : Nat) : Int)) r1 ⟨hs, f0, f1, f2, f3, f4, fun _ => rfl, f6, f7, f8, f9, f10, f11, f12, f13, f14, f15⟩⟩
                                    · rintro D ρ wx hD hd hdc hf ⟨hs, f0, f1, f2, f3, f4, f5, f6, f7, f8, f9, f10, f11, f12, f13, f14, f15⟩
                                      have g4 := f4 (doneD hd 4 rfl)
                                      have g5 := f5 (doneD hd 5 rfl)
                                      have d13 : D 13 = false := (notYetD hdc (j := 13) rfl rfl hD)
                                      have d15 : D 15 = false := (notYetD hdc (j := 15) rfl rfl hD)
                                      have hs0 := hs; rw [d13, d15] at hs0
                                      exact .inl ⟨rfl, L_ixR UD_72 S1_57.1 (hs0.rd 0 rfl) g4 g5 (by omega) (by simp only [List.length_map, Array.length_toList, Array.size_setIfInBounds, Go.Sort.size_swp]; omega) ⟨hs, f0, f1, f2, f3, f4, f5, fun _ => rfl, f7, f8, f9, f10, f11, f12, f13, f14, f15⟩⟩
                                    · rintro D ρ wx hD hd hdc hf ⟨hs, f0, f1, f2, f3, f4, f5, f6, f7, f8, f9, f10, f11, f12, f13, f14, f15⟩
                                      have g6 := f6 (doneD hd 6 rfl)
                                      have d13 : D 13 = false := (notYetD hdc (j := 13) rfl rfl hD)
                                      have d15 : D 15 = false := (notYetD hdc (j := 15) rfl rfl hD)
                                      have hs0 := hs; rw [d13, d15] at hs0
                                      exact .inl ⟨rfl, L_ldR (j := 0) (V := .int .u16 (d1[lo]!)) lo S1_57 (hs0.rd 0 rfl) (da_at (by omega)) rfl g6 (by omega) ⟨hs, f0, f1, f2, f3, f4, f5, f6, fun _ => rfl, f8, f9, f10, f11, f12, f13, f14, f15⟩⟩
                                    · rintro D ρ wx hD hd hdc hf ⟨hs, f0, f1, f2, f3, f4, f5, f6, f7, f8, f9, f10, f11, f12, f13, f14, f15⟩
                                      have r0 : ρ 0 = .slice a N c := outD hf 0 rfl
                                      exact .inl ⟨rfl, L_move (V := .slice a N c) r0 ⟨hs, f0, f1, f2, f3, f4, f5, f6, f7, fun _ => rfl, f9, f10, f11, f12, f13, f14, f15⟩⟩
                                    · rintro D ρ wx hD hd hdc hf ⟨hs, f0, f1, f2, f3, f4, f5, f6, f7, f8, f9, f10, f11, f12, f13, f14, f15⟩
                                      have r11 : ρ 11 = .int .i64 ((j4 : Nat) : Int) := outD hf 11 rfl
                                      exact .inl ⟨rfl, L_move (V := .int .i64 ((j4 : Nat) : Int)) r11 ⟨hs, f0, f1, f2, f3, f4, f5, f6, f7, f8, fun _ => rfl, f10, f11, f12, f13, f14, f15⟩⟩
                                    · rintro D ρ wx hD hd hdc hf ⟨hs, f0, f1, f2, f3, f4, f5, f6, f7, f8, f9, f10, f11, f12, f13, f14, f15⟩
                                      have g8 := f8 (doneD hd 8 rfl)
                                      have g9 := f9 (doneD hd 9 rfl)
                                      have d13 : D 13 = false := (notYetD hdc (j := 13) rfl rfl (notYetD hdc (j := 11) rfl rfl hD))
                                      have d15 : D 15 = false := (notYetD hdc (j := 15) rfl rfl hD)
                                      have hs0 := hs; rw [d13, d15] at hs0
                                      exact .inl ⟨rfl, L_ixR UD_72 S1_57.1 (hs0.rd 0 rfl) g8 g9 (by omega) (by simp only [List.length_map, Array.length_toList, Array.size_setIfInBounds, Go.Sort.size_swp]; omega) ⟨hs, f0, f1, f2, f3, f4, f5, f6, f7, f8, f9, fun _ => rfl, f11, f12, f13, f14, f15⟩⟩
                                    · rintro D ρ wx hD hd hdc hf ⟨hs, f0, f1, f2, f3, f4, f5, f6, f7, f8, f9, f10, f11, f12, f13, f14, f15⟩
                                      have g10 := f10 (doneD hd 10 rfl)
                                      have d13 : D 13 = false := (notYetD hdc (j := 13) rfl rfl hD)
                                      have d15 : D 15 = false := (notYetD hdc (j := 15) rfl rfl hD)
                                      have hs0 := hs; rw [d13, d15] at hs0
                                      exact .inl ⟨rfl, L_ldR (j := 0) (V := .int .u16 (d1[j4]!)) j4 S1_57 (hs0.rd 0 rfl) (da_at (by omega)) rfl g10 (by omega) ⟨hs, f0, f1, f2, f3, f4, f5, f6, f7, f8, f9, f10, fun _ => rfl, f12, f13, f14, f15⟩⟩
                                    · rintro D ρ wx hD hd hdc hf ⟨hs, f0, f1, f2, f3, f4, f5, f6, f7, f8, f9, f10, f11, f12, f13, f14, f15⟩
                                      have g0 := f0 (doneD hd 0 rfl)
                                      have g1 := f1 (doneD hd 1 rfl)
                                      have d13 : D 13 = false := (notYetD hdc (j := 13) rfl rfl hD)
                                      have d15 : D 15 = false := (notYetD hdc (j := 15) rfl rfl hD)
                                      have hs0 := hs; rw [d13, d15] at hs0
                                      exact .inl ⟨rfl, L_ixR UD_72 S1_57.1 (hs0.rd 0 rfl) g0 g1 (by omega) (by simp only [List.length_map, Array.length_toList, Array.size_setIfInBounds, Go.Sort.size_swp]; omega) ⟨hs, f0, f1, f2, f3, f4, f5, f6, f7, f8, f9, f10, f11, fun _ => rfl, f13, f14, f15⟩⟩
                                    · rintro D ρ wx hD hd hdc hf ⟨hs, f0, f1, f2, f3, f4, f5, f6, f7, f8, f9, f10, f11, f12, f13, f14, f15⟩
                                      have g7 := f7 (doneD hd 7 rfl)
                                      have g12 := f12 (doneD hd 12 rfl)
                                      have d13 : D 13 = false := hD
                                      have d15 : D 15 = false := (notYetD hdc (j := 15) rfl rfl hD)
                                      have hs0 := hs; rw [d13, d15] at hs0
                                      refine .inl ⟨rfl, L_stA (z := d1[lo]!) j4 S1_57 hs0 0 rfl g12 (by omega) (by first | omega | (simp only [Array.size_setIfInBounds, Go.Sort.size_swp]; omega)) g7 rfl rfl fun _ hs0 => ⟨?_, f0, f1, f2, f3, f4, f5, f6, f7, f8, f9, f10, f11, f12, trivial, f14, f15⟩⟩
                                      rw [show Go.Vx.mark D 13 15 = false from d15]
                                      exact hs0
                                    · rintro D ρ wx hD hd hdc hf ⟨hs, f0, f1, f2, f3, f4, f5, f6, f7, f8, f9, f10, f11, f12, f13, f14, f15⟩
                                      have g2 := f2 (doneD hd 2 rfl)
                                      have g3 := f3 (doneD hd 3 rfl)
                                      have d13 : D 13 = true := doneD hd 13 rfl
                                      have d15 : D 15 = false := (notYetD hdc (j := 15) rfl rfl hD)
                                      have hs0 := hs; rw [d13, d15] at hs0
                                      exact .inl ⟨rfl, L_ixR UD_72 S1_57.1 (hs0.rd 0 rfl) g2 g3 (by omega) (by simp only [List.length_map, Array.length_toList, Array.size_setIfInBounds, Go.Sort.size_swp]; omega) ⟨hs, f0, f1, f2, f3, f4, f5, f6, f7, f8, f9, f10, f11, f12, f13, fun _ => rfl, f15⟩⟩
                                    · rintro D ρ wx hD hd hdc hf ⟨hs, f0, f1, f2, f3, f4, f5, f6, f7, f8, f9, f10, f11, f12, f13, f14, f15⟩
                                      have g11 := f11 (doneD hd 11 rfl)
                                      have g14 := f14 (doneD hd 14 rfl)
                                      have d13 : D 13 = true := doneD hd 13 rfl
                                      have d15 : D 15 = false := hD
                                      have hs0 := hs; rw [d13, d15] at hs0
                                      refine .inl ⟨rfl, L_stA (z := d1[j4]!) lo S1_57 hs0 0 rfl g14 (by omega) (by first | omega | (simp only [Array.size_setIfInBounds, Go.Sort.size_swp]; omega)) g11 rfl rfl fun _ hs0 => ⟨?_, f0, f1, f2, f3, f4, f5, f6, f7, f8, f9, f10, f11, f12, f13, f14, trivial⟩⟩
                                      rw [show Go.Vx.mark D 15 13 = true from d13]
                                      exact hs0
                                    · rintro ρ1 w1 D hD hf ⟨hs, f0, f1, f2, f3, f4, f5, f6, f7, f8, f9, f10, f11, f12, f13, f14, f15⟩
                                      rw [hD 13 rfl, hD 15 rfl] at hs
                                      clear f0 f1 f2 f3 f4 f5 f6 f7 f8 f9 f10 f11 f12 f13 f14 f15
                                      obtain ⟨ρ2, hρ⟩ : ∃ ρ2, ρ1 = mix [153, 154, 155, 156, 157, 158, 159, 160, 161, 162, 163, 164, 165, 166] ρ2 _ := ⟨ρ1, mix_of (ds := [153, 154, 155, 156, 157, 158, 159, 160, 161, 162, 163, 164, 165, 166]) hf⟩
                                      clear hf hD
                                      subst hρ
                                      refine W_seq ?_
                                      refine W_region ?_
                                      refine RW_op (L_move (V := .int .i64 ((j4 : Nat) : Int)) rfl ?_)
                                      refine RW_op (L_assign (V := .int .i64 ((j4 : Nat) : Int)) rfl ?_)
                                      refine RW_op (L_assign (V := .bool false) rfl ?_)
                                      refine RW_nil ?_
                                      refine W_ret ?_
                                      refine ⟨_, res_two (U := .int .i64 ((j4 : Nat) : Int)) (V := .bool false) Try.results110 rfl rfl, ?_⟩
                                      have hX : Sort.partition Sort.ltInt d lo hi pv = (j4, false, Sort.swp d1 j4 lo) := by rw [hpt, ← hev, pl_stop hi4 hj4 c28]
                                      rw [hX]
                                      exact ⟨(), rfl, hs.take 1, by first | (rw [Go.Sort.size_swp]; assumption) | assumption⟩
                                  ·
                                    replace c28 := of_decide_eq_false c28
                                    refine W_skip ?_
                                    refine W_seq ?_
                                    replace hs := hs.drew
                                    refine W_draw2 HM [135, 136, 137, 138, 139, 140, 141, 142, 143, 144, 145, 146, 147, 148] [[], [], [], [], [], [], [4, 5], [6], [], [], [8, 9], [10], [0, 1, 0, 1, 4, 5, 6, 7, 11], [12, 7, 0, 1, 4, 5, 6, 7, 11], [2, 3, 0, 1, 2, 3, 4, 5, 6, 7, 8, 9, 10, 11, 12, 13], [14, 11, 13, 0, 1, 2, 3, 4, 5, 6, 7, 8, 9, 10, 11, 12, 13]] (fun D ρ wx => Own w S wx [cond (D 15) (row (.slice a N c) ((((d1.setIfInBounds i4 (d1[j4]!)).setIfInBounds j4 (d1[i4]!)).toList).map (ic .u16)) 57 1) (cond (D 13) (row (.slice a N c) (((d1.setIfInBounds i4 (d1[j4]!)).toList).map (ic .u16)) 57 1) (row (.slice a N c) (d1.toList.map (ic .u16)) 57 1))] ∧ (D 0 = true → ρ 135 = .slice a N c) ∧ (D 1 = true → ρ 136 = .int .i64 ((i4 : Nat) : Int)) ∧ (D 2 = true → ρ 137 = .slice a N c) ∧ (D 3 = true → ρ 138 = .int .i64 ((j4 : Nat) : Int)) ∧ (D 4 = true → ρ 139 = .slice a N c) ∧ (D 5 = true → ρ 140 = .int .i64 ((j4 : Nat) : Int)) ∧ (D 6 = true → ρ 141 = .pointer (some ⟨bkS (.slice a N c), ofS (.slice a N c) + ((j4 : Nat) : Int).toNat * 1, none⟩)) ∧ (D 7 = true → ρ 142 = .int .u16 (d1[j4]!)) ∧ (D 8 = true → ρ 143 = .slice a N c) ∧ (D 9 = true → ρ 144 = .int .i64 ((i4 : Nat) : Int)) ∧ (D 10 = true → ρ 145 = .pointer (some ⟨bkS (.slice a N c), ofS (.slice a N c) + ((i4 : Nat) : Int).toNat * 1, none⟩)) ∧ (D 11 = true → ρ 146 = .int .u16 (d1[i4]!)) ∧ (D 12 = true → ρ 147 = .pointer (some ⟨bkS (.slice a N c), ofS (.slice a N c) + ((i4 : Nat) : Int).toNat * 1, none⟩)) ∧ (True) ∧ (D 14 = true → ρ 148 = .pointer (some ⟨bkS (.slice a N c), ofS (.slice a N c) + ((j4 : Nat) : Int).toNat * 1, none⟩)) ∧ (True)) rfl rfl rfl ⟨hs, fun h => absurd h Bool.false_ne_true, fun h => absurd h Bool.false_ne_true, fun h => absurd h Bool.false_ne_true, fun h => absurd h Bool.false_ne_true, fun h => absurd h Bool.false_ne_true, fun h => absurd h Bool.false_ne_true, fun h => absurd h Bool.false_ne_true, fun h => absurd h Bool.false_ne_true, fun h => absurd h Bool.false_ne_true, fun h => absurd h Bool.false_ne_true, fun h => absurd h Bool.false_ne_true, fun h => absurd h Bool.false_ne_true, fun h => absurd h Bool.false_ne_true, trivial, fun h => absurd h Bool.false_ne_true, trivial⟩ ⟨?_, ?_, ?_, ?_, ?_, ?_, ?_, ?_, ?_, ?_, ?_, ?_, ?_, ?_, ?_, ?_, trivial⟩ ?_
                                    · rintro D ρ wx hD hd hdc hf ⟨hs, f0, f1, f2, f3, f4, f5, f6, f7, f8, f9, f10, f11, f12, f13, f14, f15⟩
                                      have r0 : ρ 0 = .slice a N c := outD hf 0 rfl
                                      exact .inl ⟨rfl, L_move (V := .slice a N c) r0 ⟨hs, fun _ => rfl, f1, f2, f3, f4, f5, f6, f7, f8, f9, f10, f11, f12, f13, f14, f15⟩⟩
                                    · rintro D ρ wx hD hd hdc hf ⟨hs, f0, f1, f2, f3, f4, f5, f6, f7, f8, f9, f10, f11, f12, f13, f14, f15⟩
                                      have r10 : ρ 10 = .int .i64 ((i4 : Nat) : Int) := outD hf 10 rfl
                                      exact .inl ⟨rfl, L_move (V := .int .i64 ((i4 : Nat) : Int)) r10 ⟨hs, f0, fun _ => rfl, f2, f3, f4, f5, f6, f7, f8, f9, f10, f11, f12, f13, f14, f15⟩⟩
                                    · rintro D ρ wx hD hd hdc hf ⟨hs, f0, f1, f2, f3, f4, f5, f6, f7, f8, f9, f10, f11, f12, f13, f14, f15⟩
                                      have r0 : ρ 0 = .slice a N c := outD hf 0 rfl
                                      exact .inl ⟨rfl, L_move (V := .slice a N c) r0 ⟨hs, f0, f1, fun _ => rfl, f3, f4, f5, f6, f7, f8, f9, f10, f11, f12, f13, f14, f15⟩⟩
                                    · rintro D ρ wx hD hd hdc hf ⟨hs, f0, f1, f2, f3, f4, f5, f6, f7, f8, f9, f10, f11, f12, f13, f14, f15⟩
                                      have r11 : ρ 11 = .int .i64 ((j4 : Nat) : Int) := outD hf 11 rfl
                                      exact .inl ⟨rfl, L_move (V := .int .i64 ((j4 : Nat) : Int)) r11 ⟨hs, f0, f1, f2, fun _ => rfl, f4, f5, f6, f7, f8, f9, f10, f11, f12, f13, f14, f15⟩⟩
                                    · rintro D ρ wx hD hd hdc hf ⟨hs, f0, f1, f2, f3, f4, f5, f6, f7, f8, f9, f10, f11, f12, f13, f14, f15⟩
                                      have r0 : ρ 0 = .slice a N c := outD hf 0 rfl
                                      exact .inl ⟨rfl, L_move (V := .slice a N c) r0 ⟨hs, f0, f1, f2, f3, fun _ => rfl, f5, f6, f7, f8, f9, f10, f11, f12, f13, f14, f15⟩⟩
                                    · rintro D ρ wx hD hd hdc hf ⟨hs, f0, f1, f2, f3, f4, f5, f6, f7, f8, f9, f10, f11, f12, f13, f14, f15⟩
                                      have r11 : ρ 11 = .int .i64 ((j4 : Nat) : Int) := outD hf 11 rfl
                                      exact .inl ⟨rfl, L_move (V := .int .i64 ((j4 : Nat) : Int)) r11 ⟨hs, f0, f1, f2, f3, f4, fun _ => rfl, f6, f7, f8, f9, f10, f11, f12, f13, f14, f15⟩⟩
                                    · rintro D ρ wx hD hd hdc hf ⟨hs, f0, f1, f2, f3, f4, f5, f6, f7, f8, f9, f10, f11, f12, f13, f14, f15⟩
                                      have g4 := f4 (doneD hd 4 rfl)
                                      have g5 := f5 (doneD hd 5 rfl)
                                      have d13 : D 13 = false := (notYetD hdc (j := 13) rfl rfl hD)
                                      have d15 : D 15 = false := (notYetD hdc (j := 15) rfl rfl hD)
                                      have hs0 := hs; rw [d13, d15] at hs0
                                      exact .inl ⟨rfl, L_ixR UD_72 S1_57.1 (hs0.rd 0 rfl) g4 g5 (by omega) (by simp only [List.length_map, Array.length_toList, Array.size_setIfInBounds, Go.Sort.size_swp]; omega) ⟨hs, f0, f1, f2, f3, f4, f5, fun _ => rfl, f7, f8, f9, f10, f11, f12, f13, f14, f15⟩⟩
                                    · rintro D ρ wx hD hd hdc hf ⟨hs, f0, f1, f2, f3, f4, f5, f6, f7, f8, f9, f10, f11, f12, f13, f14, f15⟩
                                      have g6 := f6 (doneD hd 6 rfl)
                                      have d13 : D 13 = false := (notYetD hdc (j := 13) rfl rfl hD)
                                      have d15 : D 15 = false := (notYetD hdc (j := 15) rfl rfl hD)
                                      have hs0 := hs; rw [d13, d15] at hs0
                                      exact .inl ⟨rfl, L_ldR (j := 0) (V := .int .u16 (d1[j4]!)) j4 S1_57 (hs0.rd 0 rfl) (da_at (by omega)) rfl g6 (by omega) ⟨hs, f0, f1, f2, f3, f4, f5, f6, fun _ => rfl, f8, f9, f10, f11, f12, f13, f14, f15⟩⟩
                                    · rintro D ρ wx hD hd hdc hf ⟨hs, f0, f1, f2, f3, f4, f5, f6, f7, f8, f9, f10, f11, f12, f13, f14, f15⟩
                                      have r0 : ρ 0 = .slice a N c := outD hf 0 rfl
                                      exact .inl ⟨rfl, L_move (V := .slice a N c) r0 ⟨hs, f0, f1, f2, f3, f4, f5, f6, f7, fun _ => rfl, f9, f10, f11, f12, f13, f14, f15⟩⟩
                                    · rintro D ρ wx hD hd hdc hf ⟨hs, f0, f1, f2, f3, f4, f5, f6, f7, f8, f9, f10, f11, f12, f13, f14, f15⟩
                                      have r10 : ρ 10 = .int .i64 ((i4 : Nat) : Int) := outD hf 10 rfl
                                      exact .inl ⟨rfl, L_move (V := .int .i64 ((i4 : Nat) : Int)) r10 ⟨hs, f0, f1, f2, f3, f4, f5, f6, f7, f8, fun _ => rfl, f10, f11, f12, f13, f14, f15⟩⟩
                                    · rintro D ρ wx hD hd hdc hf ⟨hs, f0, f1, f2, f3, f4, f5, f6, f7, f8, f9, f10, f11, f12, f13, f14, f15⟩
                                      have g8 := f8 (doneD hd 8 rfl)
                                      have g9 := f9 (doneD hd 9 rfl)
                                      have d13 : D 13 = false := (notYetD hdc (j := 13) rfl rfl (notYetD hdc (j := 11) rfl rfl hD))
                                      have d15 : D 15 = false := (notYetD hdc (j := 15) rfl rfl hD)
                                      have hs0 := hs; rw [d13, d15] at hs0
                                      exact .inl ⟨rfl, L_ixR UD_72 S1_57.1 (hs0.rd 0 rfl) g8 g9 (by omega) (by simp only [List.length_map, Array.length_toList, Array.size_setIfInBounds, Go.Sort.size_swp]; omega) ⟨hs, f0, f1, f2, f3, f4, f5, f6, f7, f8, f9, fun _ => rfl, f11, f12, f13, f14, f15⟩⟩
                                    · rintro D ρ wx hD hd hdc hf ⟨hs, f0, f1, f2, f3, f4, f5, f6, f7, f8, f9, f10, f11, f12, f13, f14, f15⟩
                                      have g10 := f10 (doneD hd 10 rfl)
                                      have d13 : D 13 = false := (notYetD hdc (j := 13) rfl rfl hD)
                                      have d15 : D 15 = false := (notYetD hdc (j := 15) rfl rfl hD)
                                      have hs0 := hs; rw [d13, d15] at hs0
                                      exact .inl ⟨rfl, L_ldR (j := 0) (V := .int .u16 (d1[i4]!)) i4 S1_57 (hs0.rd 0 rfl) (da_at (by omega)) rfl g10 (by omega) ⟨hs, f0, f1, f2, f3, f4, f5, f6, f7, f8, f9, f10, fun _ => rfl, f12, f13, f14, f15⟩⟩
                                    · rintro D ρ wx hD hd hdc hf ⟨hs, f0, f1, f2, f3, f4, f5, f6, f7, f8, f9, f10, f11, f12, f13, f14, f15⟩
                                      have g0 := f0 (doneD hd 0 rfl)
                                      have g1 := f1 (doneD hd 1 rfl)
                                      have d13 : D 13 = false := (notYetD hdc (j := 13) rfl rfl hD)
                                      have d15 : D 15 = false := (notYetD hdc (j := 15) rfl rfl hD)
                                      have hs0 := hs; rw [d13, d15] at hs0
                                      exact .inl ⟨rfl, L_ixR UD_72 S1_57.1 (hs0.rd 0 rfl) g0 g1 (by omega) (by simp only [List.length_map, Array.length_toList, Array.size_setIfInBounds, Go.Sort.size_swp]; omega) ⟨hs, f0, f1, f2, f3, f4, f5, f6, f7, f8, f9, f10, f11, fun _ => rfl, f13, f14, f15⟩⟩
                                    · rintro D ρ wx hD hd hdc hf ⟨hs, f0, f1, f2, f3, f4, f5, f6, f7, f8, f9, f10, f11, f12, f13, f14, f15⟩
                                      have g7 := f7 (doneD hd 7 rfl)
                                      have g12 := f12 (doneD hd 12 rfl)
                                      have d13 : D 13 = false := hD
                                      have d15 : D 15 = false := (notYetD hdc (j := 15) rfl rfl hD)
                                      have hs0 := hs; rw [d13, d15] at hs0
                                      refine .inl ⟨rfl, L_stA (z := d1[j4]!) i4 S1_57 hs0 0 rfl g12 (by omega) (by first | omega | (simp only [Array.size_setIfInBounds, Go.Sort.size_swp]; omega)) g7 rfl rfl fun _ hs0 => ⟨?_, f0, f1, f2, f3, f4, f5, f6, f7, f8, f9, f10, f11, f12, trivial, f14, f15⟩⟩
                                      rw [show Go.Vx.mark D 13 15 = false from d15]
                                      exact hs0
                                    · rintro D ρ wx hD hd hdc hf ⟨hs, f0, f1, f2, f3, f4, f5, f6, f7, f8, f9, f10, f11, f12, f13, f14, f15⟩
                                      have g2 := f2 (doneD hd 2 rfl)
                                      have g3 := f3 (doneD hd 3 rfl)
                                      have d13 : D 13 = true := doneD hd 13 rfl
                                      have d15 : D 15 = false := (notYetD hdc (j := 15) rfl rfl hD)
                                      have hs0 := hs; rw [d13, d15] at hs0
                                      exact .inl ⟨rfl, L_ixR UD_72 S1_57.1 (hs0.rd 0 rfl) g2 g3 (by omega) (by simp only [List.length_map, Array.length_toList, Array.size_setIfInBounds, Go.Sort.size_swp]; omega) ⟨hs, f0, f1, f2, f3, f4, f5, f6, f7, f8, f9, f10, f11, f12, f13, fun _ => rfl, f15⟩⟩
                                    · rintro D ρ wx hD hd hdc hf ⟨hs, f0, f1, f2, f3, f4, f5, f6, f7, f8, f9, f10, f11, f12, f13, f14, f15⟩
                                      have g11 := f11 (doneD hd 11 rfl)
                                      have g14 := f14 (doneD hd 14 rfl)
                                      have d13 : D 13 = true := doneD hd 13 rfl
                                      have d15 : D 15 = false := hD
                                      have hs0 := hs; rw [d13, d15] at hs0
                                      refine .inl ⟨rfl, L_stA (z := d1[i4]!) j4 S1_57 hs0 0 rfl g14 (by omega) (by first | omega | (simp only [Array.size_setIfInBounds, Go.Sort.size_swp]; omega)) g11 rfl rfl fun _ hs0 => ⟨?_, f0, f1, f2, f3, f4, f5, f6, f7, f8, f9, f10, f11, f12, f13, f14, trivial⟩⟩
                                      rw [show Go.Vx.mark D 15 13 = true from d13]
                                      exact hs0
                                    · rintro ρ1 w1 D hD hf ⟨hs, f0, f1, f2, f3, f4, f5, f6, f7, f8, f9, f10, f11, f12, f13, f14, f15⟩
                                      rw [hD 13 rfl, hD 15 rfl] at hs
                                      clear f0 f1 f2 f3 f4 f5 f6 f7 f8 f9 f10 f11 f12 f13 f14 f15
                                      obtain ⟨ρ2, hρ⟩ : ∃ ρ2, ρ1 = mix [135, 136, 137, 138, 139, 140, 141, 142, 143, 144, 145, 146, 147, 148] ρ2 _ := ⟨ρ1, mix_of (ds := [135, 136, 137, 138, 139, 140, 141, 142, 143, 144, 145, 146, 147, 148]) hf⟩
                                      clear hf hD
                                      subst hρ
                                      refine W_seq ?_
                                      refine W_region ?_
                                      refine RW_op (L_move (V := .int .i64 ((i4 : Nat) : Int)) rfl ?_)
                                      refine RW_op (L_add (a := ((i4 : Nat) : Int)) (b := 1) (c := ((i4 + 1 : Nat) : Int)) rfl rfl (nat_i64 (by omega) (by omega)) ?_)
                                      refine RW_op (L_assign (V := .int .i64 ((i4 + 1 : Nat) : Int)) rfl ?_)
                                      refine RW_nil ?_
                                      refine W_region ?_
                                      refine RW_op (L_move (V := .int .i64 ((j4 : Nat) : Int)) rfl ?_)
                                      refine RW_op (L_sub (a := ((j4 : Nat) : Int)) (b := 1) (c := ((j4 - 1 : Nat) : Int)) rfl rfl (nat_i64 (by omega) (by omega)) ?_)
                                      refine RW_op (L_assign (V := .int .i64 ((j4 - 1 : Nat) : Int)) rfl ?_)
                                      refine RW_nil ?_
                                      refine ⟨_, ?_, _, i4 + 1, j4 - 1, ((d1.setIfInBounds i4 (d1[j4]!)).setIfInBounds j4 (d1[i4]!)), upd_of (upd_of (mix_of (ds := [10, 11, 99, 100, 101, 102, 103, 104, 105, 106, 107, 108, 109, 110, 111, 112, 113, 114, 115, 116, 117, 118, 119, 120, 121, 122, 123, 124, 125, 126, 127, 128, 129, 130, 131, 132, 133, 134, 135, 136, 137, 138, 139, 140, 141, 142, 143, 144, 145, 146, 147, 148, 149, 150, 151, 152]) (by repeat (first | exact Agr.refl _ _ | refine Agr.upd ?_ rfl | refine Agr.mix ?_ rfl))) rfl) rfl, (by omega), (by omega), (by omega), (by simp only [Array.size_setIfInBounds]; exact hz1), (by rw [← hev, pl_go hi4 hj4 c28]; rfl), rfl, hs.take 1⟩
                                      omega
end Ts
end Go.Proofs
namespace Go.Proofs
open Go Go.Vx Go.RowKit
namespace Ts
theorem S1_145 : T1 Try.prog 145 := ⟨Try.sizeOf145, Try.isAgg145⟩
theorem EN_112 : En Try.prog 112 := Try.call112
theorem EN_113 : En Try.prog 113 := Try.call113
theorem UD_119 : Ud Try.prog 119 (.int .u64) := Try.runUnderlying119
theorem UD_145 : Ud Try.prog 145 (.int .u64) := Try.runUnderlying145
theorem UD_3 : Ud Try.prog 3 (.int .i64) := Try.runUnderlying3
theorem ZV_145 : Zv Try.prog 145 (.int .u64 0) := Try.zeroValue145
set_option maxRecDepth 20000 in
set_option maxHeartbeats 4000000 in
theorem bp_ok (w : World) (S : Nat → Prop) (a : Option Addr) (N c : Nat) (d : Array Int) (hsz : d.size = N) (hN : N ≤ 2305843009213693951) (lo hi : Nat) (h1 : lo ≤ hi) (h2 : hi ≤ N) (hxor : XorC Try.prog 113 145) (hpow : PowC Try.prog 112) (hR : (row (.slice a N c) (d.toList.map (ic .u16)) 57 1).holds w S) (hlt : ∀ x, S x → x < w.heap.size) : Calls Try.prog 104 #[.slice a N c, .int .i64 ((lo : Nat) : Int), .int .i64 ((hi : Nat) : Int)] w (fun e w' => ∃ x : Unit, e = .returned (.tuple #[]) ∧ Own w S w' [row (.slice a N c) ((Sort.breakPatterns d lo hi).toList.map (ic .u16)) 57 1] ∧ (Sort.breakPatterns d lo hi).size = N) := by
  refine calls_of_Wn (n := 65) Try.func104 rfl Try.ntmps104 rfl ?_
  have hs := Own.lent hR hlt
  refine W_seq ?_
  refine W_region ?_
  refine RW_op (L_move (V := .int .i64 ((hi : Nat) : Int)) rfl ?_)
  refine RW_op (L_move (V := .int .i64 ((lo : Nat) : Int)) rfl ?_)
  refine RW_op (L_sub (a := ((hi : Nat) : Int)) (b := ((lo : Nat) : Int)) (c := ((hi - lo : Nat) : Int)) rfl rfl (nat_i64 (by omega) (by omega)) ?_)
  refine RW_op (L_assign (V := .int .i64 ((hi - lo : Nat) : Int)) rfl ?_)
  refine RW_nil ?_
  refine W_seq ?_
  refine W_region ?_
  refine RW_op (L_move (V := .int .i64 ((hi - lo : Nat) : Int)) rfl ?_)
  refine RW_op (L_geq rfl rfl ?_)
  refine RW_nil ?_
  refine W_cond (t := decide (8 ≤ ((hi - lo : Nat) : Int))) rfl (fun c1 => ?_) (fun c1 => ?_)
  ·
    replace c1 := of_decide_eq_true c1
    refine W_seq ?_
    refine W_region ?_
    refine RW_op (L_move (V := .int .i64 ((hi - lo : Nat) : Int)) rfl ?_)
    refine RW_op (L_conv UD_3 UD_145 rfl (wr_u64 (by omega) (by omega)) ?_)
    refine RW_op (L_alloc (cs := [.int .u64 0]) ZV_145 rfl hs fun b2 w3 hs => ?_)
    refine RW_op (L_st1 (V := .int .u64 ((hi - lo : Nat) : Int)) (cs' := [.int .u64 ((hi - lo : Nat) : Int)]) S1_145 hs 1 rfl rfl rfl rfl (Nat.le_of_ble_eq_true rfl) rfl fun w4 hs => ?_)
    refine RW_nil ?_
    refine W_seq ?_
    refine W_region ?_
    refine RW_op (L_move (V := .int .i64 ((hi - lo : Nat) : Int)) rfl ?_)
    refine RW_op (L_callP (vs := [.int .i64 ((hi - lo : Nat) : Int)]) (V := .int .u64 ((1 <<< Sort.bitsLen (hi - lo) : Nat) : Int)) EN_112 rfl rfl ?hc hs fun w5 hs => ?_)
    case hc => exact (hpow _ (hi - lo) (by omega))
    refine RW_op (L_assign (V := .int .u64 ((1 <<< Sort.bitsLen (hi - lo) : Nat) : Int)) rfl ?_)
    refine RW_nil ?_
    refine W_seq ?_
    refine W_region ?_
    refine RW_op (L_move (V := .int .i64 ((lo : Nat) : Int)) rfl ?_)
    refine RW_op (L_move (V := .int .i64 ((hi - lo : Nat) : Int)) rfl ?_)
    refine RW_op (L_quo (a := ((hi - lo : Nat) : Int)) (b := 4) (c := (((hi - lo) / 4 : Nat) : Int)) rfl rfl (by decide) (nat_i64 rfl (by omega)) ?_)
    refine RW_op (L_mul (a := (((hi - lo) / 4 : Nat) : Int)) (b := 2) (c := ((((hi - lo) / 4) * 2 : Nat) : Int)) rfl rfl (nat_i64 (by omega) (by omega)) ?_)
    refine RW_op (L_add (a := ((lo : Nat) : Int)) (b := ((((hi - lo) / 4) * 2 : Nat) : Int)) (c := ((lo + (((hi - lo) / 4) * 2) : Nat) : Int)) rfl rfl (nat_i64 (by omega) (by omega)) ?_)
    refine RW_op (L_sub (a := ((lo + (((hi - lo) / 4) * 2) : Nat) : Int)) (b := 1) (c := (((lo + (((hi - lo) / 4) * 2)) - 1 : Nat) : Int)) rfl rfl (nat_i64 (by omega) (by omega)) ?_)
    refine RW_op (L_assign (V := .int .i64 (((lo + (((hi - lo) / 4) * 2)) - 1 : Nat) : Int)) rfl ?_)
    refine RW_nil ?_
    refine W_block ?_
    have hmd := md_ok (n := hi - lo) (by omega)
    have hu : (UInt64.ofNat (hi - lo)).toNat = hi - lo := UInt64.toNat_ofNat_of_lt (by show hi - lo < 18446744073709551616; omega)
    replace hs := hs.conv 1 rfl (R' := blk b2 [.int .u64 (((UInt64.ofNat (hi - lo)).toNat : Nat) : Int)] 145) (fun S h => by rw [hu]; exact h)
    refine W_loopI (fun ρ m ρ' w' => ∃ (ρo : Env) (q : Nat) (st : UInt64 × Array Int), ρ' = upd (mix [9, 10, 26, 27, 28, 29, 30, 31, 32, 33, 34, 35, 36, 37, 38, 39, 40, 41, 42, 43, 44, 45, 46, 47, 48, 49, 50, 51, 52, 53, 54, 55, 56, 57, 58, 59, 60, 61, 62, 63, 64] ρo ρ) 9 (.int .i64 (((lo + ((hi - lo) / 4) * 2 - 1) + q : Nat) : Int)) ∧ (q ≤ 3) ∧ (st = bpS lo (hi - lo) (1 <<< Sort.bitsLen (hi - lo)) (UInt64.ofNat (hi - lo), d) (lo + ((hi - lo) / 4) * 2 - 1) (q)) ∧ (st.2.size = N) ∧ m = 3 - q ∧ Own w S w' [row (.slice a N c) (st.2.toList.map (ic .u16)) 57 1, blk b2 [.int .u64 ((st.1.toNat : Nat) : Int)] 145]) ?_ ?_
    · exact ⟨_, _, 0, (UInt64.ofNat (hi - lo), d), upd_of (mix_of (ds := [9, 10, 26, 27, 28, 29, 30, 31, 32, 33, 34, 35, 36, 37, 38, 39, 40, 41, 42, 43, 44, 45, 46, 47, 48, 49, 50, 51, 52, 53, 54, 55, 56, 57, 58, 59, 60, 61, 62, 63, 64]) (Agr.refl _ _)) rfl, (by omega), rfl, hsz, rfl, hs⟩
    · rintro m ρ' w6 ⟨ρo, q, st, rfl, hq, hst, hzs, rfl, hs⟩
      refine W_seq ?_
      refine W_seq ?_
      refine W_region ?_
      refine RW_op (L_move (V := .int .i64 (((lo + ((hi - lo) / 4) * 2 - 1) + q : Nat) : Int)) rfl ?_)
      refine RW_op (L_move (V := .int .i64 ((lo : Nat) : Int)) rfl ?_)
      refine RW_op (L_move (V := .int .i64 ((hi - lo : Nat) : Int)) rfl ?_)
      refine RW_op (L_quo (a := ((hi - lo : Nat) : Int)) (b := 4) (c := (((hi - lo) / 4 : Nat) : Int)) rfl rfl (by decide) (nat_i64 rfl (by omega)) ?_)
      refine RW_op (L_mul (a := (((hi - lo) / 4 : Nat) : Int)) (b := 2) (c := ((((hi - lo) / 4) * 2 : Nat) : Int)) rfl rfl (nat_i64 (by omega) (by omega)) ?_)
      refine RW_op (L_add (a := ((lo : Nat) : Int)) (b := ((((hi - lo) / 4) * 2 : Nat) : Int)) (c := ((lo + (((hi - lo) / 4) * 2) : Nat) : Int)) rfl rfl (nat_i64 (by omega) (by omega)) ?_)
      refine RW_op (L_add (a := ((lo + (((hi - lo) / 4) * 2) : Nat) : Int)) (b := 1) (c := (((lo + (((hi - lo) / 4) * 2)) + 1 : Nat) : Int)) rfl rfl (nat_i64 (by omega) (by omega)) ?_)
      refine RW_op (L_leq rfl rfl ?_)
      refine RW_nil ?_
      refine W_cond (t := decide ((((lo + ((hi - lo) / 4) * 2 - 1) + q : Nat) : Int) ≤ (((lo + (((hi - lo) / 4) * 2)) + 1 : Nat) : Int))) rfl (fun c7 => ?_) (fun c7 => ?_)
      ·
        replace c7 := of_decide_eq_true c7
        refine W_skip ?_
        refine W_seq ?_
        refine W_block ?_
        refine W_seq ?_
        have hand := Nat.and_le_right (n := Sort.xorNextN st.1.toNat) (m := 1 <<< Sort.bitsLen (hi - lo) - 1)
        refine W_region ?_
        refine RW_op (L_callB (vs := [.pointer (some ⟨b2, 0, none⟩)]) (V := fun _ : Unit => .int .u64 ((Sort.xorNextN st.1.toNat : Nat) : Int)) (R := blk b2 [.int .u64 ((st.1.toNat : Nat) : Int)] 145) (R' := fun _ => blk b2 [.int .u64 ((Sort.xorNextN st.1.toNat : Nat) : Int)] 145) (Lo := fun _ => []) (F := fun _ _ => True) EN_113 rfl rfl hs 1 rfl (fun S hS hlt => hxor _ S b2 st.1.toNat (by first | omega | exact UInt64.toNat_lt _) hS hlt) fun _ w8 hs _ => ?_)
        refine RW_op (L_move (V := .int .u64 ((1 <<< Sort.bitsLen (hi - lo) : Nat) : Int)) rfl ?_)
        refine RW_op (opW_to (V := .int .u64 (((1 <<< Sort.bitsLen (hi - lo) : Nat) : Int) - 1)) (V' := .int .u64 ((1 <<< Sort.bitsLen (hi - lo) - 1 : Nat) : Int)) (L_sub (a := ((1 <<< Sort.bitsLen (hi - lo) : Nat) : Int)) (b := 1) (c := ((1 <<< Sort.bitsLen (hi - lo) : Nat) : Int) - 1) rfl rfl (wr_u64 (by omega) (by omega)) ⟨rfl, rfl⟩) (congrArg (Value.int .u64) (by omega)) ?_)
        refine RW_op (opW_to (V := .int .u64 (bits .and .u64 ((Sort.xorNextN st.1.toNat : Nat) : Int) ((1 <<< Sort.bitsLen (hi - lo) - 1 : Nat) : Int))) (V' := .int .u64 ((Sort.xorNextN st.1.toNat &&& (1 <<< Sort.bitsLen (hi - lo) - 1) : Nat) : Int)) (L_and2 rfl rfl ⟨rfl, rfl⟩) (congrArg (Value.int .u64) (and_nat (Sort.xorNextN_lt _ (UInt64.toNat_lt _)) (by omega))) ?_)
        refine RW_op (L_conv UD_119 UD_3 rfl (wr_i64 (by omega) (by omega)) ?_)
        refine RW_op (L_assign (V := .int .i64 ((Sort.xorNextN st.1.toNat &&& (1 <<< Sort.bitsLen (hi - lo) - 1) : Nat) : Int)) rfl ?_)
        refine RW_nil ?_
        refine W_seq ?_
        refine W_seq ?_
        refine W_region ?_
        refine RW_op (L_move (V := .int .i64 ((Sort.xorNextN st.1.toNat &&& (1 <<< Sort.bitsLen (hi - lo) - 1) : Nat) : Int)) rfl ?_)
        refine RW_op (L_move (V := .int .i64 ((hi - lo : Nat) : Int)) rfl ?_)
        refine RW_op (L_geq rfl rfl ?_)
        refine RW_nil ?_
        refine W_mid (fun ρ ρ' w' => ∃ (ρo : Env) (ot : Nat), ρ' = upd (mix [10, 44, 45, 46] ρo ρ) 10 (.int .i64 ((ot : Nat) : Int)) ∧ (ot = otherN lo (hi - lo) (1 <<< Sort.bitsLen (hi - lo)) st.1.toNat) ∧ Own w S w' [row (.slice a N c) (st.2.toList.map (ic .u16)) 57 1, blk b2 [.int .u64 ((Sort.xorNextN st.1.toNat : Nat) : Int)] 145]) ?_ ?_
        ·
          refine W_cond (t := decide (((hi - lo : Nat) : Int) ≤ ((Sort.xorNextN st.1.toNat &&& (1 <<< Sort.bitsLen (hi - lo) - 1) : Nat) : Int))) rfl (fun c9 => ?_) (fun c9 => ?_)
          ·
            replace c9 := of_decide_eq_true c9
            refine W_region ?_
            refine RW_op (L_move (V := .int .i64 ((Sort.xorNextN st.1.toNat &&& (1 <<< Sort.bitsLen (hi - lo) - 1) : Nat) : Int)) rfl ?_)
            refine RW_op (L_move (V := .int .i64 ((hi - lo : Nat) : Int)) rfl ?_)
            refine RW_op (L_sub (a := ((Sort.xorNextN st.1.toNat &&& (1 <<< Sort.bitsLen (hi - lo) - 1) : Nat) : Int)) (b := ((hi - lo : Nat) : Int)) (c := (((Sort.xorNextN st.1.toNat &&& (1 <<< Sort.bitsLen (hi - lo) - 1)) - (hi - lo) : Nat) : Int)) rfl rfl (nat_i64 (by omega) (by omega)) ?_)
            refine RW_op (L_assign (V := .int .i64 (((Sort.xorNextN st.1.toNat &&& (1 <<< Sort.bitsLen (hi - lo) - 1)) - (hi - lo) : Nat) : Int)) rfl ?_)
            refine RW_nil ?_
            exact ⟨_, (Sort.xorNextN st.1.toNat &&& (1 <<< Sort.bitsLen (hi - lo) - 1)) - (hi - lo), upd_of (mix_of (ds := [10, 44, 45, 46]) (by repeat (first | exact Agr.refl _ _ | refine Agr.upd ?_ rfl | refine Agr.mix ?_ rfl))) rfl, (by unfold otherN; rw [if_pos (by omega)]), hs.take 2⟩
          ·
            replace c9 := of_decide_eq_false c9
            refine W_skip ?_
            exact ⟨_, Sort.xorNextN st.1.toNat &&& (1 <<< Sort.bitsLen (hi - lo) - 1), upd_of (mix_of (ds := [10, 44, 45, 46]) (by repeat (first | exact Agr.refl _ _ | refine Agr.upd ?_ rfl | refine Agr.mix ?_ rfl))) rfl, (by unfold otherN; rw [if_neg (by omega)]), hs.take 2⟩
        · rintro ρ' w10 ⟨ρo, ot, rfl, hot, hs⟩
          have hol := other_lt (lo := lo) (len := hi - lo) (r := st.1.toNat) (by omega)
          rw [← hot] at hol
          replace hs := hs.drew
          refine W_draw2 HM [47, 48, 49, 50, 51, 52, 53, 54, 55, 56, 57, 58, 59, 60, 61, 62, 63, 64] [[], [], [], [], [], [3, 4], [], [], [], [7, 8], [6, 9], [10], [], [], [12, 13], [14], [0, 1, 0, 1, 6, 7, 8, 9, 10, 11, 15], [16, 11, 0, 1, 6, 7, 8, 9, 10, 11, 15], [2, 5, 0, 1, 2, 3, 4, 5, 6, 7, 8, 9, 10, 11, 12, 13, 14, 15, 16, 17], [18, 15, 17, 0, 1, 2, 3, 4, 5, 6, 7, 8, 9, 10, 11, 12, 13, 14, 15, 16, 17]] (fun D ρ wx => Own w S wx [cond (D 19) (row (.slice a N c) ((((st.2.setIfInBounds ((lo + ((hi - lo) / 4) * 2 - 1) + q) (st.2[lo + ot]!)).setIfInBounds (lo + ot) (st.2[(lo + ((hi - lo) / 4) * 2 - 1) + q]!)).toList).map (ic .u16)) 57 1) (cond (D 17) (row (.slice a N c) (((st.2.setIfInBounds ((lo + ((hi - lo) / 4) * 2 - 1) + q) (st.2[lo + ot]!)).toList).map (ic .u16)) 57 1) (row (.slice a N c) (st.2.toList.map (ic .u16)) 57 1)), blk b2 [.int .u64 ((Sort.xorNextN st.1.toNat : Nat) : Int)] 145] ∧ (D 0 = true → ρ 47 = .slice a N c) ∧ (D 1 = true → ρ 48 = .int .i64 (((lo + ((hi - lo) / 4) * 2 - 1) + q : Nat) : Int)) ∧ (D 2 = true → ρ 49 = .slice a N c) ∧ (D 3 = true → ρ 50 = .int .i64 ((lo : Nat) : Int)) ∧ (D 4 = true → ρ 51 = .int .i64 ((ot : Nat) : Int)) ∧ (D 5 = true → ρ 52 = .int .i64 ((lo + ot : Nat) : Int)) ∧ (D 6 = true → ρ 53 = .slice a N c) ∧ (D 7 = true → ρ 54 = .int .i64 ((lo : Nat) : Int)) ∧ (D 8 = true → ρ 55 = .int .i64 ((ot : Nat) : Int)) ∧ (D 9 = true → ρ 56 = .int .i64 ((lo + ot : Nat) : Int)) ∧ (D 10 = true → ρ 57 = .pointer (some ⟨bkS (.slice a N c), ofS (.slice a N c) + ((lo + ot : Nat) : Int).toNat * 1, none⟩)) ∧ (D 11 = true → ρ 58 = .int .u16 (st.2[lo + ot]!)) ∧ (D 12 = true → ρ 59 = .slice a N c) ∧ (D 13 = true → ρ 60 = .int .i64 (((lo + ((hi - lo) / 4) * 2 - 1) + q : Nat) : Int)) ∧ (D 14 = true → ρ 61 = .pointer (some ⟨bkS (.slice a N c), ofS (.slice a N c) + (((lo + ((hi - lo) / 4) * 2 - 1) + q : Nat) : Int).toNat * 1, none⟩)) ∧ (D 15 = true → ρ 62 = .int .u16 (st.2[(lo + ((hi - lo) / 4) * 2 - 1) + q]!)) ∧ (D 16 = true → ρ 63 = .pointer (some ⟨bkS (.slice a N c), ofS (.slice a N c) + (((lo + ((hi - lo) / 4) * 2 - 1) + q : Nat) : Int).toNat * 1, none⟩)) ∧ (True) ∧ (D 18 = true → ρ 64 = .pointer (some ⟨bkS (.slice a N c), ofS (.slice a N c) + ((lo + ot : Nat) : Int).toNat * 1, none⟩)) ∧ (True)) rfl rfl rfl ⟨hs, fun h => absurd h Bool.false_ne_true, fun h => absurd h Bool.false_ne_true, fun h => absurd h Bool.false_ne_true, fun h => absurd h Bool.false_ne_true, fun h => absurd h Bool.false_ne_true, fun h => absurd h Bool.false_ne_true, fun h => absurd h Bool.false_ne_true, fun h => absurd h Bool.false_ne_true, fun h => absurd h Bool.false_ne_true, fun h => absurd h Bool.false_ne_true, fun h => absurd h Bool.false_ne_true, fun h => absurd h Bool.false_ne_true, fun h => absurd h Bool.false_ne_true, fun h => absurd h Bool.false_ne_true, fun h => absurd h Bool.false_ne_true, fun h => absurd h Bool.false_ne_true, fun h => absurd h Bool.false_ne_true, trivial, fun h => absurd h Bool.false_ne_true, trivial⟩ ⟨?_, ?_, ?_, ?_, ?_, ?_, ?_, ?_, ?_, ?_, ?_, ?_, ?_, ?_, ?_, ?_, ?_, ?_, ?_, ?_, trivial⟩ ?_
          · rintro D ρ wx hD hd hdc hf ⟨hs, f0, f1, f2, f3, f4, f5, f6, f7, f8, f9, f10, f11, f12, f13, f14, f15, f16, f17, f18, f19⟩
            have r0 : ρ 0 = .slice a N c := outD hf 0 rfl
            exact .inl ⟨rfl, L_move (V := .slice a N c) r0 ⟨hs, fun _ => rfl, f1, f2, f3, f4, f5, f6, f7, f8, f9, f10, f11, f12, f13, f14, f15, f16, f17, f18, f19⟩⟩
          · rintro D ρ wx hD hd hdc hf ⟨hs, f0, f1, f2, f3, f4, f5, f6, f7, f8, f9, f10, f11, f12, f13, f14, f15, f16, f17, f18, f19⟩
            have r9 : ρ 9 = .int .i64 (((lo + ((hi - lo) / 4) * 2 - 1) + q : Nat) : Int) := outD hf 9 rfl
            exact .inl ⟨rfl, L_move (V := .int .i64 (((lo + ((hi - lo) / 4) * 2 - 1) + q : Nat) : Int)) r9 ⟨hs, f0, fun _ => rfl, f2, f3, f4, f5, f6, f7, f8, f9, f10, f11, f12, f13, f14, f15, f16, f17, f18, f19⟩⟩
          · rintro D ρ wx hD hd hdc hf ⟨hs, f0, f1, f2, f3, f4, f5, f6, f7, f8, f9, f10, f11, f12, f13, f14, f15, f16, f17, f18, f19⟩
            have r0 : ρ 0 = .slice a N c := outD hf 0 rfl
            exact .inl ⟨rfl, L_move (V := .slice a N c) r0 ⟨hs, f0, f1, fun _ => rfl, f3, f4, f5, f6, f7, f8, f9, f10, f11, f12, f13, f14, f15, f16, f17, f18, f19⟩⟩
          · rintro D ρ wx hD hd hdc hf ⟨hs, f0, f1, f2, f3, f4, f5, f6, f7, f8, f9, f10, f11, f12, f13, f14, f15, f16, f17, f18, f19⟩
            have r1 : ρ 1 = .int .i64 ((lo : Nat) : Int) := outD hf 1 rfl
            exact .inl ⟨rfl, L_move (V := .int .i64 ((lo : Nat) : Int)) r1 ⟨hs, f0, f1, f2, fun _ => rfl, f4, f5, f6, f7, f8, f9, f10, f11, f12, f13, f14, f15, f16, f17, f18, f19⟩⟩
          · rintro D ρ wx hD hd hdc hf ⟨hs, f0, f1, f2, f3, f4, f5, f6, f7, f8, f9, f10, f11, f12, f13, f14, f15, f16, f17, f18, f19⟩
            have r10 : ρ 10 = .int .i64 ((ot : Nat) : Int) := outD hf 10 rfl
            exact .inl ⟨rfl, L_move (V := .int .i64 ((ot : Nat) : Int)) r10 ⟨hs, f0, f1, f2, f3, fun _ => rfl, f5, f6, f7, f8, f9, f10, f11, f12, f13, f14, f15, f16, f17, f18, f19⟩⟩
          · rintro D ρ wx hD hd hdc hf ⟨hs, f0, f1, f2, f3, f4, f5, f6, f7, f8, f9, f10, f11, f12, f13, f14, f15, f16, f17, f18, f19⟩
            have g3 := f3 (doneD hd 3 rfl)
            have g4 := f4 (doneD hd 4 rfl)
            exact .inl ⟨rfl, L_add (a := ((lo : Nat) : Int)) (b := ((ot : Nat) : Int)) (c := ((lo + ot : Nat) : Int)) g3 g4 (nat_i64 (by omega) (by omega)) ⟨hs, f0, f1, f2, f3, f4, fun _ => rfl, f6, f7, f8, f9, f10, f11, f12, f13, f14, f15, f16, f17, f18, f19⟩⟩
          · rintro D ρ wx hD hd hdc hf ⟨hs, f0, f1, f2, f3, f4, f5, f6, f7, f8, f9, f10, f11, f12, f13, f14, f15, f16, f17, f18, f19⟩
            have r0 : ρ 0 = .slice a N c := outD hf 0 rfl
            exact .inl ⟨rfl, L_move (V := .slice a N c) r0 ⟨hs, f0, f1, f2, f3, f4, f5, fun _ => rfl, f7, f8, f9, f10, f11, f12, f13, f14, f15, f16, f17, f18, f19⟩⟩
          · rintro D ρ wx hD hd hdc hf ⟨hs, f0, f1, f2, f3, f4, f5, f6, f7, f8, f9, f10, f11, f12, f13, f14, f15, f16, f17, f18, f19⟩
            have r1 : ρ 1 = .int .i64 ((lo : Nat) : Int) := outD hf 1 rfl
            exact .inl ⟨rfl, L_move (V := .int .i64 ((lo : Nat) : Int)) r1 ⟨hs, f0, f1, f2, f3, f4, f5, f6, fun _ => rfl, f8, f9, f10, f11, f12, f13, f14, f15, f16, f17, f18, f19⟩⟩
          · rintro D ρ wx hD hd hdc hf ⟨hs, f0, f1, f2, f3, f4, f5, f6, f7, f8, f9, f10, f11, f12, f13, f14, f15, f16, f17, f18, f19⟩
            have r10 : ρ 10 = .int .i64 ((ot : Nat) : Int) := outD hf 10 rfl
            exact .inl ⟨rfl, L_move (V := .int .i64 ((ot : Nat) : Int)) r10 ⟨hs, f0, f1, f2, f3, f4, f5, f6, f7, fun _ => rfl, f9, f10, f11, f12, f13, f14, f15, f16, f17, f18, f19⟩⟩
          · rintro D ρ wx hD hd hdc hf ⟨hs, f0, f1, f2, f3, f4, f5, f6, f7, f8, f9, f10, f11, f12, f13, f14, f15, f16, f17, f18, f19⟩
            have g7 := f7 (doneD hd 7 rfl)
            have g8 := f8 (doneD hd 8 rfl)
            exact .inl ⟨rfl, L_add (a := ((lo : Nat) : Int)) (b := ((ot : Nat) : Int)) (c := ((lo + ot : Nat) : Int)) g7 g8 (nat_i64 (by omega) (by omega)) ⟨hs, f0, f1, f2, f3, f4, f5, f6, f7, f8, fun _ => rfl, f10, f11, f12, f13, f14, f15, f16, f17, f18, f19⟩⟩
          · rintro D ρ wx hD hd hdc hf ⟨hs, f0, f1, f2, f3, f4, f5, f6, f7, f8, f9, f10, f11, f12, f13, f14, f15, f16, f17, f18, f19⟩
            have g6 := f6 (doneD hd 6 rfl)
            have g9 := f9 (doneD hd 9 rfl)
            have d17 : D 17 = false := (notYetD hdc (j := 17) rfl rfl hD)
            have d19 : D 19 = false := (notYetD hdc (j := 19) rfl rfl hD)
            have hs0 := hs; rw [d17, d19] at hs0
            exact .inl ⟨rfl, L_ixR UD_72 S1_57.1 (hs0.rd 0 rfl) g6 g9 (by omega) (by simp only [List.length_map, Array.length_toList, Array.size_setIfInBounds, Go.Sort.size_swp]; omega) ⟨hs, f0, f1, f2, f3, f4, f5, f6, f7, f8, f9, fun _ => rfl, f11, f12, f13, f14, f15, f16, f17, f18, f19⟩⟩
          · rintro D ρ wx hD hd hdc hf ⟨hs, f0, f1, f2, f3, f4, f5, f6, f7, f8, f9, f10, f11, f12, f13, f14, f15, f16, f17, f18, f19⟩
            have g10 := f10 (doneD hd 10 rfl)
            have d17 : D 17 = false := (notYetD hdc (j := 17) rfl rfl hD)
            have d19 : D 19 = false := (notYetD hdc (j := 19) rfl rfl hD)
            have hs0 := hs; rw [d17, d19] at hs0
            exact .inl ⟨rfl, L_ldR (j := 0) (V := .int .u16 (st.2[lo + ot]!)) (lo + ot) S1_57 (hs0.rd 0 rfl) (da_at (by omega)) rfl g10 (by omega) ⟨hs, f0, f1, f2, f3, f4, f5, f6, f7, f8, f9, f10, fun _ => rfl, f12, f13, f14, f15, f16, f17, f18, f19⟩⟩
          · rintro D ρ wx hD hd hdc hf ⟨hs, f0, f1, f2, f3, f4, f5, f6, f7, f8, f9, f10, f11, f12, f13, f14, f15, f16, f17, f18, f19⟩
            have r0 : ρ 0 = .slice a N c := outD hf 0 rfl
            exact .inl ⟨rfl, L_move (V := .slice a N c) r0 ⟨hs, f0, f1, f2, f3, f4, f5, f6, f7, f8, f9, f10, f11, fun _ => rfl, f13, f14, f15, f16, f17, f18, f19⟩⟩
          · rintro D ρ wx hD hd hdc hf ⟨hs, f0, f1, f2, f3, f4, f5, f6, f7, f8, f9, f10, f11, f12, f13, f14, f15, f16, f17, f18, f19⟩
            have r9 : ρ 9 = .int .i64 (((lo + ((hi - lo) / 4) * 2 - 1) + q : Nat) : Int) := outD hf 9 rfl
            exact .inl ⟨rfl, L_move (V := .int .i64 (((lo + ((hi - lo) / 4) * 2 - 1) + q : Nat) : Int)) r9 ⟨hs, f0, f1, f2, f3, f4, f5, f6, f7, f8, f9, f10, f11, f12, fun _ => rfl, f14, f15, f16, f17, f18, f19⟩⟩
          · rintro D ρ wx hD hd hdc hf ⟨hs, f0, f1, f2, f3, f4, f5, f6, f7, f8, f9, f10, f11, f12, f13, f14, f15, f16, f17, f18, f19⟩
            have g12 := f12 (doneD hd 12 rfl)
            have g13 := f13 (doneD hd 13 rfl)
            have d17 : D 17 = false := (notYetD hdc (j := 17) rfl rfl (notYetD hdc (j := 15) rfl rfl hD))
            have d19 : D 19 = false := (notYetD hdc (j := 19) rfl rfl hD)
            have hs0 := hs; rw [d17, d19] at hs0
            exact .inl ⟨rfl, L_ixR UD_72 S1_57.1 (hs0.rd 0 rfl) g12 g13 (by omega) (by simp only [List.length_map, Array.length_toList, Array.size_setIfInBounds, Go.Sort.size_swp]; omega) ⟨hs, f0, f1, f2, f3, f4, f5, f6, f7, f8, f9, f10, f11, f12, f13, fun _ => rfl, f15, f16, f17, f18, f19⟩⟩
          · rintro D ρ wx hD hd hdc hf ⟨hs, f0, f1, f2, f3, f4, f5, f6, f7, f8, f9, f10, f11, f12, f13, f14, f15, f16, f17, f18, f19⟩
            have g14 := f14 (doneD hd 14 rfl)
            have d17 : D 17 = false := (notYetD hdc (j := 17) rfl rfl hD)
            have d19 : D 19 = false := (notYetD hdc (j := 19) rfl rfl hD)
            have hs0 := hs; rw [d17, d19] at hs0
            exact .inl ⟨rfl, L_ldR (j := 0) (V := .int .u16 (st.2[(lo + ((hi - lo) / 4) * 2 - 1) + q]!)) ((lo + ((hi - lo) / 4) * 2 - 1) + q) S1_57 (hs0.rd 0 rfl) (da_at (by omega)) rfl g14 (by omega) ⟨hs, f0, f1, f2, f3, f4, f5, f6, f7, f8, f9, f10, f11, f12, f13, f14, fun _ => rfl, f16, f17, f18, f19⟩⟩
          · rintro D ρ wx hD hd hdc hf ⟨hs, f0, f1, f2, f3, f4, f5, f6, f7, f8, f9, f10, f11, f12, f13, f14, f15, f16, f17, f18, f19⟩
            have g0 := f0 (doneD hd 0 rfl)
            have g1 := f1 (doneD hd 1 rfl)
            have d17 : D 17 = false := (notYetD hdc (j := 17) rfl rfl hD)
            have d19 : D 19 = false := (notYetD hdc (j := 19) rfl rfl hD)
            have hs0 := hs; rw [d17, d19] at hs0
            exact .inl ⟨rfl, L_ixR UD_72 S1_57.1 (hs0.rd 0 rfl) g0 g1 (by omega) (by simp only [List.length_map, Array.length_toList, Array.size_setIfInBounds, Go.Sort.size_swp]; omega) ⟨hs, f0, f1, f2, f3, f4, f5, f6, f7, f8, f9, f10, f11, f12, f13, f14, f15, fun _ => rfl, f17, f18, f19⟩⟩
          · rintro D ρ wx hD hd hdc hf ⟨hs, f0, f1, f2, f3, f4, f5, f6, f7, f8, f9, f10, f11, f12, f13, f14, f15, f16, f17, f18, f19⟩
            have g11 := f11 (doneD hd 11 rfl)
            have g16 := f16 (doneD hd 16 rfl)
            have d17 : D 17 = false := hD
            have d19 : D 19 = false := (notYetD hdc (j := 19) rfl rfl hD)
            have hs0 := hs; rw [d17, d19] at hs0
            refine .inl ⟨rfl, L_stA (z := st.2[lo + ot]!) ((lo + ((hi - lo) / 4) * 2 - 1) + q) S1_57 hs0 0 rfl g16 (by omega) (by first | omega | (simp only [Array.size_setIfInBounds, Go.Sort.size_swp]; omega)) g11 rfl rfl fun _ hs0 => ⟨?_, f0, f1, f2, f3, f4, f5, f6, f7, f8, f9, f10, f11, f12, f13, f14, f15, f16, trivial, f18, f19⟩⟩
            rw [show Go.Vx.mark D 17 19 = false from d19]
            exact hs0
          · rintro D ρ wx hD hd hdc hf ⟨hs, f0, f1, f2, f3, f4, f5, f6, f7, f8, f9, f10, f11, f12, f13, f14, f15, f16, f17, f18, f19⟩
            have g2 := f2 (doneD hd 2 rfl)
            have g5 := f5 (doneD hd 5 rfl)
            have d17 : D 17 = true := doneD hd 17 rfl
            have d19 : D 19 = false := (notYetD hdc (j := 19) rfl rfl hD)
            have hs0 := hs; rw [d17, d19] at hs0
            exact .inl ⟨rfl, L_ixR UD_72 S1_57.1 (hs0.rd 0 rfl) g2 g5 (by omega) (by simp only [List.length_map, Array.length_toList, Array.size_setIfInBounds, Go.Sort.size_swp]; omega) ⟨hs, f0, f1, f2, f3, f4, f5, f6, f7, f8, f9, f10, f11, f12, f13, f14, f15, f16, f17, fun _ => rfl, f19⟩⟩
          · rintro D ρ wx hD hd hdc hf ⟨hs, f0, f1, f2, f3, f4, f5, f6, f7, f8, f9, f10, f11, f12, f13, f14, f15, f16, f17, f18, f19⟩
            have g15 := f15 (doneD hd 15 rfl)
            have g18 := f18 (doneD hd 18 rfl)
            have d17 : D 17 = true := doneD hd 17 rfl
            have d19 : D 19 = false := hD
            have hs0 := hs; rw [d17, d19] at hs0
            refine .inl ⟨rfl, L_stA (z := st.2[(lo + ((hi - lo) / 4) * 2 - 1) + q]!) (lo + ot) S1_57 hs0 0 rfl g18 (by omega) (by first | omega | (simp only [Array.size_setIfInBounds, Go.Sort.size_swp]; omega)) g15 rfl rfl fun _ hs0 => ⟨?_, f0, f1, f2, f3, f4, f5, f6, f7, f8, f9, f10, f11, f12, f13, f14, f15, f16, f17, f18, trivial⟩⟩
            rw [show Go.Vx.mark D 19 17 = true from d17]
            exact hs0
          · rintro ρ1 w1 D hD hf ⟨hs, f0, f1, f2, f3, f4, f5, f6, f7, f8, f9, f10, f11, f12, f13, f14, f15, f16, f17, f18, f19⟩
            rw [hD 17 rfl, hD 19 rfl] at hs
            clear f0 f1 f2 f3 f4 f5 f6 f7 f8 f9 f10 f11 f12 f13 f14 f15 f16 f17 f18 f19
            obtain ⟨ρ2, hρ⟩ : ∃ ρ2, ρ1 = mix [47, 48, 49, 50, 51, 52, 53, 54, 55, 56, 57, 58, 59, 60, 61, 62, 63, 64] ρ2 _ := ⟨ρ1, mix_of (ds := [47, 48, 49, 50, 51, 52, 53, 54, 55, 56, 57, 58, 59, 60, 61, 62, 63, 64]) hf⟩
            clear hf hD
            subst hρ
            refine W_region ?_
            refine RW_op (L_move (V := .int .i64 (((lo + ((hi - lo) / 4) * 2 - 1) + q : Nat) : Int)) rfl ?_)
            refine RW_op (L_add (a := (((lo + ((hi - lo) / 4) * 2 - 1) + q : Nat) : Int)) (b := 1) (c := ((((lo + ((hi - lo) / 4) * 2 - 1) + q) + 1 : Nat) : Int)) rfl rfl (nat_i64 (by omega) (by omega)) ?_)
            refine RW_op (L_assign (V := .int .i64 ((((lo + ((hi - lo) / 4) * 2 - 1) + q) + 1 : Nat) : Int)) rfl ?_)
            refine RW_nil ?_
            have hbn := bpS_next (lo := lo) (len := hi - lo) (md := 1 <<< Sort.bitsLen (hi - lo)) (i0 := lo + ((hi - lo) / 4) * 2 - 1) (q := q) (s0 := (UInt64.ofNat (hi - lo), d))
            rw [← hst] at hbn
            replace hs := hs.conv 1 rfl (R' := blk b2 [.int .u64 (((bpS lo (hi - lo) (1 <<< Sort.bitsLen (hi - lo)) (UInt64.ofNat (hi - lo), d) (lo + ((hi - lo) / 4) * 2 - 1) (q + 1)).1.toNat : Nat) : Int)] 145) (fun S h => by rw [hbn.1]; exact h)
            replace hs := hs.conv 0 rfl (R' := row (.slice a N c) (((bpS lo (hi - lo) (1 <<< Sort.bitsLen (hi - lo)) (UInt64.ofNat (hi - lo), d) (lo + ((hi - lo) / 4) * 2 - 1) (q + 1)).2).toList.map (ic .u16)) 57 1) (fun S h => by rw [hbn.2, ← hot]; exact h)
            refine ⟨_, ?_, _, q + 1, bpS lo (hi - lo) (1 <<< Sort.bitsLen (hi - lo)) (UInt64.ofNat (hi - lo), d) (lo + ((hi - lo) / 4) * 2 - 1) (q + 1), upd_of (mix_of (ds := [9, 10, 26, 27, 28, 29, 30, 31, 32, 33, 34, 35, 36, 37, 38, 39, 40, 41, 42, 43, 44, 45, 46, 47, 48, 49, 50, 51, 52, 53, 54, 55, 56, 57, 58, 59, 60, 61, 62, 63, 64]) (by repeat (first | exact Agr.refl _ _ | refine Agr.upd ?_ rfl | refine Agr.mix ?_ rfl))) rfl, (by omega), rfl, (bpS_size (s0 := (UInt64.ofNat (hi - lo), d)) hsz _), rfl, hs.take 2⟩
            omega
      ·
        replace c7 := of_decide_eq_false c7
        refine W_exit ?_
        refine ⟨_, res_none Try.results104, ?_⟩
        have hq3 : q = 3 := by omega
        subst hq3
        have hX : st.2 = Sort.breakPatterns d lo hi := by rw [hst]; exact bpS_end (by omega)
        exact ⟨(), rfl, hX ▸ hs.take 1, hX ▸ (by first | assumption | (simp only [Array.size_setIfInBounds, Go.Sort.size_swp]; omega))⟩
  ·
    replace c1 := of_decide_eq_false c1
    refine W_skip ?_
    refine ⟨_, res_none Try.results104, ?_⟩
    have hX : d = Sort.breakPatterns d lo hi := by unfold Sort.breakPatterns; dsimp only; rw [if_neg (by omega)]
    exact ⟨(), rfl, hX ▸ hs.take 1, hX ▸ (by first | assumption | (simp only [Array.size_setIfInBounds, Go.Sort.size_swp]; omega))⟩
end Ts
end Go.Proofs
namespace Go.Proofs
open Go Go.Vx Go.RowKit
namespace Ts
theorem EN_102 : En Try.prog 102 := Try.call102
theorem EN_103 : En Try.prog 103 := Try.call103
theorem EN_104 : En Try.prog 104 := Try.call104
theorem EN_105 : En Try.prog 105 := Try.call105
theorem EN_106 : En Try.prog 106 := Try.call106
theorem EN_107 : En Try.prog 107 := Try.call107
theorem EN_109 : En Try.prog 109 := Try.call109
theorem EN_110 : En Try.prog 110 := Try.call110
theorem EN_89 : En Try.prog 89 := Try.call89
theorem swoI : Sort.SWO Sort.ltInt := Sort.swo_ltInt
theorem pe_range {d : Array Int} {lo hi pv : Nat} (h1 : lo ≤ pv) (h2 : pv < hi) (h3 : hi ≤ d.size) : lo < (Sort.partitionEqual Sort.ltInt d lo hi pv).1 ∧ (Sort.partitionEqual Sort.ltInt d lo hi pv).1 ≤ hi := by
  have := Sort.partEqLoop_spec Sort.ltInt lo hi (hi - 1 + 1 - (lo + 1)) (lo + 1) (hi - 1) (Sort.swp d lo pv) (Nat.le_refl _) (by omega) (by omega) (by omega) (by rw [Sort.size_swp]; exact h3) (fun t a b => by omega) (fun t a b => by omega)
  exact ⟨this.1, this.2.1⟩
theorem pt_range {d : Array Int} {lo hi pv : Nat} (h1 : lo ≤ pv) (h2 : pv < hi) (h3 : hi ≤ d.size) : lo ≤ (Sort.partition Sort.ltInt d lo hi pv).1 ∧ (Sort.partition Sort.ltInt d lo hi pv).1 < hi := by
  have := Sort.partition_holds (lt := Sort.ltInt) swoI d lo hi pv h1 h2 h3
  exact ⟨this.1, this.2.1⟩
theorem hint_inc {x : Sort.Hint} : hintI x = 1 ↔ x = .increasing := by cases x <;> simp [hintI]
theorem hint_dec {x : Sort.Hint} : hintI x = 2 ↔ x = .decreasing := by cases x <;> simp [hintI]
section
variable {l h lim2 lim3 pv : Nat} {wb wp b : Bool} {d1 d2 d3 d4 : Array Int}
theorem rd_yes (hw : wb = false) : Sort.breakPatterns d1 l h = (Sort.rd Sort.ltInt d1 l h lim2 wb wp).d1 ∧ lim2 - 1 = (Sort.rd Sort.ltInt d1 l h lim2 wb wp).lim := by subst hw; exact ⟨rfl, rfl⟩
theorem rd_no (hw : wb = true) : d1 = (Sort.rd Sort.ltInt d1 l h lim2 wb wp).d1 ∧ lim2 = (Sort.rd Sort.ltInt d1 l h lim2 wb wp).lim := by subst hw; exact ⟨rfl, rfl⟩
theorem rd_rev (h2 : d2 = (Sort.rd Sort.ltInt d1 l h lim2 wb wp).d1) (hh : hintI (Sort.choosePivot Sort.ltInt d2 l h).2 = 2) : Sort.reverseRange d2 l h = (Sort.rd Sort.ltInt d1 l h lim2 wb wp).d2 ∧ (h - 1) - ((Sort.choosePivot Sort.ltInt d2 l h).1 - l) = (Sort.rd Sort.ltInt d1 l h lim2 wb wp).pivot ∧ (1 : Int) = hintI (Sort.rd Sort.ltInt d1 l h lim2 wb wp).hint := by
  rw [hint_dec] at hh
  subst h2
  have hc : (Sort.rd Sort.ltInt d1 l h lim2 wb wp).c.2 = .decreasing := hh
  refine ⟨?_, ?_, ?_⟩
  · show _ = if (Sort.rd Sort.ltInt d1 l h lim2 wb wp).c.2 = .decreasing then _ else _
    rw [if_pos hc]; rfl
  · show _ = if (Sort.rd Sort.ltInt d1 l h lim2 wb wp).c.2 = .decreasing then _ else _
    rw [if_pos hc]; rfl
  · show _ = hintI (if (Sort.rd Sort.ltInt d1 l h lim2 wb wp).c.2 = .decreasing then Sort.Hint.increasing else _)
    rw [if_pos hc]; rfl
theorem rd_fwd (h2 : d2 = (Sort.rd Sort.ltInt d1 l h lim2 wb wp).d1) (hh : ¬ hintI (Sort.choosePivot Sort.ltInt d2 l h).2 = 2) : d2 = (Sort.rd Sort.ltInt d1 l h lim2 wb wp).d2 ∧ (Sort.choosePivot Sort.ltInt d2 l h).1 = (Sort.rd Sort.ltInt d1 l h lim2 wb wp).pivot ∧ hintI (Sort.choosePivot Sort.ltInt d2 l h).2 = hintI (Sort.rd Sort.ltInt d1 l h lim2 wb wp).hint := by
  rw [hint_dec] at hh
  subst h2
  have hc : ¬ (Sort.rd Sort.ltInt d1 l h lim2 wb wp).c.2 = .decreasing := hh
  refine ⟨?_, ?_, ?_⟩
  · show _ = if (Sort.rd Sort.ltInt d1 l h lim2 wb wp).c.2 = .decreasing then _ else _
    rw [if_neg hc]; rfl
  · show _ = if (Sort.rd Sort.ltInt d1 l h lim2 wb wp).c.2 = .decreasing then _ else _
    rw [if_neg hc]; rfl
  · show _ = hintI (if (Sort.rd Sort.ltInt d1 l h lim2 wb wp).c.2 = .decreasing then Sort.Hint.increasing else _)
    rw [if_neg hc]; rfl
theorem rd_pi (h3 : d3 = (Sort.rd Sort.ltInt d1 l h lim2 wb wp).d2) (hw : wb = true) (hp : wp = true) (hh : hintI (Sort.rd Sort.ltInt d1 l h lim2 wb wp).hint = 1) : (Sort.rd Sort.ltInt d1 l h lim2 wb wp).pi = Sort.partialInsertionSort Sort.ltInt d3 l h := by
  rw [hint_inc] at hh
  subst h3
  have hc : (wb && wp && decide ((Sort.rd Sort.ltInt d1 l h lim2 wb wp).hint = .increasing)) = true := by rw [decide_eq_true hh, hw, hp]; rfl
  show (if (wb && wp && decide ((Sort.rd Sort.ltInt d1 l h lim2 wb wp).hint = .increasing)) = true then _ else _) = _
  rw [if_pos hc]; rfl
theorem rd_nopi (h3 : d3 = (Sort.rd Sort.ltInt d1 l h lim2 wb wp).d2) (hh : ((wb && wp) && decide (hintI (Sort.rd Sort.ltInt d1 l h lim2 wb wp).hint = 1)) = false) : (Sort.rd Sort.ltInt d1 l h lim2 wb wp).pi = (d3, false) := by
  subst h3
  have hc : (wb && wp && decide ((Sort.rd Sort.ltInt d1 l h lim2 wb wp).hint = .increasing)) = false := by rw [← hh]; congr 1; exact decide_eq_decide.2 hint_inc.symm
  show (if (wb && wp && decide ((Sort.rd Sort.ltInt d1 l h lim2 wb wp).hint = .increasing)) = true then _ else _) = _
  rw [if_neg (by rw [hc]; exact Bool.false_ne_true)]; rfl
theorem pq_small (hs : ((h - l : Nat) : Int) ≤ 12) : Sort.pdq Sort.ltInt d1 l h lim2 wb wp = Sort.insertionSort Sort.ltInt d1 l h := Sort.pdq_small (by omega)
theorem pq_heap (hs : ¬ ((h - l : Nat) : Int) ≤ 12) (h0 : ((lim2 : Nat) : Int) = 0) : Sort.pdq Sort.ltInt d1 l h lim2 wb wp = Sort.heapSort Sort.ltInt d1 l h := Sort.pdq_heap (by omega) (by omega)
theorem pq_done (hs : ¬ ((h - l : Nat) : Int) ≤ 12) (h0 : ¬ ((lim2 : Nat) : Int) = 0) (hp : (Sort.rd Sort.ltInt d1 l h lim2 wb wp).pi.2 = true) : Sort.pdq Sort.ltInt d1 l h lim2 wb wp = (Sort.rd Sort.ltInt d1 l h lim2 wb wp).pi.1 := Sort.pdq_done (by omega) (by omega) hp
theorem pq_t {x y : Int} (hb : (decide (0 < ((l : Nat) : Int)) && !decide (x < y)) = b) : (decide (l > 0) && !Sort.ltInt x y) = b := by
  rw [← hb]; congr 1; exact decide_eq_decide.2 (by omega)
theorem pq_eq (hs : ¬ ((h - l : Nat) : Int) ≤ 12) (h0 : ¬ ((lim2 : Nat) : Int) = 0) (hd4 : d4 = (Sort.rd Sort.ltInt d1 l h lim2 wb wp).pi.1) (hp : (Sort.rd Sort.ltInt d1 l h lim2 wb wp).pi.2 = false) (hpv : pv = (Sort.rd Sort.ltInt d1 l h lim2 wb wp).pivot) (hl : lim3 = (Sort.rd Sort.ltInt d1 l h lim2 wb wp).lim) (h2 : (decide (0 < ((l : Nat) : Int)) && !decide (d4[l - 1]! < d4[pv]!)) = true) (hr : l < (Sort.partitionEqual Sort.ltInt d4 l h pv).1 ∧ (Sort.partitionEqual Sort.ltInt d4 l h pv).1 ≤ h) :
    Sort.pdq Sort.ltInt d1 l h lim2 wb wp = Sort.pdq Sort.ltInt (Sort.partitionEqual Sort.ltInt d4 l h pv).2 (Sort.partitionEqual Sort.ltInt d4 l h pv).1 h lim3 wb wp := by
  subst hd4 hpv hl; exact Sort.pdq_eq (by omega) (by omega) hp (pq_t h2) hr
theorem pq_left (hs : ¬ ((h - l : Nat) : Int) ≤ 12) (h0 : ¬ ((lim2 : Nat) : Int) = 0) (hd4 : d4 = (Sort.rd Sort.ltInt d1 l h lim2 wb wp).pi.1) (hp : (Sort.rd Sort.ltInt d1 l h lim2 wb wp).pi.2 = false) (hpv : pv = (Sort.rd Sort.ltInt d1 l h lim2 wb wp).pivot) (hl : lim3 = (Sort.rd Sort.ltInt d1 l h lim2 wb wp).lim) (h2 : (decide (0 < ((l : Nat) : Int)) && !decide (d4[l - 1]! < d4[pv]!)) = false) (hr : l ≤ (Sort.partition Sort.ltInt d4 l h pv).1 ∧ (Sort.partition Sort.ltInt d4 l h pv).1 < h)
    (h4 : (((Sort.partition Sort.ltInt d4 l h pv).1 - l : Nat) : Int) < ((h - (Sort.partition Sort.ltInt d4 l h pv).1 : Nat) : Int)) :
    Sort.pdq Sort.ltInt d1 l h lim2 wb wp = Sort.pdq Sort.ltInt (Sort.pdq Sort.ltInt (Sort.partition Sort.ltInt d4 l h pv).2.2 l (Sort.partition Sort.ltInt d4 l h pv).1 lim3 true true) ((Sort.partition Sort.ltInt d4 l h pv).1 + 1) h lim3 (decide ((Sort.partition Sort.ltInt d4 l h pv).1 - l ≥ (h - l) / 8)) (Sort.partition Sort.ltInt d4 l h pv).2.1 := by
  subst hd4 hpv hl; exact Sort.pdq_left (by omega) (by omega) hp (pq_t h2) hr (by omega)
theorem pq_right (hs : ¬ ((h - l : Nat) : Int) ≤ 12) (h0 : ¬ ((lim2 : Nat) : Int) = 0) (hd4 : d4 = (Sort.rd Sort.ltInt d1 l h lim2 wb wp).pi.1) (hp : (Sort.rd Sort.ltInt d1 l h lim2 wb wp).pi.2 = false) (hpv : pv = (Sort.rd Sort.ltInt d1 l h lim2 wb wp).pivot) (hl : lim3 = (Sort.rd Sort.ltInt d1 l h lim2 wb wp).lim) (h2 : (decide (0 < ((l : Nat) : Int)) && !decide (d4[l - 1]! < d4[pv]!)) = false) (hr : l ≤ (Sort.partition Sort.ltInt d4 l h pv).1 ∧ (Sort.partition Sort.ltInt d4 l h pv).1 < h)
    (h4 : ¬ (((Sort.partition Sort.ltInt d4 l h pv).1 - l : Nat) : Int) < ((h - (Sort.partition Sort.ltInt d4 l h pv).1 : Nat) : Int)) :
    Sort.pdq Sort.ltInt d1 l h lim2 wb wp = Sort.pdq Sort.ltInt (Sort.pdq Sort.ltInt (Sort.partition Sort.ltInt d4 l h pv).2.2 ((Sort.partition Sort.ltInt d4 l h pv).1 + 1) h lim3 true true) l (Sort.partition Sort.ltInt d4 l h pv).1 lim3 (decide (h - (Sort.partition Sort.ltInt d4 l h pv).1 ≥ (h - l) / 8)) (Sort.partition Sort.ltInt d4 l h pv).2.1 := by
  subst hd4 hpv hl; exact Sort.pdq_right (by omega) (by omega) hp (pq_t h2) hr (by omega)
end
def PdqAt (n : Nat) : Prop := ∀ (w : World) (S : Nat → Prop) (a : Option Addr) (N c : Nat) (d : Array Int) (hsz : d.size = N) (hN : N ≤ 2305843009213693951) (lo hi lim : Nat) (h1 : lo ≤ hi) (h2 : hi ≤ N) (hlim : lim ≤ 4611686018427387904) (hlen : hi - lo < n) (hR : (row (.slice a N c) (d.toList.map (ic .u16)) 57 1).holds w S) (hlt : ∀ x, S x → x < w.heap.size), Calls Try.prog 89 #[.slice a N c, .int .i64 ((lo : Nat) : Int), .int .i64 ((hi : Nat) : Int), .int .i64 ((lim : Nat) : Int)] w (fun e w' => ∃ x : Unit, e = .returned (.tuple #[]) ∧ Own w S w' [row (.slice a N c) ((Sort.pdq Sort.ltInt d lo hi lim true true).toList.map (ic .u16)) 57 1] ∧ (Sort.pdq Sort.ltInt d lo hi lim true true).size = N)
set_option maxRecDepth 20000 in
set_option maxHeartbeats 4000000 in
theorem pdq_step (n : Nat) (ih : PdqAt n) (w : World) (S : Nat → Prop) (a : Option Addr) (N c : Nat) (d : Array Int) (hsz : d.size = N) (hN : N ≤ 2305843009213693951) (lo hi lim : Nat) (h1 : lo ≤ hi) (h2 : hi ≤ N) (hxor : XorC Try.prog 113 145) (hpow : PowC Try.prog 112) (hlim : lim ≤ 4611686018427387904) (hlen : hi - lo < n + 1) (hR : (row (.slice a N c) (d.toList.map (ic .u16)) 57 1).holds w S) (hlt : ∀ x, S x → x < w.heap.size) : Calls Try.prog 89 #[.slice a N c, .int .i64 ((lo : Nat) : Int), .int .i64 ((hi : Nat) : Int), .int .i64 ((lim : Nat) : Int)] w (fun e w' => ∃ x : Unit, e = .returned (.tuple #[]) ∧ Own w S w' [row (.slice a N c) ((Sort.pdq Sort.ltInt d lo hi lim true true).toList.map (ic .u16)) 57 1] ∧ (Sort.pdq Sort.ltInt d lo hi lim true true).size = N) := by
  refine calls_of_Wn (n := 134) Try.func89 rfl Try.ntmps89 rfl ?_
  have hs := Own.lent hR hlt
  refine W_seq ?_
  refine W_region ?_
  refine RW_op (L_assign (V := .bool true) rfl ?_)
  refine RW_nil ?_
  refine W_seq ?_
  refine W_region ?_
  refine RW_op (L_assign (V := .bool true) rfl ?_)
  refine RW_nil ?_
  refine W_block ?_
  refine W_loopI (fun ρ m ρ' w' => ∃ (ρo : Env) (l : Nat) (h : Nat) (lim2 : Nat) (wb : Bool) (wp : Bool) (d1 : Array Int), ρ' = upd (upd (upd (upd (upd (mix [1, 2, 3, 8, 9, 10, 11, 12, 13, 14, 15, 16, 17, 18, 19, 20, 21, 22, 23, 24, 25, 26, 27, 28, 29, 30, 31, 32, 33, 34, 35, 36, 37, 38, 39, 40, 41, 42, 43, 44, 45, 46, 47, 48, 49, 50, 51, 52, 53, 54, 55, 56, 57, 58, 59, 60, 61, 62, 63, 64, 65, 66, 67, 68, 69, 70, 71, 72, 73, 74, 75, 76, 77, 78, 79, 80, 81, 82, 83, 84, 85, 86, 87, 88, 89, 90, 91, 92, 93, 94, 95, 96, 97, 98, 99, 100, 101, 102, 103, 104, 105, 106, 107, 108, 109, 110, 111, 112, 113, 114, 115, 116, 117, 118, 119, 120, 121, 122, 123, 124, 125, 126, 127, 128, 129, 130, 131, 132, 133] ρo ρ) 1 (.int .i64 ((l : Nat) : Int))) 2 (.int .i64 ((h : Nat) : Int))) 3 (.int .i64 ((lim2 : Nat) : Int))) 8 (.bool wb)) 9 (.bool wp) ∧ (l ≤ h) ∧ (h ≤ N) ∧ (h - l ≤ hi - lo) ∧ (lim2 ≤ 4611686018427387904) ∧ (d1.size = N) ∧ (Sort.pdq Sort.ltInt d1 l h lim2 wb wp = Sort.pdq Sort.ltInt d lo hi lim true true) ∧ m = h - l ∧ Own w S w' [row (.slice a N c) (d1.toList.map (ic .u16)) 57 1]) ?_ ?_
  · exact ⟨_, _, lo, hi, lim, true, true, d, upd_of (upd_of (upd_of (upd_of (upd_of (mix_of (ds := [1, 2, 3, 8, 9, 10, 11, 12, 13, 14, 15, 16, 17, 18, 19, 20, 21, 22, 23, 24, 25, 26, 27, 28, 29, 30, 31, 32, 33, 34, 35, 36, 37, 38, 39, 40, 41, 42, 43, 44, 45, 46, 47, 48, 49, 50, 51, 52, 53, 54, 55, 56, 57, 58, 59, 60, 61, 62, 63, 64, 65, 66, 67, 68, 69, 70, 71, 72, 73, 74, 75, 76, 77, 78, 79, 80, 81, 82, 83, 84, 85, 86, 87, 88, 89, 90, 91, 92, 93, 94, 95, 96, 97, 98, 99, 100, 101, 102, 103, 104, 105, 106, 107, 108, 109, 110, 111, 112, 113, 114, 115, 116, 117, 118, 119, 120, 121, 122, 123, 124, 125, 126, 127, 128, 129, 130, 131, 132, 133]) (Agr.refl _ _)) rfl) rfl) rfl) rfl) rfl, h1, h2, (Nat.le_refl _), hlim, hsz, rfl, rfl, hs⟩
  · rintro m ρ' w1 ⟨ρo, l, h, lim2, wb, wp, d1, rfl, hlh, hhN, hlen2, hlim2, hz1, hev, rfl, hs⟩
    refine W_block ?_
    refine W_seq ?_
    refine W_region ?_
    refine RW_op (L_move (V := .int .i64 ((h : Nat) : Int)) rfl ?_)
    refine RW_op (L_move (V := .int .i64 ((l : Nat) : Int)) rfl ?_)
    refine RW_op (L_sub (a := ((h : Nat) : Int)) (b := ((l : Nat) : Int)) (c := ((h - l : Nat) : Int)) rfl rfl (nat_i64 (by omega) (by omega)) ?_)
    refine RW_op (L_assign (V := .int .i64 ((h - l : Nat) : Int)) rfl ?_)
    refine RW_nil ?_
    refine W_seq ?_
    refine W_seq ?_
    refine W_region ?_
    refine RW_op (L_move (V := .int .i64 ((h - l : Nat) : Int)) rfl ?_)
    refine RW_op (L_leq rfl rfl ?_)
    refine RW_nil ?_
    refine W_cond (t := decide (((h - l : Nat) : Int) ≤ 12)) rfl (fun c2 => ?_) (fun c2 => ?_)
    ·
      replace c2 := of_decide_eq_true c2
      refine W_seq ?_
      refine W_region ?_
      refine RW_op (L_move (V := .slice a N c) rfl ?_)
      refine RW_op (L_move (V := .int .i64 ((l : Nat) : Int)) rfl ?_)
      refine RW_op (L_move (V := .int .i64 ((h : Nat) : Int)) rfl ?_)
      refine RW_op (L_callB (vs := [.slice a N c, .int .i64 ((l : Nat) : Int), .int .i64 ((h : Nat) : Int)]) (V := fun _ : Unit => .tuple #[]) (R := row (.slice a N c) (d1.toList.map (ic .u16)) 57 1) (R' := fun _ => row (.slice a N c) ((Sort.insertionSort Sort.ltInt d1 l h).toList.map (ic .u16)) 57 1) (Lo := fun _ => []) (F := fun _ _ => (Sort.insertionSort Sort.ltInt d1 l h).size = N) EN_102 rfl rfl hs 0 rfl (fun S hS hlt => ins_ok _ S a N c d1 (by first | assumption | (simp only [Array.size_setIfInBounds, Go.Sort.size_swp]; omega)) hN l h (by omega) (by omega) hS hlt) fun _ w3 hs hz4 => ?_)
      refine RW_nil ?_
      refine W_ret ?_
      refine ⟨_, res_none Try.results89, ?_⟩
      have hX : Sort.insertionSort Sort.ltInt d1 l h = Sort.pdq Sort.ltInt d lo hi lim true true := by rw [← hev, pq_small c2]
      exact ⟨(), rfl, hX ▸ hs.take 1, hX ▸ (by first | assumption | (simp only [Array.size_setIfInBounds, Go.Sort.size_swp]; omega))⟩
    ·
      replace c2 := of_decide_eq_false c2
      refine W_skip ?_
      refine W_seq ?_
      refine W_seq ?_
      refine W_region ?_
      refine RW_op (L_move (V := .int .i64 ((lim2 : Nat) : Int)) rfl ?_)
      refine RW_op (L_eql rfl rfl ?_)
      refine RW_nil ?_
      refine W_cond (t := decide (((lim2 : Nat) : Int) = 0)) rfl (fun c6 => ?_) (fun c6 => ?_)
      ·
        replace c6 := of_decide_eq_true c6
        refine W_seq ?_
        refine W_region ?_
        refine RW_op (L_move (V := .slice a N c) rfl ?_)
        refine RW_op (L_move (V := .int .i64 ((l : Nat) : Int)) rfl ?_)
        refine RW_op (L_move (V := .int .i64 ((h : Nat) : Int)) rfl ?_)
        refine RW_op (L_callB (vs := [.slice a N c, .int .i64 ((l : Nat) : Int), .int .i64 ((h : Nat) : Int)]) (V := fun _ : Unit => .tuple #[]) (R := row (.slice a N c) (d1.toList.map (ic .u16)) 57 1) (R' := fun _ => row (.slice a N c) ((Sort.heapSort Sort.ltInt d1 l h).toList.map (ic .u16)) 57 1) (Lo := fun _ => []) (F := fun _ _ => (Sort.heapSort Sort.ltInt d1 l h).size = N) EN_103 rfl rfl hs 0 rfl (fun S hS hlt => heap_ok _ S a N c d1 (by first | assumption | (simp only [Array.size_setIfInBounds, Go.Sort.size_swp]; omega)) hN l h (by omega) (by omega) hS hlt) fun _ w7 hs hz8 => ?_)
        refine RW_nil ?_
        refine W_ret ?_
        refine ⟨_, res_none Try.results89, ?_⟩
        have hX : Sort.heapSort Sort.ltInt d1 l h = Sort.pdq Sort.ltInt d lo hi lim true true := by rw [← hev, pq_heap c2 c6]
        exact ⟨(), rfl, hX ▸ hs.take 1, hX ▸ (by first | assumption | (simp only [Array.size_setIfInBounds, Go.Sort.size_swp]; omega))⟩
      ·
        replace c6 := of_decide_eq_false c6
        refine W_skip ?_
        refine W_seq ?_
        refine W_seq ?_
        refine W_region ?_
        refine RW_op (L_move (V := .bool wb) rfl ?_)
        refine RW_op (L_not rfl ?_)
        refine RW_nil ?_
        refine W_mid (fun ρ ρ' w' => ∃ (ρo : Env) (d2 : Array Int) (lim3 : Nat), ρ' = upd (mix [3, 36, 37, 38, 39, 40, 41] ρo ρ) 3 (.int .i64 ((lim3 : Nat) : Int)) ∧ (d2 = (Sort.rd Sort.ltInt d1 l h lim2 wb wp).d1) ∧ (lim3 = (Sort.rd Sort.ltInt d1 l h lim2 wb wp).lim) ∧ (lim3 ≤ 4611686018427387904) ∧ (d2.size = N) ∧ Own w S w' [row (.slice a N c) (d2.toList.map (ic .u16)) 57 1]) ?_ ?_
        ·
          refine W_cond (t := !wb) rfl (fun c10 => ?_) (fun c10 => ?_)
          ·
            replace c10 := not_t c10
            refine W_seq ?_
            refine W_region ?_
            refine RW_op (L_move (V := .slice a N c) rfl ?_)
            refine RW_op (L_move (V := .int .i64 ((l : Nat) : Int)) rfl ?_)
            refine RW_op (L_move (V := .int .i64 ((h : Nat) : Int)) rfl ?_)
            refine RW_op (L_callB (vs := [.slice a N c, .int .i64 ((l : Nat) : Int), .int .i64 ((h : Nat) : Int)]) (V := fun _ : Unit => .tuple #[]) (R := row (.slice a N c) (d1.toList.map (ic .u16)) 57 1) (R' := fun _ => row (.slice a N c) ((Sort.breakPatterns d1 l h).toList.map (ic .u16)) 57 1) (Lo := fun _ => []) (F := fun _ _ => (Sort.breakPatterns d1 l h).size = N) EN_104 rfl rfl hs 0 rfl (fun S hS hlt => bp_ok _ S a N c d1 (by first | assumption | (simp only [Array.size_setIfInBounds, Go.Sort.size_swp]; omega)) hN l h (by omega) (by omega) hxor hpow hS hlt) fun _ w11 hs hz12 => ?_)
            refine RW_nil ?_
            refine W_region ?_
            refine RW_op (L_move (V := .int .i64 ((lim2 : Nat) : Int)) rfl ?_)
            refine RW_op (L_sub (a := ((lim2 : Nat) : Int)) (b := 1) (c := ((lim2 - 1 : Nat) : Int)) rfl rfl (nat_i64 (by omega) (by omega)) ?_)
            refine RW_op (L_assign (V := .int .i64 ((lim2 - 1 : Nat) : Int)) rfl ?_)
            refine RW_nil ?_
            exact ⟨_, Sort.breakPatterns d1 l h, lim2 - 1, upd_of (mix_of (ds := [3, 36, 37, 38, 39, 40, 41]) (by repeat (first | exact Agr.refl _ _ | refine Agr.upd ?_ rfl | refine Agr.mix ?_ rfl))) rfl, ((rd_yes (l := l) (h := h) (lim2 := lim2) (wp := wp) (d1 := d1) c10).1), ((rd_yes (l := l) (h := h) (lim2 := lim2) (wp := wp) (d1 := d1) c10).2), (by omega), (by assumption), hs.take 1⟩
          ·
            replace c10 := not_f c10
            refine W_skip ?_
            exact ⟨_, d1, lim2, upd_of (mix_of (ds := [3, 36, 37, 38, 39, 40, 41]) (by repeat (first | exact Agr.refl _ _ | refine Agr.upd ?_ rfl | refine Agr.mix ?_ rfl))) rfl, ((rd_no (l := l) (h := h) (lim2 := lim2) (wp := wp) (d1 := d1) c10).1), ((rd_no (l := l) (h := h) (lim2 := lim2) (wp := wp) (d1 := d1) c10).2), (by omega), (by assumption), hs.take 1⟩
        · rintro ρ' w14 ⟨ρo, d2, lim3, rfl, hd2, hl3, hlim3, hz2, hs⟩
          refine W_seq ?_
          refine W_region ?_
          refine RW_op (L_move (V := .slice a N c) rfl ?_)
          refine RW_op (L_move (V := .int .i64 ((l : Nat) : Int)) rfl ?_)
          refine RW_op (L_move (V := .int .i64 ((h : Nat) : Int)) rfl ?_)
          refine RW_op (L_callP (vs := [.slice a N c, .int .i64 ((l : Nat) : Int), .int .i64 ((h : Nat) : Int)]) (V := .tuple #[.int .i64 (((Sort.choosePivot Sort.ltInt d2 l h).1 : Nat) : Int), .int .i64 (hintI (Sort.choosePivot Sort.ltInt d2 l h).2)]) EN_105 rfl rfl ?hc hs fun w15 hs => ?_)
          case hc => exact (piv_ok _ a N c d2 (by first | assumption | (simp only [Array.size_setIfInBounds, Go.Sort.size_swp]; omega)) hN (hs.rd 0 rfl) l h (by omega) (by omega))
          refine RW_op (L_move (V := .tuple #[.int .i64 (((Sort.choosePivot Sort.ltInt d2 l h).1 : Nat) : Int), .int .i64 (hintI (Sort.choosePivot Sort.ltInt d2 l h).2)]) rfl ?_)
          refine RW_op (L_extract (V := .int .i64 (((Sort.choosePivot Sort.ltInt d2 l h).1 : Nat) : Int)) rfl rfl ?_)
          refine RW_op (L_extract (V := .int .i64 (hintI (Sort.choosePivot Sort.ltInt d2 l h).2)) rfl rfl ?_)
          refine RW_op (L_assign (V := .int .i64 (((Sort.choosePivot Sort.ltInt d2 l h).1 : Nat) : Int)) rfl ?_)
          refine RW_op (L_assign (V := .int .i64 (hintI (Sort.choosePivot Sort.ltInt d2 l h).2)) rfl ?_)
          refine RW_nil ?_
          refine W_seq ?_
          refine W_seq ?_
          have hcp := Sort.choosePivot_holds Sort.ltInt d2 l h (by omega)
          refine W_region ?_
          refine RW_op (L_move (V := .int .i64 (hintI (Sort.choosePivot Sort.ltInt d2 l h).2)) rfl ?_)
          refine RW_op (L_eql rfl rfl ?_)
          refine RW_nil ?_
          refine W_mid (fun ρ ρ' w' => ∃ (ρo : Env) (d3 : Array Int) (pv : Nat), ρ' = upd (upd (mix [11, 12, 51, 52, 53, 54, 55, 56, 57, 58, 59, 60] ρo ρ) 11 (.int .i64 ((pv : Nat) : Int))) 12 (.int .i64 (hintI (Sort.rd Sort.ltInt d1 l h lim2 wb wp).hint)) ∧ (d3 = (Sort.rd Sort.ltInt d1 l h lim2 wb wp).d2) ∧ (pv = (Sort.rd Sort.ltInt d1 l h lim2 wb wp).pivot) ∧ (l ≤ pv ∧ pv < h) ∧ (d3.size = N) ∧ Own w S w' [row (.slice a N c) (d3.toList.map (ic .u16)) 57 1]) ?_ ?_
          ·
            refine W_cond (t := decide (hintI (Sort.choosePivot Sort.ltInt d2 l h).2 = 2)) rfl (fun c16 => ?_) (fun c16 => ?_)
            ·
              replace c16 := of_decide_eq_true c16
              refine W_seq ?_
              refine W_region ?_
              refine RW_op (L_move (V := .slice a N c) rfl ?_)
              refine RW_op (L_move (V := .int .i64 ((l : Nat) : Int)) rfl ?_)
              refine RW_op (L_move (V := .int .i64 ((h : Nat) : Int)) rfl ?_)
              refine RW_op (L_callB (vs := [.slice a N c, .int .i64 ((l : Nat) : Int), .int .i64 ((h : Nat) : Int)]) (V := fun _ : Unit => .tuple #[]) (R := row (.slice a N c) (d2.toList.map (ic .u16)) 57 1) (R' := fun _ => row (.slice a N c) ((Sort.reverseRange d2 l h).toList.map (ic .u16)) 57 1) (Lo := fun _ => []) (F := fun _ _ => (Sort.reverseRange d2 l h).size = N) EN_106 rfl rfl hs 0 rfl (fun S hS hlt => rev_ok _ S a N c d2 (by first | assumption | (simp only [Array.size_setIfInBounds, Go.Sort.size_swp]; omega)) hN l h (by omega) (by omega) hS hlt) fun _ w17 hs hz18 => ?_)
              refine RW_nil ?_
              refine W_seq ?_
              refine W_region ?_
              refine RW_op (L_move (V := .int .i64 ((h : Nat) : Int)) rfl ?_)
              refine RW_op (L_sub (a := ((h : Nat) : Int)) (b := 1) (c := ((h - 1 : Nat) : Int)) rfl rfl (nat_i64 (by omega) (by omega)) ?_)
              refine RW_op (L_move (V := .int .i64 (((Sort.choosePivot Sort.ltInt d2 l h).1 : Nat) : Int)) rfl ?_)
              refine RW_op (L_move (V := .int .i64 ((l : Nat) : Int)) rfl ?_)
              refine RW_op (L_sub (a := (((Sort.choosePivot Sort.ltInt d2 l h).1 : Nat) : Int)) (b := ((l : Nat) : Int)) (c := ((((Sort.choosePivot Sort.ltInt d2 l h).1) - l : Nat) : Int)) rfl rfl (nat_i64 (by omega) (by omega)) ?_)
              refine RW_op (L_sub (a := ((h - 1 : Nat) : Int)) (b := ((((Sort.choosePivot Sort.ltInt d2 l h).1) - l : Nat) : Int)) (c := (((h - 1) - (((Sort.choosePivot Sort.ltInt d2 l h).1) - l) : Nat) : Int)) rfl rfl (nat_i64 (by omega) (by omega)) ?_)
              refine RW_op (L_assign (V := .int .i64 (((h - 1) - (((Sort.choosePivot Sort.ltInt d2 l h).1) - l) : Nat) : Int)) rfl ?_)
              refine RW_nil ?_
              refine W_region ?_
              refine RW_op (L_assign (V := .int .i64 1) rfl ?_)
              refine RW_nil ?_
              exact ⟨_, Sort.reverseRange d2 l h, (h - 1) - (((Sort.choosePivot Sort.ltInt d2 l h).1) - l), upd_of (upd_of (mix_of (ds := [11, 12, 51, 52, 53, 54, 55, 56, 57, 58, 59, 60]) (by repeat (first | exact Agr.refl _ _ | refine Agr.upd ?_ rfl | refine Agr.mix ?_ rfl))) rfl) (congrArg (Value.int .i64) (by first | exact (rd_rev hd2 (by assumption)).2.2 | exact (rd_fwd hd2 (by assumption)).2.2)), ((rd_rev hd2 c16).1), ((rd_rev hd2 c16).2.1), (by omega), (by assumption), hs.take 1⟩
            ·
              replace c16 := of_decide_eq_false c16
              refine W_skip ?_
              exact ⟨_, d2, (Sort.choosePivot Sort.ltInt d2 l h).1, upd_of (upd_of (mix_of (ds := [11, 12, 51, 52, 53, 54, 55, 56, 57, 58, 59, 60]) (by repeat (first | exact Agr.refl _ _ | refine Agr.upd ?_ rfl | refine Agr.mix ?_ rfl))) rfl) (congrArg (Value.int .i64) (by first | exact (rd_rev hd2 (by assumption)).2.2 | exact (rd_fwd hd2 (by assumption)).2.2)), ((rd_fwd hd2 c16).1), ((rd_fwd hd2 c16).2.1), (by omega), (by assumption), hs.take 1⟩
          · rintro ρ' w20 ⟨ρo, d3, pv, rfl, hd3, hpv, hpr, hz3, hs⟩
            refine W_seq ?_
            refine W_seq ?_
            refine W_inv2 [61, 62, 63, 64, 65, 66, 67, 68] [[], [0], [1], [1, 2], [3, 1], [4], [5, 4], [4, 6]] (fun D ρ wx => Own w S wx [row (.slice a N c) (d3.toList.map (ic .u16)) 57 1] ∧ (D 0 = true → ρ 61 = .bool wb) ∧ (D 1 = true → ρ 62 = .bool wb) ∧ (D 2 = true → ρ 63 = cond (wb == true) (.bool wp) undef) ∧ (D 3 = true → ρ 64 = .bool (wb && wp)) ∧ (D 4 = true → ρ 65 = .bool (wb && wp)) ∧ (D 5 = true → ρ 66 = cond ((wb && wp) == true) (.int .i64 (hintI (Sort.rd Sort.ltInt d1 l h lim2 wb wp).hint)) undef) ∧ (D 6 = true → ρ 67 = cond ((wb && wp) == true) (.bool (decide (hintI (Sort.rd Sort.ltInt d1 l h lim2 wb wp).hint = 1))) undef) ∧ (D 7 = true → ρ 68 = .bool ((wb && wp) && (decide (hintI (Sort.rd Sort.ltInt d1 l h lim2 wb wp).hint = 1))))) rfl rfl rfl ⟨hs, fun h => absurd h Bool.false_ne_true, fun h => absurd h Bool.false_ne_true, fun h => absurd h Bool.false_ne_true, fun h => absurd h Bool.false_ne_true, fun h => absurd h Bool.false_ne_true, fun h => absurd h Bool.false_ne_true, fun h => absurd h Bool.false_ne_true, fun h => absurd h Bool.false_ne_true⟩ ⟨?_, ?_, ?_, ?_, ?_, ?_, ?_, ?_, trivial⟩ ?_
            · rintro D ρ wx hD hd hdc hf ⟨hs, f0, f1, f2, f3, f4, f5, f6, f7⟩
              have r8 : ρ 8 = .bool wb := outD hf 8 rfl
              exact .inl ⟨rfl, L_move (V := .bool wb) r8 ⟨hs, fun _ => rfl, f1, f2, f3, f4, f5, f6, f7⟩⟩
            · rintro D ρ wx hD hd hdc hf ⟨hs, f0, f1, f2, f3, f4, f5, f6, f7⟩
              have g0 := f0 (doneD hd 0 rfl)
              exact .inl ⟨rfl, L_move (V := .bool wb) g0 ⟨hs, f0, fun _ => rfl, f2, f3, f4, f5, f6, f7⟩⟩
            · rintro D ρ wx hD hd hdc hf ⟨hs, f0, f1, f2, f3, f4, f5, f6, f7⟩
              have r9 : ρ 9 = .bool wp := outD hf 9 rfl
              rcases Bool.eq_false_or_eq_true (wb == true) with hG | hG
              rotate_left
              · exact .inr ⟨(Eq.trans (wantG1 (j := 1) rfl (f1 (doneD hd 1 rfl))) hG), ⟨hs, f0, f1, fun _ => (condF hG).symm, f3, f4, f5, f6, f7⟩⟩
              ·
                exact .inl ⟨(Eq.trans (wantG1 (j := 1) rfl (f1 (doneD hd 1 rfl))) hG), L_move (V := .bool wp) r9 ⟨hs, f0, f1, fun _ => (condT hG).symm, f3, f4, f5, f6, f7⟩⟩
            · rintro D ρ wx hD hd hdc hf ⟨hs, f0, f1, f2, f3, f4, f5, f6, f7⟩
              have g1 := f1 (doneD hd 1 rfl)
              have g2 := f2 (doneD hd 2 rfl)
              exact .inl ⟨rfl, L_and g1 rfl (fun hg => ((g2).trans (condT (by first | exact beqT hg | rfl)))) ⟨hs, f0, f1, f2, fun _ => rfl, f4, f5, f6, f7⟩⟩
            · rintro D ρ wx hD hd hdc hf ⟨hs, f0, f1, f2, f3, f4, f5, f6, f7⟩
              have g3 := f3 (doneD hd 3 rfl)
              exact .inl ⟨rfl, L_move (V := .bool (wb && wp)) g3 ⟨hs, f0, f1, f2, f3, fun _ => rfl, f5, f6, f7⟩⟩
            · rintro D ρ wx hD hd hdc hf ⟨hs, f0, f1, f2, f3, f4, f5, f6, f7⟩
              have r12 : ρ 12 = .int .i64 (hintI (Sort.rd Sort.ltInt d1 l h lim2 wb wp).hint) := outD hf 12 rfl
              rcases Bool.eq_false_or_eq_true ((wb && wp) == true) with hG | hG
              rotate_left
              · exact .inr ⟨(Eq.trans (wantG1 (j := 4) rfl (f4 (doneD hd 4 rfl))) hG), ⟨hs, f0, f1, f2, f3, f4, fun _ => (condF hG).symm, f6, f7⟩⟩
              ·
                exact .inl ⟨(Eq.trans (wantG1 (j := 4) rfl (f4 (doneD hd 4 rfl))) hG), L_move (V := .int .i64 (hintI (Sort.rd Sort.ltInt d1 l h lim2 wb wp).hint)) r12 ⟨hs, f0, f1, f2, f3, f4, fun _ => (condT hG).symm, f6, f7⟩⟩
            · rintro D ρ wx hD hd hdc hf ⟨hs, f0, f1, f2, f3, f4, f5, f6, f7⟩
              have g5 := f5 (doneD hd 5 rfl)
              rcases Bool.eq_false_or_eq_true ((wb && wp) == true) with hG | hG
              rotate_left
              · exact .inr ⟨(Eq.trans (wantG1 (j := 4) rfl (f4 (doneD hd 4 rfl))) hG), ⟨hs, f0, f1, f2, f3, f4, f5, fun _ => (condF hG).symm, f7⟩⟩
              ·
                exact .inl ⟨(Eq.trans (wantG1 (j := 4) rfl (f4 (doneD hd 4 rfl))) hG), L_eql ((g5).trans (condT (by exact hG))) rfl ⟨hs, f0, f1, f2, f3, f4, f5, fun _ => (condT hG).symm, f7⟩⟩
            · rintro D ρ wx hD hd hdc hf ⟨hs, f0, f1, f2, f3, f4, f5, f6, f7⟩
              have g4 := f4 (doneD hd 4 rfl)
              have g6 := f6 (doneD hd 6 rfl)
              exact .inl ⟨rfl, L_and g4 rfl (fun hg => ((g6).trans (condT (by first | exact beqT hg | rfl)))) ⟨hs, f0, f1, f2, f3, f4, f5, f6, fun _ => rfl⟩⟩
            · rintro ρ1 w1 D hD hf ⟨hs, f0, f1, f2, f3, f4, f5, f6, f7⟩
              have e7 := f7 (hD 7 rfl)
              clear f0 f1 f2 f3 f4 f5 f6 f7
              obtain ⟨ρ2, hρ⟩ : ∃ ρ2, ρ1 = upd (mix [61, 62, 63, 64, 65, 66, 67, 68] ρ2 _) 68 (.bool ((wb && wp) && (decide (hintI (Sort.rd Sort.ltInt d1 l h lim2 wb wp).hint = 1)))) := ⟨ρ1, upd_of (mix_of (ds := [61, 62, 63, 64, 65, 66, 67, 68]) hf) e7⟩
              clear hf hD e7
              subst hρ
              refine W_mid (fun ρ ρ' w' => ∃ (ρo : Env) (d4 : Array Int), ρ' = mix [69, 70, 71, 72] ρo ρ ∧ (d4 = (Sort.rd Sort.ltInt d1 l h lim2 wb wp).pi.1) ∧ ((Sort.rd Sort.ltInt d1 l h lim2 wb wp).pi.2 = false) ∧ (d4.size = N) ∧ Own w S w' [row (.slice a N c) (d4.toList.map (ic .u16)) 57 1]) ?_ ?_
              ·
                refine W_cond (t := (wb && wp) && (decide (hintI (Sort.rd Sort.ltInt d1 l h lim2 wb wp).hint = 1))) rfl (fun c22 => ?_) (fun c22 => ?_)
                ·
                  have c22r := and_r c22
                  replace c22 := and_l c22
                  have c22rr := and_r c22
                  replace c22 := and_l c22
                  replace c22r := of_decide_eq_true c22r
                  refine W_seq ?_
                  refine W_region ?_
                  refine RW_op (L_move (V := .slice a N c) rfl ?_)
                  refine RW_op (L_move (V := .int .i64 ((l : Nat) : Int)) rfl ?_)
                  refine RW_op (L_move (V := .int .i64 ((h : Nat) : Int)) rfl ?_)
                  refine RW_op (L_callB (vs := [.slice a N c, .int .i64 ((l : Nat) : Int), .int .i64 ((h : Nat) : Int)]) (V := fun _ : Unit => .bool ((Sort.partialInsertionSort Sort.ltInt d3 l h).2)) (R := row (.slice a N c) (d3.toList.map (ic .u16)) 57 1) (R' := fun _ => row (.slice a N c) (((Sort.partialInsertionSort Sort.ltInt d3 l h).1).toList.map (ic .u16)) 57 1) (Lo := fun _ => []) (F := fun _ _ => ((Sort.partialInsertionSort Sort.ltInt d3 l h).1).size = N) EN_107 rfl rfl hs 0 rfl (fun S hS hlt => pins_ok _ S a N c d3 (by first | assumption | (simp only [Array.size_setIfInBounds, Go.Sort.size_swp]; omega)) hN l h (by omega) (by omega) hS hlt) fun _ w23 hs hz24 => ?_)
                  refine RW_nil ?_
                  refine W_cond (t := (Sort.partialInsertionSort Sort.ltInt d3 l h).2) rfl (fun c26 => ?_) (fun c26 => ?_)
                  ·
                    refine W_ret ?_
                    refine ⟨_, res_none Try.results89, ?_⟩
                    have hpi := rd_pi hd3 c22 c22rr c22r
                    have hX : (Sort.partialInsertionSort Sort.ltInt d3 l h).1 = Sort.pdq Sort.ltInt d lo hi lim true true := by rw [← hev, pq_done c2 c6 (by rw [hpi]; exact c26), hpi]
                    exact ⟨(), rfl, hX ▸ hs.take 1, hX ▸ (by first | assumption | (simp only [Array.size_setIfInBounds, Go.Sort.size_swp]; omega))⟩
                  ·
                    refine W_skip ?_
                    have hpi := rd_pi hd3 c22 c22rr c22r
                    exact ⟨_, (Sort.partialInsertionSort Sort.ltInt d3 l h).1, mix_of (ds := [69, 70, 71, 72]) (by repeat (first | exact Agr.refl _ _ | refine Agr.upd ?_ rfl | refine Agr.mix ?_ rfl)), (by rw [hpi]), (by rw [hpi]; exact c26), (by assumption), hs.take 1⟩
                ·
                  refine W_skip ?_
                  have hpi := rd_nopi hd3 c22
                  exact ⟨_, d3, mix_of (ds := [69, 70, 71, 72]) (by repeat (first | exact Agr.refl _ _ | refine Agr.upd ?_ rfl | refine Agr.mix ?_ rfl)), (by rw [hpi]), (by rw [hpi]), (by assumption), hs.take 1⟩
              · rintro ρ' w27 ⟨ρo, d4, rfl, hd4, hp4, hz4, hs⟩
                refine W_seq ?_
                refine W_seq ?_
                replace hs := hs.drew
                refine W_draw2 HM [73, 74, 75, 76, 77, 78, 79, 80, 81, 82, 83, 84, 85, 86, 87] [[], [0], [1], [2], [2], [4, 2], [3, 5, 2], [6, 2], [2], [2], [8, 9, 2], [10, 2], [7, 11, 2, 2], [12, 2], [2, 13]] (fun D ρ wx => Own w S wx [row (.slice a N c) (d4.toList.map (ic .u16)) 57 1] ∧ (D 0 = true → ρ 73 = .int .i64 ((l : Nat) : Int)) ∧ (D 1 = true → ρ 74 = .bool (decide (0 < ((l : Nat) : Int)))) ∧ (D 2 = true → ρ 75 = .bool (decide (0 < ((l : Nat) : Int)))) ∧ (D 3 = true → ρ 76 = cond ((decide (0 < ((l : Nat) : Int))) == true) (.slice a N c) undef) ∧ (D 4 = true → ρ 77 = cond ((decide (0 < ((l : Nat) : Int))) == true) (.int .i64 ((l : Nat) : Int)) undef) ∧ (D 5 = true → ρ 78 = cond ((decide (0 < ((l : Nat) : Int))) == true) (.int .i64 ((l - 1 : Nat) : Int)) undef) ∧ (D 6 = true → ρ 79 = cond ((decide (0 < ((l : Nat) : Int))) == true) (.pointer (some ⟨bkS (.slice a N c), ofS (.slice a N c) + ((l - 1 : Nat) : Int).toNat * 1, none⟩)) undef) ∧ (D 7 = true → ρ 80 = cond ((decide (0 < ((l : Nat) : Int))) == true) (.int .u16 (d4[l - 1]!)) undef) ∧ (D 8 = true → ρ 81 = cond ((decide (0 < ((l : Nat) : Int))) == true) (.slice a N c) undef) ∧ (D 9 = true → ρ 82 = cond ((decide (0 < ((l : Nat) : Int))) == true) (.int .i64 ((pv : Nat) : Int)) undef) ∧ (D 10 = true → ρ 83 = cond ((decide (0 < ((l : Nat) : Int))) == true) (.pointer (some ⟨bkS (.slice a N c), ofS (.slice a N c) + ((pv : Nat) : Int).toNat * 1, none⟩)) undef) ∧ (D 11 = true → ρ 84 = cond ((decide (0 < ((l : Nat) : Int))) == true) (.int .u16 (d4[pv]!)) undef) ∧ (D 12 = true → ρ 85 = cond ((decide (0 < ((l : Nat) : Int))) == true) (.bool (decide (d4[l - 1]! < d4[pv]!))) undef) ∧ (D 13 = true → ρ 86 = cond ((decide (0 < ((l : Nat) : Int))) == true) (.bool (!decide (d4[l - 1]! < d4[pv]!))) undef) ∧ (D 14 = true → ρ 87 = .bool ((decide (0 < ((l : Nat) : Int))) && (!decide (d4[l - 1]! < d4[pv]!))))) rfl rfl rfl ⟨hs, fun h => absurd h Bool.false_ne_true, fun h => absurd h Bool.false_ne_true, fun h => absurd h Bool.false_ne_true, fun h => absurd h Bool.false_ne_true, fun h => absurd h Bool.false_ne_true, fun h => absurd h Bool.false_ne_true, fun h => absurd h Bool.false_ne_true, fun h => absurd h Bool.false_ne_true, fun h => absurd h Bool.false_ne_true, fun h => absurd h Bool.false_ne_true, fun h => absurd h Bool.false_ne_true, fun h => absurd h Bool.false_ne_true, fun h => absurd h Bool.false_ne_true, fun h => absurd h Bool.false_ne_true, fun h => absurd h Bool.false_ne_true⟩ ⟨?_, ?_, ?_, ?_, ?_, ?_, ?_, ?_, ?_, ?_, ?_, ?_, ?_, ?_, ?_, trivial⟩ ?_
                · rintro D ρ wx hD hd hdc hf ⟨hs, f0, f1, f2, f3, f4, f5, f6, f7, f8, f9, f10, f11, f12, f13, f14⟩
                  have r1 : ρ 1 = .int .i64 ((l : Nat) : Int) := outD hf 1 rfl
                  exact .inl ⟨rfl, L_move (V := .int .i64 ((l : Nat) : Int)) r1 ⟨hs, fun _ => rfl, f1, f2, f3, f4, f5, f6, f7, f8, f9, f10, f11, f12, f13, f14⟩⟩
                · rintro D ρ wx hD hd hdc hf ⟨hs, f0, f1, f2, f3, f4, f5, f6, f7, f8, f9, f10, f11, f12, f13, f14⟩
                  have g0 := f0 (doneD hd 0 rfl)
                  exact .inl ⟨rfl, L_gtr g0 rfl ⟨hs, f0, fun _ => rfl, f2, f3, f4, f5, f6, f7, f8, f9, f10, f11, f12, f13, f14⟩⟩
                · rintro D ρ wx hD hd hdc hf ⟨hs, f0, f1, f2, f3, f4, f5, f6, f7, f8, f9, f10, f11, f12, f13, f14⟩
                  have g1 := f1 (doneD hd 1 rfl)
                  exact .inl ⟨rfl, L_move (V := .bool (decide (0 < ((l : Nat) : Int)))) g1 ⟨hs, f0, f1, fun _ => rfl, f3, f4, f5, f6, f7, f8, f9, f10, f11, f12, f13, f14⟩⟩
                · rintro D ρ wx hD hd hdc hf ⟨hs, f0, f1, f2, f3, f4, f5, f6, f7, f8, f9, f10, f11, f12, f13, f14⟩
                  have r0 : ρ 0 = .slice a N c := outD hf 0 rfl
                  rcases Bool.eq_false_or_eq_true ((decide (0 < ((l : Nat) : Int))) == true) with hG | hG
                  rotate_left
                  · exact .inr ⟨(Eq.trans (wantG1 (j := 2) rfl (f2 (doneD hd 2 rfl))) hG), ⟨hs, f0, f1, f2, fun _ => (condF hG).symm, f4, f5, f6, f7, f8, f9, f10, f11, f12, f13, f14⟩⟩
                  ·
                    have hgd := of_decide_eq_true (eq_of_beq hG)
                    exact .inl ⟨(Eq.trans (wantG1 (j := 2) rfl (f2 (doneD hd 2 rfl))) hG), L_move (V := .slice a N c) r0 ⟨hs, f0, f1, f2, fun _ => (condT hG).symm, f4, f5, f6, f7, f8, f9, f10, f11, f12, f13, f14⟩⟩
                · rintro D ρ wx hD hd hdc hf ⟨hs, f0, f1, f2, f3, f4, f5, f6, f7, f8, f9, f10, f11, f12, f13, f14⟩
                  have r1 : ρ 1 = .int .i64 ((l : Nat) : Int) := outD hf 1 rfl
                  rcases Bool.eq_false_or_eq_true ((decide (0 < ((l : Nat) : Int))) == true) with hG | hG
                  rotate_left
                  · exact .inr ⟨(Eq.trans (wantG1 (j := 2) rfl (f2 (doneD hd 2 rfl))) hG), ⟨hs, f0, f1, f2, f3, fun _ => (condF hG).symm, f5, f6, f7, f8, f9, f10, f11, f12, f13, f14⟩⟩
                  ·
                    have hgd := of_decide_eq_true (eq_of_beq hG)
                    exact .inl ⟨(Eq.trans (wantG1 (j := 2) rfl (f2 (doneD hd 2 rfl))) hG), L_move (V := .int .i64 ((l : Nat) : Int)) r1 ⟨hs, f0, f1, f2, f3, fun _ => (condT hG).symm, f5, f6, f7, f8, f9, f10, f11, f12, f13, f14⟩⟩
                · rintro D ρ wx hD hd hdc hf ⟨hs, f0, f1, f2, f3, f4, f5, f6, f7, f8, f9, f10, f11, f12, f13, f14⟩
                  have g4 := f4 (doneD hd 4 rfl)
                  rcases Bool.eq_false_or_eq_true ((decide (0 < ((l : Nat) : Int))) == true) with hG | hG
                  rotate_left
                  · exact .inr ⟨(Eq.trans (wantG1 (j := 2) rfl (f2 (doneD hd 2 rfl))) hG), ⟨hs, f0, f1, f2, f3, f4, fun _ => (condF hG).symm, f6, f7, f8, f9, f10, f11, f12, f13, f14⟩⟩
                  ·
                    have hgd := of_decide_eq_true (eq_of_beq hG)
                    exact .inl ⟨(Eq.trans (wantG1 (j := 2) rfl (f2 (doneD hd 2 rfl))) hG), L_sub (a := ((l : Nat) : Int)) (b := 1) (c := ((l - 1 : Nat) : Int)) ((g4).trans (condT (by exact hG))) rfl (nat_i64 (by omega) (by omega)) ⟨hs, f0, f1, f2, f3, f4, fun _ => (condT hG).symm, f6, f7, f8, f9, f10, f11, f12, f13, f14⟩⟩
                · rintro D ρ wx hD hd hdc hf ⟨hs, f0, f1, f2, f3, f4, f5, f6, f7, f8, f9, f10, f11, f12, f13, f14⟩
                  have g3 := f3 (doneD hd 3 rfl)
                  have g5 := f5 (doneD hd 5 rfl)
                  rcases Bool.eq_false_or_eq_true ((decide (0 < ((l : Nat) : Int))) == true) with hG | hG
                  rotate_left
                  · exact .inr ⟨(Eq.trans (wantG1 (j := 2) rfl (f2 (doneD hd 2 rfl))) hG), ⟨hs, f0, f1, f2, f3, f4, f5, fun _ => (condF hG).symm, f7, f8, f9, f10, f11, f12, f13, f14⟩⟩
                  ·
                    have hgd := of_decide_eq_true (eq_of_beq hG)
                    exact .inl ⟨(Eq.trans (wantG1 (j := 2) rfl (f2 (doneD hd 2 rfl))) hG), L_ixR UD_72 S1_57.1 (hs.rd 0 rfl) ((g3).trans (condT (by exact hG))) ((g5).trans (condT (by exact hG))) (by omega) (by simp only [List.length_map, Array.length_toList, Array.size_setIfInBounds, Go.Sort.size_swp]; omega) ⟨hs, f0, f1, f2, f3, f4, f5, fun _ => (condT hG).symm, f7, f8, f9, f10, f11, f12, f13, f14⟩⟩
                · rintro D ρ wx hD hd hdc hf ⟨hs, f0, f1, f2, f3, f4, f5, f6, f7, f8, f9, f10, f11, f12, f13, f14⟩
                  have g6 := f6 (doneD hd 6 rfl)
                  rcases Bool.eq_false_or_eq_true ((decide (0 < ((l : Nat) : Int))) == true) with hG | hG
                  rotate_left
                  · exact .inr ⟨(Eq.trans (wantG1 (j := 2) rfl (f2 (doneD hd 2 rfl))) hG), ⟨hs, f0, f1, f2, f3, f4, f5, f6, fun _ => (condF hG).symm, f8, f9, f10, f11, f12, f13, f14⟩⟩
                  ·
                    have hgd := of_decide_eq_true (eq_of_beq hG)
                    exact .inl ⟨(Eq.trans (wantG1 (j := 2) rfl (f2 (doneD hd 2 rfl))) hG), L_ldR (j := 0) (V := .int .u16 (d4[l - 1]!)) (l - 1) S1_57 (hs.rd 0 rfl) (da_at (by omega)) rfl ((g6).trans (condT (by exact hG))) (by omega) ⟨hs, f0, f1, f2, f3, f4, f5, f6, fun _ => (condT hG).symm, f8, f9, f10, f11, f12, f13, f14⟩⟩
                · rintro D ρ wx hD hd hdc hf ⟨hs, f0, f1, f2, f3, f4, f5, f6, f7, f8, f9, f10, f11, f12, f13, f14⟩
                  have r0 : ρ 0 = .slice a N c := outD hf 0 rfl
                  rcases Bool.eq_false_or_eq_true ((decide (0 < ((l : Nat) : Int))) == true) with hG | hG
                  rotate_left
                  · exact .inr ⟨(Eq.trans (wantG1 (j := 2) rfl (f2 (doneD hd 2 rfl))) hG), ⟨hs, f0, f1, f2, f3, f4, f5, f6, f7, fun _ => (condF hG).symm, f9, f10, f11, f12, f13, f14⟩⟩
                  ·
                    have hgd := of_decide_eq_true (eq_of_beq hG)
                    exact .inl ⟨(Eq.trans (wantG1 (j := 2) rfl (f2 (doneD hd 2 rfl))) hG), L_move (V := .slice a N c) r0 ⟨hs, f0, f1, f2, f3, f4, f5, f6, f7, fun _ => (condT hG).symm, f9, f10, f11, f12, f13, f14⟩⟩
                · rintro D ρ wx hD hd hdc hf ⟨hs, f0, f1, f2, f3, f4, f5, f6, f7, f8, f9, f10, f11, f12, f13, f14⟩
                  have r11 : ρ 11 = .int .i64 ((pv : Nat) : Int) := outD hf 11 rfl
                  rcases Bool.eq_false_or_eq_true ((decide (0 < ((l : Nat) : Int))) == true) with hG | hG
                  rotate_left
                  · exact .inr ⟨(Eq.trans (wantG1 (j := 2) rfl (f2 (doneD hd 2 rfl))) hG), ⟨hs, f0, f1, f2, f3, f4, f5, f6, f7, f8, fun _ => (condF hG).symm, f10, f11, f12, f13, f14⟩⟩
                  ·
                    have hgd := of_decide_eq_true (eq_of_beq hG)
                    exact .inl ⟨(Eq.trans (wantG1 (j := 2) rfl (f2 (doneD hd 2 rfl))) hG), L_move (V := .int .i64 ((pv : Nat) : Int)) r11 ⟨hs, f0, f1, f2, f3, f4, f5, f6, f7, f8, fun _ => (condT hG).symm, f10, f11, f12, f13, f14⟩⟩
                · rintro D ρ wx hD hd hdc hf ⟨hs, f0, f1, f2, f3, f4, f5, f6, f7, f8, f9, f10, f11, f12, f13, f14⟩
                  have g8 := f8 (doneD hd 8 rfl)
                  have g9 := f9 (doneD hd 9 rfl)
                  rcases Bool.eq_false_or_eq_true ((decide (0 < ((l : Nat) : Int))) == true) with hG | hG
                  rotate_left
                  · exact .inr ⟨(Eq.trans (wantG1 (j := 2) rfl (f2 (doneD hd 2 rfl))) hG), ⟨hs, f0, f1, f2, f3, f4, f5, f6, f7, f8, f9, fun _ => (condF hG).symm, f11, f12, f13, f14⟩⟩
                  ·
                    have hgd := of_decide_eq_true (eq_of_beq hG)
                    exact .inl ⟨(Eq.trans (wantG1 (j := 2) rfl (f2 (doneD hd 2 rfl))) hG), L_ixR UD_72 S1_57.1 (hs.rd 0 rfl) ((g8).trans (condT (by exact hG))) ((g9).trans (condT (by exact hG))) (by omega) (by simp only [List.length_map, Array.length_toList, Array.size_setIfInBounds, Go.Sort.size_swp]; omega) ⟨hs, f0, f1, f2, f3, f4, f5, f6, f7, f8, f9, fun _ => (condT hG).symm, f11, f12, f13, f14⟩⟩
                · rintro D ρ wx hD hd hdc hf ⟨hs, f0, f1, f2, f3, f4, f5, f6, f7, f8, f9, f10, f11, f12, f13, f14⟩
                  have g10 := f10 (doneD hd 10 rfl)
                  rcases Bool.eq_false_or_eq_true ((decide (0 < ((l : Nat) : Int))) == true) with hG | hG
                  rotate_left
                  · exact .inr ⟨(Eq.trans (wantG1 (j := 2) rfl (f2 (doneD hd 2 rfl))) hG), ⟨hs, f0, f1, f2, f3, f4, f5, f6, f7, f8, f9, f10, fun _ => (condF hG).symm, f12, f13, f14⟩⟩
                  ·
                    have hgd := of_decide_eq_true (eq_of_beq hG)
                    exact .inl ⟨(Eq.trans (wantG1 (j := 2) rfl (f2 (doneD hd 2 rfl))) hG), L_ldR (j := 0) (V := .int .u16 (d4[pv]!)) pv S1_57 (hs.rd 0 rfl) (da_at (by omega)) rfl ((g10).trans (condT (by exact hG))) (by omega) ⟨hs, f0, f1, f2, f3, f4, f5, f6, f7, f8, f9, f10, fun _ => (condT hG).symm, f12, f13, f14⟩⟩
                · rintro D ρ wx hD hd hdc hf ⟨hs, f0, f1, f2, f3, f4, f5, f6, f7, f8, f9, f10, f11, f12, f13, f14⟩
                  have g7 := f7 (doneD hd 7 rfl)
                  have g11 := f11 (doneD hd 11 rfl)
                  rcases Bool.eq_false_or_eq_true ((decide (0 < ((l : Nat) : Int))) == true) with hG | hG
                  rotate_left
                  · exact .inr ⟨(Eq.trans (wantG1 (j := 2) rfl (f2 (doneD hd 2 rfl))) hG), ⟨hs, f0, f1, f2, f3, f4, f5, f6, f7, f8, f9, f10, f11, fun _ => (condF hG).symm, f13, f14⟩⟩
                  ·
                    have hgd := of_decide_eq_true (eq_of_beq hG)
                    exact .inl ⟨(Eq.trans (wantG1 (j := 2) rfl (f2 (doneD hd 2 rfl))) hG), L_callP (vs := [.int .u16 (d4[l - 1]!), .int .u16 (d4[pv]!)]) (V := .bool (decide (d4[l - 1]! < d4[pv]!))) EN_108 rfl (mapc ((g7).trans (condT (by exact hG))) (mapc ((g11).trans (condT (by exact hG))) rfl)) (less_ok _ (d4[l - 1]!) (d4[pv]!)) hs fun _ hs0 => ⟨hs0, f0, f1, f2, f3, f4, f5, f6, f7, f8, f9, f10, f11, fun _ => (condT hG).symm, f13, f14⟩⟩
                · rintro D ρ wx hD hd hdc hf ⟨hs, f0, f1, f2, f3, f4, f5, f6, f7, f8, f9, f10, f11, f12, f13, f14⟩
                  have g12 := f12 (doneD hd 12 rfl)
                  rcases Bool.eq_false_or_eq_true ((decide (0 < ((l : Nat) : Int))) == true) with hG | hG
                  rotate_left
                  · exact .inr ⟨(Eq.trans (wantG1 (j := 2) rfl (f2 (doneD hd 2 rfl))) hG), ⟨hs, f0, f1, f2, f3, f4, f5, f6, f7, f8, f9, f10, f11, f12, fun _ => (condF hG).symm, f14⟩⟩
                  ·
                    have hgd := of_decide_eq_true (eq_of_beq hG)
                    exact .inl ⟨(Eq.trans (wantG1 (j := 2) rfl (f2 (doneD hd 2 rfl))) hG), L_not ((g12).trans (condT (by exact hG))) ⟨hs, f0, f1, f2, f3, f4, f5, f6, f7, f8, f9, f10, f11, f12, fun _ => (condT hG).symm, f14⟩⟩
                · rintro D ρ wx hD hd hdc hf ⟨hs, f0, f1, f2, f3, f4, f5, f6, f7, f8, f9, f10, f11, f12, f13, f14⟩
                  have g2 := f2 (doneD hd 2 rfl)
                  have g13 := f13 (doneD hd 13 rfl)
                  exact .inl ⟨rfl, L_and g2 rfl (fun hg => ((g13).trans (condT (by first | exact beqT hg | rfl)))) ⟨hs, f0, f1, f2, f3, f4, f5, f6, f7, f8, f9, f10, f11, f12, f13, fun _ => rfl⟩⟩
                · rintro ρ1 w1 D hD hf ⟨hs, f0, f1, f2, f3, f4, f5, f6, f7, f8, f9, f10, f11, f12, f13, f14⟩
                  have e14 := f14 (hD 14 rfl)
                  clear f0 f1 f2 f3 f4 f5 f6 f7 f8 f9 f10 f11 f12 f13 f14
                  obtain ⟨ρ2, hρ⟩ : ∃ ρ2, ρ1 = upd (mix [73, 74, 75, 76, 77, 78, 79, 80, 81, 82, 83, 84, 85, 86, 87] ρ2 _) 87 (.bool ((decide (0 < ((l : Nat) : Int))) && (!decide (d4[l - 1]! < d4[pv]!)))) := ⟨ρ1, upd_of (mix_of (ds := [73, 74, 75, 76, 77, 78, 79, 80, 81, 82, 83, 84, 85, 86, 87]) hf) e14⟩
                  clear hf hD e14
                  subst hρ
                  refine W_cond (t := (decide (0 < ((l : Nat) : Int))) && (!decide (d4[l - 1]! < d4[pv]!))) rfl (fun c30 => ?_) (fun c30 => ?_)
                  ·
                    have c30r := and_r c30
                    replace c30 := and_l c30
                    replace c30 := of_decide_eq_true c30
                    replace c30r := not_t c30r
                    replace c30r := of_decide_eq_false c30r
                    refine W_seq ?_
                    have hrg := pe_range (d := d4) (lo := l) (hi := h) (pv := pv) (by omega) (by omega) (by omega)
                    refine W_region ?_
                    refine RW_op (L_move (V := .slice a N c) rfl ?_)
                    refine RW_op (L_move (V := .int .i64 ((l : Nat) : Int)) rfl ?_)
                    refine RW_op (L_move (V := .int .i64 ((h : Nat) : Int)) rfl ?_)
                    refine RW_op (L_move (V := .int .i64 ((pv : Nat) : Int)) rfl ?_)
                    refine RW_op (L_callB (vs := [.slice a N c, .int .i64 ((l : Nat) : Int), .int .i64 ((h : Nat) : Int), .int .i64 ((pv : Nat) : Int)]) (V := fun _ : Unit => .int .i64 (((Sort.partitionEqual Sort.ltInt d4 l h pv).1 : Nat) : Int)) (R := row (.slice a N c) (d4.toList.map (ic .u16)) 57 1) (R' := fun _ => row (.slice a N c) (((Sort.partitionEqual Sort.ltInt d4 l h pv).2).toList.map (ic .u16)) 57 1) (Lo := fun _ => []) (F := fun _ _ => ((Sort.partitionEqual Sort.ltInt d4 l h pv).2).size = N) EN_109 rfl rfl hs 0 rfl (fun S hS hlt => pe_ok _ S a N c d4 (by first | assumption | (simp only [Array.size_setIfInBounds, Go.Sort.size_swp]; omega)) hN l h pv (by omega) (by omega) (by omega) hS hlt) fun _ w31 hs hz32 => ?_)
                    refine RW_op (L_assign (V := .int .i64 (((Sort.partitionEqual Sort.ltInt d4 l h pv).1 : Nat) : Int)) rfl ?_)
                    refine RW_nil ?_
                    refine W_seq ?_
                    refine W_region ?_
                    refine RW_op (L_move (V := .int .i64 (((Sort.partitionEqual Sort.ltInt d4 l h pv).1 : Nat) : Int)) rfl ?_)
                    refine RW_op (L_assign (V := .int .i64 (((Sort.partitionEqual Sort.ltInt d4 l h pv).1 : Nat) : Int)) rfl ?_)
                    refine RW_nil ?_
                    refine W_exit ?_
                    have hfin := pq_eq c2 c6 hd4 hp4 hpv hl3 (by rw [decide_eq_true c30, decide_eq_false c30r]; rfl) hrg
                    refine ⟨_, ?_, _, (Sort.partitionEqual Sort.ltInt d4 l h pv).1, h, lim3, wb, wp, (Sort.partitionEqual Sort.ltInt d4 l h pv).2, upd_of (upd_of (upd_of (upd_of (upd_of (mix_of (ds := [1, 2, 3, 8, 9, 10, 11, 12, 13, 14, 15, 16, 17, 18, 19, 20, 21, 22, 23, 24, 25, 26, 27, 28, 29, 30, 31, 32, 33, 34, 35, 36, 37, 38, 39, 40, 41, 42, 43, 44, 45, 46, 47, 48, 49, 50, 51, 52, 53, 54, 55, 56, 57, 58, 59, 60, 61, 62, 63, 64, 65, 66, 67, 68, 69, 70, 71, 72, 73, 74, 75, 76, 77, 78, 79, 80, 81, 82, 83, 84, 85, 86, 87, 88, 89, 90, 91, 92, 93, 94, 95, 96, 97, 98, 99, 100, 101, 102, 103, 104, 105, 106, 107, 108, 109, 110, 111, 112, 113, 114, 115, 116, 117, 118, 119, 120, 121, 122, 123, 124, 125, 126, 127, 128, 129, 130, 131, 132, 133]) (by repeat (first | exact Agr.refl _ _ | refine Agr.upd ?_ rfl | refine Agr.mix ?_ rfl))) rfl) rfl) rfl) rfl) rfl, (by omega), (by omega), (by omega), (by omega), (by assumption), (by rw [← hev, hfin]), rfl, hs.take 1⟩
                    omega
                  ·
                    refine W_skip ?_
                    refine W_seq ?_
                    have hrg := pt_range (d := d4) (lo := l) (hi := h) (pv := pv) (by omega) (by omega) (by omega)
                    refine W_region ?_
                    refine RW_op (L_move (V := .slice a N c) rfl ?_)
                    refine RW_op (L_move (V := .int .i64 ((l : Nat) : Int)) rfl ?_)
                    refine RW_op (L_move (V := .int .i64 ((h : Nat) : Int)) rfl ?_)
                    refine RW_op (L_move (V := .int .i64 ((pv : Nat) : Int)) rfl ?_)
                    refine RW_op (L_callB (vs := [.slice a N c, .int .i64 ((l : Nat) : Int), .int .i64 ((h : Nat) : Int), .int .i64 ((pv : Nat) : Int)]) (V := fun _ : Unit => .tuple #[.int .i64 (((Sort.partition Sort.ltInt d4 l h pv).1 : Nat) : Int), .bool ((Sort.partition Sort.ltInt d4 l h pv).2.1)]) (R := row (.slice a N c) (d4.toList.map (ic .u16)) 57 1) (R' := fun _ => row (.slice a N c) (((Sort.partition Sort.ltInt d4 l h pv).2.2).toList.map (ic .u16)) 57 1) (Lo := fun _ => []) (F := fun _ _ => ((Sort.partition Sort.ltInt d4 l h pv).2.2).size = N) EN_110 rfl rfl hs 0 rfl (fun S hS hlt => pt_ok _ S a N c d4 (by first | assumption | (simp only [Array.size_setIfInBounds, Go.Sort.size_swp]; omega)) hN l h pv (by omega) (by omega) (by omega) hS hlt) fun _ w34 hs hz35 => ?_)
                    refine RW_op (L_move (V := .tuple #[.int .i64 (((Sort.partition Sort.ltInt d4 l h pv).1 : Nat) : Int), .bool ((Sort.partition Sort.ltInt d4 l h pv).2.1)]) rfl ?_)
                    refine RW_op (L_extract (V := .int .i64 (((Sort.partition Sort.ltInt d4 l h pv).1 : Nat) : Int)) rfl rfl ?_)
                    refine RW_op (L_extract (V := .bool ((Sort.partition Sort.ltInt d4 l h pv).2.1)) rfl rfl ?_)
                    refine RW_op (L_assign (V := .int .i64 (((Sort.partition Sort.ltInt d4 l h pv).1 : Nat) : Int)) rfl ?_)
                    refine RW_op (L_assign (V := .bool ((Sort.partition Sort.ltInt d4 l h pv).2.1)) rfl ?_)
                    refine RW_nil ?_
                    refine W_seq ?_
                    refine W_region ?_
                    refine RW_op (L_move (V := .bool ((Sort.partition Sort.ltInt d4 l h pv).2.1)) rfl ?_)
                    refine RW_op (L_assign (V := .bool ((Sort.partition Sort.ltInt d4 l h pv).2.1)) rfl ?_)
                    refine RW_nil ?_
                    refine W_seq ?_
                    refine W_region ?_
                    refine RW_op (L_move (V := .int .i64 (((Sort.partition Sort.ltInt d4 l h pv).1 : Nat) : Int)) rfl ?_)
                    refine RW_op (L_move (V := .int .i64 ((l : Nat) : Int)) rfl ?_)
                    refine RW_op (L_sub (a := (((Sort.partition Sort.ltInt d4 l h pv).1 : Nat) : Int)) (b := ((l : Nat) : Int)) (c := ((((Sort.partition Sort.ltInt d4 l h pv).1) - l : Nat) : Int)) rfl rfl (nat_i64 (by omega) (by omega)) ?_)
                    refine RW_op (L_move (V := .int .i64 ((h : Nat) : Int)) rfl ?_)
                    refine RW_op (L_move (V := .int .i64 (((Sort.partition Sort.ltInt d4 l h pv).1 : Nat) : Int)) rfl ?_)
                    refine RW_op (L_sub (a := ((h : Nat) : Int)) (b := (((Sort.partition Sort.ltInt d4 l h pv).1 : Nat) : Int)) (c := ((h - ((Sort.partition Sort.ltInt d4 l h pv).1) : Nat) : Int)) rfl rfl (nat_i64 (by omega) (by omega)) ?_)
                    refine RW_op (L_assign (V := .int .i64 ((((Sort.partition Sort.ltInt d4 l h pv).1) - l : Nat) : Int)) rfl ?_)
                    refine RW_op (L_assign (V := .int .i64 ((h - ((Sort.partition Sort.ltInt d4 l h pv).1) : Nat) : Int)) rfl ?_)
                    refine RW_nil ?_
                    refine W_seq ?_
                    refine W_region ?_
                    refine RW_op (L_move (V := .int .i64 ((h - l : Nat) : Int)) rfl ?_)
                    refine RW_op (L_quo (a := ((h - l : Nat) : Int)) (b := 8) (c := (((h - l) / 8 : Nat) : Int)) rfl rfl (by decide) (nat_i64 rfl (by omega)) ?_)
                    refine RW_op (L_assign (V := .int .i64 (((h - l) / 8 : Nat) : Int)) rfl ?_)
                    refine RW_nil ?_
                    refine W_seq ?_
                    refine W_region ?_
                    refine RW_op (L_move (V := .int .i64 ((((Sort.partition Sort.ltInt d4 l h pv).1) - l : Nat) : Int)) rfl ?_)
                    refine RW_op (L_move (V := .int .i64 ((h - ((Sort.partition Sort.ltInt d4 l h pv).1) : Nat) : Int)) rfl ?_)
                    refine RW_op (L_lss rfl rfl ?_)
                    refine RW_nil ?_
                    refine W_cond (t := decide (((((Sort.partition Sort.ltInt d4 l h pv).1) - l : Nat) : Int) < ((h - ((Sort.partition Sort.ltInt d4 l h pv).1) : Nat) : Int))) rfl (fun c37 => ?_) (fun c37 => ?_)
                    ·
                      replace c37 := of_decide_eq_true c37
                      refine W_seq ?_
                      refine W_region ?_
                      refine RW_op (L_move (V := .int .i64 ((((Sort.partition Sort.ltInt d4 l h pv).1) - l : Nat) : Int)) rfl ?_)
                      refine RW_op (L_move (V := .int .i64 (((h - l) / 8 : Nat) : Int)) rfl ?_)
                      refine RW_op (opW_to (V := .bool (decide ((((h - l) / 8 : Nat) : Int) ≤ ((((Sort.partition Sort.ltInt d4 l h pv).1) - l : Nat) : Int)))) (V' := .bool (decide ((Sort.partition Sort.ltInt d4 l h pv).1 - l ≥ (h - l) / 8))) (L_geq rfl rfl ⟨rfl, rfl⟩) (congrArg Value.bool (decide_eq_decide.2 (by omega))) ?_)
                      refine RW_op (L_assign (V := .bool (decide ((Sort.partition Sort.ltInt d4 l h pv).1 - l ≥ (h - l) / 8))) rfl ?_)
                      refine RW_nil ?_
                      refine W_seq ?_
                      refine W_region ?_
                      refine RW_op (L_move (V := .slice a N c) rfl ?_)
                      refine RW_op (L_move (V := .int .i64 ((l : Nat) : Int)) rfl ?_)
                      refine RW_op (L_move (V := .int .i64 (((Sort.partition Sort.ltInt d4 l h pv).1 : Nat) : Int)) rfl ?_)
                      refine RW_op (L_move (V := .int .i64 ((lim3 : Nat) : Int)) rfl ?_)
                      refine RW_op (L_callB (vs := [.slice a N c, .int .i64 ((l : Nat) : Int), .int .i64 (((Sort.partition Sort.ltInt d4 l h pv).1 : Nat) : Int), .int .i64 ((lim3 : Nat) : Int)]) (V := fun _ : Unit => .tuple #[]) (R := row (.slice a N c) (((Sort.partition Sort.ltInt d4 l h pv).2.2).toList.map (ic .u16)) 57 1) (R' := fun _ => row (.slice a N c) ((Sort.pdq Sort.ltInt ((Sort.partition Sort.ltInt d4 l h pv).2.2) l ((Sort.partition Sort.ltInt d4 l h pv).1) lim3 true true).toList.map (ic .u16)) 57 1) (Lo := fun _ => []) (F := fun _ _ => (Sort.pdq Sort.ltInt ((Sort.partition Sort.ltInt d4 l h pv).2.2) l ((Sort.partition Sort.ltInt d4 l h pv).1) lim3 true true).size = N) EN_89 rfl rfl hs 0 rfl (fun S hS hlt => ih _ S a N c ((Sort.partition Sort.ltInt d4 l h pv).2.2) (by first | assumption | (simp only [Array.size_setIfInBounds, Go.Sort.size_swp]; omega)) hN l ((Sort.partition Sort.ltInt d4 l h pv).1) lim3 (by omega) (by omega) (by omega) (by omega) hS hlt) fun _ w38 hs hz39 => ?_)
                      refine RW_nil ?_
                      refine W_region ?_
                      refine RW_op (L_move (V := .int .i64 (((Sort.partition Sort.ltInt d4 l h pv).1 : Nat) : Int)) rfl ?_)
                      refine RW_op (L_add (a := (((Sort.partition Sort.ltInt d4 l h pv).1 : Nat) : Int)) (b := 1) (c := ((((Sort.partition Sort.ltInt d4 l h pv).1) + 1 : Nat) : Int)) rfl rfl (nat_i64 (by omega) (by omega)) ?_)
                      refine RW_op (L_assign (V := .int .i64 ((((Sort.partition Sort.ltInt d4 l h pv).1) + 1 : Nat) : Int)) rfl ?_)
                      refine RW_nil ?_
                      have hfin := pq_left c2 c6 hd4 hp4 hpv hl3 c30 hrg c37
                      refine ⟨_, ?_, _, ((Sort.partition Sort.ltInt d4 l h pv).1) + 1, h, lim3, decide ((Sort.partition Sort.ltInt d4 l h pv).1 - l ≥ (h - l) / 8), (Sort.partition Sort.ltInt d4 l h pv).2.1, Sort.pdq Sort.ltInt ((Sort.partition Sort.ltInt d4 l h pv).2.2) l ((Sort.partition Sort.ltInt d4 l h pv).1) lim3 true true, upd_of (upd_of (upd_of (upd_of (upd_of (mix_of (ds := [1, 2, 3, 8, 9, 10, 11, 12, 13, 14, 15, 16, 17, 18, 19, 20, 21, 22, 23, 24, 25, 26, 27, 28, 29, 30, 31, 32, 33, 34, 35, 36, 37, 38, 39, 40, 41, 42, 43, 44, 45, 46, 47, 48, 49, 50, 51, 52, 53, 54, 55, 56, 57, 58, 59, 60, 61, 62, 63, 64, 65, 66, 67, 68, 69, 70, 71, 72, 73, 74, 75, 76, 77, 78, 79, 80, 81, 82, 83, 84, 85, 86, 87, 88, 89, 90, 91, 92, 93, 94, 95, 96, 97, 98, 99, 100, 101, 102, 103, 104, 105, 106, 107, 108, 109, 110, 111, 112, 113, 114, 115, 116, 117, 118, 119, 120, 121, 122, 123, 124, 125, 126, 127, 128, 129, 130, 131, 132, 133]) (by repeat (first | exact Agr.refl _ _ | refine Agr.upd ?_ rfl | refine Agr.mix ?_ rfl))) rfl) rfl) rfl) rfl) rfl, (by omega), (by omega), (by omega), (by omega), (by assumption), (by rw [← hev, hfin]), rfl, hs.take 1⟩
                      omega
                    ·
                      replace c37 := of_decide_eq_false c37
                      refine W_seq ?_
                      refine W_region ?_
                      refine RW_op (L_move (V := .int .i64 ((h - ((Sort.partition Sort.ltInt d4 l h pv).1) : Nat) : Int)) rfl ?_)
                      refine RW_op (L_move (V := .int .i64 (((h - l) / 8 : Nat) : Int)) rfl ?_)
                      refine RW_op (opW_to (V := .bool (decide ((((h - l) / 8 : Nat) : Int) ≤ ((h - ((Sort.partition Sort.ltInt d4 l h pv).1) : Nat) : Int)))) (V' := .bool (decide (h - (Sort.partition Sort.ltInt d4 l h pv).1 ≥ (h - l) / 8))) (L_geq rfl rfl ⟨rfl, rfl⟩) (congrArg Value.bool (decide_eq_decide.2 (by omega))) ?_)
                      refine RW_op (L_assign (V := .bool (decide (h - (Sort.partition Sort.ltInt d4 l h pv).1 ≥ (h - l) / 8))) rfl ?_)
                      refine RW_nil ?_
                      refine W_seq ?_
                      refine W_region ?_
                      refine RW_op (L_move (V := .slice a N c) rfl ?_)
                      refine RW_op (L_move (V := .int .i64 (((Sort.partition Sort.ltInt d4 l h pv).1 : Nat) : Int)) rfl ?_)
                      refine RW_op (L_add (a := (((Sort.partition Sort.ltInt d4 l h pv).1 : Nat) : Int)) (b := 1) (c := ((((Sort.partition Sort.ltInt d4 l h pv).1) + 1 : Nat) : Int)) rfl rfl (nat_i64 (by omega) (by omega)) ?_)
                      refine RW_op (L_move (V := .int .i64 ((h : Nat) : Int)) rfl ?_)
                      refine RW_op (L_move (V := .int .i64 ((lim3 : Nat) : Int)) rfl ?_)
                      refine RW_op (L_callB (vs := [.slice a N c, .int .i64 ((((Sort.partition Sort.ltInt d4 l h pv).1) + 1 : Nat) : Int), .int .i64 ((h : Nat) : Int), .int .i64 ((lim3 : Nat) : Int)]) (V := fun _ : Unit => .tuple #[]) (R := row (.slice a N c) (((Sort.partition Sort.ltInt d4 l h pv).2.2).toList.map (ic .u16)) 57 1) (R' := fun _ => row (.slice a N c) ((Sort.pdq Sort.ltInt ((Sort.partition Sort.ltInt d4 l h pv).2.2) (((Sort.partition Sort.ltInt d4 l h pv).1) + 1) h lim3 true true).toList.map (ic .u16)) 57 1) (Lo := fun _ => []) (F := fun _ _ => (Sort.pdq Sort.ltInt ((Sort.partition Sort.ltInt d4 l h pv).2.2) (((Sort.partition Sort.ltInt d4 l h pv).1) + 1) h lim3 true true).size = N) EN_89 rfl rfl hs 0 rfl (fun S hS hlt => ih _ S a N c ((Sort.partition Sort.ltInt d4 l h pv).2.2) (by first | assumption | (simp only [Array.size_setIfInBounds, Go.Sort.size_swp]; omega)) hN (((Sort.partition Sort.ltInt d4 l h pv).1) + 1) h lim3 (by omega) (by omega) (by omega) (by omega) hS hlt) fun _ w41 hs hz42 => ?_)
                      refine RW_nil ?_
                      refine W_region ?_
                      refine RW_op (L_move (V := .int .i64 (((Sort.partition Sort.ltInt d4 l h pv).1 : Nat) : Int)) rfl ?_)
                      refine RW_op (L_assign (V := .int .i64 (((Sort.partition Sort.ltInt d4 l h pv).1 : Nat) : Int)) rfl ?_)
                      refine RW_nil ?_
                      have hfin := pq_right c2 c6 hd4 hp4 hpv hl3 c30 hrg c37
                      refine ⟨_, ?_, _, l, (Sort.partition Sort.ltInt d4 l h pv).1, lim3, decide (h - (Sort.partition Sort.ltInt d4 l h pv).1 ≥ (h - l) / 8), (Sort.partition Sort.ltInt d4 l h pv).2.1, Sort.pdq Sort.ltInt ((Sort.partition Sort.ltInt d4 l h pv).2.2) (((Sort.partition Sort.ltInt d4 l h pv).1) + 1) h lim3 true true, upd_of (upd_of (upd_of (upd_of (upd_of (mix_of (ds := [1, 2, 3, 8, 9, 10, 11, 12, 13, 14, 15, 16, 17, 18, 19, 20, 21, 22, 23, 24, 25, 26, 27, 28, 29, 30, 31, 32, 33, 34, 35, 36, 37, 38, 39, 40, 41, 42, 43, 44, 45, 46, 47, 48, 49, 50, 51, 52, 53, 54, 55, 56, 57, 58, 59, 60, 61, 62, 63, 64, 65, 66, 67, 68, 69, 70, 71, 72, 73, 74, 75, 76, 77, 78, 79, 80, 81, 82, 83, 84, 85, 86, 87, 88, 89, 90, 91, 92, 93, 94, 95, 96, 97, 98, 99, 100, 101, 102, 103, 104, 105, 106, 107, 108, 109, 110, 111, 112, 113, 114, 115, 116, 117, 118, 119, 120, 121, 122, 123, 124, 125, 126, 127, 128, 129, 130, 131, 132, 133]) (by repeat (first | exact Agr.refl _ _ | refine Agr.upd ?_ rfl | refine Agr.mix ?_ rfl))) rfl) rfl) rfl) rfl) rfl, (by omega), (by omega), (by omega), (by omega), (by assumption), (by rw [← hev, hfin]), rfl, hs.take 1⟩
                      omega
end Ts
end Go.Proofs
namespace Go.Proofs
open Go Go.Vx Go.RowKit
namespace Ts
theorem EN_76 : En Try.prog 76 := Try.call76
theorem EN_81 : En Try.prog 81 := Try.call81
theorem pdq_all (hxor : XorC Try.prog 113 145) (hpow : PowC Try.prog 112) : ∀ n, PdqAt n
  | 0 => fun w S a N c d hsz hN lo hi lim h1 h2 hlim hlen => by omega
  | n + 1 => fun w S a N c d hsz hN lo hi lim h1 h2 hlim hlen hR hlt => pdq_step n (pdq_all hxor hpow n) w S a N c d hsz hN lo hi lim h1 h2 hxor hpow hlim hlen hR hlt
theorem pdq_ok (w : World) (S : Nat → Prop) (a : Option Addr) (N c : Nat) (d : Array Int) (hsz : d.size = N) (hN : N ≤ 2305843009213693951) (hxor : XorC Try.prog 113 145) (hpow : PowC Try.prog 112) (lo hi lim : Nat) (h1 : lo ≤ hi) (h2 : hi ≤ N) (hlim : lim ≤ 4611686018427387904) (hR : (row (.slice a N c) (d.toList.map (ic .u16)) 57 1).holds w S) (hlt : ∀ x, S x → x < w.heap.size) : Calls Try.prog 89 #[.slice a N c, .int .i64 ((lo : Nat) : Int), .int .i64 ((hi : Nat) : Int), .int .i64 ((lim : Nat) : Int)] w (fun e w' => ∃ x : Unit, e = .returned (.tuple #[]) ∧ Own w S w' [row (.slice a N c) ((Sort.pdq Sort.ltInt d lo hi lim true true).toList.map (ic .u16)) 57 1] ∧ (Sort.pdq Sort.ltInt d lo hi lim true true).size = N) :=
  pdq_all hxor hpow (hi - lo + 1) w S a N c d hsz hN lo hi lim h1 h2 hlim (Nat.lt_succ_self _) hR hlt
set_option maxRecDepth 20000 in
set_option maxHeartbeats 4000000 in
theorem sort_walk (w : World) (S : Nat → Prop) (a : Option Addr) (N c : Nat) (d : Array Int) (hsz : d.size = N) (hN : N ≤ 2305843009213693951) (hxor : XorC Try.prog 113 145) (hpow : PowC Try.prog 112) (hblen : LenC Try.prog 81) (hR : (row (.slice a N c) (d.toList.map (ic .u16)) 57 1).holds w S) (hlt : ∀ x, S x → x < w.heap.size) : Calls Try.prog 76 #[.slice a N c] w (fun e w' => ∃ x : Unit, e = .returned (.tuple #[]) ∧ Own w S w' [row (.slice a N c) ((Sort.pdq Sort.ltInt d 0 N (Sort.bitsLen N) true true).toList.map (ic .u16)) 57 1] ∧ (Sort.pdq Sort.ltInt d 0 N (Sort.bitsLen N) true true).size = N) := by
  refine calls_of_Wn (n := 11) Try.func76 rfl Try.ntmps76 rfl ?_
  have hs := Own.lent hR hlt
  have hbl : Sort.bitsLen N ≤ 4611686018427387904 := Nat.le_trans ((Sort.bitsLen_le_iff N 62).2 (by omega)) (by decide)
  refine W_seq ?_
  refine W_region ?_
  refine RW_op (L_move (V := .slice a N c) rfl ?_)
  refine RW_op (L_lenR (n := N) UD_72 (hs.rd 0 rfl) (by rw [List.length_map, Array.length_toList]; assumption) rfl ?_)
  refine RW_op (L_assign (V := .int .i64 ((N : Nat) : Int)) rfl ?_)
  refine RW_nil ?_
  refine W_region ?_
  refine RW_op (L_move (V := .slice a N c) rfl ?_)
  refine RW_op (L_move (V := .int .i64 ((N : Nat) : Int)) rfl ?_)
  refine RW_op (L_move (V := .int .i64 ((N : Nat) : Int)) rfl ?_)
  refine RW_op (L_conv UD_3 UD_119 rfl (wr_u64 (by omega) (by omega)) ?_)
  refine RW_op (L_callP (vs := [.int .u64 ((N : Nat) : Int)]) (V := .int .i64 ((Sort.bitsLen N : Nat) : Int)) EN_81 rfl rfl ?hc hs fun w1 hs => ?_)
  case hc => exact (hblen _ N (by omega))
  refine RW_op (L_callB (vs := [.slice a N c, .int .i64 0, .int .i64 ((N : Nat) : Int), .int .i64 ((Sort.bitsLen N : Nat) : Int)]) (V := fun _ : Unit => .tuple #[]) (R := row (.slice a N c) (d.toList.map (ic .u16)) 57 1) (R' := fun _ => row (.slice a N c) ((Sort.pdq Sort.ltInt d 0 N (Sort.bitsLen N) true true).toList.map (ic .u16)) 57 1) (Lo := fun _ => []) (F := fun _ _ => (Sort.pdq Sort.ltInt d 0 N (Sort.bitsLen N) true true).size = N) EN_89 rfl rfl hs 0 rfl (fun S hS hlt => pdq_ok _ S a N c d (by first | assumption | (simp only [Array.size_setIfInBounds, Go.Sort.size_swp]; omega)) hN hxor hpow 0 N (Sort.bitsLen N) (Nat.zero_le _) (Nat.le_refl _) hbl hS hlt) fun _ w2 hs hz3 => ?_)
  refine RW_nil ?_
  refine ⟨_, res_none Try.results76, ?_⟩
  have hX : Sort.pdq Sort.ltInt d 0 N (Sort.bitsLen N) true true = Sort.pdq Sort.ltInt d 0 N (Sort.bitsLen N) true true := rfl
  exact ⟨(), rfl, hX ▸ hs.take 1, hX ▸ (by first | assumption | (simp only [Array.size_setIfInBounds, Go.Sort.size_swp]; omega))⟩
theorem sort_ok (hxor : XorC Try.prog 113 145) (hpow : PowC Try.prog 112) (hblen : LenC Try.prog 81) : SortI Try.prog 76 .u16 57 := by
  intro w S a c l hR hlt hlen
  have hd : l.toArray.size = l.length := by simp
  have h := sort_walk w S a l.length c l.toArray hd hlen hxor hpow hblen (by simpa using hR) hlt
  refine h.mono fun e w' ⟨_, he, ho, _⟩ => ⟨he, ?_⟩
  have e1 : (Sort.pdq Sort.ltInt l.toArray 0 l.length (Sort.bitsLen l.length) true true).toList = sortI l := by
    have h2 := Sort.sortInt l
    unfold Sort.sort at h2
    rw [hd] at h2
    exact h2
  rw [e1] at ho
  exact ho
end Ts
end Go.Proofs
