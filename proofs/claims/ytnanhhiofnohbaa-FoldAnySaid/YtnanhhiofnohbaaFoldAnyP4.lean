/- A part of a proof: what functions of the program compute, and plain facts on that. -/
import Derived.Test.YtnanhhiofnohbaaFoldAnyP3
set_option linter.unusedVariables false
set_option linter.unusedSimpArgs false
namespace Go.Proofs
open Go Go.Vx Go.RowKit
namespace Ts
section
variable {p : Int → Bool} {b : Bool} {i j : Nat} {d : Array Int}
theorem su_yes (hb : b = p d[i]!) (h : ((i : Nat) : Int) ≤ ((j : Nat) : Int)) (h2 : b = true) : Sort.scanUp p d j i = Sort.scanUp p d j (i + 1) := by
  rw [Sort.scanUp, if_pos]
  rw [← hb, h2, Bool.and_true]; exact decide_eq_true (by omega)
theorem su_no (hb : b = p d[i]!) (h : (decide (((i : Nat) : Int) ≤ ((j : Nat) : Int)) && b) = false) : Sort.scanUp p d j i = i := by
  rw [Sort.scanUp, if_neg]
  rw [← hb]
  intro h2
  rw [Bool.and_eq_true, decide_eq_true_iff] at h2
  rw [h2.2, Bool.and_true, decide_eq_false_iff_not] at h
  exact h (by omega)
theorem sw_yes (h0 : 1 ≤ j) (hb : b = p d[j]!) (h : ((i : Nat) : Int) ≤ ((j : Nat) : Int)) (h2 : b = true) : Sort.scanDown p d i j = Sort.scanDown p d i (j - 1) := by
  obtain ⟨k, rfl⟩ : ∃ k, j = k + 1 := ⟨j - 1, by omega⟩
  rw [Sort.scanDown, if_pos]
  · rfl
  · rw [← hb, h2, Bool.and_true]; exact decide_eq_true (by omega)
theorem sw_no (hb : b = p d[j]!) (h : (decide (((i : Nat) : Int) ≤ ((j : Nat) : Int)) && b) = false) : Sort.scanDown p d i j = j := by
  cases j with
  | zero => rfl
  | succ k =>
    rw [Sort.scanDown, if_neg]
    rw [← hb]
    intro h2
    rw [Bool.and_eq_true, decide_eq_true_iff] at h2
    rw [h2.2, Bool.and_true, decide_eq_false_iff_not] at h
    exact h (by omega)
theorem pe_stop {lo i2 j2 : Nat} (hi : i2 = Sort.scanUp (fun x => !Sort.ltInt d[lo]! x) d j i) (hj : j2 = Sort.scanDown (fun x => Sort.ltInt d[lo]! x) d i2 j) (h : ((j2 : Nat) : Int) < ((i2 : Nat) : Int)) : Sort.partEqLoop Sort.ltInt lo i j d = (i2, d) := by
  rw [Sort.partEqLoop_eq, ← hi, ← hj, if_pos (by omega)]
theorem pe_go {lo i2 j2 : Nat} (hi : i2 = Sort.scanUp (fun x => !Sort.ltInt d[lo]! x) d j i) (hj : j2 = Sort.scanDown (fun x => Sort.ltInt d[lo]! x) d i2 j) (h : ¬ ((j2 : Nat) : Int) < ((i2 : Nat) : Int)) : Sort.partEqLoop Sort.ltInt lo i j d = Sort.partEqLoop Sort.ltInt lo (i2 + 1) (j2 - 1) (Sort.swp d i2 j2) := by
  rw [Sort.partEqLoop_eq, ← hi, ← hj, if_neg (by omega)]
theorem pl_stop {lo i2 j2 : Nat} (hi : i2 = Sort.scanUp (fun x => Sort.ltInt x d[lo]!) d j i) (hj : j2 = Sort.scanDown (fun x => !Sort.ltInt x d[lo]!) d i2 j) (h : ((j2 : Nat) : Int) < ((i2 : Nat) : Int)) : Sort.partLoop Sort.ltInt lo i j d = (j2, d) := by
  rw [Sort.partLoop_eq, ← hi, ← hj, if_pos (by omega)]
theorem pl_go {lo i2 j2 : Nat} (hi : i2 = Sort.scanUp (fun x => Sort.ltInt x d[lo]!) d j i) (hj : j2 = Sort.scanDown (fun x => !Sort.ltInt x d[lo]!) d i2 j) (h : ¬ ((j2 : Nat) : Int) < ((i2 : Nat) : Int)) : Sort.partLoop Sort.ltInt lo i j d = Sort.partLoop Sort.ltInt lo (i2 + 1) (j2 - 1) (Sort.swp d i2 j2) := by
  rw [Sort.partLoop_eq, ← hi, ← hj, if_neg (by omega)]
theorem pt_stop {lo hi pv i2 j2 : Nat} {D : Array Int} (hD : D = Sort.swp d lo pv) (h1 : i2 = Sort.scanUp (fun x => Sort.ltInt x D[lo]!) D (hi - 1) (lo + 1)) (h2 : j2 = Sort.scanDown (fun x => !Sort.ltInt x D[lo]!) D i2 (hi - 1)) (h : ((j2 : Nat) : Int) < ((i2 : Nat) : Int)) : Sort.partition Sort.ltInt d lo hi pv = (j2, true, Sort.swp D j2 lo) := by
  subst hD; unfold Sort.partition; dsimp only; rw [← h1, ← h2, if_pos (by omega)]
theorem pt_go {lo hi pv i2 j2 : Nat} {D : Array Int} (hD : D = Sort.swp d lo pv) (h1 : i2 = Sort.scanUp (fun x => Sort.ltInt x D[lo]!) D (hi - 1) (lo + 1)) (h2 : j2 = Sort.scanDown (fun x => !Sort.ltInt x D[lo]!) D i2 (hi - 1)) (h : ¬ ((j2 : Nat) : Int) < ((i2 : Nat) : Int)) : Sort.partition Sort.ltInt d lo hi pv = ((Sort.partLoop Sort.ltInt lo (i2 + 1) (j2 - 1) (Sort.swp D i2 j2)).1, false, Sort.swp (Sort.partLoop Sort.ltInt lo (i2 + 1) (j2 - 1) (Sort.swp D i2 j2)).2 (Sort.partLoop Sort.ltInt lo (i2 + 1) (j2 - 1) (Sort.swp D i2 j2)).1 lo) := by
  subst hD; unfold Sort.partition; dsimp only; rw [← h1, ← h2, if_neg (by omega)]
end
set_option maxRecDepth 20000 in
set_option maxHeartbeats 4000000 in
theorem pe_ok (w : World) (S : Nat → Prop) (a : Option Addr) (N c : Nat) (d : Array Int) (hsz : d.size = N) (hN : N ≤ 2305843009213693951) (lo hi pv : Nat) (h1 : lo ≤ pv) (h2 : pv < hi) (h3 : hi ≤ N) (hR : (row (.slice a N c) (d.toList.map (ic .u16)) 57 1).holds w S) (hlt : ∀ x, S x → x < w.heap.size) : Calls Try.prog 109 #[.slice a N c, .int .i64 ((lo : Nat) : Int), .int .i64 ((hi : Nat) : Int), .int .i64 ((pv : Nat) : Int)] w (fun e w' => ∃ _u : Unit, e = .returned (.int .i64 (((Sort.partitionEqual Sort.ltInt d lo hi pv).1 : Nat) : Int)) ∧ Own w S w' [row (.slice a N c) (((Sort.partitionEqual Sort.ltInt d lo hi pv).2).toList.map (ic .u16)) 57 1] ∧ (Sort.partitionEqual Sort.ltInt d lo hi pv).2.size = N) := by
  refine calls_of_Wn (n := 84) Try.func109 rfl Try.ntmps109 rfl ?_
  have hs := Own.lent hR hlt
  refine W_seq ?_
  refine W_region ?_
  refine RW_op (L_assign (V := .int .i64 0) rfl ?_)
  refine RW_nil ?_
  refine W_seq ?_
  replace hs := hs.drew
  refine W_draw2 HM [11, 12, 13, 14, 15, 16, 17, 18, 19, 20, 21, 22, 23, 24] [[], [], [], [], [], [], [4, 5], [6], [], [], [8, 9], [10], [0, 1, 0, 1, 4, 5, 6, 7, 11], [12, 7, 0, 1, 4, 5, 6, 7, 11], [2, 3, 0, 1, 2, 3, 4, 5, 6, 7, 8, 9, 10, 11, 12, 13], [14, 11, 13, 0, 1, 2, 3, 4, 5, 6, 7, 8, 9, 10, 11, 12, 13]] (fun D ρ wx => Own w S wx [cond (D 15) (row (.slice a N c) ((((d.setIfInBounds lo (d[pv]!)).setIfInBounds pv (d[lo]!)).toList).map (ic .u16)) 57 1) (cond (D 13) (row (.slice a N c) (((d.setIfInBounds lo (d[pv]!)).toList).map (ic .u16)) 57 1) (row (.slice a N c) (d.toList.map (ic .u16)) 57 1))] ∧ (D 0 = true → ρ 11 = .slice a N c) ∧ (D 1 = true → ρ 12 = .int .i64 ((lo : Nat) : Int)) ∧ (D 2 = true → ρ 13 = .slice a N c) ∧ (D 3 = true → ρ 14 = .int .i64 ((pv : Nat) : Int)) ∧ (D 4 = true → ρ 15 = .slice a N c) ∧ (D 5 = true → ρ 16 = .int .i64 ((pv : Nat) : Int)) ∧ (D 6 = true → ρ 17 = .pointer (some ⟨bkS (.slice a N c), ofS (.slice a N c) + ((pv : Nat) : Int).toNat * 1, none⟩)) ∧ (D 7 = true → ρ 18 = .int .u16 (d[pv]!)) ∧ (D 8 = true → ρ 19 = .slice a N c) ∧ (D 9 = true → ρ 20 = .int .i64 ((lo : Nat) : Int)) ∧ (D 10 = true → ρ 21 = .pointer (some ⟨bkS (.slice a N c), ofS (.slice a N c) + ((lo : Nat) : Int).toNat * 1, none⟩)) ∧ (D 11 = true → ρ 22 = .int .u16 (d[lo]!)) ∧ (D 12 = true → ρ 23 = .pointer (some ⟨bkS (.slice a N c), ofS (.slice a N c) + ((lo : Nat) : Int).toNat * 1, none⟩)) ∧ (True) ∧ (D 14 = true → ρ 24 = .pointer (some ⟨bkS (.slice a N c), ofS (.slice a N c) + ((pv : Nat) : Int).toNat * 1, none⟩)) ∧ (True)) rfl rfl rfl ⟨hs, fun h => absurd h Bool.false_ne_true, fun h => absurd h Bool.false_ne_true, fun h => absurd h Bool.false_ne_true, fun h => absurd h Bool.false_ne_true, fun h => absurd h Bool.false_ne_true, fun h => absurd h Bool.false_ne_true, fun h => absurd h Bool.false_ne_true, fun h => absurd h Bool.false_ne_true, fun h => absurd h Bool.false_ne_true, fun h => absurd h Bool.false_ne_true, fun h => absurd h Bool.false_ne_true, fun h => absurd h Bool.false_ne_true, fun h => absurd h Bool.false_ne_true, trivial, fun h => absurd h Bool.false_ne_true, trivial⟩ ⟨?_, ?_, ?_, ?_, ?_, ?_, ?_, ?_, ?_, ?_, ?_, ?_, ?_, ?_, ?_, ?_, trivial⟩ ?_
  · rintro D ρ wx hD hd hdc hf ⟨hs, f0, f1, f2, f3, f4, f5, f6, f7, f8, f9, f10, f11, f12, f13, f14, f15⟩
    have r0 : ρ 0 = .slice a N c := outD hf 0 rfl
    exact .inl ⟨rfl, L_move (V := .slice a N c) r0 ⟨hs, fun _ => rfl, f1, f2, f3, f4, f5, f6, f7, f8, f9, f10, f11, f12, f13, f14, f15⟩⟩
  · rintro D ρ wx hD hd hdc hf ⟨hs, f0, f1, f2, f3, f4, f5, f6, f7, f8, f9, f10, f11, f12, f13, f14, f15⟩
    have r1 : ρ 1 = .int .i64 ((lo : Nat) : Int) := outD hf 1 rfl
    exact .inl ⟨rfl, L_move (V := .int .i64 ((lo : Nat) : Int)) r1 ⟨hs, f0, fun _ => rfl, f2, f3, f4, f5, f6, f7, f8, f9, f10, f11, f12, f13, f14, f15⟩⟩
  · rintro D ρ wx hD hd hdc hf ⟨hs, f0, f1, f2, f3, f4, f5, f6, f7, f8, f9, f10, f11, f12, f13, f14, f15⟩
    have r0 : ρ 0 = .slice a N c := outD hf 0 rfl
    exact .inl ⟨rfl, L_move (V := .slice a N c) r0 ⟨hs, f0, f1, fun _ => rfl, f3, f4, f5, f6, f7, f8, f9, f10, f11, f12, f13, f14, f15⟩⟩
  · rintro D ρ wx hD hd hdc hf ⟨hs, f0, f1, f2, f3, f4, f5, f6, f7, f8, f9, f10, f11, f12, f13, f14, f15⟩
    have r3 : ρ 3 = .int .i64 ((pv : Nat) : Int) := outD hf 3 rfl
    exact .inl ⟨rfl, L_move (V := .int .i64 ((pv : Nat) : Int)) r3 ⟨hs, f0, f1, f2, fun _ => rfl, f4, f5, f6, f7, f8, f9, f10, f11, f12, f13, f14, f15⟩⟩
  · rintro D ρ wx hD hd hdc hf ⟨hs, f0, f1, f2, f3, f4, f5, f6, f7, f8, f9, f10, f11, f12, f13, f14, f15⟩
    have r0 : ρ 0 = .slice a N c := outD hf 0 rfl
    exact .inl ⟨rfl, L_move (V := .slice a N c) r0 ⟨hs, f0, f1, f2, f3, fun _ => rfl, f5, f6, f7, f8, f9, f10, f11, f12, f13, f14, f15⟩⟩
  · rintro D ρ wx hD hd hdc hf ⟨hs, f0, f1, f2, f3, f4, f5, f6, f7, f8, f9, f10, f11, f12, f13, f14, f15⟩
    have r3 : ρ 3 = .int .i64 ((pv : Nat) : Int) := outD hf 3 rfl
    exact .inl ⟨rfl, L_move (V := .int .i64 ((pv : Nat) : Int)) r3 ⟨hs, f0, f1, f2, f3, f4, fun _ => rfl, f6, f7, f8, f9, f10, f11, f12, f13, f14, f15⟩⟩
  · rintro D ρ wx hD hd hdc hf ⟨hs, f0, f1, f2, f3, f4, f5, f6, f7, f8, f9, f10, f11, f12, f13, f14, f15⟩
    have g4 := f4 (doneD hd 4 rfl)
    have g5 := f5 (doneD hd 5 rfl)
    have d13 : D 13 = false := (notYetD hdc (j := 13) rfl rfl hD)
    have d15 : D 15 = false := (notYetD hdc (j := 15) rfl rfl hD)
    have hs0 := hs; rw [d13, d15] at hs0
    exact .inl ⟨rfl, L_ixR UD_72 S1_57.1 (hs0.rd 0 rfl) g4 g5 (by omega) (by simp only [List.length_map, Array.length_toList, Array.size_setIfInBounds, Go.Sort.size_swp]; omega) ⟨hs, f0, f1, f2, f3, f4, f5, fun _ => rfl, f7, f8, f9, f10, f11, f12, f13, f14, f15⟩⟩
  · rintro D ρ wx hD hd hdc hf ⟨hs, f0, f1, f2, f3, f4, f5, f6, f7, f8, f9, f10, f11, f12, f13, f14, f15⟩
    have g6 := f6 (doneD hd 6 rfl)
    have d13 : D 13 = false := (notYetD hdc (j := 13) rfl rfl hD)
    have d15 : D 15 = false := (notYetD hdc (j := 15) rfl rfl hD)
    have hs0 := hs; rw [d13, d15] at hs0
    exact .inl ⟨rfl, L_ldR (j := 0) (V := .int .u16 (d[pv]!)) pv S1_57 (hs0.rd 0 rfl) (da_at (by omega)) rfl g6 (by omega) ⟨hs, f0, f1, f2, f3, f4, f5, f6, fun _ => rfl, f8, f9, f10, f11, f12, f13, f14, f15⟩⟩
  · rintro D ρ wx hD hd hdc hf ⟨hs, f0, f1, f2, f3, f4, f5, f6, f7, f8, f9, f10, f11, f12, f13, f14, f15⟩
    have r0 : ρ 0 = .slice a N c := outD hf 0 rfl
    exact .inl ⟨rfl, L_move (V := .slice a N c) r0 ⟨hs, f0, f1, f2, f3, f4, f5, f6, f7, fun _ => rfl, f9, f10, f11, f12, f13, f14, f15⟩⟩
  · rintro D ρ wx hD hd hdc hf ⟨hs, f0, f1, f2, f3, f4, f5, f6, f7, f8, f9, f10, f11, f12, f13, f14, f15⟩
    have r1 : ρ 1 = .int .i64 ((lo : Nat) : Int) := outD hf 1 rfl
    exact .inl ⟨rfl, L_move (V := .int .i64 ((lo : Nat) : Int)) r1 ⟨hs, f0, f1, f2, f3, f4, f5, f6, f7, f8, fun _ => rfl, f10, f11, f12, f13, f14, f15⟩⟩
  · rintro D ρ wx hD hd hdc hf ⟨hs, f0, f1, f2, f3, f4, f5, f6, f7, f8, f9, f10, f11, f12, f13, f14, f15⟩
    have g8 := f8 (doneD hd 8 rfl)
    have g9 := f9 (doneD hd 9 rfl)
    have d13 : D 13 = false := (notYetD hdc (j := 13) rfl rfl (notYetD hdc (j := 11) rfl rfl hD))
    have d15 : D 15 = false := (notYetD hdc (j := 15) rfl rfl hD)
    have hs0 := hs; rw [d13, d15] at hs0
    exact .inl ⟨rfl, L_ixR UD_72 S1_57.1 (hs0.rd 0 rfl) g8 g9 (by omega) (by simp only [List.length_map, Array.length_toList, Array.size_setIfInBounds, Go.Sort.size_swp]; omega) ⟨hs, f0, f1, f2, f3, f4, f5, f6, f7, f8, f9, fun _ => rfl, f11, f12, f13, f14, f15⟩⟩
  · rintro D ρ wx hD hd hdc hf ⟨hs, f0, f1, f2, f3, f4, f5, f6, f7, f8, f9, f10, f11, f12, f13, f14, f15⟩
    have g10 := f10 (doneD hd 10 rfl)
    have d13 : D 13 = false := (notYetD hdc (j := 13) rfl rfl hD)
    have d15 : D 15 = false := (notYetD hdc (j := 15) rfl rfl hD)
    have hs0 := hs; rw [d13, d15] at hs0
    exact .inl ⟨rfl, L_ldR (j := 0) (V := .int .u16 (d[lo]!)) lo S1_57 (hs0.rd 0 rfl) (da_at (by omega)) rfl g10 (by omega) ⟨hs, f0, f1, f2, f3, f4, f5, f6, f7, f8, f9, f10, fun _ => rfl, f12, f13, f14, f15⟩⟩
  · rintro D ρ wx hD hd hdc hf ⟨hs, f0, f1, f2, f3, f4, f5, f6, f7, f8, f9, f10, f11, f12, f13, f14, f15⟩
    have g0 := f0 (doneD hd 0 rfl)
    have g1 := f1 (doneD hd 1 rfl)
    have d13 : D 13 = false := (notYetD hdc (j := 13) rfl rfl hD)
    have d15 : D 15 = false := (notYetD hdc (j := 15) rfl rfl hD)
    have hs0 := hs; rw [d13, d15] at hs0
    exact .inl ⟨rfl, L_ixR UD_72 S1_57.1 (hs0.rd 0 rfl) g0 g1 (by omega) (by simp only [List.length_map, Array.length_toList, Array.size_setIfInBounds, Go.Sort.size_swp]; omega) ⟨hs, f0, f1, f2, f3, f4, f5, f6, f7, f8, f9, f10, f11, fun _ => rfl, f13, f14, f15⟩⟩
  · rintro D ρ wx hD hd hdc hf ⟨hs, f0, f1, f2, f3, f4, f5, f6, f7, f8, f9, f10, f11, f12, f13, f14, f15⟩
    have g7 := f7 (doneD hd 7 rfl)
    have g12 := f12 (doneD hd 12 rfl)
    have d13 : D 13 = false := hD
    have d15 : D 15 = false := (notYetD hdc (j := 15) rfl rfl hD)
    have hs0 := hs; rw [d13, d15] at hs0
    refine .inl ⟨rfl, L_stA (z := d[pv]!) lo S1_57 hs0 0 rfl g12 (by omega) (by first | omega | (simp only [Array.size_setIfInBounds, Go.Sort.size_swp]; omega)) g7 rfl rfl fun _ hs0 => ⟨?_, f0, f1, f2, f3, f4, f5, f6, f7, f8, f9, f10, f11, f12, trivial, f14, f15⟩⟩
    rw [show Go.Vx.mark D 13 15 = false from d15]
    exact hs0
  · rintro D ρ wx hD hd hdc hf ⟨hs, f0, f1, f2, f3, f4, f5, f6, f7, f8, f9, f10, f11, f12, f13, f14, f15⟩
    have g2 := f2 (doneD hd 2 rfl)
    have g3 := f3 (doneD hd 3 rfl)
    have d13 : D 13 = true := doneD hd 13 rfl
    have d15 : D 15 = false := (notYetD hdc (j := 15) rfl rfl hD)
    have hs0 := hs; rw [d13, d15] at hs0
    exact .inl ⟨rfl, L_ixR UD_72 S1_57.1 (hs0.rd 0 rfl) g2 g3 (by omega) (by simp only [List.length_map, Array.length_toList, Array.size_setIfInBounds, Go.Sort.size_swp]; omega) ⟨hs, f0, f1, f2, f3, f4, f5, f6, f7, f8, f9, f10, f11, f12, f13, fun _ => rfl, f15⟩⟩
  · rintro D ρ wx hD hd hdc hf ⟨hs, f0, f1, f2, f3, f4, f5, f6, f7, f8, f9, f10, f11, f12, f13, f14, f15⟩
    have g11 := f11 (doneD hd 11 rfl)
    have g14 := f14 (doneD hd 14 rfl)
    have d13 : D 13 = true := doneD hd 13 rfl
    have d15 : D 15 = false := hD
    have hs0 := hs; rw [d13, d15] at hs0
    refine .inl ⟨rfl, L_stA (z := d[lo]!) pv S1_57 hs0 0 rfl g14 (by omega) (by first | omega | (simp only [Array.size_setIfInBounds, Go.Sort.size_swp]; omega)) g11 rfl rfl fun _ hs0 => ⟨?_, f0, f1, f2, f3, f4, f5, f6, f7, f8, f9, f10, f11, f12, f13, f14, trivial⟩⟩
    rw [show Go.Vx.mark D 15 13 = true from d13]
    exact hs0
  · rintro ρ1 w1 D hD hf ⟨hs, f0, f1, f2, f3, f4, f5, f6, f7, f8, f9, f10, f11, f12, f13, f14, f15⟩
    rw [hD 13 rfl, hD 15 rfl] at hs
    clear f0 f1 f2 f3 f4 f5 f6 f7 f8 f9 f10 f11 f12 f13 f14 f15
    obtain ⟨ρ2, hρ⟩ : ∃ ρ2, ρ1 = mix [11, 12, 13, 14, 15, 16, 17, 18, 19, 20, 21, 22, 23, 24] ρ2 _ := ⟨ρ1, mix_of (ds := [11, 12, 13, 14, 15, 16, 17, 18, 19, 20, 21, 22, 23, 24]) hf⟩
    clear hf hD
    subst hρ
    refine W_seq ?_
    refine W_region ?_
    refine RW_op (L_move (V := .int .i64 ((lo : Nat) : Int)) rfl ?_)
    refine RW_op (L_add (a := ((lo : Nat) : Int)) (b := 1) (c := ((lo + 1 : Nat) : Int)) rfl rfl (nat_i64 (by omega) (by omega)) ?_)
    refine RW_op (L_move (V := .int .i64 ((hi : Nat) : Int)) rfl ?_)
    refine RW_op (L_sub (a := ((hi : Nat) : Int)) (b := 1) (c := ((hi - 1 : Nat) : Int)) rfl rfl (nat_i64 (by omega) (by omega)) ?_)
    refine RW_op (L_assign (V := .int .i64 ((lo + 1 : Nat) : Int)) rfl ?_)
    refine RW_op (L_assign (V := .int .i64 ((hi - 1 : Nat) : Int)) rfl ?_)
    refine RW_nil ?_
    refine W_seq ?_
    refine W_block ?_
    refine W_loopI (fun ρ m ρ' w' => ∃ (ρo : Env) (i : Nat) (j : Nat) (d1 : Array Int), ρ' = upd (upd (mix [9, 10, 29, 30, 31, 32, 33, 34, 35, 36, 37, 38, 39, 40, 41, 42, 43, 44, 45, 46, 47, 48, 49, 50, 51, 52, 53, 54, 55, 56, 57, 58, 59, 60, 61, 62, 63, 64, 65, 66, 67, 68, 69, 70, 71, 72, 73, 74, 75, 76, 77, 78, 79, 80, 81, 82] ρo ρ) 9 (.int .i64 ((i : Nat) : Int))) 10 (.int .i64 ((j : Nat) : Int)) ∧ (lo + 1 ≤ i) ∧ (i ≤ hi + 1) ∧ (j < hi) ∧ (d1.size = N) ∧ (Sort.partEqLoop Sort.ltInt lo i j d1 = Sort.partitionEqual Sort.ltInt d lo hi pv) ∧ m = j + 1 - i ∧ Own w S w' [row (.slice a N c) (d1.toList.map (ic .u16)) 57 1]) ?_ ?_
    · exact ⟨_, _, lo + 1, hi - 1, (Sort.swp d lo pv), upd_of (upd_of (mix_of (ds := [9, 10, 29, 30, 31, 32, 33, 34, 35, 36, 37, 38, 39, 40, 41, 42, 43, 44, 45, 46, 47, 48, 49, 50, 51, 52, 53, 54, 55, 56, 57, 58, 59, 60, 61, 62, 63, 64, 65, 66, 67, 68, 69, 70, 71, 72, 73, 74, 75, 76, 77, 78, 79, 80, 81, 82]) (Agr.refl _ _)) rfl) rfl, (Nat.le_refl _), (by omega), (by omega), (by rw [Go.Sort.size_swp]; exact hsz), rfl, rfl, hs⟩
    · rintro m ρ' w4 ⟨ρo, i, j, d1, rfl, hi0, hi1, hj, hz1, hev, rfl, hs⟩
      refine W_block ?_
      refine W_seq ?_
      refine W_block ?_
      refine W_loopI (fun ρ m ρ' w' => ∃ (ρo : Env) (i2 : Nat), ρ' = upd (mix [9, 29, 30, 31, 32, 33, 34, 35, 36, 37, 38, 39, 40, 41, 42, 43, 44, 45] ρo ρ) 9 (.int .i64 ((i2 : Nat) : Int)) ∧ (i ≤ i2) ∧ (i2 ≤ hi + 1) ∧ (Sort.scanUp (fun x => !Sort.ltInt d1[lo]! x) d1 (j) i2 = Sort.scanUp (fun x => !Sort.ltInt d1[lo]! x) d1 (j) (i)) ∧ m = j + 1 - i2 ∧ Own w S w' [row (.slice a N c) (d1.toList.map (ic .u16)) 57 1]) ?_ ?_
      · exact ⟨_, _, i, upd_of (mix_of (ds := [9, 29, 30, 31, 32, 33, 34, 35, 36, 37, 38, 39, 40, 41, 42, 43, 44, 45]) (Agr.refl _ _)) rfl, (Nat.le_refl _), (by omega), rfl, rfl, hs⟩
      · rintro m ρ' w5 ⟨ρo, i2, rfl, hi2a, hi2b, hsu, rfl, hs⟩
        refine W_seq ?_
        refine W_seq ?_
        replace hs := hs.drew
        refine W_draw2 HM [29, 30, 31, 32, 33, 34, 35, 36, 37, 38, 39, 40, 41, 42, 43] [[], [], [0, 1], [2], [3], [3], [4, 5, 3], [6, 3], [3], [3], [8, 9, 3], [10, 3], [7, 11, 3, 3], [12, 3], [3, 13]] (fun D ρ wx => Own w S wx [row (.slice a N c) (d1.toList.map (ic .u16)) 57 1] ∧ (D 0 = true → ρ 29 = .int .i64 ((i2 : Nat) : Int)) ∧ (D 1 = true → ρ 30 = .int .i64 ((j : Nat) : Int)) ∧ (D 2 = true → ρ 31 = .bool (decide (((i2 : Nat) : Int) ≤ ((j : Nat) : Int)))) ∧ (D 3 = true → ρ 32 = .bool (decide (((i2 : Nat) : Int) ≤ ((j : Nat) : Int)))) ∧ (D 4 = true → ρ 33 = cond ((decide (((i2 : Nat) : Int) ≤ ((j : Nat) : Int))) == true) (.slice a N c) undef) ∧ (D 5 = true → ρ 34 = cond ((decide (((i2 : Nat) : Int) ≤ ((j : Nat) : Int))) == true) (.int .i64 ((lo : Nat) : Int)) undef) ∧ (D 6 = true → ρ 35 = cond ((decide (((i2 : Nat) : Int) ≤ ((j : Nat) : Int))) == true) (.pointer (some ⟨bkS (.slice a N c), ofS (.slice a N c) + ((lo : Nat) : Int).toNat * 1, none⟩)) undef) ∧ (D 7 = true → ρ 36 = cond ((decide (((i2 : Nat) : Int) ≤ ((j : Nat) : Int))) == true) (.int .u16 (d1[lo]!)) undef) ∧ (D 8 = true → ρ 37 = cond ((decide (((i2 : Nat) : Int) ≤ ((j : Nat) : Int))) == true) (.slice a N c) undef) ∧ (D 9 = true → ρ 38 = cond ((decide (((i2 : Nat) : Int) ≤ ((j : Nat) : Int))) == true) (.int .i64 ((i2 : Nat) : Int)) undef) ∧ (D 10 = true → ρ 39 = cond ((decide (((i2 : Nat) : Int) ≤ ((j : Nat) : Int))) == true) (.pointer (some ⟨bkS (.slice a N c), ofS (.slice a N c) + ((i2 : Nat) : Int).toNat * 1, none⟩)) undef) ∧ (D 11 = true → ρ 40 = cond ((decide (((i2 : Nat) : Int) ≤ ((j : Nat) : Int))) == true) (.int .u16 (d1[i2]!)) undef) ∧ (D 12 = true → ρ 41 = cond ((decide (((i2 : Nat) : Int) ≤ ((j : Nat) : Int))) == true) (.bool (decide (d1[lo]! < d1[i2]!))) undef) ∧ (D 13 = true → ρ 42 = cond ((decide (((i2 : Nat) : Int) ≤ ((j : Nat) : Int))) == true) (.bool (!decide (d1[lo]! < d1[i2]!))) undef) ∧ (D 14 = true → ρ 43 = .bool ((decide (((i2 : Nat) : Int) ≤ ((j : Nat) : Int))) && (!decide (d1[lo]! < d1[i2]!))))) rfl rfl rfl ⟨hs, fun h => absurd h Bool.false_ne_true, fun h => absurd h Bool.false_ne_true, fun h => absurd h Bool.false_ne_true, fun h => absurd h Bool.false_ne_true, fun h => absurd h Bool.false_ne_true, fun h => absurd h Bool.false_ne_true, fun h => absurd h Bool.false_ne_true, fun h => absurd h Bool.false_ne_true, fun h => absurd h Bool.false_ne_true, fun h => absurd h Bool.false_ne_true, fun h => absurd h Bool.false_ne_true, fun h => absurd h Bool.false_ne_true, fun h => absurd h Bool.false_ne_true, fun h => absurd h Bool.false_ne_true, fun h => absurd h Bool.false_ne_true⟩ ⟨?_, ?_, ?_, ?_, ?_, ?_, ?_, ?_, ?_, ?_, ?_, ?_, ?_, ?_, ?_, trivial⟩ ?_
        · rintro D ρ wx hD hd hdc hf ⟨hs, f0, f1, f2, f3, f4, f5, f6, f7, f8, f9, f10, f11, f12, f13, f14⟩
          have r9 : ρ 9 = .int .i64 ((i2 : Nat) : Int) := outD hf 9 rfl
          exact .inl ⟨rfl, L_move (V := .int .i64 ((i2 : Nat) : Int)) r9 ⟨hs, fun _ => rfl, f1, f2, f3, f4, f5, f6, f7, f8, f9, f10, f11, f12, f13, f14⟩⟩
        · rintro D ρ wx hD hd hdc hf ⟨hs, f0, f1, f2, f3, f4, f5, f6, f7, f8, f9, f10, f11, f12, f13, f14⟩
          have r10 : ρ 10 = .int .i64 ((j : Nat) : Int) := outD hf 10 rfl
          exact .inl ⟨rfl, L_move (V := .int .i64 ((j : Nat) : Int)) r10 ⟨hs, f0, fun _ => rfl, f2, f3, f4, f5, f6, f7, f8, f9, f10, f11, f12, f13, f14⟩⟩
        · rintro D ρ wx hD hd hdc hf ⟨hs, f0, f1, f2, f3, f4, f5, f6, f7, f8, f9, f10, f11, f12, f13, f14⟩
          have g0 := f0 (doneD hd 0 rfl)
          have g1 := f1 (doneD hd 1 rfl)
          exact .inl ⟨rfl, L_leq g0 g1 ⟨hs, f0, f1, fun _ => rfl, f3, f4, f5, f6, f7, f8, f9, f10, f11, f12, f13, f14⟩⟩
        · rintro D ρ wx hD hd hdc hf ⟨hs, f0, f1, f2, f3, f4, f5, f6, f7, f8, f9, f10, f11, f12, f13, f14⟩
          have g2 := f2 (doneD hd 2 rfl)
          exact .inl ⟨rfl, L_move (V := .bool (decide (((i2 : Nat) : Int) ≤ ((j : Nat) : Int)))) g2 ⟨hs, f0, f1, f2, fun _ => rfl, f4, f5, f6, f7, f8, f9, f10, f11, f12, f13, f14⟩⟩
        · rintro D ρ wx hD hd hdc hf ⟨hs, f0, f1, f2, f3, f4, f5, f6, f7, f8, f9, f10, f11, f12, f13, f14⟩
          have r0 : ρ 0 = .slice a N c := outD hf 0 rfl
          rcases Bool.eq_false_or_eq_true ((decide (((i2 : Nat) : Int) ≤ ((j : Nat) : Int))) == true) with hG | hG
          rotate_left
          · exact .inr ⟨(Eq.trans (wantG1 (j := 3) rfl (f3 (doneD hd 3 rfl))) hG), ⟨hs, f0, f1, f2, f3, fun _ => (condF hG).symm, f5, f6, f7, f8, f9, f10, f11, f12, f13, f14⟩⟩
          ·
            have hgd := of_decide_eq_true (eq_of_beq hG)
            exact .inl ⟨(Eq.trans (wantG1 (j := 3) rfl (f3 (doneD hd 3 rfl))) hG), L_move (V := .slice a N c) r0 ⟨hs, f0, f1, f2, f3, fun _ => (condT hG).symm, f5, f6, f7, f8, f9, f10, f11, f12, f13, f14⟩⟩
        · rintro D ρ wx hD hd hdc hf ⟨hs, f0, f1, f2, f3, f4, f5, f6, f7, f8, f9, f10, f11, f12, f13, f14⟩
          have r1 : ρ 1 = .int .i64 ((lo : Nat) : Int) := outD hf 1 rfl
          rcases Bool.eq_false_or_eq_true ((decide (((i2 : Nat) : Int) ≤ ((j : Nat) : Int))) == true) with hG | hG
          rotate_left
          · exact .inr ⟨(Eq.trans (wantG1 (j := 3) rfl (f3 (doneD hd 3 rfl))) hG), ⟨hs, f0, f1, f2, f3, f4, fun _ => (condF hG).symm, f6, f7, f8, f9, f10, f11, f12, f13, f14⟩⟩
          ·
            have hgd := of_decide_eq_true (eq_of_beq hG)
            exact .inl ⟨(Eq.trans (wantG1 (j := 3) rfl (f3 (doneD hd 3 rfl))) hG), L_move (V := .int .i64 ((lo : Nat) : Int)) r1 ⟨hs, f0, f1, f2, f3, f4, fun _ => (condT hG).symm, f6, f7, f8, f9, f10, f11, f12, f13, f14⟩⟩
        · rintro D ρ wx hD hd hdc hf ⟨hs, f0, f1, f2, f3, f4, f5, f6, f7, f8, f9, f10, f11, f12, f13, f14⟩
          have g4 := f4 (doneD hd 4 rfl)
          have g5 := f5 (doneD hd 5 rfl)
          rcases Bool.eq_false_or_eq_true ((decide (((i2 : Nat) : Int) ≤ ((j : Nat) : Int))) == true) with hG | hG
          rotate_left
          · exact .inr ⟨(Eq.trans (wantG1 (j := 3) rfl (f3 (doneD hd 3 rfl))) hG), ⟨hs, f0, f1, f2, f3, f4, f5, fun _ => (condF hG).symm, f7, f8, f9, f10, f11, f12, f13, f14⟩⟩
          ·
            have hgd := of_decide_eq_true (eq_of_beq hG)
            exact .inl ⟨(Eq.trans (wantG1 (j := 3) rfl (f3 (doneD hd 3 rfl))) hG), L_ixR UD_72 S1_57.1 (hs.rd 0 rfl) ((g4).trans (condT (by exact hG))) ((g5).trans (condT (by exact hG))) (by omega) (by simp only [List.length_map, Array.length_toList, Array.size_setIfInBounds, Go.Sort.size_swp]; omega) ⟨hs, f0, f1, f2, f3, f4, f5, fun _ => (condT hG).symm, f7, f8, f9, f10, f11, f12, f13, f14⟩⟩
        · rintro D ρ wx hD hd hdc hf ⟨hs, f0, f1, f2, f3, f4, f5, f6, f7, f8, f9, f10, f11, f12, f13, f14⟩
          have g6 := f6 (doneD hd 6 rfl)
          rcases Bool.eq_false_or_eq_true ((decide (((i2 : Nat) : Int) ≤ ((j : Nat) : Int))) == true) with hG | hG
          rotate_left
          · exact .inr ⟨(Eq.trans (wantG1 (j := 3) rfl (f3 (doneD hd 3 rfl))) hG), ⟨hs, f0, f1, f2, f3, f4, f5, f6, fun _ => (condF hG).symm, f8, f9, f10, f11, f12, f13, f14⟩⟩
          ·
            have hgd := of_decide_eq_true (eq_of_beq hG)
            exact .inl ⟨(Eq.trans (wantG1 (j := 3) rfl (f3 (doneD hd 3 rfl))) hG), L_ldR (j := 0) (V := .int .u16 (d1[lo]!)) lo S1_57 (hs.rd 0 rfl) (da_at (by omega)) rfl ((g6).trans (condT (by exact hG))) (by omega) ⟨hs, f0, f1, f2, f3, f4, f5, f6, fun _ => (condT hG).symm, f8, f9, f10, f11, f12, f13, f14⟩⟩
        · rintro D ρ wx hD hd hdc hf ⟨hs, f0, f1, f2, f3, f4, f5, f6, f7, f8, f9, f10, f11, f12, f13, f14⟩
          have r0 : ρ 0 = .slice a N c := outD hf 0 rfl
          rcases Bool.eq_false_or_eq_true ((decide (((i2 : Nat) : Int) ≤ ((j : Nat) : Int))) == true) with hG | hG
          rotate_left
          · exact .inr ⟨(Eq.trans (wantG1 (j := 3) rfl (f3 (doneD hd 3 rfl))) hG), ⟨hs, f0, f1, f2, f3, f4, f5, f6, f7, fun _ => (condF hG).symm, f9, f10, f11, f12, f13, f14⟩⟩
          ·
            have hgd := of_decide_eq_true (eq_of_beq hG)
            exact .inl ⟨(Eq.trans (wantG1 (j := 3) rfl (f3 (doneD hd 3 rfl))) hG), L_move (V := .slice a N c) r0 ⟨hs, f0, f1, f2, f3, f4, f5, f6, f7, fun _ => (condT hG).symm, f9, f10, f11, f12, f13, f14⟩⟩
        · rintro D ρ wx hD hd hdc hf ⟨hs, f0, f1, f2, f3, f4, f5, f6, f7, f8, f9, f10, f11, f12, f13, f14⟩
          have r9 : ρ 9 = .int .i64 ((i2 : Nat) : Int) := outD hf 9 rfl
          rcases Bool.eq_false_or_eq_true ((decide (((i2 : Nat) : Int) ≤ ((j : Nat) : Int))) == true) with hG | hG
          rotate_left
          · exact .inr ⟨(Eq.trans (wantG1 (j := 3) rfl (f3 (doneD hd 3 rfl))) hG), ⟨hs, f0, f1, f2, f3, f4, f5, f6, f7, f8, fun _ => (condF hG).symm, f10, f11, f12, f13, f14⟩⟩
          ·
            have hgd := of_decide_eq_true (eq_of_beq hG)
            exact .inl ⟨(Eq.trans (wantG1 (j := 3) rfl (f3 (doneD hd 3 rfl))) hG), L_move (V := .int .i64 ((i2 : Nat) : Int)) r9 ⟨hs, f0, f1, f2, f3, f4, f5, f6, f7, f8, fun _ => (condT hG).symm, f10, f11, f12, f13, f14⟩⟩
        · rintro D ρ wx hD hd hdc hf ⟨hs, f0, f1, f2, f3, f4, f5, f6, f7, f8, f9, f10, f11, f12, f13, f14⟩
          have g8 := f8 (doneD hd 8 rfl)
          have g9 := f9 (doneD hd 9 rfl)
          rcases Bool.eq_false_or_eq_true ((decide (((i2 : Nat) : Int) ≤ ((j : Nat) : Int))) == true) with hG | hG
          rotate_left
          · exact .inr ⟨(Eq.trans (wantG1 (j := 3) rfl (f3 (doneD hd 3 rfl))) hG), ⟨hs, f0, f1, f2, f3, f4, f5, f6, f7, f8, f9, fun _ => (condF hG).symm, f11, f12, f13, f14⟩⟩
          ·
            have hgd := of_decide_eq_true (eq_of_beq hG)
            exact .inl ⟨(Eq.trans (wantG1 (j := 3) rfl (f3 (doneD hd 3 rfl))) hG), L_ixR UD_72 S1_57.1 (hs.rd 0 rfl) ((g8).trans (condT (by exact hG))) ((g9).trans (condT (by exact hG))) (by omega) (by simp only [List.length_map, Array.length_toList, Array.size_setIfInBounds, Go.Sort.size_swp]; omega) ⟨hs, f0, f1, f2, f3, f4, f5, f6, f7, f8, f9, fun _ => (condT hG).symm, f11, f12, f13, f14⟩⟩
        · rintro D ρ wx hD hd hdc hf ⟨hs, f0, f1, f2, f3, f4, f5, f6, f7, f8, f9, f10, f11, f12, f13, f14⟩
          have g10 := f10 (doneD hd 10 rfl)
          rcases Bool.eq_false_or_eq_true ((decide (((i2 : Nat) : Int) ≤ ((j : Nat) : Int))) == true) with hG | hG
          rotate_left
          · exact .inr ⟨(Eq.trans (wantG1 (j := 3) rfl (f3 (doneD hd 3 rfl))) hG), ⟨hs, f0, f1, f2, f3, f4, f5, f6, f7, f8, f9, f10, fun _ => (condF hG).symm, f12, f13, f14⟩⟩
          ·
            have hgd := of_decide_eq_true (eq_of_beq hG)
            exact .inl ⟨(Eq.trans (wantG1 (j := 3) rfl (f3 (doneD hd 3 rfl))) hG), L_ldR (j := 0) (V := .int .u16 (d1[i2]!)) i2 S1_57 (hs.rd 0 rfl) (da_at (by omega)) rfl ((g10).trans (condT (by exact hG))) (by omega) ⟨hs, f0, f1, f2, f3, f4, f5, f6, f7, f8, f9, f10, fun _ => (condT hG).symm, f12, f13, f14⟩⟩
        · rintro D ρ wx hD hd hdc hf ⟨hs, f0, f1, f2, f3, f4, f5, f6, f7, f8, f9, f10, f11, f12, f13, f14⟩
          have g7 := f7 (doneD hd 7 rfl)
          have g11 := f11 (doneD hd 11 rfl)
          rcases Bool.eq_false_or_eq_true ((decide (((i2 : Nat) : Int) ≤ ((j : Nat) : Int))) == true) with hG | hG
          rotate_left
          · exact .inr ⟨(Eq.trans (wantG1 (j := 3) rfl (f3 (doneD hd 3 rfl))) hG), ⟨hs, f0, f1, f2, f3, f4, f5, f6, f7, f8, f9, f10, f11, fun _ => (condF hG).symm, f13, f14⟩⟩
          ·
            have hgd := of_decide_eq_true (eq_of_beq hG)
            exact .inl ⟨(Eq.trans (wantG1 (j := 3) rfl (f3 (doneD hd 3 rfl))) hG), L_callP (vs := [.int .u16 (d1[lo]!), .int .u16 (d1[i2]!)]) (V := .bool (decide (d1[lo]! < d1[i2]!))) EN_108 rfl (mapc ((g7).trans (condT (by exact hG))) (mapc ((g11).trans (condT (by exact hG))) rfl)) (less_ok _ (d1[lo]!) (d1[i2]!)) hs fun _ hs0 => ⟨hs0, f0, f1, f2, f3, f4, f5, f6, f7, f8, f9, f10, f11, fun _ => (condT hG).symm, f13, f14⟩⟩
        · rintro D ρ wx hD hd hdc hf ⟨hs, f0, f1, f2, f3, f4, f5, f6, f7, f8, f9, f10, f11, f12, f13, f14⟩
          have g12 := f12 (doneD hd 12 rfl)
          rcases Bool.eq_false_or_eq_true ((decide (((i2 : Nat) : Int) ≤ ((j : Nat) : Int))) == true) with hG | hG
          rotate_left
          · exact .inr ⟨(Eq.trans (wantG1 (j := 3) rfl (f3 (doneD hd 3 rfl))) hG), ⟨hs, f0, f1, f2, f3, f4, f5, f6, f7, f8, f9, f10, f11, f12, fun _ => (condF hG).symm, f14⟩⟩
          ·
            have hgd := of_decide_eq_true (eq_of_beq hG)
            exact .inl ⟨(Eq.trans (wantG1 (j := 3) rfl (f3 (doneD hd 3 rfl))) hG), L_not ((g12).trans (condT (by exact hG))) ⟨hs, f0, f1, f2, f3, f4, f5, f6, f7, f8, f9, f10, f11, f12, fun _ => (condT hG).symm, f14⟩⟩
        · rintro D ρ wx hD hd hdc hf ⟨hs, f0, f1, f2, f3, f4, f5, f6, f7, f8, f9, f10, f11, f12, f13, f14⟩
          have g3 := f3 (doneD hd 3 rfl)
          have g13 := f13 (doneD hd 13 rfl)
          exact .inl ⟨rfl, L_and g3 rfl (fun hg => ((g13).trans (condT (by first | exact beqT hg | rfl)))) ⟨hs, f0, f1, f2, f3, f4, f5, f6, f7, f8, f9, f10, f11, f12, f13, fun _ => rfl⟩⟩
        · rintro ρ1 w1 D hD hf ⟨hs, f0, f1, f2, f3, f4, f5, f6, f7, f8, f9, f10, f11, f12, f13, f14⟩
          have e14 := f14 (hD 14 rfl)
          clear f0 f1 f2 f3 f4 f5 f6 f7 f8 f9 f10 f11 f12 f13 f14
          obtain ⟨ρ2, hρ⟩ : ∃ ρ2, ρ1 = upd (mix [29, 30, 31, 32, 33, 34, 35, 36, 37, 38, 39, 40, 41, 42, 43] ρ2 _) 43 (.bool ((decide (((i2 : Nat) : Int) ≤ ((j : Nat) : Int))) && (!decide (d1[lo]! < d1[i2]!)))) := ⟨ρ1, upd_of (mix_of (ds := [29, 30, 31, 32, 33, 34, 35, 36, 37, 38, 39, 40, 41, 42, 43]) hf) e14⟩
          clear hf hD e14
          subst hρ
          refine W_cond (t := (decide (((i2 : Nat) : Int) ≤ ((j : Nat) : Int))) && (!decide (d1[lo]! < d1[i2]!))) rfl (fun c8 => ?_) (fun c8 => ?_)
          ·
            have c8r := and_r c8
            replace c8 := and_l c8
            replace c8 := of_decide_eq_true c8
            replace c8r := not_t c8r
            replace c8r := of_decide_eq_false c8r
            refine W_skip ?_
            refine W_block ?_
            refine W_region ?_
            refine RW_op (L_move (V := .int .i64 ((i2 : Nat) : Int)) rfl ?_)
            refine RW_op (L_add (a := ((i2 : Nat) : Int)) (b := 1) (c := ((i2 + 1 : Nat) : Int)) rfl rfl (nat_i64 (by omega) (by omega)) ?_)
            refine RW_op (L_assign (V := .int .i64 ((i2 + 1 : Nat) : Int)) rfl ?_)
            refine RW_nil ?_
            refine ⟨_, ?_, _, i2 + 1, upd_of (mix_of (ds := [9, 29, 30, 31, 32, 33, 34, 35, 36, 37, 38, 39, 40, 41, 42, 43, 44, 45]) (by repeat (first | exact Agr.refl _ _ | refine Agr.upd ?_ rfl | refine Agr.mix ?_ rfl))) rfl, (by omega), (by omega), (by rw [← hsu, su_yes (p := fun x => !Sort.ltInt d1[lo]! x) (b := !decide (d1[lo]! < d1[i2]!)) rfl c8 (by rw [decide_eq_false c8r]; rfl)]), rfl, hs.take 1⟩
            omega
          ·
            refine W_exit ?_
            refine W_seq ?_
            refine W_block ?_
            have hi2 : i2 = Sort.scanUp (fun x => !Sort.ltInt d1[lo]! x) d1 j i := by rw [← hsu, su_no (p := fun x => !Sort.ltInt d1[lo]! x) (b := !decide (d1[lo]! < d1[i2]!)) rfl c8]
            refine W_loopI (fun ρ m ρ' w' => ∃ (ρo : Env) (j2 : Nat), ρ' = upd (mix [10, 46, 47, 48, 49, 50, 51, 52, 53, 54, 55, 56, 57, 58, 59, 60, 61] ρo ρ) 10 (.int .i64 ((j2 : Nat) : Int)) ∧ (j2 ≤ j) ∧ (Sort.scanDown (fun x => Sort.ltInt d1[lo]! x) d1 i2 j2 = Sort.scanDown (fun x => Sort.ltInt d1[lo]! x) d1 i2 (j)) ∧ m = 2 * j2 ∧ Own w S w' [row (.slice a N c) (d1.toList.map (ic .u16)) 57 1]) ?_ ?_
            · exact ⟨_, _, j, upd_of (mix_of (ds := [10, 46, 47, 48, 49, 50, 51, 52, 53, 54, 55, 56, 57, 58, 59, 60, 61]) (Agr.refl _ _)) rfl, (Nat.le_refl _), rfl, rfl, hs⟩
            · rintro m ρ' w9 ⟨ρo, j2, rfl, hj2b, hsd, rfl, hs⟩
              refine W_seq ?_
              refine W_seq ?_
              replace hs := hs.drew
              refine W_draw2 HM [46, 47, 48, 49, 50, 51, 52, 53, 54, 55, 56, 57, 58, 59] [[], [], [0, 1], [2], [3], [3], [4, 5, 3], [6, 3], [3], [3], [8, 9, 3], [10, 3], [7, 11, 3, 3], [3, 12]] (fun D ρ wx => Own w S wx [row (.slice a N c) (d1.toList.map (ic .u16)) 57 1] ∧ (D 0 = true → ρ 46 = .int .i64 ((i2 : Nat) : Int)) ∧ (D 1 = true → ρ 47 = .int .i64 ((j2 : Nat) : Int)) ∧ (D 2 = true → ρ 48 = .bool (decide (((i2 : Nat) : Int) ≤ ((j2 : Nat) : Int)))) ∧ (D 3 = true → ρ 49 = .bool (decide (((i2 : Nat) : Int) ≤ ((j2 : Nat) : Int)))) ∧ (D 4 = true → ρ 50 = cond ((decide (((i2 : Nat) : Int) ≤ ((j2 : Nat) : Int))) == true) (.slice a N c) undef) ∧ (D 5 = true → ρ 51 = cond ((decide (((i2 : Nat) : Int) ≤ ((j2 : Nat) : Int))) == true) (.int .i64 ((lo : Nat) : Int)) undef) ∧ (D 6 = true → ρ 52 = cond ((decide (((i2 : Nat) : Int) ≤ ((j2 : Nat) : Int))) == true) (.pointer (some ⟨bkS (.slice a N c), ofS (.slice a N c) + ((lo : Nat) : Int).toNat * 1, none⟩)) undef) ∧ (D 7 = true → ρ 53 = cond ((decide (((i2 : Nat) : Int) ≤ ((j2 : Nat) : Int))) == true) (.int .u16 (d1[lo]!)) undef) ∧ (D 8 = true → ρ 54 = cond ((decide (((i2 : Nat) : Int) ≤ ((j2 : Nat) : Int))) == true) (.slice a N c) undef) ∧ (D 9 = true → ρ 55 = cond ((decide (((i2 : Nat) : Int) ≤ ((j2 : Nat) : Int))) == true) (.int .i64 ((j2 : Nat) : Int)) undef) ∧ (D 10 = true → ρ 56 = cond ((decide (((i2 : Nat) : Int) ≤ ((j2 : Nat) : Int))) == true) (.pointer (some ⟨bkS (.slice a N c), ofS (.slice a N c) + ((j2 : Nat) : Int).toNat * 1, none⟩)) undef) ∧ (D 11 = true → ρ 57 = cond ((decide (((i2 : Nat) : Int) ≤ ((j2 : Nat) : Int))) == true) (.int .u16 (d1[j2]!)) undef) ∧ (D 12 = true → ρ 58 = cond ((decide (((i2 : Nat) : Int) ≤ ((j2 : Nat) : Int))) == true) (.bool (decide (d1[lo]! < d1[j2]!))) undef) ∧ (D 13 = true → ρ 59 = .bool ((decide (((i2 : Nat) : Int) ≤ ((j2 : Nat) : Int))) && (decide (d1[lo]! < d1[j2]!))))) rfl rfl rfl ⟨hs, fun h => absurd h Bool.false_ne_true, fun h => absurd h Bool.false_ne_true, fun h => absurd h Bool.false_ne_true, fun h => absurd h Bool.false_ne_true, fun h => absurd h Bool.false_ne_true, fun h => absurd h Bool.false_ne_true, fun h => absurd h Bool.false_ne_true, fun h => absurd h Bool.false_ne_true, fun h => absurd h Bool.false_ne_true, fun h => absurd h Bool.false_ne_true, fun h => absurd h Bool.false_ne_true, fun h => absurd h Bool.false_ne_true, fun h => absurd h Bool.false_ne_true, fun h => absurd h Bool.false_ne_true⟩ ⟨?_, ?_, ?_, ?_, ?_, ?_, ?_, ?_, ?_, ?_, ?_, ?_, ?_, ?_, trivial⟩ ?_
              · rintro D ρ wx hD hd hdc hf ⟨hs, f0, f1, f2, f3, f4, f5, f6, f7, f8, f9, f10, f11, f12, f13⟩
                have r9 : ρ 9 = .int .i64 ((i2 : Nat) : Int) := outD hf 9 rfl
                exact .inl ⟨rfl, L_move (V := .int .i64 ((i2 : Nat) : Int)) r9 ⟨hs, fun _ => rfl, f1, f2, f3, f4, f5, f6, f7, f8, f9, f10, f11, f12, f13⟩⟩
              · rintro D ρ wx hD hd hdc hf ⟨hs, f0, f1, f2, f3, f4, f5, f6, f7, f8, f9, f10, f11, f12, f13⟩
                have r10 : ρ 10 = .int .i64 ((j2 : Nat) : Int) := outD hf 10 rfl
                exact .inl ⟨rfl, L_move (V := .int .i64 ((j2 : Nat) : Int)) r10 ⟨hs, f0, fun _ => rfl, f2, f3, f4, f5, f6, f7, f8, f9, f10, f11, f12, f13⟩⟩
              · rintro D ρ wx hD hd hdc hf ⟨hs, f0, f1, f2, f3, f4, f5, f6, f7, f8, f9, f10, f11, f12, f13⟩
                have g0 := f0 (doneD hd 0 rfl)
                have g1 := f1 (doneD hd 1 rfl)
                exact .inl ⟨rfl, L_leq g0 g1 ⟨hs, f0, f1, fun _ => rfl, f3, f4, f5, f6, f7, f8, f9, f10, f11, f12, f13⟩⟩
              · rintro D ρ wx hD hd hdc hf ⟨hs, f0, f1, f2, f3, f4, f5, f6, f7, f8, f9, f10, f11, f12, f13⟩
                have g2 := f2 (doneD hd 2 rfl)
                exact .inl ⟨rfl, L_move (V := .bool (decide (((i2 : Nat) : Int) ≤ ((j2 : Nat) : Int)))) g2 ⟨hs, f0, f1, f2, fun _ => rfl, f4, f5, f6, f7, f8, f9, f10, f11, f12, f13⟩⟩
              · rintro D ρ wx hD hd hdc hf ⟨hs, f0, f1, f2, f3, f4, f5, f6, f7, f8, f9, f10, f11, f12, f13⟩
                have r0 : ρ 0 = .slice a N c := outD hf 0 rfl
                rcases Bool.eq_false_or_eq_true ((decide (((i2 : Nat) : Int) ≤ ((j2 : Nat) : Int))) == true) with hG | hG
                rotate_left
                · exact .inr ⟨(Eq.trans (wantG1 (j := 3) rfl (f3 (doneD hd 3 rfl))) hG), ⟨hs, f0, f1, f2, f3, fun _ => (condF hG).symm, f5, f6, f7, f8, f9, f10, f11, f12, f13⟩⟩
                ·
                  have hgd := of_decide_eq_true (eq_of_beq hG)
                  exact .inl ⟨(Eq.trans (wantG1 (j := 3) rfl (f3 (doneD hd 3 rfl))) hG), L_move (V := .slice a N c) r0 ⟨hs, f0, f1, f2, f3, fun _ => (condT hG).symm, f5, f6, f7, f8, f9, f10, f11, f12, f13⟩⟩
              · rintro D ρ wx hD hd hdc hf ⟨hs, f0, f1, f2, f3, f4, f5, f6, f7, f8, f9, f10, f11, f12, f13⟩
                have r1 : ρ 1 = .int .i64 ((lo : Nat) : Int) := outD hf 1 rfl
                rcases Bool.eq_false_or_eq_true ((decide (((i2 : Nat) : Int) ≤ ((j2 : Nat) : Int))) == true) with hG | hG
                rotate_left
                · exact .inr ⟨(Eq.trans (wantG1 (j := 3) rfl (f3 (doneD hd 3 rfl))) hG), ⟨hs, f0, f1, f2, f3, f4, fun _ => (condF hG).symm, f6, f7, f8, f9, f10, f11, f12, f13⟩⟩
                ·
                  have hgd := of_decide_eq_true (eq_of_beq hG)
                  exact .inl ⟨(Eq.trans (wantG1 (j := 3) rfl (f3 (doneD hd 3 rfl))) hG), L_move (V := .int .i64 ((lo : Nat) : Int)) r1 ⟨hs, f0, f1, f2, f3, f4, fun _ => (condT hG).symm, f6, f7, f8, f9, f10, f11, f12, f13⟩⟩
              · rintro D ρ wx hD hd hdc hf ⟨hs, f0, f1, f2, f3, f4, f5, f6, f7, f8, f9, f10, f11, f12, f13⟩
                have g4 := f4 (doneD hd 4 rfl)
                have g5 := f5 (doneD hd 5 rfl)
                rcases Bool.eq_false_or_eq_true ((decide (((i2 : Nat) : Int) ≤ ((j2 : Nat) : Int))) == true) with hG | hG
                rotate_left
                · exact .inr ⟨(Eq.trans (wantG1 (j := 3) rfl (f3 (doneD hd 3 rfl))) hG), ⟨hs, f0, f1, f2, f3, f4, f5, fun _ => (condF hG).symm, f7, f8, f9, f10, f11, f12, f13⟩⟩
                ·
                  have hgd := of_decide_eq_true (eq_of_beq hG)
                  exact .inl ⟨(Eq.trans (wantG1 (j := 3) rfl (f3 (doneD hd 3 rfl))) hG), L_ixR UD_72 S1_57.1 (hs.rd 0 rfl) ((g4).trans (condT (by exact hG))) ((g5).trans (condT (by exact hG))) (by omega) (by simp only [List.length_map, Array.length_toList, Array.size_setIfInBounds, Go.Sort.size_swp]; omega) ⟨hs, f0, f1, f2, f3, f4, f5, fun _ => (condT hG).symm, f7, f8, f9, f10, f11, f12, f13⟩⟩
              · rintro D ρ wx hD hd hdc hf ⟨hs, f0, f1, f2, f3, f4, f5, f6, f7, f8, f9, f10, f11, f12, f13⟩
                have g6 := f6 (doneD hd 6 rfl)
                rcases Bool.eq_false_or_eq_true ((decide (((i2 : Nat) : Int) ≤ ((j2 : Nat) : Int))) == true) with hG | hG
                rotate_left
                · exact .inr ⟨(Eq.trans (wantG1 (j := 3) rfl (f3 (doneD hd 3 rfl))) hG), ⟨hs, f0, f1, f2, f3, f4, f5, f6, fun _ => (condF hG).symm, f8, f9, f10, f11, f12, f13⟩⟩
                ·
                  have hgd := of_decide_eq_true (eq_of_beq hG)
                  exact .inl ⟨(Eq.trans (wantG1 (j := 3) rfl (f3 (doneD hd 3 rfl))) hG), L_ldR (j := 0) (V := .int .u16 (d1[lo]!)) lo S1_57 (hs.rd 0 rfl) (da_at (by omega)) rfl ((g6).trans (condT (by exact hG))) (by omega) ⟨hs, f0, f1, f2, f3, f4, f5, f6, fun _ => (condT hG).symm, f8, f9, f10, f11, f12, f13⟩⟩
              · rintro D ρ wx hD hd hdc hf ⟨hs, f0, f1, f2, f3, f4, f5, f6, f7, f8, f9, f10, f11, f12, f13⟩
                have r0 : ρ 0 = .slice a N c := outD hf 0 rfl
                rcases Bool.eq_false_or_eq_true ((decide (((i2 : Nat) : Int) ≤ ((j2 : Nat) : Int))) == true) with hG | hG
                rotate_left
                · exact .inr ⟨(Eq.trans (wantG1 (j := 3) rfl (f3 (doneD hd 3 rfl))) hG), ⟨hs, f0, f1, f2, f3, f4, f5, f6, f7, fun _ => (condF hG).symm, f9, f10, f11, f12, f13⟩⟩
                ·
                  have hgd := of_decide_eq_true (eq_of_beq hG)
                  exact .inl ⟨(Eq.trans (wantG1 (j := 3) rfl (f3 (doneD hd 3 rfl))) hG), L_move (V := .slice a N c) r0 ⟨hs, f0, f1, f2, f3, f4, f5, f6, f7, fun _ => (condT hG).symm, f9, f10, f11, f12, f13⟩⟩
              · rintro D ρ wx hD hd hdc hf ⟨hs, f0, f1, f2, f3, f4, f5, f6, f7, f8, f9, f10, f11, f12, f13⟩
                have r10 : ρ 10 = .int .i64 ((j2 : Nat) : Int) := outD hf 10 rfl
                rcases Bool.eq_false_or_eq_true ((decide (((i2 : Nat) : Int) ≤ ((j2 : Nat) : Int))) == true) with hG | hG
                rotate_left
                · exact .inr ⟨(Eq.trans (wantG1 (j := 3) rfl (f3 (doneD hd 3 rfl))) hG), ⟨hs, f0, f1, f2, f3, f4, f5, f6, f7, f8, fun _ => (condF hG).symm, f10, f11, f12, f13⟩⟩
                ·
                  have hgd := of_decide_eq_true (eq_of_beq hG)
                  exact .inl ⟨(Eq.trans (wantG1 (j := 3) rfl (f3 (doneD hd 3 rfl))) hG), L_move (V := .int .i64 ((j2 : Nat) : Int)) r10 ⟨hs, f0, f1, f2, f3, f4, f5, f6, f7, f8, fun _ => (condT hG).symm, f10, f11, f12, f13⟩⟩
              · rintro D ρ wx hD hd hdc hf ⟨hs, f0, f1, f2, f3, f4, f5, f6, f7, f8, f9, f10, f11, f12, f13⟩
                have g8 := f8 (doneD hd 8 rfl)
                have g9 := f9 (doneD hd 9 rfl)
                rcases Bool.eq_false_or_eq_true ((decide (((i2 : Nat) : Int) ≤ ((j2 : Nat) : Int))) == true) with hG | hG
                rotate_left
                · exact .inr ⟨(Eq.trans (wantG1 (j := 3) rfl (f3 (doneD hd 3 rfl))) hG), ⟨hs, f0, f1, f2, f3, f4, f5, f6, f7, f8, f9, fun _ => (condF hG).symm, f11, f12, f13⟩⟩
                ·
                  have hgd := of_decide_eq_true (eq_of_beq hG)
                  exact .inl ⟨(Eq.trans (wantG1 (j := 3) rfl (f3 (doneD hd 3 rfl))) hG), L_ixR UD_72 S1_57.1 (hs.rd 0 rfl) ((g8).trans (condT (by exact hG))) ((g9).trans (condT (by exact hG))) (by omega) (by simp only [List.length_map, Array.length_toList, Array.size_setIfInBounds, Go.Sort.size_swp]; omega) ⟨hs, f0, f1, f2, f3, f4, f5, f6, f7, f8, f9, fun _ => (condT hG).symm, f11, f12, f13⟩⟩
              · rintro D ρ wx hD hd hdc hf ⟨hs, f0, f1, f2, f3, f4, f5, f6, f7, f8, f9, f10, f11, f12, f13⟩
                have g10 := f10 (doneD hd 10 rfl)
                rcases Bool.eq_false_or_eq_true ((decide (((i2 : Nat) : Int) ≤ ((j2 : Nat) : Int))) == true) with hG | hG
                rotate_left
                · exact .inr ⟨(Eq.trans (wantG1 (j := 3) rfl (f3 (doneD hd 3 rfl))) hG), ⟨hs, f0, f1, f2, f3, f4, f5, f6, f7, f8, f9, f10, fun _ => (condF hG).symm, f12, f13⟩⟩
                ·
                  have hgd := of_decide_eq_true (eq_of_beq hG)
                  exact .inl ⟨(Eq.trans (wantG1 (j := 3) rfl (f3 (doneD hd 3 rfl))) hG), L_ldR (j := 0) (V := .int .u16 (d1[j2]!)) j2 S1_57 (hs.rd 0 rfl) (da_at (by omega)) rfl ((g10).trans (condT (by exact hG))) (by omega) ⟨hs, f0, f1, f2, f3, f4, f5, f6, f7, f8, f9, f10, fun _ => (condT hG).symm, f12, f13⟩⟩
              · rintro D ρ wx hD hd hdc hf ⟨hs, f0, f1, f2, f3, f4, f5, f6, f7, f8, f9, f10, f11, f12, f13⟩
                have g7 := f7 (doneD hd 7 rfl)
                have g11 := f11 (doneD hd 11 rfl)
                rcases Bool.eq_false_or_eq_true ((decide (((i2 : Nat) : Int) ≤ ((j2 : Nat) : Int))) == true) with hG | hG
                rotate_left
                · exact .inr ⟨(Eq.trans (wantG1 (j := 3) rfl (f3 (doneD hd 3 rfl))) hG), ⟨hs, f0, f1, f2, f3, f4, f5, f6, f7, f8, f9, f10, f11, fun _ => (condF hG).symm, f13⟩⟩
                ·
                  have hgd := of_decide_eq_true (eq_of_beq hG)
                  exact .inl ⟨(Eq.trans (wantG1 (j := 3) rfl (f3 (doneD hd 3 rfl))) hG), L_callP (vs := [.int .u16 (d1[lo]!), .int .u16 (d1[j2]!)]) (V := .bool (decide (d1[lo]! < d1[j2]!))) EN_108 rfl (mapc ((g7).trans (condT (by exact hG))) (mapc ((g11).trans (condT (by exact hG))) rfl)) (less_ok _ (d1[lo]!) (d1[j2]!)) hs fun _ hs0 => ⟨hs0, f0, f1, f2, f3, f4, f5, f6, f7, f8, f9, f10, f11, fun _ => (condT hG).symm, f13⟩⟩
              · rintro D ρ wx hD hd hdc hf ⟨hs, f0, f1, f2, f3, f4, f5, f6, f7, f8, f9, f10, f11, f12, f13⟩
                have g3 := f3 (doneD hd 3 rfl)
                have g12 := f12 (doneD hd 12 rfl)
                exact .inl ⟨rfl, L_and g3 rfl (fun hg => ((g12).trans (condT (by first | exact beqT hg | rfl)))) ⟨hs, f0, f1, f2, f3, f4, f5, f6, f7, f8, f9, f10, f11, f12, fun _ => rfl⟩⟩
              · rintro ρ1 w1 D hD hf ⟨hs, f0, f1, f2, f3, f4, f5, f6, f7, f8, f9, f10, f11, f12, f13⟩
                have e13 := f13 (hD 13 rfl)
                clear f0 f1 f2 f3 f4 f5 f6 f7 f8 f9 f10 f11 f12 f13
                obtain ⟨ρ2, hρ⟩ : ∃ ρ2, ρ1 = upd (mix [46, 47, 48, 49, 50, 51, 52, 53, 54, 55, 56, 57, 58, 59] ρ2 _) 59 (.bool ((decide (((i2 : Nat) : Int) ≤ ((j2 : Nat) : Int))) && (decide (d1[lo]! < d1[j2]!)))) := ⟨ρ1, upd_of (mix_of (ds := [46, 47, 48, 49, 50, 51, 52, 53, 54, 55, 56, 57, 58, 59]) hf) e13⟩
                clear hf hD e13
                subst hρ
                refine W_cond (t := (decide (((i2 : Nat) : Int) ≤ ((j2 : Nat) : Int))) && (decide (d1[lo]! < d1[j2]!))) rfl (fun c12 => ?_) (fun c12 => ?_)
                ·
                  have c12r := and_r c12
                  replace c12 := and_l c12
                  replace c12 := of_decide_eq_true c12
                  replace c12r := of_decide_eq_true c12r
                  refine W_skip ?_
                  refine W_block ?_
                  refine W_region ?_
                  refine RW_op (L_move (V := .int .i64 ((j2 : Nat) : Int)) rfl ?_)
                  refine RW_op (L_sub (a := ((j2 : Nat) : Int)) (b := 1) (c := ((j2 - 1 : Nat) : Int)) rfl rfl (nat_i64 (by omega) (by omega)) ?_)
                  refine RW_op (L_assign (V := .int .i64 ((j2 - 1 : Nat) : Int)) rfl ?_)
                  refine RW_nil ?_
                  refine ⟨_, ?_, _, j2 - 1, upd_of (mix_of (ds := [10, 46, 47, 48, 49, 50, 51, 52, 53, 54, 55, 56, 57, 58, 59, 60, 61]) (by repeat (first | exact Agr.refl _ _ | refine Agr.upd ?_ rfl | refine Agr.mix ?_ rfl))) rfl, (by omega), (by rw [← hsd, sw_yes (p := fun x => Sort.ltInt d1[lo]! x) (b := decide (d1[lo]! < d1[j2]!)) (by omega) rfl c12 (decide_eq_true c12r)]), rfl, hs.take 1⟩
                  omega
                ·
                  refine W_exit ?_
                  refine W_seq ?_
                  refine W_seq ?_
                  have hj2 : j2 = Sort.scanDown (fun x => Sort.ltInt d1[lo]! x) d1 i2 j := by rw [← hsd, sw_no (p := fun x => Sort.ltInt d1[lo]! x) (b := decide (d1[lo]! < d1[j2]!)) rfl c12]
                  refine W_region ?_
                  refine RW_op (L_move (V := .int .i64 ((i2 : Nat) : Int)) rfl ?_)
                  refine RW_op (L_move (V := .int .i64 ((j2 : Nat) : Int)) rfl ?_)
                  refine RW_op (L_gtr rfl rfl ?_)
                  refine RW_nil ?_
                  refine W_cond (t := decide (((j2 : Nat) : Int) < ((i2 : Nat) : Int))) rfl (fun c13 => ?_) (fun c13 => ?_)
                  ·
                    replace c13 := of_decide_eq_true c13
                    refine W_exit ?_
                    refine W_seq ?_
                    refine W_region ?_
                    refine RW_op (L_move (V := .int .i64 ((i2 : Nat) : Int)) rfl ?_)
                    refine RW_op (L_assign (V := .int .i64 ((i2 : Nat) : Int)) rfl ?_)
                    refine RW_nil ?_
                    refine W_ret ?_
                    refine ⟨_, res_one (V := .int .i64 ((i2 : Nat) : Int)) Try.results109 rfl, ?_⟩
                    have hX : Sort.partitionEqual Sort.ltInt d lo hi pv = (i2, d1) := by rw [← hev, pe_stop hi2 hj2 c13]
                    rw [hX]
                    exact ⟨(), rfl, hs.take 1, hz1⟩
                  ·
                    replace c13 := of_decide_eq_false c13
                    refine W_skip ?_
                    refine W_seq ?_
                    replace hs := hs.drew
                    refine W_draw2 HM [65, 66, 67, 68, 69, 70, 71, 72, 73, 74, 75, 76, 77, 78] [[], [], [], [], [], [], [4, 5], [6], [], [], [8, 9], [10], [0, 1, 0, 1, 4, 5, 6, 7, 11], [12, 7, 0, 1, 4, 5, 6, 7, 11], [2, 3, 0, 1, 2, 3, 4, 5, 6, 7, 8, 9, 10, 11, 12, 13], [14, 11, 13, 0, 1, 2, 3, 4, 5, 6, 7, 8, 9, 10, 11, 12, 13]] (fun D ρ wx => Own w S wx [cond (D 15) (row (.slice a N c) ((((d1.setIfInBounds i2 (d1[j2]!)).setIfInBounds j2 (d1[i2]!)).toList).map (ic .u16)) 57 1) (cond (D 13) (row (.slice a N c) (((d1.setIfInBounds i2 (d1[j2]!)).toList).map (ic .u16)) 57 1) (row (.slice a N c) (d1.toList.map (ic .u16)) 57 1))] ∧ (D 0 = true → ρ 65 = .slice a N c) ∧ (D 1 = true → ρ 66 = .int .i64 ((i2 : Nat) : Int)) ∧ (D 2 = true → ρ 67 = .slice a N c) ∧ (D 3 = true → ρ 68 = .int .i64 ((j2 : Nat) : Int)) ∧ (D 4 = true → ρ 69 = .slice a N c) ∧ (D 5 = true → ρ 70 = .int .i64 ((j2 : Nat) : Int)) ∧ (D 6 = true → ρ 71 = .pointer (some ⟨bkS (.slice a N c), ofS (.slice a N c) + ((j2 : Nat) : Int).toNat * 1, none⟩)) ∧ (D 7 = true → ρ 72 = .int .u16 (d1[j2]!)) ∧ (D 8 = true → ρ 73 = .slice a N c) ∧ (D 9 = true → ρ 74 = .int .i64 ((i2 : Nat) : Int)) ∧ (D 10 = true → ρ 75 = .pointer (some ⟨bkS (.slice a N c), ofS (.slice a N c) + ((i2 : Nat) : Int).toNat * 1, none⟩)) ∧ (D 11 = true → ρ 76 = .int .u16 (d1[i2]!)) ∧ (D 12 = true → ρ 77 = .pointer (some ⟨bkS (.slice a N c), ofS (.slice a N c) + ((i2 : Nat) : Int).toNat * 1, none⟩)) ∧ (True) ∧ (D 14 = true → ρ 78 = .pointer (some ⟨bkS (.slice a N c), ofS (.slice a N c) + ((j2 : Nat) : Int).toNat * 1, none⟩)) ∧ (True)) rfl rfl rfl ⟨hs, fun h => absurd h Bool.false_ne_true, fun h => absurd h Bool.false_ne_true, fun h => absurd h Bool.false_ne_true, fun h => absurd h Bool.false_ne_true, fun h => absurd h Bool.false_ne_true, fun h => absurd h Bool.false_ne_true, fun h => absurd h Bool.false_ne_true, fun h => absurd h Bool.false_ne_true, fun h => absurd h Bool.false_ne_true, fun h => absurd h Bool.false_ne_true, fun h => absurd h Bool.false_ne_true, fun h => absurd h Bool.false_ne_true, fun h => absurd h Bool.false_ne_true, trivial, fun h => absurd h Bool.false_ne_true, trivial⟩ ⟨?_, ?_, ?_, ?_, ?_, ?_, ?_, ?_, ?_, ?_, ?_, ?_, ?_, ?_, ?_, ?_, trivial⟩ ?_
                    · rintro D ρ wx hD hd hdc hf ⟨hs, f0, f1, f2, f3, f4, f5, f6, f7, f8, f9, f10, f11, f12, f13, f14, f15⟩
                      have r0 : ρ 0 = .slice a N c := outD hf 0 rfl
                      exact .inl ⟨rfl, L_move (V := .slice a N c) r0 ⟨hs, fun _ => rfl, f1, f2, f3, f4, f5, f6, f7, f8, f9, f10, f11, f12, f13, f14, f15⟩⟩
                    · rintro D ρ wx hD hd hdc hf ⟨hs, f0, f1, f2, f3, f4, f5, f6, f7, f8, f9, f10, f11, f12, f13, f14, f15⟩
                      have r9 : ρ 9 = .int .i64 ((i2 : Nat) : Int) := outD hf 9 rfl
                      exact .inl ⟨rfl, L_move (V := .int .i64 ((i2 : Nat) : Int)) r9 ⟨hs, f0, fun _ => rfl, f2, f3, f4, f5, f6, f7, f8, f9, f10, f11, f12, f13, f14, f15⟩⟩
                    · rintro D ρ wx hD hd hdc hf ⟨hs, f0, f1, f2, f3, f4, f5, f6, f7, f8, f9, f10, f11, f12, f13, f14, f15⟩
                      have r0 : ρ 0 = .slice a N c := outD hf 0 rfl
                      exact .inl ⟨rfl, L_move (V := .slice a N c) r0 ⟨hs, f0, f1, fun _ => rfl, f3, f4, f5, f6, f7, f8, f9, f10, f11, f12, f13, f14, f15⟩⟩
                    · rintro D ρ wx hD hd hdc hf ⟨hs, f0, f1, f2, f3, f4, f5, f6, f7, f8, f9, f10, f11, f12, f13, f14, f15⟩
                      have r10 : ρ 10 = .int .i64 ((j2 : Nat) : Int) := outD hf 10 rfl
                      exact .inl ⟨rfl, L_move (V := .int .i64 ((j2 : Nat) : Int)) r10 ⟨hs, f0, f1, f2, fun _ => rfl, f4, f5, f6, f7, f8, f9, f10, f11, f12, f13, f14, f15⟩⟩
                    · rintro D ρ wx hD hd hdc hf ⟨hs, f0, f1, f2, f3, f4, f5, f6, f7, f8, f9, f10, f11, f12, f13, f14, f15⟩
                      have r0 : ρ 0 = .slice a N c := outD hf 0 rfl
                      exact .inl ⟨rfl, L_move (V := .slice a N c) r0 ⟨hs, f0, f1, f2, f3, fun _ => rfl, f5, f6, f7, f8, f9, f10, f11, f12, f13, f14, f15⟩⟩
                    · rintro D ρ wx hD hd hdc hf ⟨hs, f0, f1, f2, f3, f4, f5, f6, f7, f8, f9, f10, f11, f12, f13, f14, f15⟩
                      have r10 : ρ 10 = .int .i64 ((j2 : Nat) : Int) := outD hf 10 rfl
                      exact .inl ⟨rfl, L_move (V := .int .i64 ((j2 : Nat) : Int)) r10 ⟨hs, f0, f1, f2, f3, f4, fun _ => rfl, f6, f7, f8, f9, f10, f11, f12, f13, f14, f15⟩⟩
                    · rintro D ρ wx hD hd hdc hf ⟨hs, f0, f1, f2, f3, f4, f5, f6, f7, f8, f9, f10, f11, f12, f13, f14, f15⟩
                      have g4 := f4 (doneD hd 4 rfl)
                      have g5 := f5 (doneD hd 5 rfl)
                      have d13 : D 13 = false := (notYetD hdc (j := 13) rfl rfl hD)
                      have d15 : D 15 = false := (notYetD hdc (j := 15) rfl rfl hD)
                      have hs0 := hs; rw [d13, d15] at hs0
                      exact .inl ⟨rfl, L_ixR UD_72 S1_57.1 (hs0.rd 0 rfl) g4 g5 (by omega) (by simp only [List.length_map, Array.length_toList, Array.size_setIfInBounds, Go.Sort.size_swp]; omega) ⟨hs, f0, f1, f2, f3, f4, f5, fun _ => rfl, f7, f8, f9, f10, f11, f12, f13, f14, f15⟩⟩
                    · rintro D ρ wx hD hd hdc hf ⟨hs, f0, f1, f2, f3, f4, f5, f6, f7, f8, f9, f10, f11, f12, f13, f14, f15⟩
                      have g6 := f6 (doneD hd 6 rfl)
                      have d13 : D 13 = false := (notYetD hdc (j := 13) rfl rfl hD)
                      have d15 : D 15 = false := (notYetD hdc (j := 15) rfl rfl hD)
                      have hs0 := hs; rw [d13, d15] at hs0
                      exact .inl ⟨rfl, L_ldR (j := 0) (V := .int .u16 (d1[j2]!)) j2 S1_57 (hs0.rd 0 rfl) (da_at (by omega)) rfl g6 (by omega) ⟨hs, f0, f1, f2, f3, f4, f5, f6, fun _ => rfl, f8, f9, f10, f11, f12, f13, f14, f15⟩⟩
                    · rintro D ρ wx hD hd hdc hf ⟨hs, f0, f1, f2, f3, f4, f5, f6, f7, f8, f9, f10, f11, f12, f13, f14, f15⟩
                      have r0 : ρ 0 = .slice a N c := outD hf 0 rfl
                      exact .inl ⟨rfl, L_move (V := .slice a N c) r0 ⟨hs, f0, f1, f2, f3, f4, f5, f6, f7, fun _ => rfl, f9, f10, f11, f12, f13, f14, f15⟩⟩
                    · rintro D ρ wx hD hd hdc hf ⟨hs, f0, f1, f2, f3, f4, f5, f6, f7, f8, f9, f10, f11, f12, f13, f14, f15⟩
                      have r9 : ρ 9 = .int .i64 ((i2 : Nat) : Int) := outD hf 9 rfl
                      exact .inl ⟨rfl, L_move (V := .int .i64 ((i2 : Nat) : Int)) r9 ⟨hs, f0, f1, f2, f3, f4, f5, f6, f7, f8, fun _ => rfl, f10, f11, f12, f13, f14, f15⟩⟩
                    · rintro D ρ wx hD hd hdc hf ⟨hs, f0, f1, f2, f3, f4, f5, f6, f7, f8, f9, f10, f11, f12, f13, f14, f15⟩
                      have g8 := f8 (doneD hd 8 rfl)
                      have g9 := f9 (doneD hd 9 rfl)
                      have d13 : D 13 = false := (notYetD hdc (j := 13) rfl rfl (notYetD hdc (j := 11) rfl rfl hD))
                      have d15 : D 15 = false := (notYetD hdc (j := 15) rfl rfl hD)
                      have hs0 := hs; rw [d13, d15] at hs0
                      exact .inl ⟨rfl, L_ixR UD_72 S1_57.1 (hs0.rd 0 rfl) g8 g9 (by omega) (by simp only [List.length_map, Array.length_toList, Array.size_setIfInBounds, Go.Sort.size_swp]; omega) ⟨hs, f0, f1, f2, f3, f4, f5, f6, f7, f8, f9, fun _ => rfl, f11, f12, f13, f14, f15⟩⟩
                    · rintro D ρ wx hD hd hdc hf ⟨hs, f0, f1, f2, f3, f4, f5, f6, f7, f8, f9, f10, f11, f12, f13, f14, f15⟩
                      have g10 := f10 (doneD hd 10 rfl)
                      have d13 : D 13 = false := (notYetD hdc (j := 13) rfl rfl hD)
                      have d15 : D 15 = false := (notYetD hdc (j := 15) rfl rfl hD)
                      have hs0 := hs; rw [d13, d15] at hs0
                      exact .inl ⟨rfl, L_ldR (j := 0) (V := .int .u16 (d1[i2]!)) i2 S1_57 (hs0.rd 0 rfl) (da_at (by omega)) rfl g10 (by omega) ⟨hs, f0, f1, f2, f3, f4, f5, f6, f7, f8, f9, f10, fun _ => rfl, f12, f13, f14, f15⟩⟩
                    · rintro D ρ wx hD hd hdc hf ⟨hs, f0, f1, f2, f3, f4, f5, f6, f7, f8, f9, f10, f11, f12, f13, f14, f15⟩
                      have g0 := f0 (doneD hd 0 rfl)
                      have g1 := f1 (doneD hd 1 rfl)
                      have d13 : D 13 = false := (notYetD hdc (j := 13) rfl rfl hD)
                      have d15 : D 15 = false := (notYetD hdc (j := 15) rfl rfl hD)
                      have hs0 := hs; rw [d13, d15] at hs0
                      exact .inl ⟨rfl, L_ixR UD_72 S1_57.1 (hs0.rd 0 rfl) g0 g1 (by omega) (by simp only [List.length_map, Array.length_toList, Array.size_setIfInBounds, Go.Sort.size_swp]; omega) ⟨hs, f0, f1, f2, f3, f4, f5, f6, f7, f8, f9, f10, f11, fun _ => rfl, f13, f14, f15⟩⟩
                    · rintro D ρ wx hD hd hdc hf ⟨hs, f0, f1, f2, f3, f4, f5, f6, f7, f8, f9, f10, f11, f12, f13, f14, f15⟩
                      have g7 := f7 (doneD hd 7 rfl)
                      have g12 := f12 (doneD hd 12 rfl)
                      have d13 : D 13 = false := hD
                      have d15 : D 15 = false := (notYetD hdc (j := 15) rfl rfl hD)
                      have hs0 := hs; rw [d13, d15] at hs0
                      refine .inl ⟨rfl, L_stA (z := d1[j2]!) i2 S1_57 hs0 0 rfl g12 (by omega) (by first | omega | (simp only [Array.size_setIfInBounds, Go.Sort.size_swp]; omega)) g7 rfl rfl fun _ hs0 => ⟨?_, f0, f1, f2, f3, f4, f5, f6, f7, f8, f9, f10, f11, f12, trivial, f14, f15⟩⟩
                      rw [show Go.Vx.mark D 13 15 = false from d15]
                      exact hs0
                    · rintro D ρ wx hD hd hdc hf ⟨hs, f0, f1, f2, f3, f4, f5, f6, f7, f8, f9, f10, f11, f12, f13, f14, f15⟩
                      have g2 := f2 (doneD hd 2 rfl)
                      have g3 := f3 (doneD hd 3 rfl)
                      have d13 : D 13 = true := doneD hd 13 rfl
                      have d15 : D 15 = false := (notYetD hdc (j := 15) rfl rfl hD)
                      have hs0 := hs; rw [d13, d15] at hs0
                      exact .inl ⟨rfl, L_ixR UD_72 S1_57.1 (hs0.rd 0 rfl) g2 g3 (by omega) (by simp only [List.length_map, Array.length_toList, Array.size_setIfInBounds, Go.Sort.size_swp]; omega) ⟨hs, f0, f1, f2, f3, f4, f5, f6, f7, f8, f9, f10, f11, f12, f13, fun _ => rfl, f15⟩⟩
                    · rintro D ρ wx hD hd hdc hf ⟨hs, f0, f1, f2, f3, f4, f5, f6, f7, f8, f9, f10, f11, f12, f13, f14, f15⟩
                      have g11 := f11 (doneD hd 11 rfl)
                      have g14 := f14 (doneD hd 14 rfl)
                      have d13 : D 13 = true := doneD hd 13 rfl
                      have d15 : D 15 = false := hD
                      have hs0 := hs; rw [d13, d15] at hs0
                      refine .inl ⟨rfl, L_stA (z := d1[i2]!) j2 S1_57 hs0 0 rfl g14 (by omega) (by first | omega | (simp only [Array.size_setIfInBounds, Go.Sort.size_swp]; omega)) g11 rfl rfl fun _ hs0 => ⟨?_, f0, f1, f2, f3, f4, f5, f6, f7, f8, f9, f10, f11, f12, f13, f14, trivial⟩⟩
                      rw [show Go.Vx.mark D 15 13 = true from d13]
                      exact hs0
                    · rintro ρ1 w1 D hD hf ⟨hs, f0, f1, f2, f3, f4, f5, f6, f7, f8, f9, f10, f11, f12, f13, f14, f15⟩
                      rw [hD 13 rfl, hD 15 rfl] at hs
                      clear f0 f1 f2 f3 f4 f5 f6 f7 f8 f9 f10 f11 f12 f13 f14 f15
                      obtain ⟨ρ2, hρ⟩ : ∃ ρ2, ρ1 = mix [65, 66, 67, 68, 69, 70, 71, 72, 73, 74, 75, 76, 77, 78] ρ2 _ := ⟨ρ1, mix_of (ds := [65, 66, 67, 68, 69, 70, 71, 72, 73, 74, 75, 76, 77, 78]) hf⟩
                      clear hf hD
                      subst hρ
                      refine W_seq ?_
                      refine W_region ?_
                      refine RW_op (L_move (V := .int .i64 ((i2 : Nat) : Int)) rfl ?_)
                      refine RW_op (L_add (a := ((i2 : Nat) : Int)) (b := 1) (c := ((i2 + 1 : Nat) : Int)) rfl rfl (nat_i64 (by omega) (by omega)) ?_)
                      refine RW_op (L_assign (V := .int .i64 ((i2 + 1 : Nat) : Int)) rfl ?_)
                      refine RW_nil ?_
                      refine W_region ?_
                      refine RW_op (L_move (V := .int .i64 ((j2 : Nat) : Int)) rfl ?_)
                      refine RW_op (L_sub (a := ((j2 : Nat) : Int)) (b := 1) (c := ((j2 - 1 : Nat) : Int)) rfl rfl (nat_i64 (by omega) (by omega)) ?_)
                      refine RW_op (L_assign (V := .int .i64 ((j2 - 1 : Nat) : Int)) rfl ?_)
                      refine RW_nil ?_
                      refine ⟨_, ?_, _, i2 + 1, j2 - 1, ((d1.setIfInBounds i2 (d1[j2]!)).setIfInBounds j2 (d1[i2]!)), upd_of (upd_of (mix_of (ds := [9, 10, 29, 30, 31, 32, 33, 34, 35, 36, 37, 38, 39, 40, 41, 42, 43, 44, 45, 46, 47, 48, 49, 50, 51, 52, 53, 54, 55, 56, 57, 58, 59, 60, 61, 62, 63, 64, 65, 66, 67, 68, 69, 70, 71, 72, 73, 74, 75, 76, 77, 78, 79, 80, 81, 82]) (by repeat (first | exact Agr.refl _ _ | refine Agr.upd ?_ rfl | refine Agr.mix ?_ rfl))) rfl) rfl, (by omega), (by omega), (by omega), (by simp only [Array.size_setIfInBounds]; exact hz1), (by rw [← hev, pe_go hi2 hj2 c13]; rfl), rfl, hs.take 1⟩
                      omega
end Ts
end Go.Proofs
namespace Go.Proofs
open Go Go.Vx Go.RowKit
namespace Ts
set_option maxRecDepth 20000 in
set_option maxHeartbeats 4000000 in
theorem pt_ok (w : World) (S : Nat → Prop) (a : Option Addr) (N c : Nat) (d : Array Int) (hsz : d.size = N) (hN : N ≤ 2305843009213693951) (lo hi pv : Nat) (h1 : lo ≤ pv) (h2 : pv < hi) (h3 : hi ≤ N) (hR : (row (.slice a N c) (d.toList.map (ic .u16)) 57 1).holds w S) (hlt : ∀ x, S x → x < w.heap.size) : Calls Try.prog 110 #[.slice a N c, .int .i64 ((lo : Nat) : Int), .int .i64 ((hi : Nat) : Int), .int .i64 ((pv : Nat) : Int)] w (fun e w' => ∃ _u : Unit, e = .returned (.tuple #[.int .i64 (((Sort.partition Sort.ltInt d lo hi pv).1 : Nat) : Int), .bool (Sort.partition Sort.ltInt d lo hi pv).2.1]) ∧ Own w S w' [row (.slice a N c) (((Sort.partition Sort.ltInt d lo hi pv).2.2).toList.map (ic .u16)) 57 1] ∧ (Sort.partition Sort.ltInt d lo hi pv).2.2.size = N) := by
  refine calls_of_Wn (n := 168) Try.func110 rfl Try.ntmps110 rfl ?_
  have hs := Own.lent hR hlt
  refine W_seq ?_
  refine W_region ?_
  refine RW_op (L_assign (V := .int .i64 0) rfl ?_)
  refine RW_op (L_assign (V := .bool false) rfl ?_)
  refine RW_nil ?_
  refine W_seq ?_
  replace hs := hs.drew
  refine W_draw2 HM [12, 13, 14, 15, 16, 17, 18, 19, 20, 21, 22, 23, 24, 25] [[], [], [], [], [], [], [4, 5], [6], [], [], [8, 9], [10], [0, 1, 0, 1, 4, 5, 6, 7, 11], [12, 7, 0, 1, 4, 5, 6, 7, 11], [2, 3, 0, 1, 2, 3, 4, 5, 6, 7, 8, 9, 10, 11, 12, 13], [14, 11, 13, 0, 1, 2, 3, 4, 5, 6, 7, 8, 9, 10, 11, 12, 13]] (fun D ρ wx => Own w S wx [cond (D 15) (row (.slice a N c) ((((d.setIfInBounds lo (d[pv]!)).setIfInBounds pv (d[lo]!)).toList).map (ic .u16)) 57 1) (cond (D 13) (row (.slice a N c) (((d.setIfInBounds lo (d[pv]!)).toList).map (ic .u16)) 57 1) (row (.slice a N c) (d.toList.map (ic .u16)) 57 1))] ∧ (D 0 = true → ρ 12 = .slice a N c) ∧ (D 1 = true → ρ 13 = .int .i64 ((lo : Nat) : Int)) ∧ (D 2 = true → ρ 14 = .slice a N c) ∧ (D 3 = true → ρ 15 = .int .i64 ((pv : Nat) : Int)) ∧ (D 4 = true → ρ 16 = .slice a N c) ∧ (D 5 = true → ρ 17 = .int .i64 ((pv : Nat) : Int)) ∧ (D 6 = true → ρ 18 = .pointer (some ⟨bkS (.slice a N c), ofS (.slice a N c) + ((pv : Nat) : Int).toNat * 1, none⟩)) ∧ (D 7 = true → ρ 19 = .int .u16 (d[pv]!)) ∧ (D 8 = true → ρ 20 = .slice a N c) ∧ (D 9 = true → ρ 21 = .int .i64 ((lo : Nat) : Int)) ∧ (D 10 = true → ρ 22 = .pointer (some ⟨bkS (.slice a N c), ofS (.slice a N c) + ((lo : Nat) : Int).toNat * 1, none⟩)) ∧ (D 11 = true → ρ 23 = .int .u16 (d[lo]!)) ∧ (D 12 = true → ρ 24 = .pointer (some ⟨bkS (.slice a N c), ofS (.slice a N c) + ((lo : Nat) : Int).toNat * 1, none⟩)) ∧ (True) ∧ (D 14 = true → ρ 25 = .pointer (some ⟨bkS (.slice a N c), ofS (.slice a N c) + ((pv : Nat) : Int).toNat * 1, none⟩)) ∧ (True)) rfl rfl rfl ⟨hs, fun h => absurd h Bool.false_ne_true, fun h => absurd h Bool.false_ne_true, fun h => absurd h Bool.false_ne_true, fun h => absurd h Bool.false_ne_true, fun h => absurd h Bool.false_ne_true, fun h => absurd h Bool.false_ne_true, fun h => absurd h Bool.false_ne_true, fun h => absurd h Bool.false_ne_true, fun h => absurd h Bool.false_ne_true, fun h => absurd h Bool.false_ne_true, fun h => absurd h Bool.false_ne_true, fun h => absurd h Bool.false_ne_true, fun h => absurd h Bool.false_ne_true, trivial, fun h => absurd h Bool.false_ne_true, trivial⟩ ⟨?_, ?_, ?_, ?_, ?_, ?_, ?_, ?_, ?_, ?_, ?_, ?_, ?_, ?_, ?_, ?_, trivial⟩ ?_
  · rintro D ρ wx hD hd hdc hf ⟨hs, f0, f1, f2, f3, f4, f5, f6, f7, f8, f9, f10, f11, f12, f13, f14, f15⟩
    have r0 : ρ 0 = .slice a N c := outD hf 0 rfl
    exact .inl ⟨rfl, L_move (V := .slice a N c) r0 ⟨hs, fun _ => rfl, f1, f2, f3, f4, f5, f6, f7, f8, f9, f10, f11, f12, f13, f14, f15⟩⟩
  · rintro D ρ wx hD hd hdc hf ⟨hs, f0, f1, f2, f3, f4, f5, f6, f7, f8, f9, f10, f11, f12, f13, f14, f15⟩
    have r1 : ρ 1 = .int .i64 ((lo : Nat) : Int) := outD hf 1 rfl
    exact .inl ⟨rfl, L_move (V := .int .i64 ((lo : Nat) : Int)) r1 ⟨hs, f0, fun _ => rfl, f2, f3, f4, f5, f6, f7, f8, f9, f10, f11, f12, f13, f14, f15⟩⟩
  · rintro D ρ wx hD hd hdc hf ⟨hs, f0, f1, f2, f3, f4, f5, f6, f7, f8, f9, f10, f11, f12, f13, f14, f15⟩
    have r0 : ρ 0 = .slice a N c := outD hf 0 rfl
    exact .inl ⟨rfl, L_move (V := .slice a N c) r0 ⟨hs, f0, f1, fun _ => rfl, f3, f4, f5, f6, f7, f8, f9, f10, f11, f12, f13, f14, f15⟩⟩
  · rintro D ρ wx hD hd hdc hf ⟨hs, f0, f1, f2, f3, f4, f5, f6, f7, f8, f9, f10, f11, f12, f13, f14, f15⟩
    have r3 : ρ 3 = .int .i64 ((pv : Nat) : Int) := outD hf 3 rfl
    exact .inl ⟨rfl, L_move (V := .int .i64 ((pv : Nat) : Int)) r3 ⟨hs, f0, f1, f2, fun _ => rfl, f4, f5, f6, f7, f8, f9, f10, f11, f12, f13, f14, f15⟩⟩
  · rintro D ρ wx hD hd hdc hf ⟨hs, f0, f1, f2, f3, f4, f5, f6, f7, f8, f9, f10, f11, f12, f13, f14, f15⟩
    have r0 : ρ 0 = .slice a N c := outD hf 0 rfl
    exact .inl ⟨rfl, L_move (V := .slice a N c) r0 ⟨hs, f0, f1, f2, f3, fun _ => rfl, f5, f6, f7, f8, f9, f10, f11, f12, f13, f14, f15⟩⟩
  · rintro D ρ wx hD hd hdc hf ⟨hs, f0, f1, f2, f3, f4, f5, f6, f7, f8, f9, f10, f11, f12, f13, f14, f15⟩
    have r3 : ρ 3 = .int .i64 ((pv : Nat) : Int) := outD hf 3 rfl
    exact .inl ⟨rfl, L_move (V := .int .i64 ((pv : Nat) : Int)) r3 ⟨hs, f0, f1, f2, f3, f4, fun _ => rfl, f6, f7, f8, f9, f10, f11, f12, f13, f14, f15⟩⟩
  · rintro D ρ wx hD hd hdc hf ⟨hs, f0, f1, f2, f3, f4, f5, f6, f7, f8, f9, f10, f11, f12, f13, f14, f15⟩
    have g4 := f4 (doneD hd 4 rfl)
    have g5 := f5 (doneD hd 5 rfl)
    have d13 : D 13 = false := (notYetD hdc (j := 13) rfl rfl hD)
    have d15 : D 15 = false := (notYetD hdc (j := 15) rfl rfl hD)
    have hs0 := hs; rw [d13, d15] at hs0
    exact .inl ⟨rfl, L_ixR UD_72 S1_57.1 (hs0.rd 0 rfl) g4 g5 (by omega) (by simp only [List.length_map, Array.length_toList, Array.size_setIfInBounds, Go.Sort.size_swp]; omega) ⟨hs, f0, f1, f2, f3, f4, f5, fun _ => rfl, f7, f8, f9, f10, f11, f12, f13, f14, f15⟩⟩
  · rintro D ρ wx hD hd hdc hf ⟨hs, f0, f1, f2, f3, f4, f5, f6, f7, f8, f9, f10, f11, f12, f13, f14, f15⟩
    have g6 := f6 (doneD hd 6 rfl)
    have d13 : D 13 = false := (notYetD hdc (j := 13) rfl rfl hD)
    have d15 : D 15 = false := (notYetD hdc (j := 15) rfl rfl hD)
    have hs0 := hs; rw [d13, d15] at hs0
    exact .inl ⟨rfl, L_ldR (j := 0) (V := .int .u16 (d[pv]!)) pv S1_57 (hs0.rd 0 rfl) (da_at (by omega)) rfl g6 (by omega) ⟨hs, f0, f1, f2, f3, f4, f5, f6, fun _ => rfl, f8, f9, f10, f11, f12, f13, f14, f15⟩⟩
  · rintro D ρ wx hD hd hdc hf ⟨hs, f0, f1, f2, f3, f4, f5, f6, f7, f8, f9, f10, f11, f12, f13, f14, f15⟩
    have r0 : ρ 0 = .slice a N c := outD hf 0 rfl
    exact .inl ⟨rfl, L_move (V := .slice a N c) r0 ⟨hs, f0, f1, f2, f3, f4, f5, f6, f7, fun _ => rfl, f9, f10, f11, f12, f13, f14, f15⟩⟩
  · rintro D ρ wx hD hd hdc hf ⟨hs, f0, f1, f2, f3, f4, f5, f6, f7, f8, f9, f10, f11, f12, f13, f14, f15⟩
    have r1 : ρ 1 = .int .i64 ((lo : Nat) : Int) := outD hf 1 rfl
    exact .inl ⟨rfl, L_move (V := .int .i64 ((lo : Nat) : Int)) r1 ⟨hs, f0, f1, f2, f3, f4, f5, f6, f7, f8, fun _ => rfl, f10, f11, f12, f13, f14, f15⟩⟩
  · rintro D ρ wx hD hd hdc hf ⟨hs, f0, f1, f2, f3, f4, f5, f6, f7, f8, f9, f10, f11, f12, f13, f14, f15⟩
    have g8 := f8 (doneD hd 8 rfl)
    have g9 := f9 (doneD hd 9 rfl)
    have d13 : D 13 = false := (notYetD hdc (j := 13) rfl rfl (notYetD hdc (j := 11) rfl rfl hD))
    have d15 : D 15 = false := (notYetD hdc (j := 15) rfl rfl hD)
    have hs0 := hs; rw [d13, d15] at hs0
    exact .inl ⟨rfl, L_ixR UD_72 S1_57.1 (hs0.rd 0 rfl) g8 g9 (by omega) (by simp only [List.length_map, Array.length_toList, Array.size_setIfInBounds, Go.Sort.size_swp]; omega) ⟨hs, f0, f1, f2, f3, f4, f5, f6, f7, f8, f9, fun _ => rfl, f11, f12, f13, f14, f15⟩⟩
  · rintro D ρ wx hD hd hdc hf ⟨hs, f0, f1, f2, f3, f4, f5, f6, f7, f8, f9, f10, f11, f12, f13, f14, f15⟩
    have g10 := f10 (doneD hd 10 rfl)
    have d13 : D 13 = false := (notYetD hdc (j := 13) rfl rfl hD)
    have d15 : D 15 = false := (notYetD hdc (j := 15) rfl rfl hD)
    have hs0 := hs; rw [d13, d15] at hs0
    exact .inl ⟨rfl, L_ldR (j := 0) (V := .int .u16 (d[lo]!)) lo S1_57 (hs0.rd 0 rfl) (da_at (by omega)) rfl g10 (by omega) ⟨hs, f0, f1, f2, f3, f4, f5, f6, f7, f8, f9, f10, fun _ => rfl, f12, f13, f14, f15⟩⟩
  · rintro D ρ wx hD hd hdc hf ⟨hs, f0, f1, f2, f3, f4, f5, f6, f7, f8, f9, f10, f11, f12, f13, f14, f15⟩
    have g0 := f0 (doneD hd 0 rfl)
    have g1 := f1 (doneD hd 1 rfl)
    have d13 : D 13 = false := (notYetD hdc (j := 13) rfl rfl hD)
    have d15 : D 15 = false := (notYetD hdc (j := 15) rfl rfl hD)
    have hs0 := hs; rw [d13, d15] at hs0
    exact .inl ⟨rfl, L_ixR UD_72 S1_57.1 (hs0.rd 0 rfl) g0 g1 (by omega) (by simp only [List.length_map, Array.length_toList, Array.size_setIfInBounds, Go.Sort.size_swp]; omega) ⟨hs, f0, f1, f2, f3, f4, f5, f6, f7, f8, f9, f10, f11, fun _ => rfl, f13, f14, f15⟩⟩
  · rintro D ρ wx hD hd hdc hf ⟨hs, f0, f1, f2, f3, f4, f5, f6, f7, f8, f9, f10, f11, f12, f13, f14, f15⟩
    have g7 := f7 (doneD hd 7 rfl)
    have g12 := f12 (doneD hd 12 rfl)
    have d13 : D 13 = false := hD
    have d15 : D 15 = false := (notYetD hdc (j := 15) rfl rfl hD)
    have hs0 := hs; rw [d13, d15] at hs0
    refine .inl ⟨rfl, L_stA (z := d[pv]!) lo S1_57 hs0 0 rfl g12 (by omega) (by first | omega | (simp only [Array.size_setIfInBounds, Go.Sort.size_swp]; omega)) g7 rfl rfl fun _ hs0 => ⟨?_, f0, f1, f2, f3, f4, f5, f6, f7, f8, f9, f10, f11, f12, trivial, f14, f15⟩⟩
    rw [show Go.Vx.mark D 13 15 = false from d15]
    exact hs0
  · rintro D ρ wx hD hd hdc hf ⟨hs, f0, f1, f2, f3, f4, f5, f6, f7, f8, f9, f10, f11, f12, f13, f14, f15⟩
    have g2 := f2 (doneD hd 2 rfl)
    have g3 := f3 (doneD hd 3 rfl)
    have d13 : D 13 = true := doneD hd 13 rfl
    have d15 : D 15 = false := (notYetD hdc (j := 15) rfl rfl hD)
    have hs0 := hs; rw [d13, d15] at hs0
    exact .inl ⟨rfl, L_ixR UD_72 S1_57.1 (hs0.rd 0 rfl) g2 g3 (by omega) (by simp only [List.length_map, Array.length_toList, Array.size_setIfInBounds, Go.Sort.size_swp]; omega) ⟨hs, f0, f1, f2, f3, f4, f5, f6, f7, f8, f9, f10, f11, f12, f13, fun _ => rfl, f15⟩⟩
  · rintro D ρ wx hD hd hdc hf ⟨hs, f0, f1, f2, f3, f4, f5, f6, f7, f8, f9, f10, f11, f12, f13, f14, f15⟩
    have g11 := f11 (doneD hd 11 rfl)
    have g14 := f14 (doneD hd 14 rfl)
    have d13 : D 13 = true := doneD hd 13 rfl
    have d15 : D 15 = false := hD
    have hs0 := hs; rw [d13, d15] at hs0
    refine .inl ⟨rfl, L_stA (z := d[lo]!) pv S1_57 hs0 0 rfl g14 (by omega) (by first | omega | (simp only [Array.size_setIfInBounds, Go.Sort.size_swp]; omega)) g11 rfl rfl fun _ hs0 => ⟨?_, f0, f1, f2, f3, f4, f5, f6, f7, f8, f9, f10, f11, f12, f13, f14, trivial⟩⟩
    rw [show Go.Vx.mark D 15 13 = true from d13]
    exact hs0
  · rintro ρ1 w1 D hD hf ⟨hs, f0, f1, f2, f3, f4, f5, f6, f7, f8, f9, f10, f11, f12, f13, f14, f15⟩
    rw [hD 13 rfl, hD 15 rfl] at hs
    clear f0 f1 f2 f3 f4 f5 f6 f7 f8 f9 f10 f11 f12 f13 f14 f15
    obtain ⟨ρ2, hρ⟩ : ∃ ρ2, ρ1 = mix [12, 13, 14, 15, 16, 17, 18, 19, 20, 21, 22, 23, 24, 25] ρ2 _ := ⟨ρ1, mix_of (ds := [12, 13, 14, 15, 16, 17, 18, 19, 20, 21, 22, 23, 24, 25]) hf⟩
    clear hf hD
    subst hρ
    refine W_seq ?_
    refine W_region ?_
    refine RW_op (L_move (V := .int .i64 ((lo : Nat) : Int)) rfl ?_)
    refine RW_op (L_add (a := ((lo : Nat) : Int)) (b := 1) (c := ((lo + 1 : Nat) : Int)) rfl rfl (nat_i64 (by omega) (by omega)) ?_)
    refine RW_op (L_move (V := .int .i64 ((hi : Nat) : Int)) rfl ?_)
    refine RW_op (L_sub (a := ((hi : Nat) : Int)) (b := 1) (c := ((hi - 1 : Nat) : Int)) rfl rfl (nat_i64 (by omega) (by omega)) ?_)
    refine RW_op (L_assign (V := .int .i64 ((lo + 1 : Nat) : Int)) rfl ?_)
    refine RW_op (L_assign (V := .int .i64 ((hi - 1 : Nat) : Int)) rfl ?_)
    refine RW_nil ?_
    refine W_seq ?_
    refine W_block ?_
    obtain ⟨dd, hdd⟩ : ∃ dd, dd = (Sort.swp d lo pv) := ⟨_, rfl⟩
    replace hs := hs.conv 0 rfl (R' := row (.slice a N c) (dd.toList.map (ic .u16)) 57 1) (fun S h => by rw [hdd]; exact h)
    have hzd : dd.size = N := by rw [hdd, Go.Sort.size_swp]; exact hsz
    refine W_loopI (fun ρ m ρ' w' => ∃ (ρo : Env) (i2 : Nat), ρ' = upd (mix [10, 30, 31, 32, 33, 34, 35, 36, 37, 38, 39, 40, 41, 42, 43, 44, 45] ρo ρ) 10 (.int .i64 ((i2 : Nat) : Int)) ∧ ((lo + 1) ≤ i2) ∧ (i2 ≤ hi + 1) ∧ (Sort.scanUp (fun x => Sort.ltInt x dd[lo]!) dd (hi - 1) i2 = Sort.scanUp (fun x => Sort.ltInt x dd[lo]!) dd (hi - 1) ((lo + 1))) ∧ m = (hi - 1) + 1 - i2 ∧ Own w S w' [row (.slice a N c) (dd.toList.map (ic .u16)) 57 1]) ?_ ?_
    · exact ⟨_, _, (lo + 1), upd_of (mix_of (ds := [10, 30, 31, 32, 33, 34, 35, 36, 37, 38, 39, 40, 41, 42, 43, 44, 45]) (Agr.refl _ _)) rfl, (Nat.le_refl _), (by omega), rfl, rfl, hs⟩
    · rintro m ρ' w4 ⟨ρo, i2, rfl, hi2a, hi2b, hsu, rfl, hs⟩
      refine W_seq ?_
      refine W_seq ?_
      replace hs := hs.drew
      refine W_draw2 HM [30, 31, 32, 33, 34, 35, 36, 37, 38, 39, 40, 41, 42, 43] [[], [], [0, 1], [2], [3], [3], [4, 5, 3], [6, 3], [3], [3], [8, 9, 3], [10, 3], [7, 11, 3, 3], [3, 12]] (fun D ρ wx => Own w S wx [row (.slice a N c) (dd.toList.map (ic .u16)) 57 1] ∧ (D 0 = true → ρ 30 = .int .i64 ((i2 : Nat) : Int)) ∧ (D 1 = true → ρ 31 = .int .i64 ((hi - 1 : Nat) : Int)) ∧ (D 2 = true → ρ 32 = .bool (decide (((i2 : Nat) : Int) ≤ ((hi - 1 : Nat) : Int)))) ∧ (D 3 = true → ρ 33 = .bool (decide (((i2 : Nat) : Int) ≤ ((hi - 1 : Nat) : Int)))) ∧ (D 4 = true → ρ 34 = cond ((decide (((i2 : Nat) : Int) ≤ ((hi - 1 : Nat) : Int))) == true) (.slice a N c) undef) ∧ (D 5 = true → ρ 35 = cond ((decide (((i2 : Nat) : Int) ≤ ((hi - 1 : Nat) : Int))) == true) (.int .i64 ((i2 : Nat) : Int)) undef) ∧ (D 6 = true → ρ 36 = cond ((decide (((i2 : Nat) : Int) ≤ ((hi - 1 : Nat) : Int))) == true) (.pointer (some ⟨bkS (.slice a N c), ofS (.slice a N c) + ((i2 : Nat) : Int).toNat * 1, none⟩)) undef) ∧ (D 7 = true → ρ 37 = cond ((decide (((i2 : Nat) : Int) ≤ ((hi - 1 : Nat) : Int))) == true) (.int .u16 (dd[i2]!)) undef) ∧ (D 8 = true → ρ 38 = cond ((decide (((i2 : Nat) : Int) ≤ ((hi - 1 : Nat) : Int))) == true) (.slice a N c) undef) ∧ (D 9 = true → ρ 39 = cond ((decide (((i2 : Nat) : Int) ≤ ((hi - 1 : Nat) : Int))) == true) (.int .i64 ((lo : Nat) : Int)) undef) ∧ (D 10 = true → ρ 40 = cond ((decide (((i2 : Nat) : Int) ≤ ((hi - 1 : Nat) : Int))) == true) (.pointer (some ⟨bkS (.slice a N c), ofS (.slice a N c) + ((lo : Nat) : Int).toNat * 1, none⟩)) undef) ∧ (D 11 = true → ρ 41 = cond ((decide (((i2 : Nat) : Int) ≤ ((hi - 1 : Nat) : Int))) == true) (.int .u16 (dd[lo]!)) undef) ∧ (D 12 = true → ρ 42 = cond ((decide (((i2 : Nat) : Int) ≤ ((hi - 1 : Nat) : Int))) == true) (.bool (decide (dd[i2]! < dd[lo]!))) undef) ∧ (D 13 = true → ρ 43 = .bool ((decide (((i2 : Nat) : Int) ≤ ((hi - 1 : Nat) : Int))) && (decide (dd[i2]! < dd[lo]!))))) rfl rfl rfl ⟨hs, fun h => absurd h Bool.false_ne_true, fun h => absurd h Bool.false_ne_true, fun h => absurd h Bool.false_ne_true, fun h => absurd h Bool.false_ne_true, fun h => absurd h Bool.false_ne_true, fun h => absurd h Bool.false_ne_true, fun h => absurd h Bool.false_ne_true, fun h => absurd h Bool.false_ne_true, fun h => absurd h Bool.false_ne_true, fun h => absurd h Bool.false_ne_true, fun h => absurd h Bool.false_ne_true, fun h => absurd h Bool.false_ne_true, fun h => absurd h Bool.false_ne_true, fun h => absurd h Bool.false_ne_true⟩ ⟨?_, ?_, ?_, ?_, ?_, ?_, ?_, ?_, ?_, ?_, ?_, ?_, ?_, ?_, trivial⟩ ?_
      · rintro D ρ wx hD hd hdc hf ⟨hs, f0, f1, f2, f3, f4, f5, f6, f7, f8, f9, f10, f11, f12, f13⟩
        have r10 : ρ 10 = .int .i64 ((i2 : Nat) : Int) := outD hf 10 rfl
        exact .inl ⟨rfl, L_move (V := .int .i64 ((i2 : Nat) : Int)) r10 ⟨hs, fun _ => rfl, f1, f2, f3, f4, f5, f6, f7, f8, f9, f10, f11, f12, f13⟩⟩
      · rintro D ρ wx hD hd hdc hf ⟨hs, f0, f1, f2, f3, f4, f5, f6, f7, f8, f9, f10, f11, f12, f13⟩
        have r11 : ρ 11 = .int .i64 ((hi - 1 : Nat) : Int) := outD hf 11 rfl
        exact .inl ⟨rfl, L_move (V := .int .i64 ((hi - 1 : Nat) : Int)) r11 ⟨hs, f0, fun _ => rfl, f2, f3, f4, f5, f6, f7, f8, f9, f10, f11, f12, f13⟩⟩
      · rintro D ρ wx hD hd hdc hf ⟨hs, f0, f1, f2, f3, f4, f5, f6, f7, f8, f9, f10, f11, f12, f13⟩
        have g0 := f0 (doneD hd 0 rfl)
        have g1 := f1 (doneD hd 1 rfl)
        exact .inl ⟨rfl, L_leq g0 g1 ⟨hs, f0, f1, fun _ => rfl, f3, f4, f5, f6, f7, f8, f9, f10, f11, f12, f13⟩⟩
      · rintro D ρ wx hD hd hdc hf ⟨hs, f0, f1, f2, f3, f4, f5, f6, f7, f8, f9, f10, f11, f12, f13⟩
        have g2 := f2 (doneD hd 2 rfl)
        exact .inl ⟨rfl, L_move (V := .bool (decide (((i2 : Nat) : Int) ≤ ((hi - 1 : Nat) : Int)))) g2 ⟨hs, f0, f1, f2, fun _ => rfl, f4, f5, f6, f7, f8, f9, f10, f11, f12, f13⟩⟩
      · rintro D ρ wx hD hd hdc hf ⟨hs, f0, f1, f2, f3, f4, f5, f6, f7, f8, f9, f10, f11, f12, f13⟩
        have r0 : ρ 0 = .slice a N c := outD hf 0 rfl
        rcases Bool.eq_false_or_eq_true ((decide (((i2 : Nat) : Int) ≤ ((hi - 1 : Nat) : Int))) == true) with hG | hG
        rotate_left
        · exact .inr ⟨(Eq.trans (wantG1 (j := 3) rfl (f3 (doneD hd 3 rfl))) hG), ⟨hs, f0, f1, f2, f3, fun _ => (condF hG).symm, f5, f6, f7, f8, f9, f10, f11, f12, f13⟩⟩
        ·
          have hgd := of_decide_eq_true (eq_of_beq hG)
          exact .inl ⟨(Eq.trans (wantG1 (j := 3) rfl (f3 (doneD hd 3 rfl))) hG), L_move (V := .slice a N c) r0 ⟨hs, f0, f1, f2, f3, fun _ => (condT hG).symm, f5, f6, f7, f8, f9, f10, f11, f12, f13⟩⟩
      · rintro D ρ wx hD hd hdc hf ⟨hs, f0, f1, f2, f3, f4, f5, f6, f7, f8, f9, f10, f11, f12, f13⟩
        have r10 : ρ 10 = .int .i64 ((i2 : Nat) : Int) := outD hf 10 rfl
        rcases Bool.eq_false_or_eq_true ((decide (((i2 : Nat) : Int) ≤ ((hi - 1 : Nat) : Int))) == true) with hG | hG
        rotate_left
        · exact .inr ⟨(Eq.trans (wantG1 (j := 3) rfl (f3 (doneD hd 3 rfl))) hG), ⟨hs, f0, f1, f2, f3, f4, fun _ => (condF hG).symm, f6, f7, f8, f9, f10, f11, f12, f13⟩⟩
        ·
          have hgd := of_decide_eq_true (eq_of_beq hG)
          exact .inl ⟨(Eq.trans (wantG1 (j := 3) rfl (f3 (doneD hd 3 rfl))) hG), L_move (V := .int .i64 ((i2 : Nat) : Int)) r10 ⟨hs, f0, f1, f2, f3, f4, fun _ => (condT hG).symm, f6, f7, f8, f9, f10, f11, f12, f13⟩⟩
      · rintro D ρ wx hD hd hdc hf ⟨hs, f0, f1, f2, f3, f4, f5, f6, f7, f8, f9, f10, f11, f12, f13⟩
        have g4 := f4 (doneD hd 4 rfl)
        have g5 := f5 (doneD hd 5 rfl)
        rcases Bool.eq_false_or_eq_true ((decide (((i2 : Nat) : Int) ≤ ((hi - 1 : Nat) : Int))) == true) with hG | hG
        rotate_left
        · exact .inr ⟨(Eq.trans (wantG1 (j := 3) rfl (f3 (doneD hd 3 rfl))) hG), ⟨hs, f0, f1, f2, f3, f4, f5, fun _ => (condF hG).symm, f7, f8, f9, f10, f11, f12, f13⟩⟩
        ·
          have hgd := of_decide_eq_true (eq_of_beq hG)
          exact .inl ⟨(Eq.trans (wantG1 (j := 3) rfl (f3 (doneD hd 3 rfl))) hG), L_ixR UD_72 S1_57.1 (hs.rd 0 rfl) ((g4).trans (condT (by exact hG))) ((g5).trans (condT (by exact hG))) (by omega) (by simp only [List.length_map, Array.length_toList, Array.size_setIfInBounds, Go.Sort.size_swp]; omega) ⟨hs, f0, f1, f2, f3, f4, f5, fun _ => (condT hG).symm, f7, f8, f9, f10, f11, f12, f13⟩⟩
      · rintro D ρ wx hD hd hdc hf ⟨hs, f0, f1, f2, f3, f4, f5, f6, f7, f8, f9, f10, f11, f12, f13⟩
        have g6 := f6 (doneD hd 6 rfl)
        rcases Bool.eq_false_or_eq_true ((decide (((i2 : Nat) : Int) ≤ ((hi - 1 : Nat) : Int))) == true) with hG | hG
        rotate_left
        · exact .inr ⟨(Eq.trans (wantG1 (j := 3) rfl (f3 (doneD hd 3 rfl))) hG), ⟨hs, f0, f1, f2, f3, f4, f5, f6, fun _ => (condF hG).symm, f8, f9, f10, f11, f12, f13⟩⟩
        ·
          have hgd := of_decide_eq_true (eq_of_beq hG)
          exact .inl ⟨(Eq.trans (wantG1 (j := 3) rfl (f3 (doneD hd 3 rfl))) hG), L_ldR (j := 0) (V := .int .u16 (dd[i2]!)) i2 S1_57 (hs.rd 0 rfl) (da_at (by omega)) rfl ((g6).trans (condT (by exact hG))) (by omega) ⟨hs, f0, f1, f2, f3, f4, f5, f6, fun _ => (condT hG).symm, f8, f9, f10, f11, f12, f13⟩⟩
      · rintro D ρ wx hD hd hdc hf ⟨hs, f0, f1, f2, f3, f4, f5, f6, f7, f8, f9, f10, f11, f12, f13⟩
        have r0 : ρ 0 = .slice a N c := outD hf 0 rfl
        rcases Bool.eq_false_or_eq_true ((decide (((i2 : Nat) : Int) ≤ ((hi - 1 : Nat) : Int))) == true) with hG | hG
        rotate_left
        · exact .inr ⟨(Eq.trans (wantG1 (j := 3) rfl (f3 (doneD hd 3 rfl))) hG), ⟨hs, f0, f1, f2, f3, f4, f5, f6, f7, fun _ => (condF hG).symm, f9, f10, f11, f12, f13⟩⟩
        ·
          have hgd := of_decide_eq_true (eq_of_beq hG)
          exact .inl ⟨(Eq.trans (wantG1 (j := 3) rfl (f3 (doneD hd 3 rfl))) hG), L_move (V := .slice a N c) r0 ⟨hs, f0, f1, f2, f3, f4, f5, f6, f7, fun _ => (condT hG).symm, f9, f10, f11, f12, f13⟩⟩
      · rintro D ρ wx hD hd hdc hf ⟨hs, f0, f1, f2, f3, f4, f5, f6, f7, f8, f9, f10, f11, f12, f13⟩
        have r1 : ρ 1 = .int .i64 ((lo : Nat) : Int) := outD hf 1 rfl
        rcases Bool.eq_false_or_eq_true ((decide (((i2 : Nat) : Int) ≤ ((hi - 1 : Nat) : Int))) == true) with hG | hG
        rotate_left
        · exact .inr ⟨(Eq.trans (wantG1 (j := 3) rfl (f3 (doneD hd 3 rfl))) hG), ⟨hs, f0, f1, f2, f3, f4, f5, f6, f7, f8, fun _ => (condF hG).symm, f10, f11, f12, f13⟩⟩
        ·
          have hgd := of_decide_eq_true (eq_of_beq hG)
          exact .inl ⟨(Eq.trans (wantG1 (j := 3) rfl (f3 (doneD hd 3 rfl))) hG), L_move (V := .int .i64 ((lo : Nat) : Int)) r1 ⟨hs, f0, f1, f2, f3, f4, f5, f6, f7, f8, fun _ => (condT hG).symm, f10, f11, f12, f13⟩⟩
      · rintro D ρ wx hD hd hdc hf ⟨hs, f0, f1, f2, f3, f4, f5, f6, f7, f8, f9, f10, f11, f12, f13⟩
        have g8 := f8 (doneD hd 8 rfl)
        have g9 := f9 (doneD hd 9 rfl)
        rcases Bool.eq_false_or_eq_true ((decide (((i2 : Nat) : Int) ≤ ((hi - 1 : Nat) : Int))) == true) with hG | hG
        rotate_left
        · exact .inr ⟨(Eq.trans (wantG1 (j := 3) rfl (f3 (doneD hd 3 rfl))) hG), ⟨hs, f0, f1, f2, f3, f4, f5, f6, f7, f8, f9, fun _ => (condF hG).symm, f11, f12, f13⟩⟩
        ·
          have hgd := of_decide_eq_true (eq_of_beq hG)
          exact .inl ⟨(Eq.trans (wantG1 (j := 3) rfl (f3 (doneD hd 3 rfl))) hG), L_ixR UD_72 S1_57.1 (hs.rd 0 rfl) ((g8).trans (condT (by exact hG))) ((g9).trans (condT (by exact hG))) (by omega) (by simp only [List.length_map, Array.length_toList, Array.size_setIfInBounds, Go.Sort.size_swp]; omega) ⟨hs, f0, f1, f2, f3, f4, f5, f6, f7, f8, f9, fun _ => (condT hG).symm, f11, f12, f13⟩⟩
      · rintro D ρ wx hD hd hdc hf ⟨hs, f0, f1, f2, f3, f4, f5, f6, f7, f8, f9, f10, f11, f12, f13⟩
        have g10 := f10 (doneD hd 10 rfl)
        rcases Bool.eq_false_or_eq_true ((decide (((i2 : Nat) : Int) ≤ ((hi - 1 : Nat) : Int))) == true) with hG | hG
        rotate_left
        · exact .inr ⟨(Eq.trans (wantG1 (j := 3) rfl (f3 (doneD hd 3 rfl))) hG), ⟨hs, f0, f1, f2, f3, f4, f5, f6, f7, f8, f9, f10, fun _ => (condF hG).symm, f12, f13⟩⟩
        ·
          have hgd := of_decide_eq_true (eq_of_beq hG)
          exact .inl ⟨(Eq.trans (wantG1 (j := 3) rfl (f3 (doneD hd 3 rfl))) hG), L_ldR (j := 0) (V := .int .u16 (dd[lo]!)) lo S1_57 (hs.rd 0 rfl) (da_at (by omega)) rfl ((g10).trans (condT (by exact hG))) (by omega) ⟨hs, f0, f1, f2, f3, f4, f5, f6, f7, f8, f9, f10, fun _ => (condT hG).symm, f12, f13⟩⟩
      · rintro D ρ wx hD hd hdc hf ⟨hs, f0, f1, f2, f3, f4, f5, f6, f7, f8, f9, f10, f11, f12, f13⟩
        have g7 := f7 (doneD hd 7 rfl)
        have g11 := f11 (doneD hd 11 rfl)
        rcases Bool.eq_false_or_eq_true ((decide (((i2 : Nat) : Int) ≤ ((hi - 1 : Nat) : Int))) == true) with hG | hG
        rotate_left
        · exact .inr ⟨(Eq.trans (wantG1 (j := 3) rfl (f3 (doneD hd 3 rfl))) hG), ⟨hs, f0, f1, f2, f3, f4, f5, f6, f7, f8, f9, f10, f11, fun _ => (condF hG).symm, f13⟩⟩
        ·
          have hgd := of_decide_eq_true (eq_of_beq hG)
          exact .inl ⟨(Eq.trans (wantG1 (j := 3) rfl (f3 (doneD hd 3 rfl))) hG), L_callP (vs := [.int .u16 (dd[i2]!), .int .u16 (dd[lo]!)]) (V := .bool (decide (dd[i2]! < dd[lo]!))) EN_108 rfl (mapc ((g7).trans (condT (by exact hG))) (mapc ((g11).trans (condT (by exact hG))) rfl)) (less_ok _ (dd[i2]!) (dd[lo]!)) hs fun _ hs0 => ⟨hs0, f0, f1, f2, f3, f4, f5, f6, f7, f8, f9, f10, f11, fun _ => (condT hG).symm, f13⟩⟩
      · rintro D ρ wx hD hd hdc hf ⟨hs, f0, f1, f2, f3, f4, f5, f6, f7, f8, f9, f10, f11, f12, f13⟩
        have g3 := f3 (doneD hd 3 rfl)
        have g12 := f12 (doneD hd 12 rfl)
        exact .inl ⟨rfl, L_and g3 rfl (fun hg => ((g12).trans (condT (by first | exact beqT hg | rfl)))) ⟨hs, f0, f1, f2, f3, f4, f5, f6, f7, f8, f9, f10, f11, f12, fun _ => rfl⟩⟩
      · rintro ρ1 w1 D hD hf ⟨hs, f0, f1, f2, f3, f4, f5, f6, f7, f8, f9, f10, f11, f12, f13⟩
        have e13 := f13 (hD 13 rfl)
        clear f0 f1 f2 f3 f4 f5 f6 f7 f8 f9 f10 f11 f12 f13
        obtain ⟨ρ2, hρ⟩ : ∃ ρ2, ρ1 = upd (mix [30, 31, 32, 33, 34, 35, 36, 37, 38, 39, 40, 41, 42, 43] ρ2 _) 43 (.bool ((decide (((i2 : Nat) : Int) ≤ ((hi - 1 : Nat) : Int))) && (decide (dd[i2]! < dd[lo]!)))) := ⟨ρ1, upd_of (mix_of (ds := [30, 31, 32, 33, 34, 35, 36, 37, 38, 39, 40, 41, 42, 43]) hf) e13⟩
        clear hf hD e13
        subst hρ
        refine W_cond (t := (decide (((i2 : Nat) : Int) ≤ ((hi - 1 : Nat) : Int))) && (decide (dd[i2]! < dd[lo]!))) rfl (fun c7 => ?_) (fun c7 => ?_)
        ·
          have c7r := and_r c7
          replace c7 := and_l c7
          replace c7 := of_decide_eq_true c7
          replace c7r := of_decide_eq_true c7r
          refine W_skip ?_
          refine W_block ?_
          refine W_region ?_
          refine RW_op (L_move (V := .int .i64 ((i2 : Nat) : Int)) rfl ?_)
          refine RW_op (L_add (a := ((i2 : Nat) : Int)) (b := 1) (c := ((i2 + 1 : Nat) : Int)) rfl rfl (nat_i64 (by omega) (by omega)) ?_)
          refine RW_op (L_assign (V := .int .i64 ((i2 + 1 : Nat) : Int)) rfl ?_)
          refine RW_nil ?_
          refine ⟨_, ?_, _, i2 + 1, upd_of (mix_of (ds := [10, 30, 31, 32, 33, 34, 35, 36, 37, 38, 39, 40, 41, 42, 43, 44, 45]) (by repeat (first | exact Agr.refl _ _ | refine Agr.upd ?_ rfl | refine Agr.mix ?_ rfl))) rfl, (by omega), (by omega), (by rw [← hsu, su_yes (p := fun x => Sort.ltInt x dd[lo]!) (b := decide (dd[i2]! < dd[lo]!)) rfl c7 (decide_eq_true c7r)]), rfl, hs.take 1⟩
          omega
        ·
          refine W_exit ?_
          refine W_seq ?_
          refine W_block ?_
          have hi2 : i2 = Sort.scanUp (fun x => Sort.ltInt x dd[lo]!) dd (hi - 1) (lo + 1) := by rw [← hsu, su_no (p := fun x => Sort.ltInt x dd[lo]!) (b := decide (dd[i2]! < dd[lo]!)) rfl c7]
          refine W_loopI (fun ρ m ρ' w' => ∃ (ρo : Env) (j2 : Nat), ρ' = upd (mix [11, 46, 47, 48, 49, 50, 51, 52, 53, 54, 55, 56, 57, 58, 59, 60, 61, 62] ρo ρ) 11 (.int .i64 ((j2 : Nat) : Int)) ∧ (j2 ≤ (hi - 1)) ∧ (Sort.scanDown (fun x => !Sort.ltInt x dd[lo]!) dd i2 j2 = Sort.scanDown (fun x => !Sort.ltInt x dd[lo]!) dd i2 ((hi - 1))) ∧ (lo ≤ j2) ∧ m = 2 * j2 ∧ Own w S w' [row (.slice a N c) (dd.toList.map (ic .u16)) 57 1]) ?_ ?_
          · exact ⟨_, _, (hi - 1), upd_of (mix_of (ds := [11, 46, 47, 48, 49, 50, 51, 52, 53, 54, 55, 56, 57, 58, 59, 60, 61, 62]) (Agr.refl _ _)) rfl, (Nat.le_refl _), rfl, (by omega), rfl, hs⟩
          · rintro m ρ' w8 ⟨ρo, j2, rfl, hj2b, hsd, hlowj2, rfl, hs⟩
            refine W_seq ?_
            refine W_seq ?_
            replace hs := hs.drew
            refine W_draw2 HM [46, 47, 48, 49, 50, 51, 52, 53, 54, 55, 56, 57, 58, 59, 60] [[], [], [0, 1], [2], [3], [3], [4, 5, 3], [6, 3], [3], [3], [8, 9, 3], [10, 3], [7, 11, 3, 3], [12, 3], [3, 13]] (fun D ρ wx => Own w S wx [row (.slice a N c) (dd.toList.map (ic .u16)) 57 1] ∧ (D 0 = true → ρ 46 = .int .i64 ((i2 : Nat) : Int)) ∧ (D 1 = true → ρ 47 = .int .i64 ((j2 : Nat) : Int)) ∧ (D 2 = true → ρ 48 = .bool (decide (((i2 : Nat) : Int) ≤ ((j2 : Nat) : Int)))) ∧ (D 3 = true → ρ 49 = .bool (decide (((i2 : Nat) : Int) ≤ ((j2 : Nat) : Int)))) ∧ (D 4 = true → ρ 50 = cond ((decide (((i2 : Nat) : Int) ≤ ((j2 : Nat) : Int))) == true) (.slice a N c) undef) ∧ (D 5 = true → ρ 51 = cond ((decide (((i2 : Nat) : Int) ≤ ((j2 : Nat) : Int))) == true) (.int .i64 ((j2 : Nat) : Int)) undef) ∧ (D 6 = true → ρ 52 = cond ((decide (((i2 : Nat) : Int) ≤ ((j2 : Nat) : Int))) == true) (.pointer (some ⟨bkS (.slice a N c), ofS (.slice a N c) + ((j2 : Nat) : Int).toNat * 1, none⟩)) undef) ∧ (D 7 = true → ρ 53 = cond ((decide (((i2 : Nat) : Int) ≤ ((j2 : Nat) : Int))) == true) (.int .u16 (dd[j2]!)) undef) ∧ (D 8 = true → ρ 54 = cond ((decide (((i2 : Nat) : Int) ≤ ((j2 : Nat) : Int))) == true) (.slice a N c) undef) ∧ (D 9 = true → ρ 55 = cond ((decide (((i2 : Nat) : Int) ≤ ((j2 : Nat) : Int))) == true) (.int .i64 ((lo : Nat) : Int)) undef) ∧ (D 10 = true → ρ 56 = cond ((decide (((i2 : Nat) : Int) ≤ ((j2 : Nat) : Int))) == true) (.pointer (some ⟨bkS (.slice a N c), ofS (.slice a N c) + ((lo : Nat) : Int).toNat * 1, none⟩)) undef) ∧ (D 11 = true → ρ 57 = cond ((decide (((i2 : Nat) : Int) ≤ ((j2 : Nat) : Int))) == true) (.int .u16 (dd[lo]!)) undef) ∧ (D 12 = true → ρ 58 = cond ((decide (((i2 : Nat) : Int) ≤ ((j2 : Nat) : Int))) == true) (.bool (decide (dd[j2]! < dd[lo]!))) undef) ∧ (D 13 = true → ρ 59 = cond ((decide (((i2 : Nat) : Int) ≤ ((j2 : Nat) : Int))) == true) (.bool (!decide (dd[j2]! < dd[lo]!))) undef) ∧ (D 14 = true → ρ 60 = .bool ((decide (((i2 : Nat) : Int) ≤ ((j2 : Nat) : Int))) && (!decide (dd[j2]! < dd[lo]!))))) rfl rfl rfl ⟨hs, fun h => absurd h Bool.false_ne_true, fun h => absurd h Bool.false_ne_true, fun h => absurd h Bool.false_ne_true, fun h => absurd h Bool.false_ne_true, fun h => absurd h Bool.false_ne_true, fun h => absurd h Bool.false_ne_true, fun h => absurd h Bool.false_ne_true, fun h => absurd h Bool.false_ne_true, fun h => absurd h Bool.false_ne_true, fun h => absurd h Bool.false_ne_true, fun h => absurd h Bool.false_ne_true, fun h => absurd h Bool.false_ne_true, fun h => absurd h Bool.false_ne_true, fun h => absurd h Bool.false_ne_true, fun h => absurd h Bool.false_ne_true⟩ ⟨?_, ?_, ?_, ?_, ?_, ?_, ?_, ?_, ?_, ?_, ?_, ?_, ?_, ?_, ?_, trivial⟩ ?_
            · rintro D ρ wx hD hd hdc hf ⟨hs, f0, f1, f2, f3, f4, f5, f6, f7, f8, f9, f10, f11, f12, f13, f14⟩
              have r10 : ρ 10 = .int .i64 ((i2 : Nat) : Int) := outD hf 10 rfl
              exact .inl ⟨rfl, L_move (V := .int .i64 ((i2 : Nat) : Int)) r10 ⟨hs, fun _ => rfl, f1, f2, f3, f4, f5, f6, f7, f8, f9, f10, f11, f12, f13, f14⟩⟩
            · rintro D ρ wx hD hd hdc hf ⟨hs, f0, f1, f2, f3, f4, f5, f6, f7, f8, f9, f10, f11, f12, f13, f14⟩
              have r11 : ρ 11 = .int .i64 ((j2 : Nat) : Int) := outD hf 11 rfl
              exact .inl ⟨rfl, L_move (V := .int .i64 ((j2 : Nat) : Int)) r11 ⟨hs, f0, fun _ => rfl, f2, f3, f4, f5, f6, f7, f8, f9, f10, f11, f12, f13, f14⟩⟩
            · rintro D ρ wx hD hd hdc hf ⟨hs, f0, f1, f2, f3, f4, f5, f6, f7, f8, f9, f10, f11, f12, f13, f14⟩
              have g0 := f0 (doneD hd 0 rfl)
              have g1 := f1 (doneD hd 1 rfl)
              exact .inl ⟨rfl, L_leq g0 g1 ⟨hs, f0, f1, fun _ => rfl, f3, f4, f5, f6, f7, f8, f9, f10, f11, f12, f13, f14⟩⟩
            · rintro D ρ wx hD hd hdc hf ⟨hs, f0, f1, f2, f3, f4, f5, f6, f7, f8, f9, f10, f11, f12, f13, f14⟩
              have g2 := f2 (doneD hd 2 rfl)
              exact .inl ⟨rfl, L_move (V := .bool (decide (((i2 : Nat) : Int) ≤ ((j2 : Nat) : Int)))) g2 ⟨hs, f0, f1, f2, fun _ => rfl, f4, f5, f6, f7, f8, f9, f10, f11, f12, f13, f14⟩⟩
            · rintro D ρ wx hD hd hdc hf ⟨hs, f0, f1, f2, f3, f4, f5, f6, f7, f8, f9, f10, f11, f12, f13, f14⟩
              have r0 : ρ 0 = .slice a N c := outD hf 0 rfl
              rcases Bool.eq_false_or_eq_true ((decide (((i2 : Nat) : Int) ≤ ((j2 : Nat) : Int))) == true) with hG | hG
              rotate_left
              · exact .inr ⟨(Eq.trans (wantG1 (j := 3) rfl (f3 (doneD hd 3 rfl))) hG), ⟨hs, f0, f1, f2, f3, fun _ => (condF hG).symm, f5, f6, f7, f8, f9, f10, f11, f12, f13, f14⟩⟩
              ·
                have hgd := of_decide_eq_true (eq_of_beq hG)
                exact .inl ⟨(Eq.trans (wantG1 (j := 3) rfl (f3 (doneD hd 3 rfl))) hG), L_move (V := .slice a N c) r0 ⟨hs, f0, f1, f2, f3, fun _ => (condT hG).symm, f5, f6, f7, f8, f9, f10, f11, f12, f13, f14⟩⟩
            · rintro D ρ wx hD hd hdc hf ⟨hs, f0, f1, f2, f3, f4, f5, f6, f7, f8, f9, f10, f11, f12, f13, f14⟩
              have r11 : ρ 11 = .int .i64 ((j2 : Nat) : Int) := outD hf 11 rfl
              rcases Bool.eq_false_or_eq_true ((decide (((i2 : Nat) : Int) ≤ ((j2 : Nat) : Int))) == true) with hG | hG
              rotate_left
              · exact .inr ⟨(Eq.trans (wantG1 (j := 3) rfl (f3 (doneD hd 3 rfl))) hG), ⟨hs, f0, f1, f2, f3, f4, fun _ => (condF hG).symm, f6, f7, f8, f9, f10, f11, f12, f13, f14⟩⟩
              ·
                have hgd := of_decide_eq_true (eq_of_beq hG)
                exact .inl ⟨(Eq.trans (wantG1 (j := 3) rfl (f3 (doneD hd 3 rfl))) hG), L_move (V := .int .i64 ((j2 : Nat) : Int)) r11 ⟨hs, f0, f1, f2, f3, f4, fun _ => (condT hG).symm, f6, f7, f8, f9, f10, f11, f12, f13, f14⟩⟩
            · rintro D ρ wx hD hd hdc hf ⟨hs, f0, f1, f2, f3, f4, f5, f6, f7, f8, f9, f10, f11, f12, f13, f14⟩
              have g4 := f4 (doneD hd 4 rfl)
              have g5 := f5 (doneD hd 5 rfl)
              rcases Bool.eq_false_or_eq_true ((decide (((i2 : Nat) : Int) ≤ ((j2 : Nat) : Int))) == true) with hG | hG
              rotate_left
              · exact .inr ⟨(Eq.trans (wantG1 (j := 3) rfl (f3 (doneD hd 3 rfl))) hG), ⟨hs, f0, f1, f2, f3, f4, f5, fun _ => (condF hG).symm, f7, f8, f9, f10, f11, f12, f13, f14⟩⟩
              ·
                have hgd := of_decide_eq_true (eq_of_beq hG)
                exact .inl ⟨(Eq.trans (wantG1 (j := 3) rfl (f3 (doneD hd 3 rfl))) hG), L_ixR UD_72 S1_57.1 (hs.rd 0 rfl) ((g4).trans (condT (by exact hG))) ((g5).trans (condT (by exact hG))) (by omega) (by simp only [List.length_map, Array.length_toList, Array.size_setIfInBounds, Go.Sort.size_swp]; omega) ⟨hs, f0, f1, f2, f3, f4, f5, fun _ => (condT hG).symm, f7, f8, f9, f10, f11, f12, f13, f14⟩⟩
            · rintro D ρ wx hD hd hdc hf ⟨hs, f0, f1, f2, f3, f4, f5, f6, f7, f8, f9, f10, f11, f12, f13, f14⟩
              have g6 := f6 (doneD hd 6 rfl)
              rcases Bool.eq_false_or_eq_true ((decide (((i2 : Nat) : Int) ≤ ((j2 : Nat) : Int))) == true) with hG | hG
              rotate_left
              · exact .inr ⟨(Eq.trans (wantG1 (j := 3) rfl (f3 (doneD hd 3 rfl))) hG), ⟨hs, f0, f1, f2, f3, f4, f5, f6, fun _ => (condF hG).symm, f8, f9, f10, f11, f12, f13, f14⟩⟩
              ·
                have hgd := of_decide_eq_true (eq_of_beq hG)
                exact .inl ⟨(Eq.trans (wantG1 (j := 3) rfl (f3 (doneD hd 3 rfl))) hG), L_ldR (j := 0) (V := .int .u16 (dd[j2]!)) j2 S1_57 (hs.rd 0 rfl) (da_at (by omega)) rfl ((g6).trans (condT (by exact hG))) (by omega) ⟨hs, f0, f1, f2, f3, f4, f5, f6, fun _ => (condT hG).symm, f8, f9, f10, f11, f12, f13, f14⟩⟩
            · rintro D ρ wx hD hd hdc hf ⟨hs, f0, f1, f2, f3, f4, f5, f6, f7, f8, f9, f10, f11, f12, f13, f14⟩
              have r0 : ρ 0 = .slice a N c := outD hf 0 rfl
              rcases Bool.eq_false_or_eq_true ((decide (((i2 : Nat) : Int) ≤ ((j2 : Nat) : Int))) == true) with hG | hG
              rotate_left
              · exact .inr ⟨(Eq.trans (wantG1 (j := 3) rfl (f3 (doneD hd 3 rfl))) hG), ⟨hs, f0, f1, f2, f3, f4, f5, f6, f7, fun _ => (condF hG).symm, f9, f10, f11, f12, f13, f14⟩⟩
              ·
                have hgd := of_decide_eq_true (eq_of_beq hG)
                exact .inl ⟨(Eq.trans (wantG1 (j := 3) rfl (f3 (doneD hd 3 rfl))) hG), L_move (V := .slice a N c) r0 ⟨hs, f0, f1, f2, f3, f4, f5, f6, f7, fun _ => (condT hG).symm, f9, f10, f11, f12, f13, f14⟩⟩
            · rintro D ρ wx hD hd hdc hf ⟨hs, f0, f1, f2, f3, f4, f5, f6, f7, f8, f9, f10, f11, f12, f13, f14⟩
              have r1 : ρ 1 = .int .i64 ((lo : Nat) : Int) := outD hf 1 rfl
              rcases Bool.eq_false_or_eq_true ((decide (((i2 : Nat) : Int) ≤ ((j2 : Nat) : Int))) == true) with hG | hG
              rotate_left
              · exact .inr ⟨(Eq.trans (wantG1 (j := 3) rfl (f3 (doneD hd 3 rfl))) hG), ⟨hs, f0, f1, f2, f3, f4, f5, f6, f7, f8, fun _ => (condF hG).symm, f10, f11, f12, f13, f14⟩⟩
              ·
                have hgd := of_decide_eq_true (eq_of_beq hG)
                exact .inl ⟨(Eq.trans (wantG1 (j := 3) rfl (f3 (doneD hd 3 rfl))) hG), L_move (V := .int .i64 ((lo : Nat) : Int)) r1 ⟨hs, f0, f1, f2, f3, f4, f5, f6, f7, f8, fun _ => (condT hG).symm, f10, f11, f12, f13, f14⟩⟩
            · rintro D ρ wx hD hd hdc hf ⟨hs, f0, f1, f2, f3, f4, f5, f6, f7, f8, f9, f10, f11, f12, f13, f14⟩
              have g8 := f8 (doneD hd 8 rfl)
              have g9 := f9 (doneD hd 9 rfl)
              rcases Bool.eq_false_or_eq_true ((decide (((i2 : Nat) : Int) ≤ ((j2 : Nat) : Int))) == true) with hG | hG
              rotate_left
              · exact .inr ⟨(Eq.trans (wantG1 (j := 3) rfl (f3 (doneD hd 3 rfl))) hG), ⟨hs, f0, f1, f2, f3, f4, f5, f6, f7, f8, f9, fun _ => (condF hG).symm, f11, f12, f13, f14⟩⟩
              ·
                have hgd := of_decide_eq_true (eq_of_beq hG)
                exact .inl ⟨(Eq.trans (wantG1 (j := 3) rfl (f3 (doneD hd 3 rfl))) hG), L_ixR UD_72 S1_57.1 (hs.rd 0 rfl) ((g8).trans (condT (by exact hG))) ((g9).trans (condT (by exact hG))) (by omega) (by simp only [List.length_map, Array.length_toList, Array.size_setIfInBounds, Go.Sort.size_swp]; omega) ⟨hs, f0, f1, f2, f3, f4, f5, f6, f7, f8, f9, fun _ => (condT hG).symm, f11, f12, f13, f14⟩⟩
            · rintro D ρ wx hD hd hdc hf ⟨hs, f0, f1, f2, f3, f4, f5, f6, f7, f8, f9, f10, f11, f12, f13, f14⟩
              have g10 := f10 (doneD hd 10 rfl)
              rcases Bool.eq_false_or_eq_true ((decide (((i2 : Nat) : Int) ≤ ((j2 : Nat) : Int))) == true) with hG | hG
              rotate_left
              · exact .inr ⟨(Eq.trans (wantG1 (j := 3) rfl (f3 (doneD hd 3 rfl))) hG), ⟨hs, f0, f1, f2, f3, f4, f5, f6, f7, f8, f9, f10, fun _ => (condF hG).symm, f12, f13, f14⟩⟩
              ·
                have hgd := of_decide_eq_true (eq_of_beq hG)
                exact .inl ⟨(Eq.trans (wantG1 (j := 3) rfl (f3 (doneD hd 3 rfl))) hG), L_ldR (j := 0) (V := .int .u16 (dd[lo]!)) lo S1_57 (hs.rd 0 rfl) (da_at (by omega)) rfl ((g10).trans (condT (by exact hG))) (by omega) ⟨hs, f0, f1, f2, f3, f4, f5, f6, f7, f8, f9, f10, fun _ => (condT hG).symm, f12, f13, f14⟩⟩
            · rintro D ρ wx hD hd hdc hf ⟨hs, f0, f1, f2, f3, f4, f5, f6, f7, f8, f9, f10, f11, f12, f13, f14⟩
              have g7 := f7 (doneD hd 7 rfl)
              have g11 := f11 (doneD hd 11 rfl)
              rcases Bool.eq_false_or_eq_true ((decide (((i2 : Nat) : Int) ≤ ((j2 : Nat) : Int))) == true) with hG | hG
              rotate_left
              · exact .inr ⟨(Eq.trans (wantG1 (j := 3) rfl (f3 (doneD hd 3 rfl))) hG), ⟨hs, f0, f1, f2, f3, f4, f5, f6, f7, f8, f9, f10, f11, fun _ => (condF hG).symm, f13, f14⟩⟩
              ·
                have hgd := of_decide_eq_true (eq_of_beq hG)
                exact .inl ⟨(Eq.trans (wantG1 (j := 3) rfl (f3 (doneD hd 3 rfl))) hG), L_callP (vs := [.int .u16 (dd[j2]!), .int .u16 (dd[lo]!)]) (V := .bool (decide (dd[j2]! < dd[lo]!))) EN_108 rfl (mapc ((g7).trans (condT (by exact hG))) (mapc ((g11).trans (condT (by exact hG))) rfl)) (less_ok _ (dd[j2]!) (dd[lo]!)) hs fun _ hs0 => ⟨hs0, f0, f1, f2, f3, f4, f5, f6, f7, f8, f9, f10, f11, fun _ => (condT hG).symm, f13, f14⟩⟩
            · rintro D ρ wx hD hd hdc hf ⟨hs, f0, f1, f2, f3, f4, f5, f6, f7, f8, f9, f10, f11, f12, f13, f14⟩
              have g12 := f12 (doneD hd 12 rfl)
              rcases Bool.eq_false_or_eq_true ((decide (((i2 : Nat) : Int) ≤ ((j2 : Nat) : Int))) == true) with hG | hG
              rotate_left
              · exact .inr ⟨(Eq.trans (wantG1 (j := 3) rfl (f3 (doneD hd 3 rfl))) hG), ⟨hs, f0, f1, f2, f3, f4, f5, f6, f7, f8, f9, f10, f11, f12, fun _ => (condF hG).symm, f14⟩⟩
              ·
                have hgd := of_decide_eq_true (eq_of_beq hG)
                exact .inl ⟨(Eq.trans (wantG1 (j := 3) rfl (f3 (doneD hd 3 rfl))) hG), L_not ((g12).trans (condT (by exact hG))) ⟨hs, f0, f1, f2, f3, f4, f5, f6, f7, f8, f9, f10, f11, f12, fun _ => (condT hG).symm, f14⟩⟩
            · rintro D ρ wx hD hd hdc hf ⟨hs, f0, f1, f2, f3, f4, f5, f6, f7, f8, f9, f10, f11, f12, f13, f14⟩
              have g3 := f3 (doneD hd 3 rfl)
              have g13 := f13 (doneD hd 13 rfl)
              exact .inl ⟨rfl, L_and g3 rfl (fun hg => ((g13).trans (condT (by first | exact beqT hg | rfl)))) ⟨hs, f0, f1, f2, f3, f4, f5, f6, f7, f8, f9, f10, f11, f12, f13, fun _ => rfl⟩⟩
            · rintro ρ1 w1 D hD hf ⟨hs, f0, f1, f2, f3, f4, f5, f6, f7, f8, f9, f10, f11, f12, f13, f14⟩
              have e14 := f14 (hD 14 rfl)
              clear f0 f1 f2 f3 f4 f5 f6 f7 f8 f9 f10 f11 f12 f13 f14
              obtain ⟨ρ2, hρ⟩ : ∃ ρ2, ρ1 = upd (mix [46, 47, 48, 49, 50, 51, 52, 53, 54, 55, 56, 57, 58, 59, 60] ρ2 _) 60 (.bool ((decide (((i2 : Nat) : Int) ≤ ((j2 : Nat) : Int))) && (!decide (dd[j2]! < dd[lo]!)))) := ⟨ρ1, upd_of (mix_of (ds := [46, 47, 48, 49, 50, 51, 52, 53, 54, 55, 56, 57, 58, 59, 60]) hf) e14⟩
              clear hf hD e14
              subst hρ
              refine W_cond (t := (decide (((i2 : Nat) : Int) ≤ ((j2 : Nat) : Int))) && (!decide (dd[j2]! < dd[lo]!))) rfl (fun c11 => ?_) (fun c11 => ?_)
              ·
                have c11r := and_r c11
                replace c11 := and_l c11
                replace c11 := of_decide_eq_true c11
                replace c11r := not_t c11r
                replace c11r := of_decide_eq_false c11r
                refine W_skip ?_
                refine W_block ?_
                refine W_region ?_
                refine RW_op (L_move (V := .int .i64 ((j2 : Nat) : Int)) rfl ?_)
                refine RW_op (L_sub (a := ((j2 : Nat) : Int)) (b := 1) (c := ((j2 - 1 : Nat) : Int)) rfl rfl (nat_i64 (by omega) (by omega)) ?_)
                refine RW_op (L_assign (V := .int .i64 ((j2 - 1 : Nat) : Int)) rfl ?_)
                refine RW_nil ?_
                refine ⟨_, ?_, _, j2 - 1, upd_of (mix_of (ds := [11, 46, 47, 48, 49, 50, 51, 52, 53, 54, 55, 56, 57, 58, 59, 60, 61, 62]) (by repeat (first | exact Agr.refl _ _ | refine Agr.upd ?_ rfl | refine Agr.mix ?_ rfl))) rfl, (by omega), (by rw [← hsd, sw_yes (p := fun x => !Sort.ltInt x dd[lo]!) (b := !decide (dd[j2]! < dd[lo]!)) (by omega) rfl c11 (by rw [decide_eq_false c11r]; rfl)]), (by omega), rfl, hs.take 1⟩
                omega
              ·
                refine W_exit ?_
                refine W_seq ?_
                refine W_seq ?_
                have hj2 : j2 = Sort.scanDown (fun x => !Sort.ltInt x dd[lo]!) dd i2 (hi - 1) := by rw [← hsd, sw_no (p := fun x => !Sort.ltInt x dd[lo]!) (b := !decide (dd[j2]! < dd[lo]!)) rfl c11]
                refine W_region ?_
                refine RW_op (L_move (V := .int .i64 ((i2 : Nat) : Int)) rfl ?_)
                refine RW_op (L_move (V := .int .i64 ((j2 : Nat) : Int)) rfl ?_)
                refine RW_op (L_gtr rfl rfl ?_)
                refine RW_nil ?_
                refine W_cond (t := decide (((j2 : Nat) : Int) < ((i2 : Nat) : Int))) rfl (fun c12 => ?_) (fun c12 => ?_)
                ·
                  replace c12 := of_decide_eq_true c12
                  refine W_seq ?_
                  replace hs := hs.drew
                  refine W_draw2 HM [66, 67, 68, 69, 70, 71, 72, 73, 74, 75, 76, 77, 78, 79] [[], [], [], [], [], [], [4, 5], [6], [], [], [8, 9], [10], [0, 1, 0, 1, 4, 5, 6, 7, 11], [12, 7, 0, 1, 4, 5, 6, 7, 11], [2, 3, 0, 1, 2, 3, 4, 5, 6, 7, 8, 9, 10, 11, 12, 13], [14, 11, 13, 0, 1, 2, 3, 4, 5, 6, 7, 8, 9, 10, 11, 12, 13]] (fun D ρ wx => Own w S wx [cond (D 15) (row (.slice a N c) ((((dd.setIfInBounds j2 (dd[lo]!)).setIfInBounds lo (dd[j2]!)).toList).map (ic .u16)) 57 1) (cond (D 13) (row (.slice a N c) (((dd.setIfInBounds j2 (dd[lo]!)).toList).map (ic .u16)) 57 1) (row (.slice a N c) (dd.toList.map (ic .u16)) 57 1))] ∧ (D 0 = true → ρ 66 = .slice a N c) ∧ (D 1 = true → ρ 67 = .int .i64 ((j2 : Nat) : Int)) ∧ (D 2 = true → ρ 68 = .slice a N c) ∧ (D 3 = true → ρ 69 = .int .i64 ((lo : Nat) : Int)) ∧ (D 4 = true → ρ 70 = .slice a N c) ∧ (D 5 = true → ρ 71 = .int .i64 ((lo : Nat) : Int)) ∧ (D 6 = true → ρ 72 = .pointer (some ⟨bkS (.slice a N c), ofS (.slice a N c) + ((lo : Nat) : Int).toNat * 1, none⟩)) ∧ (D 7 = true → ρ 73 = .int .u16 (dd[lo]!)) ∧ (D 8 = true → ρ 74 = .slice a N c) ∧ (D 9 = true → ρ 75 = .int .i64 ((j2 : Nat) : Int)) ∧ (D 10 = true → ρ 76 = .pointer (some ⟨bkS (.slice a N c), ofS (.slice a N c) + ((j2 : Nat) : Int).toNat * 1, none⟩)) ∧ (D 11 = true → ρ 77 = .int .u16 (dd[j2]!)) ∧ (D 12 = true → ρ 78 = .pointer (some ⟨bkS (.slice a N c), ofS (.slice a N c) + ((j2 : Nat) : Int).toNat * 1, none⟩)) ∧ (True) ∧ (D 14 = true → ρ 79 = .pointer (some ⟨bkS (.slice a N c), ofS (.slice a N c) + ((lo : Nat) : Int).toNat * 1, none⟩)) ∧ (True)) rfl rfl rfl ⟨hs, fun h => absurd h Bool.false_ne_true, fun h => absurd h Bool.false_ne_true, fun h => absurd h Bool.false_ne_true, fun h => absurd h Bool.false_ne_true, fun h => absurd h Bool.false_ne_true, fun h => absurd h Bool.false_ne_true, fun h => absurd h Bool.false_ne_true, fun h => absurd h Bool.false_ne_true, fun h => absurd h Bool.false_ne_true, fun h => absurd h Bool.false_ne_true, fun h => absurd h Bool.false_ne_true, fun h => absurd h Bool.false_ne_true, fun h => absurd h Bool.false_ne_true, trivial, fun h => absurd h Bool.false_ne_true, trivial⟩ ⟨?_, ?_, ?_, ?_, ?_, ?_, ?_, ?_, ?_, ?_, ?_, ?_, ?_, ?_, ?_, ?_, trivial⟩ ?_
                  · rintro D ρ wx hD hd hdc hf ⟨hs, f0, f1, f2, f3, f4, f5, f6, f7, f8, f9, f10, f11, f12, f13, f14, f15⟩
                    have r0 : ρ 0 = .slice a N c := outD hf 0 rfl
                    exact .inl ⟨rfl, L_move (V := .slice a N c) r0 ⟨hs, fun _ => rfl, f1, f2, f3, f4, f5, f6, f7, f8, f9, f10, f11, f12, f13, f14, f15⟩⟩
                  · rintro D ρ wx hD hd hdc hf ⟨hs, f0, f1, f2, f3, f4, f5, f6, f7, f8, f9, f10, f11, f12, f13, f14, f15⟩
                    have r11 : ρ 11 = .int .i64 ((j2 : Nat) : Int) := outD hf 11 rfl
                    exact .inl ⟨rfl, L_move (V := .int .i64 ((j2 : Nat) : Int)) r11 ⟨hs, f0, fun _ => rfl, f2, f3, f4, f5, f6, f7, f8, f9, f10, f11, f12, f13, f14, f15⟩⟩
                  · rintro D ρ wx hD hd hdc hf ⟨hs, f0, f1, f2, f3, f4, f5, f6, f7, f8, f9, f10, f11, f12, f13, f14, f15⟩
                    have r0 : ρ 0 = .slice a N c := outD hf 0 rfl
                    exact .inl ⟨rfl, L_move (V := .slice a N c) r0 ⟨hs, f0, f1, fun _ => rfl, f3, f4, f5, f6, f7, f8, f9, f10, f11, f12, f13, f14, f15⟩⟩
                  · rintro D ρ wx hD hd hdc hf ⟨hs, f0, f1, f2, f3, f4, f5, f6, f7, f8, f9, f10, f11, f12, f13, f14, f15⟩
                    have r1 : ρ 1 = .int .i64 ((lo : Nat) : Int) := outD hf 1 rfl
                    exact .inl ⟨rfl, L_move (V := .int .i64 ((lo : Nat) : Int)) r1 ⟨hs, f0, f1, f2, fun _ => rfl, f4, f5, f6, f7, f8, f9, f10, f11, f12, f13, f14, f15⟩⟩
                  · rintro D ρ wx hD hd hdc hf ⟨hs, f0, f1, f2, f3, f4, f5, f6, f7, f8, f9, f10, f11, f12, f13, f14, f15⟩
                    have r0 : ρ 0 = .slice a N c := outD hf 0 rfl
                    exact .inl ⟨rfl, L_move (V := .slice a N c) r0 ⟨hs, f0, f1, f2, f3, fun _ => rfl, f5, f6, f7, f8, f9, f10, f11, f12, f13, f14, f15⟩⟩
                  · rintro D ρ wx hD hd hdc hf ⟨hs, f0, f1, f2, f3, f4, f5, f6, f7, f8, f9, f10, f11, f12, f13, f14, f15⟩
                    have r1 : ρ 1 = .int .i64 ((lo : Nat) : Int) := outD hf 1 rfl
                    exact .inl ⟨rfl, L_move (V := .int .i64 ((lo : Nat) : Int)) r1 ⟨hs, f0, f1, f2, f3, f4, fun _ => rfl, f6, f7, f8, f9, f10, f11, f12, f13, f14, f15⟩⟩
                  · rintro D ρ wx hD hd hdc hf ⟨hs, f0, f1, f2, f3, f4, f5, f6, f7, f8, f9, f10, f11, f12, f13, f14, f15⟩
                    have g4 := f4 (doneD hd 4 rfl)
                    have g5 := f5 (doneD hd 5 rfl)
                    have d13 : D 13 = false := (notYetD hdc (j := 13) rfl rfl hD)
                    have d15 : D 15 = false := (notYetD hdc (j := 15) rfl rfl hD)
                    have hs0 := hs; rw [d13, d15] at hs0
                    exact .inl ⟨rfl, L_ixR UD_72 S1_57.1 (hs0.rd 0 rfl) g4 g5 (by omega) (by simp only [List.length_map, Array.length_toList, Array.size_setIfInBounds, Go.Sort.size_swp]; omega) ⟨hs, f0, f1, f2, f3, f4, f5, fun _ => rfl, f7, f8, f9, f10, f11, f12, f13, f14, f15⟩⟩
                  · rintro D ρ wx hD hd hdc hf ⟨hs, f0, f1, f2, f3, f4, f5, f6, f7, f8, f9, f10, f11, f12, f13, f14, f15⟩
                    have g6 := f6 (doneD hd 6 rfl)
                    have d13 : D 13 = false := (notYetD hdc (j := 13) rfl rfl hD)
                    have d15 : D 15 = false := (notYetD hdc (j := 15) rfl rfl hD)
                    have hs0 := hs; rw [d13, d15] at hs0
                    exact .inl ⟨rfl, L_ldR (j := 0) (V := .int .u16 (dd[lo]!)) lo S1_57 (hs0.rd 0 rfl) (da_at (by omega)) rfl g6 (by omega) ⟨hs, f0, f1, f2, f3, f4, f5, f6, fun _ => rfl, f8, f9, f10, f11, f12, f13, f14, f15⟩⟩
                  · rintro D ρ wx hD hd hdc hf ⟨hs, f0, f1, f2, f3, f4, f5, f6, f7, f8, f9, f10, f11, f12, f13, f14, f15⟩
                    have r0 : ρ 0 = .slice a N c := outD hf 0 rfl
                    exact .inl ⟨rfl, L_move (V := .slice a N c) r0 ⟨hs, f0, f1, f2, f3, f4, f5, f6, f7, fun _ => rfl, f9, f10, f11, f12, f13, f14, f15⟩⟩
                  · rintro D ρ wx hD hd hdc hf ⟨hs, f0, f1, f2, f3, f4, f5, f6, f7, f8, f9, f10, f11, f12, f13, f14, f15⟩
                    have r11 : ρ 11 = .int .i64 ((j2 : Nat) : Int) := outD hf 11 rfl
                    exact .inl ⟨rfl, L_move (V := .int .i64 ((j2 : Nat) : Int)) r11 ⟨hs, f0, f1, f2, f3, f4, f5, f6, f7, f8, fun _ => rfl, f10, f11, f12, f13, f14, f15⟩⟩
                  · rintro D ρ wx hD hd hdc hf ⟨hs, f0, f1, f2, f3, f4, f5, f6, f7, f8, f9, f10, f11, f12, f13, f14, f15⟩
                    have g8 := f8 (doneD hd 8 rfl)
                    have g9 := f9 (doneD hd 9 rfl)
                    have d13 : D 13 = false := (notYetD hdc (j := 13) rfl rfl (notYetD hdc (j := 11) rfl rfl hD))
                    have d15 : D 15 = false := (notYetD hdc (j := 15) rfl rfl hD)
                    have hs0 := hs; rw [d13, d15] at hs0
                    exact .inl ⟨rfl, L_ixR UD_72 S1_57.1 (hs0.rd 0 rfl) g8 g9 (by omega) (by simp only [List.length_map, Array.length_toList, Array.size_setIfInBounds, Go.Sort.size_swp]; omega) ⟨hs, f0, f1, f2, f3, f4, f5, f6, f7, f8, f9, fun _ => rfl, f11, f12, f13, f14, f15⟩⟩
                  · rintro D ρ wx hD hd hdc hf ⟨hs, f0, f1, f2, f3, f4, f5, f6, f7, f8, f9, f10, f11, f12, f13, f14, f15⟩
                    have g10 := f10 (doneD hd 10 rfl)
                    have d13 : D 13 = false := (notYetD hdc (j := 13) rfl rfl hD)
                    have d15 : D 15 = false := (notYetD hdc (j := 15) rfl rfl hD)
                    have hs0 := hs; rw [d13, d15] at hs0
                    exact .inl ⟨rfl, L_ldR (j := 0) (V := .int .u16 (dd[j2]!)) j2 S1_57 (hs0.rd 0 rfl) (da_at (by omega)) rfl g10 (by omega) ⟨hs, f0, f1, f2, f3, f4, f5, f6, f7, f8, f9, f10, fun _ => rfl, f12, f13, f14, f15⟩⟩
                  · rintro D ρ wx hD hd hdc hf ⟨hs, f0, f1, f2, f3, f4, f5, f6, f7, f8, f9, f10, f11, f12, f13, f14, f15⟩
                    have g0 := f0 (doneD hd 0 rfl)
                    have g1 := f1 (doneD hd 1 rfl)
                    have d13 : D 13 = false := (notYetD hdc (j := 13) rfl rfl hD)
                    have d15 : D 15 = false := (notYetD hdc (j := 15) rfl rfl hD)
                    have hs0 := hs; rw [d13, d15] at hs0
                    exact .inl ⟨rfl, L_ixR UD_72 S1_57.1 (hs0.rd 0 rfl) g0 g1 (by omega) (by simp only [List.length_map, Array.length_toList, Array.size_setIfInBounds, Go.Sort.size_swp]; omega) ⟨hs, f0, f1, f2, f3, f4, f5, f6, f7, f8, f9, f10, f11, fun _ => rfl, f13, f14, f15⟩⟩
                  · rintro D ρ wx hD hd hdc hf ⟨hs, f0, f1, f2, f3, f4, f5, f6, f7, f8, f9, f10, f11, f12, f13, f14, f15⟩
                    have g7 := f7 (doneD hd 7 rfl)
                    have g12 := f12 (doneD hd 12 rfl)
                    have d13 : D 13 = false := hD
                    have d15 : D 15 = false := (notYetD hdc (j := 15) rfl rfl hD)
                    have hs0 := hs; rw [d13, d15] at hs0
                    refine .inl ⟨rfl, L_stA (z := dd[lo]!) j2 S1_57 hs0 0 rfl g12 (by omega) (by first | omega | (simp only [Array.size_setIfInBounds, Go.Sort.size_swp]; omega)) g7 rfl rfl fun _ hs0 => ⟨?_, f0, f1, f2, f3, f4, f5, f6, f7, f8, f9, f10, f11, f12, trivial, f14, f15⟩⟩
                    rw [show Go.Vx.mark D 13 15 = false from d15]
                    exact hs0
                  · rintro D ρ wx hD hd hdc hf ⟨hs, f0, f1, f2, f3, f4, f5, f6, f7, f8, f9, f10, f11, f12, f13, f14, f15⟩
                    have g2 := f2 (doneD hd 2 rfl)
                    have g3 := f3 (doneD hd 3 rfl)
                    have d13 : D 13 = true := doneD hd 13 rfl
                    have d15 : D 15 = false := (notYetD hdc (j := 15) rfl rfl hD)
                    have hs0 := hs; rw [d13, d15] at hs0
                    exact .inl ⟨rfl, L_ixR UD_72 S1_57.1 (hs0.rd 0 rfl) g2 g3 (by omega) (by simp only [List.length_map, Array.length_toList, Array.size_setIfInBounds, Go.Sort.size_swp]; omega) ⟨hs, f0, f1, f2, f3, f4, f5, f6, f7, f8, f9, f10, f11, f12, f13, fun _ => rfl, f15⟩⟩
                  · rintro D ρ wx hD hd hdc hf ⟨hs, f0, f1, f2, f3, f4, f5, f6, f7, f8, f9, f10, f11, f12, f13, f14, f15⟩
                    have g11 := f11 (doneD hd 11 rfl)
                    have g14 := f14 (doneD hd 14 rfl)
                    have d13 : D 13 = true := doneD hd 13 rfl
                    have d15 : D 15 = false := hD
                    have hs0 := hs; rw [d13, d15] at hs0
                    refine .inl ⟨rfl, L_stA (z := dd[j2]!) lo S1_57 hs0 0 rfl g14 (by omega) (by first | omega | (simp only [Array.size_setIfInBounds, Go.Sort.size_swp]; omega)) g11 rfl rfl fun _ hs0 => ⟨?_, f0, f1, f2, f3, f4, f5, f6, f7, f8, f9, f10, f11, f12, f13, f14, trivial⟩⟩
                    rw [show Go.Vx.mark D 15 13 = true from d13]
                    exact hs0
                  · rintro ρ1 w1 D hD hf ⟨hs, f0, f1, f2, f3, f4, f5, f6, f7, f8, f9, f10, f11, f12, f13, f14, f15⟩
                    rw [hD 13 rfl, hD 15 rfl] at hs
                    clear f0 f1 f2 f3 f4 f5 f6 f7 f8 f9 f10 f11 f12 f13 f14 f15
                    obtain ⟨ρ2, hρ⟩ : ∃ ρ2, ρ1 = mix [66, 67, 68, 69, 70, 71, 72, 73, 74, 75, 76, 77, 78, 79] ρ2 _ := ⟨ρ1, mix_of (ds := [66, 67, 68, 69, 70, 71, 72, 73, 74, 75, 76, 77, 78, 79]) hf⟩
                    clear hf hD
                    subst hρ
                    refine W_seq ?_
                    refine W_region ?_
                    refine RW_op (L_move (V := .int .i64 ((j2 : Nat) : Int)) rfl ?_)
                    refine RW_op (L_assign (V := .int .i64 ((j2 : Nat) : Int)) rfl ?_)
                    refine RW_op (L_assign (V := .bool true) rfl ?_)
                    refine RW_nil ?_
                    refine W_ret ?_
                    refine ⟨_, res_two (U := .int .i64 ((j2 : Nat) : Int)) (V := .bool true) Try.results110 rfl rfl, ?_⟩
                    have hX : Sort.partition Sort.ltInt d lo hi pv = (j2, true, Sort.swp dd j2 lo) := pt_stop hdd hi2 hj2 c12
                    rw [hX]
                    exact ⟨(), rfl, hs.take 1, by first | (rw [Go.Sort.size_swp]; assumption) | assumption⟩
                ·
                  replace c12 := of_decide_eq_false c12
                  refine W_skip ?_
                  refine W_seq ?_
                  replace hs := hs.drew
                  refine W_draw2 HM [81, 82, 83, 84, 85, 86, 87, 88, 89, 90, 91, 92, 93, 94] [[], [], [], [], [], [], [4, 5], [6], [], [], [8, 9], [10], [0, 1, 0, 1, 4, 5, 6, 7, 11], [12, 7, 0, 1, 4, 5, 6, 7, 11], [2, 3, 0, 1, 2, 3, 4, 5, 6, 7, 8, 9, 10, 11, 12, 13], [14, 11, 13, 0, 1, 2, 3, 4, 5, 6, 7, 8, 9, 10, 11, 12, 13]] (fun D ρ wx => Own w S wx [cond (D 15) (row (.slice a N c) ((((dd.setIfInBounds i2 (dd[j2]!)).setIfInBounds j2 (dd[i2]!)).toList).map (ic .u16)) 57 1) (cond (D 13) (row (.slice a N c) (((dd.setIfInBounds i2 (dd[j2]!)).toList).map (ic .u16)) 57 1) (row (.slice a N c) (dd.toList.map (ic .u16)) 57 1))] ∧ (D 0 = true → ρ 81 = .slice a N c) ∧ (D 1 = true → ρ 82 = .int .i64 ((i2 : Nat) : Int)) ∧ (D 2 = true → ρ 83 = .slice a N c) ∧ (D 3 = true → ρ 84 = .int .i64 ((j2 : Nat) : Int)) ∧ (D 4 = true → ρ 85 = .slice a N c) ∧ (D 5 = true → ρ 86 = .int .i64 ((j2 : Nat) : Int)) ∧ (D 6 = true → ρ 87 = .pointer (some ⟨bkS (.slice a N c), ofS (.slice a N c) + ((j2 : Nat) : Int).toNat * 1, none⟩)) ∧ (D 7 = true → ρ 88 = .int .u16 (dd[j2]!)) ∧ (D 8 = true → ρ 89 = .slice a N c) ∧ (D 9 = true → ρ 90 = .int .i64 ((i2 : Nat) : Int)) ∧ (D 10 = true → ρ 91 = .pointer (some ⟨bkS (.slice a N c), ofS (.slice a N c) + ((i2 : Nat) : Int).toNat * 1, none⟩)) ∧ (D 11 = true → ρ 92 = .int .u16 (dd[i2]!)) ∧ (D 12 = true → ρ 93 = .pointer (some ⟨bkS (.slice a N c), ofS (.slice a N c) + ((i2 : Nat) : Int).toNat * 1, none⟩)) ∧ (True) ∧ (D 14 = true → ρ 94 = .pointer (some ⟨bkS (.slice a N c), ofS (.slice a N c) + ((j2 : Nat) : Int).toNat * 1, none⟩)) ∧ (True)) rfl rfl rfl ⟨hs, fun h => absurd h Bool.false_ne_true, fun h => absurd h Bool.false_ne_true, fun h => absurd h Bool.false_ne_true, fun h => absurd h Bool.false_ne_true, fun h => absurd h Bool.false_ne_true, fun h => absurd h Bool.false_ne_true, fun h => absurd h Bool.false_ne_true, fun h => absurd h Bool.false_ne_true, fun h => absurd h Bool.false_ne_true, fun h => absurd h Bool.false_ne_true, fun h => absurd h Bool.false_ne_true, fun h => absurd h Bool.false_ne_true, fun h => absurd h Bool.false_ne_true, trivial, fun h => absurd h Bool.false_ne_true, trivial⟩ ⟨?_, ?_, ?_, ?_, ?_, ?_, ?_, ?_, ?_, ?_, ?_, ?_, ?_, ?_, ?_, ?_, trivial⟩ ?_
                  · rintro D ρ wx hD hd hdc hf ⟨hs, f0, f1, f2, f3, f4, f5, f6, f7, f8, f9, f10, f11, f12, f13, f14, f15⟩
                    have r0 : ρ 0 = .slice a N c := outD hf 0 rfl
                    exact .inl ⟨rfl, L_move (V := .slice a N c) r0 ⟨hs, fun _ => rfl, f1, f2, f3, f4, f5, f6, f7, f8, f9, f10, f11, f12, f13, f14, f15⟩⟩
                  · rintro D ρ wx hD hd hdc hf ⟨hs, f0, f1, f2, f3, f4, f5, f6, f7, f8, f9, f10, f11, f12, f13, f14, f15⟩
                    have r10 : ρ 10 = .int .i64 ((i2 : Nat) : Int) := outD hf 10 rfl
                    exact .inl ⟨rfl, L_move (V := .int .i64 ((i2 : Nat) : Int)) r10 ⟨hs, f0, fun _ => rfl, f2, f3, f4, f5, f6, f7, f8, f9, f10, f11, f12, f13, f14, f15⟩⟩
                  · rintro D ρ wx hD hd hdc hf ⟨hs, f0, f1, f2, f3, f4, f5, f6, f7, f8, f9, f10, f11, f12, f13, f14, f15⟩
                    have r0 : ρ 0 = .slice a N c := outD hf 0 rfl
                    exact .inl ⟨rfl, L_move (V := .slice a N c) r0 ⟨hs, f0, f1, fun _ => rfl, f3, f4, f5, f6, f7, f8, f9, f10, f11, f12, f13, f14, f15⟩⟩
                  · rintro D ρ wx hD hd hdc hf ⟨hs, f0, f1, f2, f3, f4, f5, f6, f7, f8, f9, f10, f11, f12, f13, f14, f15⟩
                    have r11 : ρ 11 = .int .i64 ((j2 : Nat) : Int) := outD hf 11 rfl
                    exact .inl ⟨rfl, L_move (V := .int .i64 ((j2 : Nat) : Int)) r11 ⟨hs, f0, f1, f2, fun _ => rfl, f4, f5, f6, f7, f8, f9, f10, f11, f12, f13, f14, f15⟩⟩
                  · rintro D ρ wx hD hd hdc hf ⟨hs, f0, f1, f2, f3, f4, f5, f6, f7, f8, f9, f10, f11, f12, f13, f14, f15⟩
                    have r0 : ρ 0 = .slice a N c := outD hf 0 rfl
                    exact .inl ⟨rfl, L_move (V := .slice a N c) r0 ⟨hs, f0, f1, f2, f3, fun _ => rfl, f5, f6, f7, f8, f9, f10, f11, f12, f13, f14, f15⟩⟩
                  · rintro D ρ wx hD hd hdc hf ⟨hs, f0, f1, f2, f3, f4, f5, f6, f7, f8, f9, f10, f11, f12, f13, f14, f15⟩
                    have r11 : ρ 11 = .int .i64 ((j2 : Nat) : Int) := outD hf 11 rfl
                    exact .inl ⟨rfl, L_move (V := .int .i64 ((j2 : Nat) : Int)) r11 ⟨hs, f0, f1, f2, f3, f4, fun _ => rfl, f6, f7, f8, f9, f10, f11, f12, f13, f14, f15⟩⟩
                  · rintro D ρ wx hD hd hdc hf ⟨hs, f0, f1, f2, f3, f4, f5, f6, f7, f8, f9, f10, f11, f12, f13, f14, f15⟩
                    have g4 := f4 (doneD hd 4 rfl)
                    have g5 := f5 (doneD hd 5 rfl)
                    have d13 : D 13 = false := (notYetD hdc (j := 13) rfl rfl hD)
                    have d15 : D 15 = false := (notYetD hdc (j := 15) rfl rfl hD)
                    have hs0 := hs; rw [d13, d15] at hs0
                    exact .inl ⟨rfl, L_ixR UD_72 S1_57.1 (hs0.rd 0 rfl) g4 g5 (by omega) (by simp only [List.length_map, Array.length_toList, Array.size_setIfInBounds, Go.Sort.size_swp]; omega) ⟨hs, f0, f1, f2, f3, f4, f5, fun _ => rfl, f7, f8, f9, f10, f11, f12, f13, f14, f15⟩⟩
                  · rintro D ρ wx hD hd hdc hf ⟨hs, f0, f1, f2, f3, f4, f5, f6, f7, f8, f9, f10, f11, f12, f13, f14, f15⟩
                    have g6 := f6 (doneD hd 6 rfl)
                    have d13 : D 13 = false := (notYetD hdc (j := 13) rfl rfl hD)
                    have d15 : D 15 = false := (notYetD hdc (j := 15) rfl rfl hD)
                    have hs0 := hs; rw [d13, d15] at hs0
                    exact .inl ⟨rfl, L_ldR (j := 0) (V := .int .u16 (dd[j2]!)) j2 S1_57 (hs0.rd 0 rfl) (da_at (by omega)) rfl g6 (by omega) ⟨hs, f0, f1, f2, f3, f4, f5, f6, fun _ => rfl, f8, f9, f10, f11, f12, f13, f14, f15⟩⟩
                  · rintro D ρ wx hD hd hdc hf ⟨hs, f0, f1, f2, f3, f4, f5, f6, f7, f8, f9, f10, f11, f12, f13, f14, f15⟩
                    have r0 : ρ 0 = .slice a N c := outD hf 0 rfl
                    exact .inl ⟨rfl, L_move (V := .slice a N c) r0 ⟨hs, f0, f1, f2, f3, f4, f5, f6, f7, fun _ => rfl, f9, f10, f11, f12, f13, f14, f15⟩⟩
                  · rintro D ρ wx hD hd hdc hf ⟨hs, f0, f1, f2, f3, f4, f5, f6, f7, f8, f9, f10, f11, f12, f13, f14, f15⟩
                    have r10 : ρ 10 = .int .i64 ((i2 : Nat) : Int) := outD hf 10 rfl
                    exact .inl ⟨rfl, L_move (V := .int .i64 ((i2 : Nat) : Int)) r10 ⟨hs, f0, f1, f2, f3, f4, f5, f6, f7, f8, fun _ => rfl, f10, f11, f12, f13, f14, f15⟩⟩
                  · rintro D ρ wx hD hd hdc hf ⟨hs, f0, f1, f2, f3, f4, f5, f6, f7, f8, f9, f10, f11, f12, f13, f14, f15⟩
                    have g8 := f8 (doneD hd 8 rfl)
                    have g9 := f9 (doneD hd 9 rfl)
                    have d13 : D 13 = false := (notYetD hdc (j := 13) rfl rfl (notYetD hdc (j := 11) rfl rfl hD))
                    have d15 : D 15 = false := (notYetD hdc (j := 15) rfl rfl hD)
                    have hs0 := hs; rw [d13, d15] at hs0
                    exact .inl ⟨rfl, L_ixR UD_72 S1_57.1 (hs0.rd 0 rfl) g8 g9 (by omega) (by simp only [List.length_map, Array.length_toList, Array.size_setIfInBounds, Go.Sort.size_swp]; omega) ⟨hs, f0, f1, f2, f3, f4, f5, f6, f7, f8, f9, fun _ => rfl, f11, f12, f13, f14, f15⟩⟩
                  · rintro D ρ wx hD hd hdc hf ⟨hs, f0, f1, f2, f3, f4, f5, f6, f7, f8, f9, f10, f11, f12, f13, f14, f15⟩
                    have g10 := f10 (doneD hd 10 rfl)
                    have d13 : D 13 = false := (notYetD hdc (j := 13) rfl rfl hD)
                    have d15 : D 15 = false := (notYetD hdc (j := 15) rfl rfl hD)
                    have hs0 := hs; rw [d13, d15] at hs0
                    exact .inl ⟨rfl, L_ldR (j := 0) (V := .int .u16 (dd[i2]!)) i2 S1_57 (hs0.rd 0 rfl) (da_at (by omega)) rfl g10 (by omega) ⟨hs, f0, f1, f2, f3, f4, f5, f6, f7, f8, f9, f10, fun _ => rfl, f12, f13, f14, f15⟩⟩
                  · rintro D ρ wx hD hd hdc hf ⟨hs, f0, f1, f2, f3, f4, f5, f6, f7, f8, f9, f10, f11, f12, f13, f14, f15⟩
                    have g0 := f0 (doneD hd 0 rfl)
                    have g1 := f1 (doneD hd 1 rfl)
                    have d13 : D 13 = false := (notYetD hdc (j := 13) rfl rfl hD)
                    have d15 : D 15 = false := (notYetD hdc (j := 15) rfl rfl hD)
                    have hs0 := hs; rw [d13, d15] at hs0
                    exact .inl ⟨rfl, L_ixR UD_72 S1_57.1 (hs0.rd 0 rfl) g0 g1 (by omega) (by simp only [List.length_map, Array.length_toList, Array.size_setIfInBounds, Go.Sort.size_swp]; omega) ⟨hs, f0, f1, f2, f3, f4, f5, f6, f7, f8, f9, f10, f11, fun _ => rfl, f13, f14, f15⟩⟩
                  · rintro D ρ wx hD hd hdc hf ⟨hs, f0, f1, f2, f3, f4, f5, f6, f7, f8, f9, f10, f11, f12, f13, f14, f15⟩
                    have g7 := f7 (doneD hd 7 rfl)
                    have g12 := f12 (doneD hd 12 rfl)
                    have d13 : D 13 = false := hD
                    have d15 : D 15 = false := (notYetD hdc (j := 15) rfl rfl hD)
                    have hs0 := hs; rw [d13, d15] at hs0
                    refine .inl ⟨rfl, L_stA (z := dd[j2]!) i2 S1_57 hs0 0 rfl g12 (by omega) (by first | omega | (simp only [Array.size_setIfInBounds, Go.Sort.size_swp]; omega)) g7 rfl rfl fun _ hs0 => ⟨?_, f0, f1, f2, f3, f4, f5, f6, f7, f8, f9, f10, f11, f12, trivial, f14, f15⟩⟩
                    rw [show Go.Vx.mark D 13 15 = false from d15]
                    exact hs0
                  · rintro D ρ wx hD hd hdc hf ⟨hs, f0, f1, f2, f3, f4, f5, f6, f7, f8, f9, f10, f11, f12, f13, f14, f15⟩
                    have g2 := f2 (doneD hd 2 rfl)
                    have g3 := f3 (doneD hd 3 rfl)
                    have d13 : D 13 = true := doneD hd 13 rfl
                    have d15 : D 15 = false := (notYetD hdc (j := 15) rfl rfl hD)
                    have hs0 := hs; rw [d13, d15] at hs0
                    exact .inl ⟨rfl, L_ixR UD_72 S1_57.1 (hs0.rd 0 rfl) g2 g3 (by omega) (by simp only [List.length_map, Array.length_toList, Array.size_setIfInBounds, Go.Sort.size_swp]; omega) ⟨hs, f0, f1, f2, f3, f4, f5, f6, f7, f8, f9, f10, f11, f12, f13, fun _ => rfl, f15⟩⟩
                  · rintro D ρ wx hD hd hdc hf ⟨hs, f0, f1, f2, f3, f4, f5, f6, f7, f8, f9, f10, f11, f12, f13, f14, f15⟩
                    have g11 := f11 (doneD hd 11 rfl)
                    have g14 := f14 (doneD hd 14 rfl)
                    have d13 : D 13 = true := doneD hd 13 rfl
                    have d15 : D 15 = false := hD
                    have hs0 := hs; rw [d13, d15] at hs0
                    refine .inl ⟨rfl, L_stA (z := dd[i2]!) j2 S1_57 hs0 0 rfl g14 (by omega) (by first | omega | (simp only [Array.size_setIfInBounds, Go.Sort.size_swp]; omega)) g11 rfl rfl fun _ hs0 => ⟨?_, f0, f1, f2, f3, f4, f5, f6, f7, f8, f9, f10, f11, f12, f13, f14, trivial⟩⟩
                    rw [show Go.Vx.mark D 15 13 = true from d13]
                    exact hs0
                  · rintro ρ1 w1 D hD hf ⟨hs, f0, f1, f2, f3, f4, f5, f6, f7, f8, f9, f10, f11, f12, f13, f14, f15⟩
                    rw [hD 13 rfl, hD 15 rfl] at hs
                    clear f0 f1 f2 f3 f4 f5 f6 f7 f8 f9 f10 f11 f12 f13 f14 f15
                    obtain ⟨ρ2, hρ⟩ : ∃ ρ2, ρ1 = mix [81, 82, 83, 84, 85, 86, 87, 88, 89, 90, 91, 92, 93, 94] ρ2 _ := ⟨ρ1, mix_of (ds := [81, 82, 83, 84, 85, 86, 87, 88, 89, 90, 91, 92, 93, 94]) hf⟩
                    clear hf hD
                    subst hρ
                    refine W_seq ?_
                    refine W_region ?_
                    refine RW_op (L_move (V := .int .i64 ((i2 : Nat) : Int)) rfl ?_)
                    refine RW_op (L_add (a := ((i2 : Nat) : Int)) (b := 1) (c := ((i2 + 1 : Nat) : Int)) rfl rfl (nat_i64 (by omega) (by omega)) ?_)
                    refine RW_op (L_assign (V := .int .i64 ((i2 + 1 : Nat) : Int)) rfl ?_)
                    refine RW_nil ?_
                    refine W_seq ?_
                    refine W_region ?_
                    refine RW_op (L_move (V := .int .i64 ((j2 : Nat) : Int)) rfl ?_)
                    refine RW_op (L_sub (a := ((j2 : Nat) : Int)) (b := 1) (c := ((j2 - 1 : Nat) : Int)) rfl rfl (nat_i64 (by omega) (by omega)) ?_)
                    refine RW_op (L_assign (V := .int .i64 ((j2 - 1 : Nat) : Int)) rfl ?_)
                    refine RW_nil ?_
                    refine W_seq ?_
                    refine W_block ?_
                    have hpt := pt_go hdd hi2 hj2 c12
                    refine W_loopI (fun ρ m ρ' w' => ∃ (ρo : Env) (i : Nat) (j : Nat) (d1 : Array Int), ρ' = upd (upd (mix [10, 11, 99, 100, 101, 102, 103, 104, 105, 106, 107, 108, 109, 110, 111, 112, 113, 114, 115, 116, 117, 118, 119, 120, 121, 122, 123, 124, 125, 126, 127, 128, 129, 130, 131, 132, 133, 134, 135, 136, 137, 138, 139, 140, 141, 142, 143, 144, 145, 146, 147, 148, 149, 150, 151, 152] ρo ρ) 10 (.int .i64 ((i : Nat) : Int))) 11 (.int .i64 ((j : Nat) : Int)) ∧ (lo + 1 ≤ i) ∧ (i ≤ hi + 1) ∧ (j < hi ∧ lo ≤ j) ∧ (d1.size = N) ∧ (Sort.partLoop Sort.ltInt lo i j d1 = Sort.partLoop Sort.ltInt lo (i2 + 1) (j2 - 1) (Sort.swp dd i2 j2)) ∧ m = j + 1 - i ∧ Own w S w' [row (.slice a N c) (d1.toList.map (ic .u16)) 57 1]) ?_ ?_
                    · exact ⟨_, _, i2 + 1, j2 - 1, ((dd.setIfInBounds i2 (dd[j2]!)).setIfInBounds j2 (dd[i2]!)), upd_of (upd_of (mix_of (ds := [10, 11, 99, 100, 101, 102, 103, 104, 105, 106, 107, 108, 109, 110, 111, 112, 113, 114, 115, 116, 117, 118, 119, 120, 121, 122, 123, 124, 125, 126, 127, 128, 129, 130, 131, 132, 133, 134, 135, 136, 137, 138, 139, 140, 141, 142, 143, 144, 145, 146, 147, 148, 149, 150, 151, 152]) (Agr.refl _ _)) rfl) rfl, (by omega), (by omega), (by omega), (by simp only [Array.size_setIfInBounds]; exact hzd), rfl, rfl, hs⟩
                    · rintro m ρ' w19 ⟨ρo, i, j, d1, rfl, hi0, hi1, hj, hz1, hev, rfl, hs⟩
                      refine W_block ?_
                      refine W_seq ?_
                      refine W_block ?_
                      refine W_loopI (fun ρ m ρ' w' => ∃ (ρo : Env) (i4 : Nat), ρ' = upd (mix [10, 99, 100, 101, 102, 103, 104, 105, 106, 107, 108, 109, 110, 111, 112, 113, 114] ρo ρ) 10 (.int .i64 ((i4 : Nat) : Int)) ∧ (i ≤ i4) ∧ (i4 ≤ hi + 1) ∧ (Sort.scanUp (fun x => Sort.ltInt x d1[lo]!) d1 (j) i4 = Sort.scanUp (fun x => Sort.ltInt x d1[lo]!) d1 (j) (i)) ∧ m = j + 1 - i4 ∧ Own w S w' [row (.slice a N c) (d1.toList.map (ic .u16)) 57 1]) ?_ ?_
                      · exact ⟨_, _, i, upd_of (mix_of (ds := [10, 99, 100, 101, 102, 103, 104, 105, 106, 107, 108, 109, 110, 111, 112, 113, 114]) (Agr.refl _ _)) rfl, (Nat.le_refl _), (by omega), rfl, rfl, hs⟩
                      · rintro m ρ' w20 ⟨ρo, i4, rfl, hi4a, hi4b, hsu4, rfl, hs⟩
                        refine W_seq ?_
                        refine W_seq ?_
                        replace hs := hs.drew
                        refine W_draw2 HM [99, 100, 101, 102, 103, 104, 105, 106, 107, 108, 109, 110, 111, 112] [[], [], [0, 1], [2], [3], [3], [4, 5, 3], [6, 3], [3], [3], [8, 9, 3], [10, 3], [7, 11, 3, 3], [3, 12]] (fun D ρ wx => Own w S wx [row (.slice a N c) (d1.toList.map (ic .u16)) 57 1] ∧ (D 0 = true → ρ 99 = .int .i64 ((i4 : Nat) : Int)) ∧ (D 1 = true → ρ 100 = .int .i64 ((j : Nat) : Int)) ∧ (D 2 = true → ρ 101 = .bool (decide (((i4 : Nat) : Int) ≤ ((j : Nat) : Int)))) ∧ (D 3 = true → ρ 102 = .bool (decide (((i4 : Nat) : Int) ≤ ((j : Nat) : Int)))) ∧ (D 4 = true → ρ 103 = cond ((decide (((i4 : Nat) : Int) ≤ ((j : Nat) : Int))) == true) (.slice a N c) undef) ∧ (D 5 = true → ρ 104 = cond ((decide (((i4 : Nat) : Int) ≤ ((j : Nat) : Int))) == true) (.int .i64 ((i4 : Nat) : Int)) undef) ∧ (D 6 = true → ρ 105 = cond ((decide (((i4 : Nat) : Int) ≤ ((j : Nat) : Int))) == true) (.pointer (some ⟨bkS (.slice a N c), ofS (.slice a N c) + ((i4 : Nat) : Int).toNat * 1, none⟩)) undef) ∧ (D 7 = true → ρ 106 = cond ((decide (((i4 : Nat) : Int) ≤ ((j : Nat) : Int))) == true) (.int .u16 (d1[i4]!)) undef) ∧ (D 8 = true → ρ 107 = cond ((decide (((i4 : Nat) : Int) ≤ ((j : Nat) : Int))) == true) (.slice a N c) undef) ∧ (D 9 = true → ρ 108 = cond ((decide (((i4 : Nat) : Int) ≤ ((j : Nat) : Int))) == true) (.int .i64 ((lo : Nat) : Int)) undef) ∧ (D 10 = true → ρ 109 = cond ((decide (((i4 : Nat) : Int) ≤ ((j : Nat) : Int))) == true) (.pointer (some ⟨bkS (.slice a N c), ofS (.slice a N c) + ((lo : Nat) : Int).toNat * 1, none⟩)) undef) ∧ (D 11 = true → ρ 110 = cond ((decide (((i4 : Nat) : Int) ≤ ((j : Nat) : Int))) == true) (.int .u16 (d1[lo]!)) undef) ∧ (D 12 = true → ρ 111 = cond ((decide (((i4 : Nat) : Int) ≤ ((j : Nat) : Int))) == true) (.bool (decide (d1[i4]! < d1[lo]!))) undef) ∧ (D 13 = true → ρ 112 = .bool ((decide (((i4 : Nat) : Int) ≤ ((j : Nat) : Int))) && (decide (d1[i4]! < d1[lo]!))))) rfl rfl rfl ⟨hs, fun h => absurd h Bool.false_ne_true, fun h => absurd h Bool.false_ne_true, fun h => absurd h Bool.false_ne_true, fun h => absurd h Bool.false_ne_true, fun h => absurd h Bool.false_ne_true, fun h => absurd h Bool.false_ne_true, fun h => absurd h Bool.false_ne_true, fun h => absurd h Bool.false_ne_true, fun h => absurd h Bool.false_ne_true, fun h => absurd h Bool.false_ne_true, fun h => absurd h Bool.false_ne_true, fun h => absurd h Bool.false_ne_true, fun h => absurd h Bool.false_ne_true, fun h => absurd h Bool.false_ne_true⟩ ⟨?_, ?_, ?_, ?_, ?_, ?_, ?_, ?_, ?_, ?_, ?_, ?_, ?_, ?_, trivial⟩ ?_
                        · rintro D ρ wx hD hd hdc hf ⟨hs, f0, f1, f2, f3, f4, f5, f6, f7, f8, f9, f10, f11, f12, f13⟩
                          have r10 : ρ 10 = .int .i64 ((i4 : Nat) : Int) := outD hf 10 rfl
                          exact .inl ⟨rfl, L_move (V := .int .i64 ((i4 : Nat) : Int)) r10 ⟨hs, fun _ => rfl, f1, f2, f3, f4, f5, f6, f7, f8, f9, f10, f11, f12, f13⟩⟩
                        · rintro D ρ wx hD hd hdc hf ⟨hs, f0, f1, f2, f3, f4, f5, f6, f7, f8, f9, f10, f11, f12, f13⟩
                          have r11 : ρ 11 = .int .i64 ((j : Nat) : Int) := outD hf 11 rfl
                          exact .inl ⟨rfl, L_move (V := .int .i64 ((j : Nat) : Int)) r11 ⟨hs, f0, fun _ => rfl, f2, f3, f4, f5, f6, f7, f8, f9, f10, f11, f12, f13⟩⟩
                        · rintro D ρ wx hD hd hdc hf ⟨hs, f0, f1, f2, f3, f4, f5, f6, f7, f8, f9, f10, f11, f12, f13⟩
                          have g0 := f0 (doneD hd 0 rfl)
                          have g1 := f1 (doneD hd 1 rfl)
                          exact .inl ⟨rfl, L_leq g0 g1 ⟨hs, f0, f1, fun _ => rfl, f3, f4, f5, f6, f7, f8, f9, f10, f11, f12, f13⟩⟩
                        · rintro D ρ wx hD hd hdc hf ⟨hs, f0, f1, f2, f3, f4, f5, f6, f7, f8, f9, f10, f11, f12, f13⟩
                          have g2 := f2 (doneD hd 2 rfl)
                          exact .inl ⟨rfl, L_move (V := .bool (decide (((i4 : Nat) : Int) ≤ ((j : Nat) : Int)))) g2 ⟨hs, f0, f1, f2, fun _ => rfl, f4, f5, f6, f7, f8, f9, f10, f11, f12, f13⟩⟩
                        · rintro D ρ wx hD hd hdc hf ⟨hs, f0, f1, f2, f3, f4, f5, f6, f7, f8, f9, f10, f11, f12, f13⟩
                          have r0 : ρ 0 = .slice a N c := outD hf 0 rfl
                          rcases Bool.eq_false_or_eq_true ((decide (((i4 : Nat) : Int) ≤ ((j : Nat) : Int))) == true) with hG | hG
                          rotate_left
                          · exact .inr ⟨(Eq.trans (wantG1 (j := 3) rfl (f3 (doneD hd 3 rfl))) hG), ⟨hs, f0, f1, f2, f3, fun _ => (condF hG).symm, f5, f6, f7, f8, f9, f10, f11, f12, f13⟩⟩
                          ·
                            have hgd := of_decide_eq_true (eq_of_beq hG)
                            exact .inl ⟨(Eq.trans (wantG1 (j := 3) rfl (f3 (doneD hd 3 rfl))) hG), L_move (V := .slice a N c) r0 ⟨hs, f0, f1, f2, f3, fun _ => (condT hG).symm, f5, f6, f7, f8, f9, f10, f11, f12, f13⟩⟩
                        · rintro D ρ wx hD hd hdc hf ⟨hs, f0, f1, f2, f3, f4, f5, f6, f7, f8, f9, f10, f11, f12, f13⟩
                          have r10 : ρ 10 = .int .i64 ((i4 : Nat) : Int) := outD hf 10 rfl
                          rcases Bool.eq_false_or_eq_true ((decide (((i4 : Nat) : Int) ≤ ((j : Nat) : Int))) == true) with hG | hG
                          rotate_left
                          · exact .inr ⟨(Eq.trans (wantG1 (j := 3) rfl (f3 (doneD hd 3 rfl))) hG), ⟨hs, f0, f1, f2, f3, f4, fun _ => (condF hG).symm, f6, f7, f8, f9, f10, f11, f12, f13⟩⟩
                          ·
                            have hgd := of_decide_eq_true (eq_of_beq hG)
                            exact .inl ⟨(Eq.trans (wantG1 (j := 3) rfl (f3 (doneD hd 3 rfl))) hG), L_move (V := .int .i64 ((i4 : Nat) : Int)) r10 ⟨hs, f0, f1, f2, f3, f4, fun _ => (condT hG).symm, f6, f7, f8, f9, f10, f11, f12, f13⟩⟩
                        · rintro D ρ wx hD hd hdc hf ⟨hs, f0, f1, f2, f3, f4, f5, f6, f7, f8, f9, f10, f11, f12, f13⟩
                          have g4 := f4 (doneD hd 4 rfl)
                          have g5 := f5 (doneD hd 5 rfl)
                          rcases Bool.eq_false_or_eq_true ((decide (((i4 : Nat) : Int) ≤ ((j : Nat) : Int))) == true) with hG | hG
                          rotate_left
                          · exact .inr ⟨(Eq.trans (wantG1 (j := 3) rfl (f3 (doneD hd 3 rfl))) hG), ⟨hs, f0, f1, f2, f3, f4, f5, fun _ => (condF hG).symm, f7, f8, f9, f10, f11, f12, f13⟩⟩
                          ·
                            have hgd := of_decide_eq_true (eq_of_beq hG)
                            exact .inl ⟨(Eq.trans (wantG1 (j := 3) rfl (f3 (doneD hd 3 rfl))) hG), L_ixR UD_72 S1_57.1 (hs.rd 0 rfl) ((g4).trans (condT (by exact hG))) ((g5).trans (condT (by exact hG))) (by omega) (by simp only [List.length_map, Array.length_toList, Array.size_setIfInBounds, Go.Sort.size_swp]; omega) ⟨hs, f0, f1, f2, f3, f4, f5, fun _ => (condT hG).symm, f7, f8, f9, f10, f11, f12, f13⟩⟩
                        · rintro D ρ wx hD hd hdc hf ⟨hs, f0, f1, f2, f3, f4, f5, f6, f7, f8, f9, f10, f11, f12, f13⟩
                          have g6 := f6 (doneD hd 6 rfl)
                          rcases Bool.eq_false_or_eq_true ((decide (((i4 : Nat) : Int) ≤ ((j : Nat) : Int))) == true) with hG | hG
                          rotate_left
                          · exact .inr ⟨(Eq.trans (wantG1 (j := 3) rfl (f3 (doneD hd 3 rfl))) hG), ⟨hs, f0, f1, f2, f3, f4, f5, f6, fun _ => (condF hG).symm, f8, f9, f10, f11, f12, f13⟩⟩
                          ·
                            have hgd := of_decide_eq_true (eq_of_beq hG)
                            exact .inl ⟨(Eq.trans (wantG1 (j := 3) rfl (f3 (doneD hd 3 rfl))) hG), L_ldR (j := 0) (V := .int .u16 (d1[i4]!)) i4 S1_57 (hs.rd 0 rfl) (da_at (by omega)) rfl ((g6).trans (condT (by exact hG))) (by omega) ⟨hs, f0, f1, f2, f3, f4, f5, f6, fun _ => (condT hG).symm, f8, f9, f10, f11, f12, f13⟩⟩
                        · rintro D ρ wx hD hd hdc hf ⟨hs, f0, f1, f2, f3, f4, f5, f6, f7, f8, f9, f10, f11, f12, f13⟩
                          have r0 : ρ 0 = .slice a N c := outD hf 0 rfl
                          rcases Bool.eq_false_or_eq_true ((decide (((i4 : Nat) : Int) ≤ ((j : Nat) : Int))) == true) with hG | hG
                          rotate_left
                          · exact .inr ⟨(Eq.trans (wantG1 (j := 3) rfl (f3 (doneD hd 3 rfl))) hG), ⟨hs, f0, f1, f2, f3, f4, f5, f6, f7, fun _ => (condF hG).symm, f9, f10, f11, f12, f13⟩⟩
                          ·
                            have hgd := of_decide_eq_true (eq_of_beq hG)
                            exact .inl ⟨(Eq.trans (wantG1 (j := 3) rfl (f3 (doneD hd 3 rfl))) hG), L_move (V := .slice a N c) r0 ⟨hs, f0, f1, f2, f3, f4, f5, f6, f7, fun _ => (condT hG).symm, f9, f10, f11, f12, f13⟩⟩
                        · rintro D ρ wx hD hd hdc hf ⟨hs, f0, f1, f2, f3, f4, f5, f6, f7, f8, f9, f10, f11, f12, f13⟩
                          have r1 : ρ 1 = .int .i64 ((lo : Nat) : Int) := outD hf 1 rfl
                          rcases Bool.eq_false_or_eq_true ((decide (((i4 : Nat) : Int) ≤ ((j : Nat) : Int))) == true) with hG | hG
                          rotate_left
                          · exact .inr ⟨(Eq.trans (wantG1 (j := 3) rfl (f3 (doneD hd 3 rfl))) hG), ⟨hs, f0, f1, f2, f3, f4, f5, f6, f7, f8, fun _ => (condF hG).symm, f10, f11, f12, f13⟩⟩
                          ·
                            have hgd := of_decide_eq_true (eq_of_beq hG)
                            exact .inl ⟨(Eq.trans (wantG1 (j := 3) rfl (f3 (doneD hd 3 rfl))) hG), L_move (V := .int .i64 ((lo : Nat) : Int)) r1 ⟨hs, f0, f1, f2, f3, f4, f5, f6, f7, f8, fun _ => (condT hG).symm, f10, f11, f12, f13⟩⟩
                        · rintro D ρ wx hD hd hdc hf ⟨hs, f0, f1, f2, f3, f4, f5, f6, f7, f8, f9, f10, f11, f12, f13⟩
                          have g8 := f8 (doneD hd 8 rfl)
                          have g9 := f9 (doneD hd 9 rfl)
                          rcases Bool.eq_false_or_eq_true ((decide (((i4 : Nat) : Int) ≤ ((j : Nat) : Int))) == true) with hG | hG
                          rotate_left
                          · exact .inr ⟨(Eq.trans (wantG1 (j := 3) rfl (f3 (doneD hd 3 rfl))) hG), ⟨hs, f0, f1, f2, f3, f4, f5, f6, f7, f8, f9, fun _ => (condF hG).symm, f11, f12, f13⟩⟩
                          ·
                            have hgd := of_decide_eq_true (eq_of_beq hG)
                            exact .inl ⟨(Eq.trans (wantG1 (j := 3) rfl (f3 (doneD hd 3 rfl))) hG), L_ixR UD_72 S1_57.1 (hs.rd 0 rfl) ((g8).trans (condT (by exact hG))) ((g9).trans (condT (by exact hG))) (by omega) (by simp only [List.length_map, Array.length_toList, Array.size_setIfInBounds, Go.Sort.size_swp]; omega) ⟨hs, f0, f1, f2, f3, f4, f5, f6, f7, f8, f9, fun _ => (condT hG).symm, f11, f12, f13⟩⟩
                        · rintro D ρ wx hD hd hdc hf ⟨hs, f0, f1, f2, f3, f4, f5, f6, f7, f8, f9, f10, f11, f12, f13⟩
                          have g10 := f10 (doneD hd 10 rfl)
                          rcases Bool.eq_false_or_eq_true ((decide (((i4 : Nat) : Int) ≤ ((j : Nat) : Int))) == true) with hG | hG
                          rotate_left
                          · exact .inr ⟨(Eq.trans (wantG1 (j := 3) rfl (f3 (doneD hd 3 rfl))) hG), ⟨hs, f0, f1, f2, f3, f4, f5, f6, f7, f8, f9, f10, fun _ => (condF hG).symm, f12, f13⟩⟩
                          ·
                            have hgd := of_decide_eq_true (eq_of_beq hG)
                            exact .inl ⟨(Eq.trans (wantG1 (j := 3) rfl (f3 (doneD hd 3 rfl))) hG), L_ldR (j := 0) (V := .int .u16 (d1[lo]!)) lo S1_57 (hs.rd 0 rfl) (da_at (by omega)) rfl ((g10).trans (condT (by exact hG))) (by omega) ⟨hs, f0, f1, f2, f3, f4, f5, f6, f7, f8, f9, f10, fun _ => (condT hG).symm, f12, f13⟩⟩
                        · rintro D ρ wx hD hd hdc hf ⟨hs, f0, f1, f2, f3, f4, f5, f6, f7, f8, f9, f10, f11, f12, f13⟩
                          have g7 := f7 (doneD hd 7 rfl)
                          have g11 := f11 (doneD hd 11 rfl)
                          rcases Bool.eq_false_or_eq_true ((decide (((i4 : Nat) : Int) ≤ ((j : Nat) : Int))) == true) with hG | hG
                          rotate_left
                          · exact .inr ⟨(Eq.trans (wantG1 (j := 3) rfl (f3 (doneD hd 3 rfl))) hG), ⟨hs, f0, f1, f2, f3, f4, f5, f6, f7, f8, f9, f10, f11, fun _ => (condF hG).symm, f13⟩⟩
                          ·
                            have hgd := of_decide_eq_true (eq_of_beq hG)
                            exact .inl ⟨(Eq.trans (wantG1 (j := 3) rfl (f3 (doneD hd 3 rfl))) hG), L_callP (vs := [.int .u16 (d1[i4]!), .int .u16 (d1[lo]!)]) (V := .bool (decide (d1[i4]! < d1[lo]!))) EN_108 rfl (mapc ((g7).trans (condT (by exact hG))) (mapc ((g11).trans (condT (by exact hG))) rfl)) (less_ok _ (d1[i4]!) (d1[lo]!)) hs fun _ hs0 => ⟨hs0, f0, f1, f2, f3, f4, f5, f6, f7, f8, f9, f10, f11, fun _ => (condT hG).symm, f13⟩⟩
                        · rintro D ρ wx hD hd hdc hf ⟨hs, f0, f1, f2, f3, f4, f5, f6, f7, f8, f9, f10, f11, f12, f13⟩
                          have g3 := f3 (doneD hd 3 rfl)
                          have g12 := f12 (doneD hd 12 rfl)
                          exact .inl ⟨rfl, L_and g3 rfl (fun hg => ((g12).trans (condT (by first | exact beqT hg | rfl)))) ⟨hs, f0, f1, f2, f3, f4, f5, f6, f7, f8, f9, f10, f11, f12, fun _ => rfl⟩⟩
                        · rintro ρ1 w1 D hD hf ⟨hs, f0, f1, f2, f3, f4, f5, f6, f7, f8, f9, f10, f11, f12, f13⟩
                          have e13 := f13 (hD 13 rfl)
                          clear f0 f1 f2 f3 f4 f5 f6 f7 f8 f9 f10 f11 f12 f13
                          obtain ⟨ρ2, hρ⟩ : ∃ ρ2, ρ1 = upd (mix [99, 100, 101, 102, 103, 104, 105, 106, 107, 108, 109, 110, 111, 112] ρ2 _) 112 (.bool ((decide (((i4 : Nat) : Int) ≤ ((j : Nat) : Int))) && (decide (d1[i4]! < d1[lo]!)))) := ⟨ρ1, upd_of (mix_of (ds := [99, 100, 101, 102, 103, 104, 105, 106, 107, 108, 109, 110, 111, 112]) hf) e13⟩
                          clear hf hD e13
                          subst hρ
                          refine W_cond (t := (decide (((i4 : Nat) : Int) ≤ ((j : Nat) : Int))) && (decide (d1[i4]! < d1[lo]!))) rfl (fun c23 => ?_) (fun c23 => ?_)
                          ·
                            have c23r := and_r c23
                            replace c23 := and_l c23
                            replace c23 := of_decide_eq_true c23
                            replace c23r := of_decide_eq_true c23r
                            refine W_skip ?_
                            refine W_block ?_
                            refine W_region ?_
                            refine RW_op (L_move (V := .int .i64 ((i4 : Nat) : Int)) rfl ?_)
                            refine RW_op (L_add (a := ((i4 : Nat) : Int)) (b := 1) (c := ((i4 + 1 : Nat) : Int)) rfl rfl (nat_i64 (by omega) (by omega)) ?_)
                            refine RW_op (L_assign (V := .int .i64 ((i4 + 1 : Nat) : Int)) rfl ?_)
                            refine RW_nil ?_
                            refine ⟨_, ?_, _, i4 + 1, upd_of (mix_of (ds := [10, 99, 100, 101, 102, 103, 104, 105, 106, 107, 108, 109, 110, 111, 112, 113, 114]) (by repeat (first | exact Agr.refl _ _ | refine Agr.upd ?_ rfl | refine Agr.mix ?_ rfl))) rfl, (by omega), (by omega), (by rw [← hsu4, su_yes (p := fun x => Sort.ltInt x d1[lo]!) (b := decide (d1[i4]! < d1[lo]!)) rfl c23 (decide_eq_true c23r)]), rfl, hs.take 1⟩
                            omega
                          ·
                            refine W_exit ?_
                            refine W_seq ?_
                            refine W_block ?_
                            have hi4 : i4 = Sort.scanUp (fun x => Sort.ltInt x d1[lo]!) d1 j i := by rw [← hsu4, su_no (p := fun x => Sort.ltInt x d1[lo]!) (b := decide (d1[i4]! < d1[lo]!)) rfl c23]
                            refine W_loopI (fun ρ m ρ' w' => ∃ (ρo : Env) (j4 : Nat), ρ' = upd (mix [11, 115, 116, 117, 118, 119, 120, 121, 122, 123, 124, 125, 126, 127, 128, 129, 130, 131] ρo ρ) 11 (.int .i64 ((j4 : Nat) : Int)) ∧ (j4 ≤ j) ∧ (Sort.scanDown (fun x => !Sort.ltInt x d1[lo]!) d1 i4 j4 = Sort.scanDown (fun x => !Sort.ltInt x d1[lo]!) d1 i4 (j)) ∧ (lo ≤ j4) ∧ m = 2 * j4 ∧ Own w S w' [row (.slice a N c) (d1.toList.map (ic .u16)) 57 1]) ?_ ?_
                            · exact ⟨_, _, j, upd_of (mix_of (ds := [11, 115, 116, 117, 118, 119, 120, 121, 122, 123, 124, 125, 126, 127, 128, 129, 130, 131]) (Agr.refl _ _)) rfl, (Nat.le_refl _), rfl, (by omega), rfl, hs⟩
                            · rintro m ρ' w24 ⟨ρo, j4, rfl, hj4b, hsd4, hlowj4, rfl, hs⟩
                              refine W_seq ?_
                              refine W_seq ?_
                              replace hs := hs.drew
                              refine W_draw2 HM [115, 116, 117, 118, 119, 120, 121, 122, 123, 124, 125, 126, 127, 128, 129] [[], [], [0, 1], [2], [3], [3], [4, 5, 3], [6, 3], [3], [3], [8, 9, 3], [10, 3], [7, 11, 3, 3], [12, 3], [3, 13]] (fun D ρ wx => Own w S wx [row (.slice a N c) (d1.toList.map (ic .u16)) 57 1] ∧ (D 0 = true → ρ 115 = .int .i64 ((i4 : Nat) : Int)) ∧ (D 1 = true → ρ 116 = .int .i64 ((j4 : Nat) : Int)) ∧ (D 2 = true → ρ 117 = .bool (decide (((i4 : Nat) : Int) ≤ ((j4 : Nat) : Int)))) ∧ (D 3 = true → ρ 118 = .bool (decide (((i4 : Nat) : Int) ≤ ((j4 : Nat) : Int)))) ∧ (D 4 = true → ρ 119 = cond ((decide (((i4 : Nat) : Int) ≤ ((j4 : Nat) : Int))) == true) (.slice a N c) undef) ∧ (D 5 = true → ρ 120 = cond ((decide (((i4 : Nat) : Int) ≤ ((j4 : Nat) : Int))) == true) (.int .i64 ((j4 : Nat) : Int)) undef) ∧ (D 6 = true → ρ 121 = cond ((decide (((i4 : Nat) : Int) ≤ ((j4 : Nat) : Int))) == true) (.pointer (some ⟨bkS (.slice a N c), ofS (.slice a N c) + ((j4 : Nat) : Int).toNat * 1, none⟩)) undef) ∧ (D 7 = true → ρ 122 = cond ((decide (((i4 : Nat) : Int) ≤ ((j4 : Nat) : Int))) == true) (.int .u16 (d1[j4]!)) undef) ∧ (D 8 = true → ρ 123 = cond ((decide (((i4 : Nat) : Int) ≤ ((j4 : Nat) : Int))) == true) (.slice a N c) undef) ∧ (D 9 = true → ρ 124 = cond ((decide (((i4 : Nat) : Int) ≤ ((j4 : Nat) : Int))) == true) (.int .i64 ((lo : Nat) : Int)) undef) ∧ (D 10 = true → ρ 125 = cond ((decide (((i4 : Nat) : Int) ≤ ((j4 : Nat) : Int))) == true) (.pointer (some ⟨bkS (.slice a N c), ofS (.slice a N c) + ((lo : Nat) : Int).toNat * 1, none⟩)) undef) ∧ (D 11 = true → ρ 126 = cond ((decide (((i4 : Nat) : Int) ≤ ((j4 : Nat) : Int))) == true) (.int .u16 (d1[lo]!)) undef) ∧ (D 12 = true → ρ 127 = cond ((decide (((i4 : Nat) : Int) ≤ ((j4 : Nat) : Int))) == true) (.bool (decide (d1[j4]! < d1[lo]!))) undef) ∧ (D 13 = true → ρ 128 = cond ((decide (((i4 : Nat) : Int) ≤ ((j4 : Nat) : Int))) == true) (.bool (!decide (d1[j4]! < d1[lo]!))) undef) ∧ (D 14 = true → ρ 129 = .bool ((decide (((i4 : Nat) : Int) ≤ ((j4 : Nat) : Int))) && (!decide (d1[j4]! < d1[lo]!))))) rfl rfl rfl ⟨hs, fun h => absurd h Bool.false_ne_true, fun h => absurd h Bool.false_ne_true, fun h => absurd h Bool.false_ne_true, fun h => absurd h Bool.false_ne_true, fun h => absurd h Bool.false_ne_true, fun h => absurd h Bool.false_ne_true, fun h => absurd h Bool.false_ne_true, fun h => absurd h Bool.false_ne_true, fun h => absurd h Bool.false_ne_true, fun h => absurd h Bool.false_ne_true, fun h => absurd h Bool.false_ne_true, fun h => absurd h Bool.false_ne_true, fun h => absurd h Bool.false_ne_true, fun h => absurd h Bool.false_ne_true, fun h => absurd h Bool.false_ne_true⟩ ⟨?_, ?_, ?_, ?_, ?_, ?_, ?_, ?_, ?_, ?_, ?_, ?_, ?_, ?_, ?_, trivial⟩ ?_
                              · rintro D ρ wx hD hd hdc hf ⟨hs, f0, f1, f2, f3, f4, f5, f6, f7, f8, f9, f10, f11, f12, f13, f14⟩
                                have r10 : ρ 10 = .int .i64 ((i4 : Nat) : Int) := outD hf 10 rfl
                                exact .inl ⟨rfl, L_move (V := .int .i64 ((i4 : Nat) : Int)) r10 ⟨hs, fun _ => rfl, f1, f2, f3, f4, f5, f6, f7, f8, f9, f10, f11, f12, f13, f14⟩⟩
                              · rintro D ρ wx hD hd hdc hf ⟨hs, f0, f1, f2, f3, f4, f5, f6, f7, f8, f9, f10, f11, f12, f13, f14⟩
                                have r11 : ρ 11 = .int .i64 ((j4 : Nat) : Int) := outD hf 11 rfl
                                exact .inl ⟨rfl, L_move (V := .int .i64 ((j4 : Nat) : Int)) r11 ⟨hs, f0, fun _ => rfl, f2, f3, f4, f5, f6, f7, f8, f9, f10, f11, f12, f13, f14⟩⟩
                              · rintro D ρ wx hD hd hdc hf ⟨hs, f0, f1, f2, f3, f4, f5, f6, f7, f8, f9, f10, f11, f12, f13, f14⟩
                                have g0 := f0 (doneD hd 0 rfl)
                                have g1 := f1 (doneD hd 1 rfl)
                                exact .inl ⟨rfl, L_leq g0 g1 ⟨hs, f0, f1, fun _ => rfl, f3, f4, f5, f6, f7, f8, f9, f10, f11, f12, f13, f14⟩⟩
                              · rintro D ρ wx hD hd hdc hf ⟨hs, f0, f1, f2, f3, f4, f5, f6, f7, f8, f9, f10, f11, f12, f13, f14⟩
                                have g2 := f2 (doneD hd 2 rfl)
                                exact .inl ⟨rfl, L_move (V := .bool (decide (((i4 : Nat) : Int) ≤ ((j4 : Nat) : Int)))) g2 ⟨hs, f0, f1, f2, fun _ => rfl, f4, f5, f6, f7, f8, f9, f10, f11, f12, f13, f14⟩⟩
                              · rintro D ρ wx hD hd hdc hf ⟨hs, f0, f1, f2, f3, f4, f5, f6, f7, f8, f9, f10, f11, f12, f13, f14⟩
                                have r0 : ρ 0 = .slice a N c := outD hf 0 rfl
                                rcases Bool.eq_false_or_eq_true ((decide (((i4 : Nat) : Int) ≤ ((j4 : Nat) : Int))) == true) with hG | hG
                                rotate_left
                                · exact .inr ⟨(Eq.trans (wantG1 (j := 3) rfl (f3 (doneD hd 3 rfl))) hG), ⟨hs, f0, f1, f2, f3, fun _ => (condF hG).symm, f5, f6, f7, f8, f9, f10, f11, f12, f13, f14⟩⟩
                                ·
                                  have hgd := of_decide_eq_true (eq_of_beq hG)
                                  exact .inl ⟨(Eq.trans (wantG1 (j := 3) rfl (f3 (doneD hd 3 rfl))) hG), L_move (V := .slice a N c) r0 ⟨hs, f0, f1, f2, f3, fun _ => (condT hG).symm, f5, f6, f7, f8, f9, f10, f11, f12, f13, f14⟩⟩
                              · rintro D ρ wx hD hd hdc hf ⟨hs, f0, f1, f2, f3, f4, f5, f6, f7, f8, f9, f10, f11, f12, f13, f14⟩
                                have r11 : ρ 11 = .int .i64 ((j4 : Nat) : Int) := outD hf 11 rfl
                                rcases Bool.eq_false_or_eq_true ((decide (((i4 : Nat) : Int) ≤ ((j4 : Nat) : Int))) == true) with hG | hG
                                rotate_left
                                · exact .inr ⟨(Eq.trans (wantG1 (j := 3) rfl (f3 (doneD hd 3 rfl))) hG), ⟨hs, f0, f1, f2, f3, f4, fun _ => (condF hG).symm, f6, f7, f8, f9, f10, f11, f12, f13, f14⟩⟩
                                ·
                                  have hgd := of_decide_eq_true (eq_of_beq hG)
                                  exact .inl ⟨(Eq.trans (wantG1 (j := 3) rfl (f3 (doneD hd 3 rfl))) hG), L_move (V := .int .i64 ((j4 : Nat) : Int)) r11 ⟨hs, f0, f1, f2, f3, f4, fun _ => (condT hG).symm, f6, f7, f8, f9, f10, f11, f12, f13, f14⟩⟩
                              · rintro D ρ wx hD hd hdc hf ⟨hs, f0, f1, f2, f3, f4, f5, f6, f7, f8, f9, f10, f11, f12, f13, f14⟩
                                have g4 := f4 (doneD hd 4 rfl)
                                have g5 := f5 (doneD hd 5 rfl)
                                rcases Bool.eq_false_or_eq_true ((decide (((i4 : Nat) : Int) ≤ ((j4 : Nat) : Int))) == true) with hG | hG
                                rotate_left
                                · exact .inr ⟨(Eq.trans (wantG1 (j := 3) rfl (f3 (doneD hd 3 rfl))) hG), ⟨hs, f0, f1, f2, f3, f4, f5, fun _ => (condF hG).symm, f7, f8, f9, f10, f11, f12, f13, f14⟩⟩
                                ·
                                  have hgd := of_decide_eq_true (eq_of_beq hG)
                                  exact .inl ⟨(Eq.trans (wantG1 (j := 3) rfl (f3 (doneD hd 3 rfl))) hG), L_ixR UD_72 S1_57.1 (hs.rd 0 rfl) ((g4).trans (condT (by exact hG))) ((g5).trans (condT (by exact hG))) (by omega) (by simp only [List.length_map, Array.length_toList, Array.size_setIfInBounds, Go.Sort.size_swp]; omega) ⟨hs, f0, f1, f2, f3, f4, f5, fun _ => (condT hG).symm, f7, f8, f9, f10, f11, f12, f13, f14⟩⟩
                              · rintro D ρ wx hD hd hdc hf ⟨hs, f0, f1, f2, f3, f4, f5, f6, f7, f8, f9, f10, f11, f12, f13, f14⟩
                                have g6 := f6 (doneD hd 6 rfl)
                                rcases Bool.eq_false_or_eq_true ((decide (((i4 : Nat) : Int) ≤ ((j4 : Nat) : Int))) == true) with hG | hG
                                rotate_left
                                · exact .inr ⟨(Eq.trans (wantG1 (j := 3) rfl (f3 (doneD hd 3 rfl))) hG), ⟨hs, f0, f1, f2, f3, f4, f5, f6, fun _ => (condF hG).symm, f8, f9, f10, f11, f12, f13, f14⟩⟩
                                ·
                                  have hgd := of_decide_eq_true (eq_of_beq hG)
                                  exact .inl ⟨(Eq.trans (wantG1 (j := 3) rfl (f3 (doneD hd 3 rfl))) hG), L_ldR (j := 0) (V := .int .u16 (d1[j4]!)) j4 S1_57 (hs.rd 0 rfl) (da_at (by omega)) rfl ((g6).trans (condT (by exact hG))) (by omega) ⟨hs, f0, f1, f2, f3, f4, f5, f6, fun _ => (condT hG).symm, f8, f9, f10, f11, f12, f13, f14⟩⟩
                              · rintro D ρ wx hD hd hdc hf ⟨hs, f0, f1, f2, f3, f4, f5, f6, f7, f8, f9, f10, f11, f12, f13, f14⟩
                                have r0 : ρ 0 = .slice a N c := outD hf 0 rfl
                                rcases Bool.eq_false_or_eq_true ((decide (((i4 : Nat) : Int) ≤ ((j4 : Nat) : Int))) == true) with hG | hG
                                rotate_left
                                · exact .inr ⟨(Eq.trans (wantG1 (j := 3) rfl (f3 (doneD hd 3 rfl))) hG), ⟨hs, f0, f1, f2, f3, f4, f5, f6, f7, fun _ => (condF hG).symm, f9, f10, f11, f12, f13, f14⟩⟩
                                ·
                                  have hgd := of_decide_eq_true (eq_of_beq hG)
                                  exact .inl ⟨(Eq.trans (wantG1 (j := 3) rfl (f3 (doneD hd 3 rfl))) hG), L_move (V := .slice a N c) r0 ⟨hs, f0, f1, f2, f3, f4, f5, f6, f7, fun _ => (condT hG).symm, f9, f10, f11, f12, f13, f14⟩⟩
                              · rintro D ρ wx hD hd hdc hf ⟨hs, f0, f1, f2, f3, f4, f5, f6, f7, f8, f9, f10, f11, f12, f13, f14⟩
                                have r1 : ρ 1 = .int .i64 ((lo : Nat) : Int) := outD hf 1 rfl
                                rcases Bool.eq_false_or_eq_true ((decide (((i4 : Nat) : Int) ≤ ((j4 : Nat) : Int))) == true) with hG | hG
                                rotate_left
                                · exact .inr ⟨(Eq.trans (wantG1 (j := 3) rfl (f3 (doneD hd 3 rfl))) hG), ⟨hs, f0, f1, f2, f3, f4, f5, f6, f7, f8, fun _ => (condF hG).symm, f10, f11, f12, f13, f14⟩⟩
                                ·
                                  have hgd := of_decide_eq_true (eq_of_beq hG)
                                  exact .inl ⟨(Eq.trans (wantG1 (j := 3) rfl (f3 (doneD hd 3 rfl))) hG), L_move (V := .int .i64 ((lo : Nat) : Int)) r1 ⟨hs, f0, f1, f2, f3, f4, f5, f6, f7, f8, fun _ => (condT hG).symm, f10, f11, f12, f13, f14⟩⟩
                              · rintro D ρ wx hD hd hdc hf ⟨hs, f0, f1, f2, f3, f4, f5, f6, f7, f8, f9, f10, f11, f12, f13, f14⟩
                                have g8 := f8 (doneD hd 8 rfl)
                                have g9 := f9 (doneD hd 9 rfl)
                                rcases Bool.eq_false_or_eq_true ((decide (((i4 : Nat) : Int) ≤ ((j4 : Nat) : Int))) == true) with hG | hG
                                rotate_left
                                · exact .inr ⟨(Eq.trans (wantG1 (j := 3) rfl (f3 (doneD hd 3 rfl))) hG), ⟨hs, f0, f1, f2, f3, f4, f5, f6, f7, f8, f9, fun _ => (condF hG).symm, f11, f12, f13, f14⟩⟩
                                ·
                                  have hgd := of_decide_eq_true (eq_of_beq hG)
                                  exact .inl ⟨(Eq.trans (wantG1 (j := 3) rfl (f3 (doneD hd 3 rfl))) hG), L_ixR UD_72 S1_57.1 (hs.rd 0 rfl) ((g8).trans (condT (by exact hG))) ((g9).trans (condT (by exact hG))) (by omega) (by simp only [List.length_map, Array.length_toList, Array.size_setIfInBounds, Go.Sort.size_swp]; omega) ⟨hs, f0, f1, f2, f3, f4, f5, f6, f7, f8, f9, fun _ => (condT hG).symm, f11, f12, f13, f14⟩⟩
                              · rintro D ρ wx hD hd hdc hf ⟨hs, f0, f1, f2, f3, f4, f5, f6, f7, f8, f9, f10, f11, f12, f13, f14⟩
                                have g10 := f10 (doneD hd 10 rfl)
                                rcases Bool.eq_false_or_eq_true ((decide (((i4 : Nat) : Int) ≤ ((j4 : Nat) : Int))) == true) with hG | hG
                                rotate_left
                                · exact .inr ⟨(Eq.trans (wantG1 (j := 3) rfl (f3 (doneD hd 3 rfl))) hG), ⟨hs, f0, f1, f2, f3, f4, f5, f6, f7, f8, f9, f10, fun _ => (condF hG).symm, f12, f13, f14⟩⟩
                                ·
                                  have hgd := of_decide_eq_true (eq_of_beq hG)
                                  exact .inl ⟨(Eq.trans (wantG1 (j := 3) rfl (f3 (doneD hd 3 rfl))) hG), L_ldR (j := 0) (V := .int .u16 (d1[lo]!)) lo S1_57 (hs.rd 0 rfl) (da_at (by omega)) rfl ((g10).trans (condT (by exact hG))) (by omega) ⟨hs, f0, f1, f2, f3, f4, f5, f6, f7, f8, f9, f10, fun _ => (condT hG).symm, f12, f13, f14⟩⟩
                              · rintro D ρ wx hD hd hdc hf ⟨hs, f0, f1, f2, f3, f4, f5, f6, f7, f8, f9, f10, f11, f12, f13, f14⟩
                                have g7 := f7 (doneD hd 7 rfl)
                                have g11 := f11 (doneD hd 11 rfl)
                                rcases Bool.eq_false_or_eq_true ((decide (((i4 : Nat) : Int) ≤ ((j4 : Nat) : Int))) == true) with hG | hG
                                rotate_left
                                · exact .inr ⟨(Eq.trans (wantG1 (j := 3) rfl (f3 (doneD hd 3 rfl))) hG), ⟨hs, f0, f1, f2, f3, f4, f5, f6, f7, f8, f9, f10, f11, fun _ => (condF hG).symm, f13, f14⟩⟩
                                ·
                                  have hgd := of_decide_eq_true (eq_of_beq hG)
                                  exact .inl ⟨(Eq.trans (wantG1 (j := 3) rfl (f3 (doneD hd 3 rfl))) hG), L_callP (vs := [.int .u16 (d1[j4]!), .int .u16 (d1[lo]!)]) (V := .bool (decide (d1[j4]! < d1[lo]!))) EN_108 rfl (mapc ((g7).trans (condT (by exact hG))) (mapc ((g11).trans (condT (by exact hG))) rfl)) (less_ok _ (d1[j4]!) (d1[lo]!)) hs fun _ hs0 => ⟨hs0, f0, f1, f2, f3, f4, f5, f6, f7, f8, f9, f10, f11, fun _ => (condT hG).symm, f13, f14⟩⟩
                              · rintro D ρ wx hD hd hdc hf ⟨hs, f0, f1, f2, f3, f4, f5, f6, f7, f8, f9, f10, f11, f12, f13, f14⟩
                                have g12 := f12 (doneD hd 12 rfl)
                                rcases Bool.eq_false_or_eq_true ((decide (((i4 : Nat) : Int) ≤ ((j4 : Nat) : Int))) == true) with hG | hG
                                rotate_left
                                · exact .inr ⟨(Eq.trans (wantG1 (j := 3) rfl (f3 (doneD hd 3 rfl))) hG), ⟨hs, f0, f1, f2, f3, f4, f5, f6, f7, f8, f9, f10, f11, f12, fun _ => (condF hG).symm, f14⟩⟩
                                ·
                                  have hgd := of_decide_eq_true (eq_of_beq hG)
                                  exact .inl ⟨(Eq.trans (wantG1 (j := 3) rfl (f3 (doneD hd 3 rfl))) hG), L_not ((g12).trans (condT (by exact hG))) ⟨hs, f0, f1, f2, f3, f4, f5, f6, f7, f8, f9, f10, f11, f12, fun _ => (condT hG).symm, f14⟩⟩
                              · rintro D ρ wx hD hd hdc hf ⟨hs, f0, f1, f2, f3, f4, f5, f6, f7, f8, f9, f10, f11, f12, f13, f14⟩
                                have g3 := f3 (doneD hd 3 rfl)
                                have g13 := f13 (doneD hd 13 rfl)
                                exact .inl ⟨rfl, L_and g3 rfl (fun hg => ((g13).trans (condT (by first | exact beqT hg | rfl)))) ⟨hs, f0, f1, f2, f3, f4, f5, f6, f7, f8, f9, f10, f11, f12, f13, fun _ => rfl⟩⟩
                              · rintro ρ1 w1 D hD hf ⟨hs, f0, f1, f2, f3, f4, f5, f6, f7, f8, f9, f10, f11, f12, f13, f14⟩
                                have e14 := f14 (hD 14 rfl)
                                clear f0 f1 f2 f3 f4 f5 f6 f7 f8 f9 f10 f11 f12 f13 f14
                                obtain ⟨ρ2, hρ⟩ : ∃ ρ2, ρ1 = upd (mix [115, 116, 117, 118, 119, 120, 121, 122, 123, 124, 125, 126, 127, 128, 129] ρ2 _) 129 (.bool ((decide (((i4 : Nat) : Int) ≤ ((j4 : Nat) : Int))) && (!decide (d1[j4]! < d1[lo]!)))) := ⟨ρ1, upd_of (mix_of (ds := [115, 116, 117, 118, 119, 120, 121, 122, 123, 124, 125, 126, 127, 128, 129]) hf) e14⟩
                                clear hf hD e14
                                subst hρ
                                refine W_cond (t := (decide (((i4 : Nat) : Int) ≤ ((j4 : Nat) : Int))) && (!decide (d1[j4]! < d1[lo]!))) rfl (fun c27 => ?_) (fun c27 => ?_)
                                ·
                                  have c27r := and_r c27
                                  replace c27 := and_l c27
                                  replace c27 := of_decide_eq_true c27
                                  replace c27r := not_t c27r
                                  replace c27r := of_decide_eq_false c27r
                                  refine W_skip ?_
                                  refine W_block ?_
                                  refine W_region ?_
                                  refine RW_op (L_move (V := .int .i64 ((j4 : Nat) : Int)) rfl ?_)
                                  refine RW_op (L_sub (a := ((j4 : Nat) : Int)) (b := 1) (c := ((j4 - 1 : Nat) : Int)) rfl rfl (nat_i64 (by omega) (by omega)) ?_)
                                  refine RW_op (L_assign (V := .int .i64 ((j4 - 1 : Nat) : Int)) rfl ?_)
                                  refine RW_nil ?_
                                  refine ⟨_, ?_, _, j4 - 1, upd_of (mix_of (ds := [11, 115, 116, 117, 118, 119, 120, 121, 122, 123, 124, 125, 126, 127, 128, 129, 130, 131]) (by repeat (first | exact Agr.refl _ _ | refine Agr.upd ?_ rfl | refine Agr.mix ?_ rfl))) rfl, (by omega), (by rw [← hsd4, sw_yes (p := fun x => !Sort.ltInt x d1[lo]!) (b := !decide (d1[j4]! < d1[lo]!)) (by omega) rfl c27 (by rw [decide_eq_false c27r]; rfl)]), (by omega), rfl, hs.take 1⟩
                                  omega
                                ·
                                  refine W_exit ?_
                                  refine W_seq ?_
                                  refine W_seq ?_
                                  have hj4 : j4 = Sort.scanDown (fun x => !Sort.ltInt x d1[lo]!) d1 i4 j := by rw [← hsd4, sw_no (p := fun x => !Sort.ltInt x d1[lo]!) (b := !decide (d1[j4]! < d1[lo]!)) rfl c27]
                                  refine W_region ?_
                                  refine RW_op (L_move (V := .int .i64 ((i4 : Nat) : Int)) rfl ?_)
                                  refine RW_op (L_move (V := .int .i64 ((j4 : Nat) : Int)) rfl ?_)
                                  refine RW_op (L_gtr rfl rfl ?_)
                                  refine RW_nil ?_
                                  refine W_cond (t := decide (((j4 : Nat) : Int) < ((i4 : Nat) : Int))) rfl (fun c28 => ?_) (fun c28 => ?_)
                                  ·
                                    replace c28 := of_decide_eq_true c28
                                    refine W_exit ?_
                                    refine W_seq ?_
                                    replace hs := hs.drew
                                    refine W_draw2 HM [153, 154, 155, 156, 157, 158, 159, 160, 161, 162, 163, 164, 165, 166] [[], [], [], [], [], [], [4, 5], [6], [], [], [8, 9], [10], [0, 1, 0, 1, 4, 5, 6, 7, 11], [12, 7, 0, 1, 4, 5, 6, 7, 11], [2, 3, 0, 1, 2, 3, 4, 5, 6, 7, 8, 9, 10, 11, 12, 13], [14, 11, 13, 0, 1, 2, 3, 4, 5, 6, 7, 8, 9, 10, 11, 12, 13]] (fun D ρ wx => Own w S wx [cond (D 15) (row (.slice a N c) ((((d1.setIfInBounds j4 (d1[lo]!)).setIfInBounds lo (d1[j4]!)).toList).map (ic .u16)) 57 1) (cond (D 13) (row (.slice a N c) (((d1.setIfInBounds j4 (d1[lo]!)).toList).map (ic .u16)) 57 1) (row (.slice a N c) (d1.toList.map (ic .u16)) 57 1))] ∧ (D 0 = true → ρ 153 = .slice a N c) ∧ (D 1 = true → ρ 154 = .int .i64 ((j4 : Nat) : Int)) ∧ (D 2 = true → ρ 155 = .slice a N c) ∧ (D 3 = true → ρ 156 = .int .i64 ((lo : Nat) : Int)) ∧ (D 4 = true → ρ 157 = .slice a N c) ∧ (D 5 = true → ρ 158 = .int .i64 ((lo : Nat) : Int)) ∧ (D 6 = true → ρ 159 = .pointer (some ⟨bkS (.slice a N c), ofS (.slice a N c) + ((lo : Nat) : Int).toNat * 1, none⟩)) ∧ (D 7 = true → ρ 160 = .int .u16 (d1[lo]!)) ∧ (D 8 = true → ρ 161 = .slice a N c) ∧ (D 9 = true → ρ 162 = .int .i64 ((j4 : Nat) : Int)) ∧ (D 10 = true → ρ 163 = .pointer (some ⟨bkS (.slice a N c), ofS (.slice a N c) + ((j4 : Nat) : Int).toNat * 1, none⟩)) ∧ (D 11 = true → ρ 164 = .int .u16 (d1[j4]!)) ∧ (D 12 = true → ρ 165 = .pointer (some ⟨bkS (.slice a N c), ofS (.slice a N c) + ((j4 : Nat) : Int).toNat * 1, none⟩)) ∧ (True) ∧ (D 14 = true → ρ 166 = .pointer (some ⟨bkS (.slice a N c), ofS (.slice a N c) + ((lo : Nat) : Int).toNat * 1, none⟩)) ∧ (True)) rfl rfl rfl ⟨hs, fun h => absurd h Bool.false_ne_true, fun h => absurd h Bool.false_ne_true, fun h => absurd h Bool.false_ne_true, fun h => absurd h Bool.false_ne_true, fun h => absurd h Bool.false_ne_true, fun h => absurd h Bool.false_ne_true, fun h => absurd h Bool.false_ne_true, fun h => absurd h Bool.false_ne_true, fun h => absurd h Bool.false_ne_true, fun h => absurd h Bool.false_ne_true, fun h => absurd h Bool.false_ne_true, fun h => absurd h Bool.false_ne_true, fun h => absurd h Bool.false_ne_true, trivial, fun h => absurd h Bool.false_ne_true, trivial⟩ ⟨?_, ?_, ?_, ?_, ?_, ?_, ?_, ?_, ?_, ?_, ?_, ?_, ?_, ?_, ?_, ?_, trivial⟩ ?_
                                    · rintro D ρ wx hD hd hdc hf ⟨hs, f0, f1, f2, f3, f4, f5, f6, f7, f8, f9, f10, f11, f12, f13, f14, f15⟩
                                      have r0 : ρ 0 = .slice a N c := outD hf 0 rfl
                                      exact .inl ⟨rfl, L_move (V := .slice a N c) r0 ⟨hs, fun _ => rfl, f1, f2, f3, f4, f5, f6, f7, f8, f9, f10, f11, f12, f13, f14, f15⟩⟩
                                    · rintro D ρ wx hD hd hdc hf ⟨hs, f0, f1, f2, f3, f4, f5, f6, f7, f8, f9, f10, f11, f12, f13, f14, f15⟩
                                      have r11 : ρ 11 = .int .i64 ((j4 : Nat) : Int) := outD hf 11 rfl
                                      exact .inl ⟨rfl, L_move (V := .int .i64 ((j4 : Nat) : Int)) r11 ⟨hs, f0, fun _ => rfl, f2, f3, f4, f5, f6, f7, f8, f9, f10, f11, f12, f13, f14, f15⟩⟩
                                    · rintro D ρ wx hD hd hdc hf ⟨hs, f0, f1, f2, f3, f4, f5, f6, f7, f8, f9, f10, f11, f12, f13, f14, f15⟩
                                      have r0 : ρ 0 = .slice a N c := outD hf 0 rfl
                                      exact .inl ⟨rfl, L_move (V := .slice a N c) r0 ⟨hs, f0, f1, fun _ => rfl, f3, f4, f5, f6, f7, f8, f9, f10, f11, f12, f13, f14, f15⟩⟩
                                    · rintro D ρ wx hD hd hdc hf ⟨hs, f0, f1, f2, f3, f4, f5, f6, f7, f8, f9, f10, f11, f12, f13, f14, f15⟩
                                      have r1 : ρ 1 = .int .i64 ((lo : Nat) : Int) := outD hf 1 rfl
                                      exact .inl ⟨rfl, L_move (V := .int .i64 ((lo : Nat) : Int)) r1 ⟨hs, f0, f1, f2, fun _ => rfl, f4, f5, f6, f7, f8, f9, f10, f11, f12, f13, f14, f15⟩⟩
                                    · rintro D ρ wx hD hd hdc hf ⟨hs, f0, f1, f2, f3, f4, f5, f6, f7, f8, f9, f10, f11, f12, f13, f14, f15⟩
                                      have r0 : ρ 0 = .slice a N c := outD hf 0 rfl
                                      exact .inl ⟨rfl, L_move (V := .slice a N c) r0 ⟨hs, f0, f1, f2, f3, fun _ => rfl, f5, f6, f7, f8, f9, f10, f11, f12, f13, f14, f15⟩⟩
                                    · rintro D ρ wx hD hd hdc hf ⟨hs, f0, f1, f2, f3, f4, f5, f6, f7, f8, f9, f10, f11, f12, f13, f14, f15⟩
                                      have r1 : ρ 1 = .int .i64 ((lo : Nat) : Int) := outD hf 1 rfl
                                      exact .inl ⟨rfl, L_move (V := .int .i64 ((lo : Nat) : Int)) r1 ⟨hs, f0, f1, f2, f3, f4, fun _ => rfl, f6, f7, f8, f9, f10, f11, f12, f13, f14, f15⟩⟩
                                    · rintro D ρ wx hD hd hdc hf ⟨hs, f0, f1, f2, f3, f4, f5, f6, f7, f8, f9, f10, f11, f12, f13, f14, f15⟩
                                      have g4 := f4 (doneD hd 4 rfl)
                                      have g5 := f5 (doneD hd 5 rfl)
                                      have d13 : D 13 = false := (notYetD hdc (j := 13) rfl rfl hD)
                                      have d15 : D 15 = false := (notYetD hdc (j := 15) rfl rfl hD)
                                      have hs0 := hs; rw [d13, d15] at hs0
                                      exact .inl ⟨rfl, L_ixR UD_72 S1_57.1 (hs0.rd 0 rfl) g4 g5 (by omega) (by simp only [List.length_map, Array.length_toList, Array.size_setIfInBounds, Go.Sort.size_swp]; omega) ⟨hs, f0, f1, f2, f3, f4, f5, fun _ => rfl, f7, f8, f9, f10, f11, f12, f13, f14, f15⟩⟩
                                    · rintro D ρ wx hD hd hdc hf ⟨hs, f0, f1, f2, f3, f4, f5, f6, f7, f8, f9, f10, f11, f12, f13, f14, f15⟩
                                      have g6 := f6 (doneD hd 6 rfl)
                                      have d13 : D 13 = false := (notYetD hdc (j := 13) rfl rfl hD)
                                      have d15 : D 15 = false := (notYetD hdc (j := 15) rfl rfl hD)
                                      have hs0 := hs; rw [d13, d15] at hs0
                                      exact .inl ⟨rfl, L_ldR (j := 0) (V := .int .u16 (d1[lo]!)) lo S1_57 (hs0.rd 0 rfl) (da_at (by omega)) rfl g6 (by omega) ⟨hs, f0, f1, f2, f3, f4, f5, f6, fun _ => rfl, f8, f9, f10, f11, f12, f13, f14, f15⟩⟩
                                    · rintro D ρ wx hD hd hdc hf ⟨hs, f0, f1, f2, f3, f4, f5, f6, f7, f8, f9, f10, f11, f12, f13, f14, f15⟩
                                      have r0 : ρ 0 = .slice a N c := outD hf 0 rfl
                                      exact .inl ⟨rfl, L_move (V := .slice a N c) r0 ⟨hs, f0, f1, f2, f3, f4, f5, f6, f7, fun _ => rfl, f9, f10, f11, f12, f13, f14, f15⟩⟩
                                    · rintro D ρ wx hD hd hdc hf ⟨hs, f0, f1, f2, f3, f4, f5, f6, f7, f8, f9, f10, f11, f12, f13, f14, f15⟩
                                      have r11 : ρ 11 = .int .i64 ((j4 : Nat) : Int) := outD hf 11 rfl
                                      exact .inl ⟨rfl, L_move (V := .int .i64 ((j4 : Nat) : Int)) r11 ⟨hs, f0, f1, f2, f3, f4, f5, f6, f7, f8, fun _ => rfl, f10, f11, f12, f13, f14, f15⟩⟩
                                    · rintro D ρ wx hD hd hdc hf ⟨hs, f0, f1, f2, f3, f4, f5, f6, f7, f8, f9, f10, f11, f12, f13, f14, f15⟩
                                      have g8 := f8 (doneD hd 8 rfl)
                                      have g9 := f9 (doneD hd 9 rfl)
                                      have d13 : D 13 = false := (notYetD hdc (j := 13) rfl rfl (notYetD hdc (j := 11) rfl rfl hD))
                                      have d15 : D 15 = false := (notYetD hdc (j := 15) rfl rfl hD)
                                      have hs0 := hs; rw [d13, d15] at hs0
                                      exact .inl ⟨rfl, L_ixR UD_72 S1_57.1 (hs0.rd 0 rfl) g8 g9 (by omega) (by simp only [List.length_map, Array.length_toList, Array.size_setIfInBounds, Go.Sort.size_swp]; omega) ⟨hs, f0, f1, f2, f3, f4, f5, f6, f7, f8, f9, fun _ => rfl, f11, f12, f13, f14, f15⟩⟩
                                    · rintro D ρ wx hD hd hdc hf ⟨hs, f0, f1, f2, f3, f4, f5, f6, f7, f8, f9, f10, f11, f12, f13, f14, f15⟩
                                      have g10 := f10 (doneD hd 10 rfl)
                                      have d13 : D 13 = false := (notYetD hdc (j := 13) rfl rfl hD)
                                      have d15 : D 15 = false := (notYetD hdc (j := 15) rfl rfl hD)
                                      have hs0 := hs; rw [d13, d15] at hs0
                                      exact .inl ⟨rfl, L_ldR (j := 0) (V := .int .u16 (d1[j4]!)) j4 S1_57 (hs0.rd 0 rfl) (da_at (by omega)) rfl g10 (by omega) ⟨hs, f0, f1, f2, f3, f4, f5, f6, f7, f8, f9, f10, fun _ => rfl, f12, f13, f14, f15⟩⟩
                                    · rintro D ρ wx hD hd hdc hf ⟨hs, f0, f1, f2, f3, f4, f5, f6, f7, f8, f9, f10, f11, f12, f13, f14, f15⟩
                                      have g0 := f0 (doneD hd 0 rfl)
                                      have g1 := f1 (doneD hd 1 rfl)
                                      have d13 : D 13 = false := (notYetD hdc (j := 13) rfl rfl hD)
                                      have d15 : D 15 = false := (notYetD hdc (j := 15) rfl rfl hD)
                                      have hs0 := hs; rw [d13, d15] at hs0
                                      exact .inl ⟨rfl, L_ixR UD_72 S1_57.1 (hs0.rd 0 rfl) g0 g1 (by omega) (by simp only [List.length_map, Array.length_toList, Array.size_setIfInBounds, Go.Sort.size_swp]; omega) ⟨hs, f0, f1, f2, f3, f4, f5, f6, f7, f8, f9, f10, f11, fun _ => rfl, f13, f14, f15⟩⟩
                                    · rintro D ρ wx hD hd hdc hf ⟨hs, f0, f1, f2, f3, f4, f5, f6, f7, f8, f9, f10, f11, f12, f13, f14, f15⟩
                                      have g7 := f7 (doneD hd 7 rfl)
                                      have g12 := f12 (doneD hd 12 rfl)
                                      have d13 : D 13 = false := hD
                                      have d15 : D 15 = false := (notYetD hdc (j := 15) rfl rfl hD)
                                      have hs0 := hs; rw [d13, d15] at hs0
                                      refine .inl ⟨rfl, L_stA (z := d1[lo]!) j4 S1_57 hs0 0 rfl g12 (by omega) (by first | omega | (simp only [Array.size_setIfInBounds, Go.Sort.size_swp]; omega)) g7 rfl rfl fun _ hs0 => ⟨?_, f0, f1, f2, f3, f4, f5, f6, f7, f8, f9, f10, f11, f12, trivial, f14, f15⟩⟩
                                      rw [show Go.Vx.mark D 13 15 = false from d15]
                                      exact hs0
                                    · rintro D ρ wx hD hd hdc hf ⟨hs, f0, f1, f2, f3, f4, f5, f6, f7, f8, f9, f10, f11, f12, f13, f14, f15⟩
                                      have g2 := f2 (doneD hd 2 rfl)
                                      have g3 := f3 (doneD hd 3 rfl)
                                      have d13 : D 13 = true := doneD hd 13 rfl
                                      have d15 : D 15 = false := (notYetD hdc (j := 15) rfl rfl hD)
                                      have hs0 := hs; rw [d13, d15] at hs0
                                      exact .inl ⟨rfl, L_ixR UD_72 S1_57.1 (hs0.rd 0 rfl) g2 g3 (by omega) (by simp only [List.length_map, Array.length_toList, Array.size_setIfInBounds, Go.Sort.size_swp]; omega) ⟨hs, f0, f1, f2, f3, f4, f5, f6, f7, f8, f9, f10, f11, f12, f13, fun _ => rfl, f15⟩⟩
                                    · rintro D ρ wx hD hd hdc hf ⟨hs, f0, f1, f2, f3, f4, f5, f6, f7, f8, f9, f10, f11, f12, f13, f14, f15⟩
                                      have g11 := f11 (doneD hd 11 rfl)
                                      have g14 := f14 (doneD hd 14 rfl)
                                      have d13 : D 13 = true := doneD hd 13 rfl
                                      have d15 : D 15 = false := hD
                                      have hs0 := hs; rw [d13, d15] at hs0
                                      refine .inl ⟨rfl, L_stA (z := d1[j4]!) lo S1_57 hs0 0 rfl g14 (by omega) (by first | omega | (simp only [Array.size_setIfInBounds, Go.Sort.size_swp]; omega)) g11 rfl rfl fun _ hs0 => ⟨?_, f0, f1, f2, f3, f4, f5, f6, f7, f8, f9, f10, f11, f12, f13, f14, trivial⟩⟩
                                      rw [show Go.Vx.mark D 15 13 = true from d13]
                                      exact hs0
                                    · rintro ρ1 w1 D hD hf ⟨hs, f0, f1, f2, f3, f4, f5, f6, f7, f8, f9, f10, f11, f12, f13, f14, f15⟩
                                      rw [hD 13 rfl, hD 15 rfl] at hs
                                      clear f0 f1 f2 f3 f4 f5 f6 f7 f8 f9 f10 f11 f12 f13 f14 f15
                                      obtain ⟨ρ2, hρ⟩ : ∃ ρ2, ρ1 = mix [153, 154, 155, 156, 157, 158, 159, 160, 161, 162, 163, 164, 165, 166] ρ2 _ := ⟨ρ1, mix_of (ds := [153, 154, 155, 156, 157, 158, 159, 160, 161, 162, 163, 164, 165, 166]) hf⟩
                                      clear hf hD
                                      subst hρ
                                      refine W_seq ?_
                                      refine W_region ?_
                                      refine RW_op (L_move (V := .int .i64 ((j4 : Nat) : Int)) rfl ?_)
                                      refine RW_op (L_assign (V := .int .i64 ((j4 : Nat) : Int)) rfl ?_)
                                      refine RW_op (L_assign (V := .bool false) rfl ?_)
                                      refine RW_nil ?_
                                      refine W_ret ?_
                                      refine ⟨_, res_two (U := .int .i64 ((j4 : Nat) : Int)) (V := .bool false) Try.results110 rfl rfl, ?_⟩
                                      have hX : Sort.partition Sort.ltInt d lo hi pv = (j4, false, Sort.swp d1 j4 lo) := by rw [hpt, ← hev, pl_stop hi4 hj4 c28]
                                      rw [hX]
                                      exact ⟨(), rfl, hs.take 1, by first | (rw [Go.Sort.size_swp]; assumption) | assumption⟩
                                  ·
                                    replace c28 := of_decide_eq_false c28
                                    refine W_skip ?_
                                    refine W_seq ?_
                                    replace hs := hs.drew
                                    refine W_draw2 HM [135, 136, 137, 138, 139, 140, 141, 142, 143, 144, 145, 146, 147, 148] [[], [], [], [], [], [], [4, 5], [6], [], [], [8, 9], [10], [0, 1, 0, 1, 4, 5, 6, 7, 11], [12, 7, 0, 1, 4, 5, 6, 7, 11], [2, 3, 0, 1, 2, 3, 4, 5, 6, 7, 8, 9, 10, 11, 12, 13], [14, 11, 13, 0, 1, 2, 3, 4, 5, 6, 7, 8, 9, 10, 11, 12, 13]] (fun D ρ wx => Own w S wx [cond (D 15) (row (.slice a N c) ((((d1.setIfInBounds i4 (d1[j4]!)).setIfInBounds j4 (d1[i4]!)).toList).map (ic .u16)) 57 1) (cond (D 13) (row (.slice a N c) (((d1.setIfInBounds i4 (d1[j4]!)).toList).map (ic .u16)) 57 1) (row (.slice a N c) (d1.toList.map (ic .u16)) 57 1))] ∧ (D 0 = true → ρ 135 = .slice a N c) ∧ (D 1 = true → ρ 136 = .int .i64 ((i4 : Nat) : Int)) ∧ (D 2 = true → ρ 137 = .slice a N c) ∧ (D 3 = true → ρ 138 = .int .i64 ((j4 : Nat) : Int)) ∧ (D 4 = true → ρ 139 = .slice a N c) ∧ (D 5 = true → ρ 140 = .int .i64 ((j4 : Nat) : Int)) ∧ (D 6 = true → ρ 141 = .pointer (some ⟨bkS (.slice a N c), ofS (.slice a N c) + ((j4 : Nat) : Int).toNat * 1, none⟩)) ∧ (D 7 = true → ρ 142 = .int .u16 (d1[j4]!)) ∧ (D 8 = true → ρ 143 = .slice a N c) ∧ (D 9 = true → ρ 144 = .int .i64 ((i4 : Nat) : Int)) ∧ (D 10 = true → ρ 145 = .pointer (some ⟨bkS (.slice a N c), ofS (.slice a N c) + ((i4 : Nat) : Int).toNat * 1, none⟩)) ∧ (D 11 = true → ρ 146 = .int .u16 (d1[i4]!)) ∧ (D 12 = true → ρ 147 = .pointer (some ⟨bkS (.slice a N c), ofS (.slice a N c) + ((i4 : Nat) : Int).toNat * 1, none⟩)) ∧ (True) ∧ (D 14 = true → ρ 148 = .pointer (some ⟨bkS (.slice a N c), ofS (.slice a N c) + ((j4 : Nat) : Int).toNat * 1, none⟩)) ∧ (True)) rfl rfl rfl ⟨hs, fun h => absurd h Bool.false_ne_true, fun h => absurd h Bool.false_ne_true, fun h => absurd h Bool.false_ne_true, fun h => absurd h Bool.false_ne_true, fun h => absurd h Bool.false_ne_true, fun h => absurd h Bool.false_ne_true, fun h => absurd h Bool.false_ne_true, fun h => absurd h Bool.false_ne_true, fun h => absurd h Bool.false_ne_true, fun h => absurd h Bool.false_ne_true, fun h => absurd h Bool.false_ne_true, fun h => absurd h Bool.false_ne_true, fun h => absurd h Bool.false_ne_true, trivial, fun h => absurd h Bool.false_ne_true, trivial⟩ ⟨?_, ?_, ?_, ?_, ?_, ?_, ?_, ?_, ?_, ?_, ?_, ?_, ?_, ?_, ?_, ?_, trivial⟩ ?_
                                    · rintro D ρ wx hD hd hdc hf ⟨hs, f0, f1, f2, f3, f4, f5, f6, f7, f8, f9, f10, f11, f12, f13, f14, f15⟩
                                      have r0 : ρ 0 = .slice a N c := outD hf 0 rfl
                                      exact .inl ⟨rfl, L_move (V := .slice a N c) r0 ⟨hs, fun _ => rfl, f1, f2, f3, f4, f5, f6, f7, f8, f9, f10, f11, f12, f13, f14, f15⟩⟩
                                    · rintro D ρ wx hD hd hdc hf ⟨hs, f0, f1, f2, f3, f4, f5, f6, f7, f8, f9, f10, f11, f12, f13, f14, f15⟩
                                      have r10 : ρ 10 = .int .i64 ((i4 : Nat) : Int) := outD hf 10 rfl
                                      exact .inl ⟨rfl, L_move (V := .int .i64 ((i4 : Nat) : Int)) r10 ⟨hs, f0, fun _ => rfl, f2, f3, f4, f5, f6, f7, f8, f9, f10, f11, f12, f13, f14, f15⟩⟩
                                    · rintro D ρ wx hD hd hdc hf ⟨hs, f0, f1, f2, f3, f4, f5, f6, f7, f8, f9, f10, f11, f12, f13, f14, f15⟩
                                      have r0 : ρ 0 = .slice a N c := outD hf 0 rfl
                                      exact .inl ⟨rfl, L_move (V := .slice a N c) r0 ⟨hs, f0, f1, fun _ => rfl, f3, f4, f5, f6, f7, f8, f9, f10, f11, f12, f13, f14, f15⟩⟩
                                    · rintro D ρ wx hD hd hdc hf ⟨hs, f0, f1, f2, f3, f4, f5, f6, f7, f8, f9, f10, f11, f12, f13, f14, f15⟩
                                      have r11 : ρ 11 = .int .i64 ((j4 : Nat) : Int) := outD hf 11 rfl
                                      exact .inl ⟨rfl, L_move (V := .int .i64 ((j4 : Nat) : Int)) r11 ⟨hs, f0, f1, f2, fun _ => rfl, f4, f5, f6, f7, f8, f9, f10, f11, f12, f13, f14, f15⟩⟩
                                    · rintro D ρ wx hD hd hdc hf ⟨hs, f0, f1, f2, f3, f4, f5, f6, f7, f8, f9, f10, f11, f12, f13, f14, f15⟩
                                      have r0 : ρ 0 = .slice a N c := outD hf 0 rfl
                                      exact .inl ⟨rfl, L_move (V := .slice a N c) r0 ⟨hs, f0, f1, f2, f3, fun _ => rfl, f5, f6, f7, f8, f9, f10, f11, f12, f13, f14, f15⟩⟩
                                    · rintro D ρ wx hD hd hdc hf ⟨hs, f0, f1, f2, f3, f4, f5, f6, f7, f8, f9, f10, f11, f12, f13, f14, f15⟩
                                      have r11 : ρ 11 = .int .i64 ((j4 : Nat) : Int) := outD hf 11 rfl
                                      exact .inl ⟨rfl, L_move (V := .int .i64 ((j4 : Nat) : Int)) r11 ⟨hs, f0, f1, f2, f3, f4, fun _ => rfl, f6, f7, f8, f9, f10, f11, f12, f13, f14, f15⟩⟩
                                    · rintro D ρ wx hD hd hdc hf ⟨hs, f0, f1, f2, f3, f4, f5, f6, f7, f8, f9, f10, f11, f12, f13, f14, f15⟩
                                      have g4 := f4 (doneD hd 4 rfl)
                                      have g5 := f5 (doneD hd 5 rfl)
                                      have d13 : D 13 = false := (notYetD hdc (j := 13) rfl rfl hD)
                                      have d15 : D 15 = false := (notYetD hdc (j := 15) rfl rfl hD)
                                      have hs0 := hs; rw [d13, d15] at hs0
                                      exact .inl ⟨rfl, L_ixR UD_72 S1_57.1 (hs0.rd 0 rfl) g4 g5 (by omega) (by simp only [List.length_map, Array.length_toList, Array.size_setIfInBounds, Go.Sort.size_swp]; omega) ⟨hs, f0, f1, f2, f3, f4, f5, fun _ => rfl, f7, f8, f9, f10, f11, f12, f13, f14, f15⟩⟩
                                    · rintro D ρ wx hD hd hdc hf ⟨hs, f0, f1, f2, f3, f4, f5, f6, f7, f8, f9, f10, f11, f12, f13, f14, f15⟩
                                      have g6 := f6 (doneD hd 6 rfl)
                                      have d13 : D 13 = false := (notYetD hdc (j := 13) rfl rfl hD)
                                      have d15 : D 15 = false := (notYetD hdc (j := 15) rfl rfl hD)
                                      have hs0 := hs; rw [d13, d15] at hs0
                                      exact .inl ⟨rfl, L_ldR (j := 0) (V := .int .u16 (d1[j4]!)) j4 S1_57 (hs0.rd 0 rfl) (da_at (by omega)) rfl g6 (by omega) ⟨hs, f0, f1, f2, f3, f4, f5, f6, fun _ => rfl, f8, f9, f10, f11, f12, f13, f14, f15⟩⟩
                                    · rintro D ρ wx hD hd hdc hf ⟨hs, f0, f1, f2, f3, f4, f5, f6, f7, f8, f9, f10, f11, f12, f13, f14, f15⟩
                                      have r0 : ρ 0 = .slice a N c := outD hf 0 rfl
                                      exact .inl ⟨rfl, L_move (V := .slice a N c) r0 ⟨hs, f0, f1, f2, f3, f4, f5, f6, f7, fun _ => rfl, f9, f10, f11, f12, f13, f14, f15⟩⟩
                                    · rintro D ρ wx hD hd hdc hf ⟨hs, f0, f1, f2, f3, f4, f5, f6, f7, f8, f9, f10, f11, f12, f13, f14, f15⟩
                                      have r10 : ρ 10 = .int .i64 ((i4 : Nat) : Int) := outD hf 10 rfl
                                      exact .inl ⟨rfl, L_move (V := .int .i64 ((i4 : Nat) : Int)) r10 ⟨hs, f0, f1, f2, f3, f4, f5, f6, f7, f8, fun _ => rfl, f10, f11, f12, f13, f14, f15⟩⟩
                                    · rintro D ρ wx hD hd hdc hf ⟨hs, f0, f1, f2, f3, f4, f5, f6, f7, f8, f9, f10, f11, f12, f13, f14, f15⟩
                                      have g8 := f8 (doneD hd 8 rfl)
                                      have g9 := f9 (doneD hd 9 rfl)
                                      have d13 : D 13 = false := (notYetD hdc (j := 13) rfl rfl (notYetD hdc (j := 11) rfl rfl hD))
                                      have d15 : D 15 = false := (notYetD hdc (j := 15) rfl rfl hD)
                                      have hs0 := hs; rw [d13, d15] at hs0
                                      exact .inl ⟨rfl, L_ixR UD_72 S1_57.1 (hs0.rd 0 rfl) g8 g9 (by omega) (by simp only [List.length_map, Array.length_toList, Array.size_setIfInBounds, Go.Sort.size_swp]; omega) ⟨hs, f0, f1, f2, f3, f4, f5, f6, f7, f8, f9, fun _ => rfl, f11, f12, f13, f14, f15⟩⟩
                                    · rintro D ρ wx hD hd hdc hf ⟨hs, f0, f1, f2, f3, f4, f5, f6, f7, f8, f9, f10, f11, f12, f13, f14, f15⟩
                                      have g10 := f10 (doneD hd 10 rfl)
                                      have d13 : D 13 = false := (notYetD hdc (j := 13) rfl rfl hD)
                                      have d15 : D 15 = false := (notYetD hdc (j := 15) rfl rfl hD)
                                      have hs0 := hs; rw [d13, d15] at hs0
                                      exact .inl ⟨rfl, L_ldR (j := 0) (V := .int .u16 (d1[i4]!)) i4 S1_57 (hs0.rd 0 rfl) (da_at (by omega)) rfl g10 (by omega) ⟨hs, f0, f1, f2, f3, f4, f5, f6, f7, f8, f9, f10, fun _ => rfl, f12, f13, f14, f15⟩⟩
                                    · rintro D ρ wx hD hd hdc hf ⟨hs, f0, f1, f2, f3, f4, f5, f6, f7, f8, f9, f10, f11, f12, f13, f14, f15⟩
                                      have g0 := f0 (doneD hd 0 rfl)
                                      have g1 := f1 (doneD hd 1 rfl)
                                      have d13 : D 13 = false := (notYetD hdc (j := 13) rfl rfl hD)
                                      have d15 : D 15 = false := (notYetD hdc (j := 15) rfl rfl hD)
                                      have hs0 := hs; rw [d13, d15] at hs0
                                      exact .inl ⟨rfl, L_ixR UD_72 S1_57.1 (hs0.rd 0 rfl) g0 g1 (by omega) (by simp only [List.length_map, Array.length_toList, Array.size_setIfInBounds, Go.Sort.size_swp]; omega) ⟨hs, f0, f1, f2, f3, f4, f5, f6, f7, f8, f9, f10, f11, fun _ => rfl, f13, f14, f15⟩⟩
                                    · rintro D ρ wx hD hd hdc hf ⟨hs, f0, f1, f2, f3, f4, f5, f6, f7, f8, f9, f10, f11, f12, f13, f14, f15⟩
                                      have g7 := f7 (doneD hd 7 rfl)
                                      have g12 := f12 (doneD hd 12 rfl)
                                      have d13 : D 13 = false := hD
                                      have d15 : D 15 = false := (notYetD hdc (j := 15) rfl rfl hD)
                                      have hs0 := hs; rw [d13, d15] at hs0
                                      refine .inl ⟨rfl, L_stA (z := d1[j4]!) i4 S1_57 hs0 0 rfl g12 (by omega) (by first | omega | (simp only [Array.size_setIfInBounds, Go.Sort.size_swp]; omega)) g7 rfl rfl fun _ hs0 => ⟨?_, f0, f1, f2, f3, f4, f5, f6, f7, f8, f9, f10, f11, f12, trivial, f14, f15⟩⟩
                                      rw [show Go.Vx.mark D 13 15 = false from d15]
                                      exact hs0
                                    · rintro D ρ wx hD hd hdc hf ⟨hs, f0, f1, f2, f3, f4, f5, f6, f7, f8, f9, f10, f11, f12, f13, f14, f15⟩
                                      have g2 := f2 (doneD hd 2 rfl)
                                      have g3 := f3 (doneD hd 3 rfl)
                                      have d13 : D 13 = true := doneD hd 13 rfl
                                      have d15 : D 15 = false := (notYetD hdc (j := 15) rfl rfl hD)
                                      have hs0 := hs; rw [d13, d15] at hs0
                                      exact .inl ⟨rfl, L_ixR UD_72 S1_57.1 (hs0.rd 0 rfl) g2 g3 (by omega) (by simp only [List.length_map, Array.length_toList, Array.size_setIfInBounds, Go.Sort.size_swp]; omega) ⟨hs, f0, f1, f2, f3, f4, f5, f6, f7, f8, f9, f10, f11, f12, f13, fun _ => rfl, f15⟩⟩
                                    · rintro D ρ wx hD hd hdc hf ⟨hs, f0, f1, f2, f3, f4, f5, f6, f7, f8, f9, f10, f11, f12, f13, f14, f15⟩
                                      have g11 := f11 (doneD hd 11 rfl)
                                      have g14 := f14 (doneD hd 14 rfl)
                                      have d13 : D 13 = true := doneD hd 13 rfl
                                      have d15 : D 15 = false := hD
                                      have hs0 := hs; rw [d13, d15] at hs0
                                      refine .inl ⟨rfl, L_stA (z := d1[i4]!) j4 S1_57 hs0 0 rfl g14 (by omega) (by first | omega | (simp only [Array.size_setIfInBounds, Go.Sort.size_swp]; omega)) g11 rfl rfl fun _ hs0 => ⟨?_, f0, f1, f2, f3, f4, f5, f6, f7, f8, f9, f10, f11, f12, f13, f14, trivial⟩⟩
                                      rw [show Go.Vx.mark D 15 13 = true from d13]
                                      exact hs0
                                    · rintro ρ1 w1 D hD hf ⟨hs, f0, f1, f2, f3, f4, f5, f6, f7, f8, f9, f10, f11, f12, f13, f14, f15⟩
                                      rw [hD 13 rfl, hD 15 rfl] at hs
                                      clear f0 f1 f2 f3 f4 f5 f6 f7 f8 f9 f10 f11 f12 f13 f14 f15
                                      obtain ⟨ρ2, hρ⟩ : ∃ ρ2, ρ1 = mix [135, 136, 137, 138, 139, 140, 141, 142, 143, 144, 145, 146, 147, 148] ρ2 _ := ⟨ρ1, mix_of (ds := [135, 136, 137, 138, 139, 140, 141, 142, 143, 144, 145, 146, 147, 148]) hf⟩
                                      clear hf hD
                                      subst hρ
                                      refine W_seq ?_
                                      refine W_region ?_
                                      refine RW_op (L_move (V := .int .i64 ((i4 : Nat) : Int)) rfl ?_)
                                      refine RW_op (L_add (a := ((i4 : Nat) : Int)) (b := 1) (c := ((i4 + 1 : Nat) : Int)) rfl rfl (nat_i64 (by omega) (by omega)) ?_)
                                      refine RW_op (L_assign (V := .int .i64 ((i4 + 1 : Nat) : Int)) rfl ?_)
                                      refine RW_nil ?_
                                      refine W_region ?_
                                      refine RW_op (L_move (V := .int .i64 ((j4 : Nat) : Int)) rfl ?_)
                                      refine RW_op (L_sub (a := ((j4 : Nat) : Int)) (b := 1) (c := ((j4 - 1 : Nat) : Int)) rfl rfl (nat_i64 (by omega) (by omega)) ?_)
                                      refine RW_op (L_assign (V := .int .i64 ((j4 - 1 : Nat) : Int)) rfl ?_)
                                      refine RW_nil ?_
                                      refine ⟨_, ?_, _, i4 + 1, j4 - 1, ((d1.setIfInBounds i4 (d1[j4]!)).setIfInBounds j4 (d1[i4]!)), upd_of (upd_of (mix_of (ds := [10, 11, 99, 100, 101, 102, 103, 104, 105, 106, 107, 108, 109, 110, 111, 112, 113, 114, 115, 116, 117, 118, 119, 120, 121, 122, 123, 124, 125, 126, 127, 128, 129, 130, 131, 132, 133, 134, 135, 136, 137, 138, 139, 140, 141, 142, 143, 144, 145, 146, 147, 148, 149, 150, 151, 152]) (by repeat (first | exact Agr.refl _ _ | refine Agr.upd ?_ rfl | refine Agr.mix ?_ rfl))) rfl) rfl, (by omega), (by omega), (by omega), (by simp only [Array.size_setIfInBounds]; exact hz1), (by rw [← hev, pl_go hi4 hj4 c28]; rfl), rfl, hs.take 1⟩
                                      omega
end Ts
end Go.Proofs
namespace Go.Proofs
open Go Go.Vx Go.RowKit
namespace Ts
theorem S1_145 : T1 Try.prog 145 := ⟨Try.sizeOf145, Try.isAgg145⟩
theorem EN_112 : En Try.prog 112 := Try.call112
theorem EN_113 : En Try.prog 113 := Try.call113
theorem UD_119 : Ud Try.prog 119 (.int .u64) := Try.runUnderlying119
theorem UD_145 : Ud Try.prog 145 (.int .u64) := Try.runUnderlying145
theorem UD_3 : Ud Try.prog 3 (.int .i64) := Try.runUnderlying3
theorem ZV_145 : Zv Try.prog 145 (.int .u64 0) := Try.zeroValue145
set_option maxRecDepth 20000 in
set_option maxHeartbeats 4000000 in
theorem bp_ok (w : World) (S : Nat → Prop) (a : Option Addr) (N c : Nat) (d : Array Int) (hsz : d.size = N) (hN : N ≤ 2305843009213693951) (lo hi : Nat) (h1 : lo ≤ hi) (h2 : hi ≤ N) (hxor : XorC Try.prog 113 145) (hpow : PowC Try.prog 112) (hR : (row (.slice a N c) (d.toList.map (ic .u16)) 57 1).holds w S) (hlt : ∀ x, S x → x < w.heap.size) : Calls Try.prog 104 #[.slice a N c, .int .i64 ((lo : Nat) : Int), .int .i64 ((hi : Nat) : Int)] w (fun e w' => ∃ x : Unit, e = .returned (.tuple #[]) ∧ Own w S w' [row (.slice a N c) ((Sort.breakPatterns d lo hi).toList.map (ic .u16)) 57 1] ∧ (Sort.breakPatterns d lo hi).size = N) := by
  refine calls_of_Wn (n := 65) Try.func104 rfl Try.ntmps104 rfl ?_
  have hs := Own.lent hR hlt
  refine W_seq ?_
  refine W_region ?_
  refine RW_op (L_move (V := .int .i64 ((hi : Nat) : Int)) rfl ?_)
  refine RW_op (L_move (V := .int .i64 ((lo : Nat) : Int)) rfl ?_)
  refine RW_op (L_sub (a := ((hi : Nat) : Int)) (b := ((lo : Nat) : Int)) (c := ((hi - lo : Nat) : Int)) rfl rfl (nat_i64 (by omega) (by omega)) ?_)
  refine RW_op (L_assign (V := .int .i64 ((hi - lo : Nat) : Int)) rfl ?_)
  refine RW_nil ?_
  refine W_seq ?_
  refine W_region ?_
  refine RW_op (L_move (V := .int .i64 ((hi - lo : Nat) : Int)) rfl ?_)
  refine RW_op (L_geq rfl rfl ?_)
  refine RW_nil ?_
  refine W_cond (t := decide (8 ≤ ((hi - lo : Nat) : Int))) rfl (fun c1 => ?_) (fun c1 => ?_)
  ·
    replace c1 := of_decide_eq_true c1
    refine W_seq ?_
    refine W_region ?_
    refine RW_op (L_move (V := .int .i64 ((hi - lo : Nat) : Int)) rfl ?_)
    refine RW_op (L_conv UD_3 UD_145 rfl (wr_u64 (by omega) (by omega)) ?_)
    refine RW_op (L_alloc (cs := [.int .u64 0]) ZV_145 rfl hs fun b2 w3 hs => ?_)
    refine RW_op (L_st1 (V := .int .u64 ((hi - lo : Nat) : Int)) (cs' := [.int .u64 ((hi - lo : Nat) : Int)]) S1_145 hs 1 rfl rfl rfl rfl (Nat.le_of_ble_eq_true rfl) rfl fun w4 hs => ?_)
    refine RW_nil ?_
    refine W_seq ?_
    refine W_region ?_
    refine RW_op (L_move (V := .int .i64 ((hi - lo : Nat) : Int)) rfl ?_)
    refine RW_op (L_callP (vs := [.int .i64 ((hi - lo : Nat) : Int)]) (V := .int .u64 ((1 <<< Sort.bitsLen (hi - lo) : Nat) : Int)) EN_112 rfl rfl ?hc hs fun w5 hs => ?_)
    case hc => exact (hpow _ (hi - lo) (by omega))
    refine RW_op (L_assign (V := .int .u64 ((1 <<< Sort.bitsLen (hi - lo) : Nat) : Int)) rfl ?_)
    refine RW_nil ?_
    refine W_seq ?_
    refine W_region ?_
    refine RW_op (L_move (V := .int .i64 ((lo : Nat) : Int)) rfl ?_)
    refine RW_op (L_move (V := .int .i64 ((hi - lo : Nat) : Int)) rfl ?_)
    refine RW_op (L_quo (a := ((hi - lo : Nat) : Int)) (b := 4) (c := (((hi - lo) / 4 : Nat) : Int)) rfl rfl (by decide) (nat_i64 rfl (by omega)) ?_)
    refine RW_op (L_mul (a := (((hi - lo) / 4 : Nat) : Int)) (b := 2) (c := ((((hi - lo) / 4) * 2 : Nat) : Int)) rfl rfl (nat_i64 (by omega) (by omega)) ?_)
    refine RW_op (L_add (a := ((lo : Nat) : Int)) (b := ((((hi - lo) / 4) * 2 : Nat) : Int)) (c := ((lo + (((hi - lo) / 4) * 2) : Nat) : Int)) rfl rfl (nat_i64 (by omega) (by omega)) ?_)
    refine RW_op (L_sub (a := ((lo + (((hi - lo) / 4) * 2) : Nat) : Int)) (b := 1) (c := (((lo + (((hi - lo) / 4) * 2)) - 1 : Nat) : Int)) rfl rfl (nat_i64 (by omega) (by omega)) ?_)
    refine RW_op (L_assign (V := .int .i64 (((lo + (((hi - lo) / 4) * 2)) - 1 : Nat) : Int)) rfl ?_)
    refine RW_nil ?_
    refine W_block ?_
    have hmd := md_ok (n := hi - lo) (by omega)
    have hu : (UInt64.ofNat (hi - lo)).toNat = hi - lo := UInt64.toNat_ofNat_of_lt (by show hi - lo < 18446744073709551616; omega)
    replace hs := hs.conv 1 rfl (R' := blk b2 [.int .u64 (((UInt64.ofNat (hi - lo)).toNat : Nat) : Int)] 145) (fun S h => by rw [hu]; exact h)
    refine W_loopI (fun ρ m ρ' w' => ∃ (ρo : Env) (q : Nat) (st : UInt64 × Array Int), ρ' = upd (mix [9, 10, 26, 27, 28, 29, 30, 31, 32, 33, 34, 35, 36, 37, 38, 39, 40, 41, 42, 43, 44, 45, 46, 47, 48, 49, 50, 51, 52, 53, 54, 55, 56, 57, 58, 59, 60, 61, 62, 63, 64] ρo ρ) 9 (.int .i64 (((lo + ((hi - lo) / 4) * 2 - 1) + q : Nat) : Int)) ∧ (q ≤ 3) ∧ (st = bpS lo (hi - lo) (1 <<< Sort.bitsLen (hi - lo)) (UInt64.ofNat (hi - lo), d) (lo + ((hi - lo) / 4) * 2 - 1) (q)) ∧ (st.2.size = N) ∧ m = 3 - q ∧ Own w S w' [row (.slice a N c) (st.2.toList.map (ic .u16)) 57 1, blk b2 [.int .u64 ((st.1.toNat : Nat) : Int)] 145]) ?_ ?_
    · exact ⟨_, _, 0, (UInt64.ofNat (hi - lo), d), upd_of (mix_of (ds := [9, 10, 26, 27, 28, 29, 30, 31, 32, 33, 34, 35, 36, 37, 38, 39, 40, 41, 42, 43, 44, 45, 46, 47, 48, 49, 50, 51, 52, 53, 54, 55, 56, 57, 58, 59, 60, 61, 62, 63, 64]) (Agr.refl _ _)) rfl, (by omega), rfl, hsz, rfl, hs⟩
    · rintro m ρ' w6 ⟨ρo, q, st, rfl, hq, hst, hzs, rfl, hs⟩
      refine W_seq ?_
      refine W_seq ?_
      refine W_region ?_
      refine RW_op (L_move (V := .int .i64 (((lo + ((hi - lo) / 4) * 2 - 1) + q : Nat) : Int)) rfl ?_)
      refine RW_op (L_move (V := .int .i64 ((lo : Nat) : Int)) rfl ?_)
      refine RW_op (L_move (V := .int .i64 ((hi - lo : Nat) : Int)) rfl ?_)
      refine RW_op (L_quo (a := ((hi - lo : Nat) : Int)) (b := 4) (c := (((hi - lo) / 4 : Nat) : Int)) rfl rfl (by decide) (nat_i64 rfl (by omega)) ?_)
      refine RW_op (L_mul (a := (((hi - lo) / 4 : Nat) : Int)) (b := 2) (c := ((((hi - lo) / 4) * 2 : Nat) : Int)) rfl rfl (nat_i64 (by omega) (by omega)) ?_)
      refine RW_op (L_add (a := ((lo : Nat) : Int)) (b := ((((hi - lo) / 4) * 2 : Nat) : Int)) (c := ((lo + (((hi - lo) / 4) * 2) : Nat) : Int)) rfl rfl (nat_i64 (by omega) (by omega)) ?_)
      refine RW_op (L_add (a := ((lo + (((hi - lo) / 4) * 2) : Nat) : Int)) (b := 1) (c := (((lo + (((hi - lo) / 4) * 2)) + 1 : Nat) : Int)) rfl rfl (nat_i64 (by omega) (by omega)) ?_)
      refine RW_op (L_leq rfl rfl ?_)
      refine RW_nil ?_
      refine W_cond (t := decide ((((lo + ((hi - lo) / 4) * 2 - 1) + q : Nat) : Int) ≤ (((lo + (((hi - lo) / 4) * 2)) + 1 : Nat) : Int))) rfl (fun c7 => ?_) (fun c7 => ?_)
      ·
        replace c7 := of_decide_eq_true c7
        refine W_skip ?_
        refine W_seq ?_
        refine W_block ?_
        refine W_seq ?_
        have hand := Nat.and_le_right (n := Sort.xorNextN st.1.toNat) (m := 1 <<< Sort.bitsLen (hi - lo) - 1)
        refine W_region ?_
        refine RW_op (L_callB (vs := [.pointer (some ⟨b2, 0, none⟩)]) (V := fun _ : Unit => .int .u64 ((Sort.xorNextN st.1.toNat : Nat) : Int)) (R := blk b2 [.int .u64 ((st.1.toNat : Nat) : Int)] 145) (R' := fun _ => blk b2 [.int .u64 ((Sort.xorNextN st.1.toNat : Nat) : Int)] 145) (Lo := fun _ => []) (F := fun _ _ => True) EN_113 rfl rfl hs 1 rfl (fun S hS hlt => hxor _ S b2 st.1.toNat (by first | omega | exact UInt64.toNat_lt _) hS hlt) fun _ w8 hs _ => ?_)
        refine RW_op (L_move (V := .int .u64 ((1 <<< Sort.bitsLen (hi - lo) : Nat) : Int)) rfl ?_)
        refine RW_op (opW_to (V := .int .u64 (((1 <<< Sort.bitsLen (hi - lo) : Nat) : Int) - 1)) (V' := .int .u64 ((1 <<< Sort.bitsLen (hi - lo) - 1 : Nat) : Int)) (L_sub (a := ((1 <<< Sort.bitsLen (hi - lo) : Nat) : Int)) (b := 1) (c := ((1 <<< Sort.bitsLen (hi - lo) : Nat) : Int) - 1) rfl rfl (wr_u64 (by omega) (by omega)) ⟨rfl, rfl⟩) (congrArg (Value.int .u64) (by omega)) ?_)
        refine RW_op (opW_to (V := .int .u64 (bits .and .u64 ((Sort.xorNextN st.1.toNat : Nat) : Int) ((1 <<< Sort.bitsLen (hi - lo) - 1 : Nat) : Int))) (V' := .int .u64 ((Sort.xorNextN st.1.toNat &&& (1 <<< Sort.bitsLen (hi - lo) - 1) : Nat) : Int)) (L_and2 rfl rfl ⟨rfl, rfl⟩) (congrArg (Value.int .u64) (and_nat (Sort.xorNextN_lt _ (UInt64.toNat_lt _)) (by omega))) ?_)
        refine RW_op (L_conv UD_119 UD_3 rfl (wr_i64 (by omega) (by omega)) ?_)
        refine RW_op (L_assign (V := .int .i64 ((Sort.xorNextN st.1.toNat &&& (1 <<< Sort.bitsLen (hi - lo) - 1) : Nat) : Int)) rfl ?_)
        refine RW_nil ?_
        refine W_seq ?_
        refine W_seq ?_
        refine W_region ?_
        refine RW_op (L_move (V := .int .i64 ((Sort.xorNextN st.1.toNat &&& (1 <<< Sort.bitsLen (hi - lo) - 1) : Nat) : Int)) rfl ?_)
        refine RW_op (L_move (V := .int .i64 ((hi - lo : Nat) : Int)) rfl ?_)
        refine RW_op (L_geq rfl rfl ?_)
        refine RW_nil ?_
        refine W_mid (fun ρ ρ' w' => ∃ (ρo : Env) (ot : Nat), ρ' = upd (mix [10, 44, 45, 46] ρo ρ) 10 (.int .i64 ((ot : Nat) : Int)) ∧ (ot = otherN lo (hi - lo) (1 <<< Sort.bitsLen (hi - lo)) st.1.toNat) ∧ Own w S w' [row (.slice a N c) (st.2.toList.map (ic .u16)) 57 1, blk b2 [.int .u64 ((Sort.xorNextN st.1.toNat : Nat) : Int)] 145]) ?_ ?_
        ·
          refine W_cond (t := decide (((hi - lo : Nat) : Int) ≤ ((Sort.xorNextN st.1.toNat &&& (1 <<< Sort.bitsLen (hi - lo) - 1) : Nat) : Int))) rfl (fun c9 => ?_) (fun c9 => ?_)
          ·
            replace c9 := of_decide_eq_true c9
            refine W_region ?_
            refine RW_op (L_move (V := .int .i64 ((Sort.xorNextN st.1.toNat &&& (1 <<< Sort.bitsLen (hi - lo) - 1) : Nat) : Int)) rfl ?_)
            refine RW_op (L_move (V := .int .i64 ((hi - lo : Nat) : Int)) rfl ?_)
            refine RW_op (L_sub (a := ((Sort.xorNextN st.1.toNat &&& (1 <<< Sort.bitsLen (hi - lo) - 1) : Nat) : Int)) (b := ((hi - lo : Nat) : Int)) (c := (((Sort.xorNextN st.1.toNat &&& (1 <<< Sort.bitsLen (hi - lo) - 1)) - (hi - lo) : Nat) : Int)) rfl rfl (nat_i64 (by omega) (by omega)) ?_)
            refine RW_op (L_assign (V := .int .i64 (((Sort.xorNextN st.1.toNat &&& (1 <<< Sort.bitsLen (hi - lo) - 1)) - (hi - lo) : Nat) : Int)) rfl ?_)
            refine RW_nil ?_
            exact ⟨_, (Sort.xorNextN st.1.toNat &&& (1 <<< Sort.bitsLen (hi - lo) - 1)) - (hi - lo), upd_of (mix_of (ds := [10, 44, 45, 46]) (by repeat (first | exact Agr.refl _ _ | refine Agr.upd ?_ rfl | refine Agr.mix ?_ rfl))) rfl, (by unfold otherN; rw [if_pos (by omega)]), hs.take 2⟩
          ·
            replace c9 := of_decide_eq_false c9
            refine W_skip ?_
            exact ⟨_, Sort.xorNextN st.1.toNat &&& (1 <<< Sort.bitsLen (hi - lo) - 1), upd_of (mix_of (ds := [10, 44, 45, 46]) (by repeat (first | exact Agr.refl _ _ | refine Agr.upd ?_ rfl | refine Agr.mix ?_ rfl))) rfl, (by unfold otherN; rw [if_neg (by omega)]), hs.take 2⟩
        · rintro ρ' w10 ⟨ρo, ot, rfl, hot, hs⟩
          have hol := other_lt (lo := lo) (len := hi - lo) (r := st.1.toNat) (by omega)
          rw [← hot] at hol
          replace hs := hs.drew
          refine W_draw2 HM [47, 48, 49, 50, 51, 52, 53, 54, 55, 56, 57, 58, 59, 60, 61, 62, 63, 64] [[], [], [], [], [], [3, 4], [], [], [], [7, 8], [6, 9], [10], [], [], [12, 13], [14], [0, 1, 0, 1, 6, 7, 8, 9, 10, 11, 15], [16, 11, 0, 1, 6, 7, 8, 9, 10, 11, 15], [2, 5, 0, 1, 2, 3, 4, 5, 6, 7, 8, 9, 10, 11, 12, 13, 14, 15, 16, 17], [18, 15, 17, 0, 1, 2, 3, 4, 5, 6, 7, 8, 9, 10, 11, 12, 13, 14, 15, 16, 17]] (fun D ρ wx => Own w S wx [cond (D 19) (row (.slice a N c) ((((st.2.setIfInBounds ((lo + ((hi - lo) / 4) * 2 - 1) + q) (st.2[lo + ot]!)).setIfInBounds (lo + ot) (st.2[(lo + ((hi - lo) / 4) * 2 - 1) + q]!)).toList).map (ic .u16)) 57 1) (cond (D 17) (row (.slice a N c) (((st.2.setIfInBounds ((lo + ((hi - lo) / 4) * 2 - 1) + q) (st.2[lo + ot]!)).toList).map (ic .u16)) 57 1) (row (.slice a N c) (st.2.toList.map (ic .u16)) 57 1)), blk b2 [.int .u64 ((Sort.xorNextN st.1.toNat : Nat) : Int)] 145] ∧ (D 0 = true → ρ 47 = .slice a N c) ∧ (D 1 = true → ρ 48 = .int .i64 (((lo + ((hi - lo) / 4) * 2 - 1) + q : Nat) : Int)) ∧ (D 2 = true → ρ 49 = .slice a N c) ∧ (D 3 = true → ρ 50 = .int .i64 ((lo : Nat) : Int)) ∧ (D 4 = true → ρ 51 = .int .i64 ((ot : Nat) : Int)) ∧ (D 5 = true → ρ 52 = .int .i64 ((lo + ot : Nat) : Int)) ∧ (D 6 = true → ρ 53 = .slice a N c) ∧ (D 7 = true → ρ 54 = .int .i64 ((lo : Nat) : Int)) ∧ (D 8 = true → ρ 55 = .int .i64 ((ot : Nat) : Int)) ∧ (D 9 = true → ρ 56 = .int .i64 ((lo + ot : Nat) : Int)) ∧ (D 10 = true → ρ 57 = .pointer (some ⟨bkS (.slice a N c), ofS (.slice a N c) + ((lo + ot : Nat) : Int).toNat * 1, none⟩)) ∧ (D 11 = true → ρ 58 = .int .u16 (st.2[lo + ot]!)) ∧ (D 12 = true → ρ 59 = .slice a N c) ∧ (D 13 = true → ρ 60 = .int .i64 (((lo + ((hi - lo) / 4) * 2 - 1) + q : Nat) : Int)) ∧ (D 14 = true → ρ 61 = .pointer (some ⟨bkS (.slice a N c), ofS (.slice a N c) + (((lo + ((hi - lo) / 4) * 2 - 1) + q : Nat) : Int).toNat * 1, none⟩)) ∧ (D 15 = true → ρ 62 = .int .u16 (st.2[(lo + ((hi - lo) / 4) * 2 - 1) + q]!)) ∧ (D 16 = true → ρ 63 = .pointer (some ⟨bkS (.slice a N c), ofS (.slice a N c) + (((lo + ((hi - lo) / 4) * 2 - 1) + q : Nat) : Int).toNat * 1, none⟩)) ∧ (True) ∧ (D 18 = true → ρ 64 = .pointer (some ⟨bkS (.slice a N c), ofS (.slice a N c) + ((lo + ot : Nat) : Int).toNat * 1, none⟩)) ∧ (True)) rfl rfl rfl ⟨hs, fun h => absurd h Bool.false_ne_true, fun h => absurd h Bool.false_ne_true, fun h => absurd h Bool.false_ne_true, fun h => absurd h Bool.false_ne_true, fun h => absurd h Bool.false_ne_true, fun h => absurd h Bool.false_ne_true, fun h => absurd h Bool.false_ne_true, fun h => absurd h Bool.false_ne_true, fun h => absurd h Bool.false_ne_true, fun h => absurd h Bool.false_ne_true, fun h => absurd h Bool.false_ne_true, fun h => absurd h Bool.false_ne_true, fun h => absurd h Bool.false_ne_true, fun h => absurd h Bool.false_ne_true, fun h => absurd h Bool.false_ne_true, fun h => absurd h Bool.false_ne_true, fun h => absurd h Bool.false_ne_true, trivial, fun h => absurd h Bool.false_ne_true, trivial⟩ ⟨?_, ?_, ?_, ?_, ?_, ?_, ?_, ?_, ?_, ?_, ?_, ?_, ?_, ?_, ?_, ?_, ?_, ?_, ?_, ?_, trivial⟩ ?_
          · rintro D ρ wx hD hd hdc hf ⟨hs, f0, f1, f2, f3, f4, f5, f6, f7, f8, f9, f10, f11, f12, f13, f14, f15, f16, f17, f18, f19⟩
            have r0 : ρ 0 = .slice a N c := outD hf 0 rfl
            exact .inl ⟨rfl, L_move (V := .slice a N c) r0 ⟨hs, fun _ => rfl, f1, f2, f3, f4, f5, f6, f7, f8, f9, f10, f11, f12, f13, f14, f15, f16, f17, f18, f19⟩⟩
          · rintro D ρ wx hD hd hdc hf ⟨hs, f0, f1, f2, f3, f4, f5, f6, f7, f8, f9, f10, f11, f12, f13, f14, f15, f16, f17, f18, f19⟩
            have r9 : ρ 9 = .int .i64 (((lo + ((hi - lo) / 4) * 2 - 1) + q : Nat) : Int) := outD hf 9 rfl
            exact .inl ⟨rfl, L_move (V := .int .i64 (((lo + ((hi - lo) / 4) * 2 - 1) + q : Nat) : Int)) r9 ⟨hs, f0, fun _ => rfl, f2, f3, f4, f5, f6, f7, f8, f9, f10, f11, f12, f13, f14, f15, f16, f17, f18, f19⟩⟩
          · rintro D ρ wx hD hd hdc hf ⟨hs, f0, f1, f2, f3, f4, f5, f6, f7, f8, f9, f10, f11, f12, f13, f14, f15, f16, f17, f18, f19⟩
            have r0 : ρ 0 = .slice a N c := outD hf 0 rfl
            exact .inl ⟨rfl, L_move (V := .slice a N c) r0 ⟨hs, f0, f1, fun _ => rfl, f3, f4, f5, f6, f7, f8, f9, f10, f11, f12, f13, f14, f15, f16, f17, f18, f19⟩⟩
          · rintro D ρ wx hD hd hdc hf ⟨hs, f0, f1, f2, f3, f4, f5, f6, f7, f8, f9, f10, f11, f12, f13, f14, f15, f16, f17, f18, f19⟩
            have r1 : ρ 1 = .int .i64 ((lo : Nat) : Int) := outD hf 1 rfl
            exact .inl ⟨rfl, L_move (V := .int .i64 ((lo : Nat) : Int)) r1 ⟨hs, f0, f1, f2, fun _ => rfl, f4, f5, f6, f7, f8, f9, f10, f11, f12, f13, f14, f15, f16, f17, f18, f19⟩⟩
          · rintro D ρ wx hD hd hdc hf ⟨hs, f0, f1, f2, f3, f4, f5, f6, f7, f8, f9, f10, f11, f12, f13, f14, f15, f16, f17, f18, f19⟩
            have r10 : ρ 10 = .int .i64 ((ot : Nat) : Int) := outD hf 10 rfl
            exact .inl ⟨rfl, L_move (V := .int .i64 ((ot : Nat) : Int)) r10 ⟨hs, f0, f1, f2, f3, fun _ => rfl, f5, f6, f7, f8, f9, f10, f11, f12, f13, f14, f15, f16, f17, f18, f19⟩⟩
          · rintro D ρ wx hD hd hdc hf ⟨hs, f0, f1, f2, f3, f4, f5, f6, f7, f8, f9, f10, f11, f12, f13, f14, f15, f16, f17, f18, f19⟩
            have g3 := f3 (doneD hd 3 rfl)
            have g4 := f4 (doneD hd 4 rfl)
            exact .inl ⟨rfl, L_add (a := ((lo : Nat) : Int)) (b := ((ot : Nat) : Int)) (c := ((lo + ot : Nat) : Int)) g3 g4 (nat_i64 (by omega) (by omega)) ⟨hs, f0, f1, f2, f3, f4, fun _ => rfl, f6, f7, f8, f9, f10, f11, f12, f13, f14, f15, f16, f17, f18, f19⟩⟩
          · rintro D ρ wx hD hd hdc hf ⟨hs, f0, f1, f2, f3, f4, f5, f6, f7, f8, f9, f10, f11, f12, f13, f14, f15, f16, f17, f18, f19⟩
            have r0 : ρ 0 = .slice a N c := outD hf 0 rfl
            exact .inl ⟨rfl, L_move (V := .slice a N c) r0 ⟨hs, f0, f1, f2, f3, f4, f5, fun _ => rfl, f7, f8, f9, f10, f11, f12, f13, f14, f15, f16, f17, f18, f19⟩⟩
          · rintro D ρ wx hD hd hdc hf ⟨hs, f0, f1, f2, f3, f4, f5, f6, f7, f8, f9, f10, f11, f12, f13, f14, f15, f16, f17, f18, f19⟩
            have r1 : ρ 1 = .int .i64 ((lo : Nat) : Int) := outD hf 1 rfl
            exact .inl ⟨rfl, L_move (V := .int .i64 ((lo : Nat) : Int)) r1 ⟨hs, f0, f1, f2, f3, f4, f5, f6, fun _ => rfl, f8, f9, f10, f11, f12, f13, f14, f15, f16, f17, f18, f19⟩⟩
          · rintro D ρ wx hD hd hdc hf ⟨hs, f0, f1, f2, f3, f4, f5, f6, f7, f8, f9, f10, f11, f12, f13, f14, f15, f16, f17, f18, f19⟩
            have r10 : ρ 10 = .int .i64 ((ot : Nat) : Int) := outD hf 10 rfl
            exact .inl ⟨rfl, L_move (V := .int .i64 ((ot : Nat) : Int)) r10 ⟨hs, f0, f1, f2, f3, f4, f5, f6, f7, fun _ => rfl, f9, f10, f11, f12, f13, f14, f15, f16, f17, f18, f19⟩⟩
          · rintro D ρ wx hD hd hdc hf ⟨hs, f0, f1, f2, f3, f4, f5, f6, f7, f8, f9, f10, f11, f12, f13, f14, f15, f16, f17, f18, f19⟩
            have g7 := f7 (doneD hd 7 rfl)
            have g8 := f8 (doneD hd 8 rfl)
            exact .inl ⟨rfl, L_add (a := ((lo : Nat) : Int)) (b := ((ot : Nat) : Int)) (c := ((lo + ot : Nat) : Int)) g7 g8 (nat_i64 (by omega) (by omega)) ⟨hs, f0, f1, f2, f3, f4, f5, f6, f7, f8, fun _ => rfl, f10, f11, f12, f13, f14, f15, f16, f17, f18, f19⟩⟩
          · rintro D ρ wx hD hd hdc hf ⟨hs, f0, f1, f2, f3, f4, f5, f6, f7, f8, f9, f10, f11, f12, f13, f14, f15, f16, f17, f18, f19⟩
            have g6 := f6 (doneD hd 6 rfl)
            have g9 := f9 (doneD hd 9 rfl)
            have d17 : D 17 = false := (notYetD hdc (j := 17) rfl rfl hD)
            have d19 : D 19 = false := (notYetD hdc (j := 19) rfl rfl hD)
            have hs0 := hs; rw [d17, d19] at hs0
            exact .inl ⟨rfl, L_ixR UD_72 S1_57.1 (hs0.rd 0 rfl) g6 g9 (by omega) (by simp only [List.length_map, Array.length_toList, Array.size_setIfInBounds, Go.Sort.size_swp]; omega) ⟨hs, f0, f1, f2, f3, f4, f5, f6, f7, f8, f9, fun _ => rfl, f11, f12, f13, f14, f15, f16, f17, f18, f19⟩⟩
          · rintro D ρ wx hD hd hdc hf ⟨hs, f0, f1, f2, f3, f4, f5, f6, f7, f8, f9, f10, f11, f12, f13, f14, f15, f16, f17, f18, f19⟩
            have g10 := f10 (doneD hd 10 rfl)
            have d17 : D 17 = false := (notYetD hdc (j := 17) rfl rfl hD)
            have d19 : D 19 = false := (notYetD hdc (j := 19) rfl rfl hD)
            have hs0 := hs; rw [d17, d19] at hs0
            exact .inl ⟨rfl, L_ldR (j := 0) (V := .int .u16 (st.2[lo + ot]!)) (lo + ot) S1_57 (hs0.rd 0 rfl) (da_at (by omega)) rfl g10 (by omega) ⟨hs, f0, f1, f2, f3, f4, f5, f6, f7, f8, f9, f10, fun _ => rfl, f12, f13, f14, f15, f16, f17, f18, f19⟩⟩
          · rintro D ρ wx hD hd hdc hf ⟨hs, f0, f1, f2, f3, f4, f5, f6, f7, f8, f9, f10, f11, f12, f13, f14, f15, f16, f17, f18, f19⟩
            have r0 : ρ 0 = .slice a N c := outD hf 0 rfl
            exact .inl ⟨rfl, L_move (V := .slice a N c) r0 ⟨hs, f0, f1, f2, f3, f4, f5, f6, f7, f8, f9, f10, f11, fun _ => rfl, f13, f14, f15, f16, f17, f18, f19⟩⟩
          · rintro D ρ wx hD hd hdc hf ⟨hs, f0, f1, f2, f3, f4, f5, f6, f7, f8, f9, f10, f11, f12, f13, f14, f15, f16, f17, f18, f19⟩
            have r9 : ρ 9 = .int .i64 (((lo + ((hi - lo) / 4) * 2 - 1) + q : Nat) : Int) := outD hf 9 rfl
            exact .inl ⟨rfl, L_move (V := .int .i64 (((lo + ((hi - lo) / 4) * 2 - 1) + q : Nat) : Int)) r9 ⟨hs, f0, f1, f2, f3, f4, f5, f6, f7, f8, f9, f10, f11, f12, fun _ => rfl, f14, f15, f16, f17, f18, f19⟩⟩
          · rintro D ρ wx hD hd hdc hf ⟨hs, f0, f1, f2, f3, f4, f5, f6, f7, f8, f9, f10, f11, f12, f13, f14, f15, f16, f17, f18, f19⟩
            have g12 := f12 (doneD hd 12 rfl)
            have g13 := f13 (doneD hd 13 rfl)
            have d17 : D 17 = false := (notYetD hdc (j := 17) rfl rfl (notYetD hdc (j := 15) rfl rfl hD))
            have d19 : D 19 = false := (notYetD hdc (j := 19) rfl rfl hD)
            have hs0 := hs; rw [d17, d19] at hs0
            exact .inl ⟨rfl, L_ixR UD_72 S1_57.1 (hs0.rd 0 rfl) g12 g13 (by omega) (by simp only [List.length_map, Array.length_toList, Array.size_setIfInBounds, Go.Sort.size_swp]; omega) ⟨hs, f0, f1, f2, f3, f4, f5, f6, f7, f8, f9, f10, f11, f12, f13, fun _ => rfl, f15, f16, f17, f18, f19⟩⟩
          · rintro D ρ wx hD hd hdc hf ⟨hs, f0, f1, f2, f3, f4, f5, f6, f7, f8, f9, f10, f11, f12, f13, f14, f15, f16, f17, f18, f19⟩
            have g14 := f14 (doneD hd 14 rfl)
            have d17 : D 17 = false := (notYetD hdc (j := 17) rfl rfl hD)
            have d19 : D 19 = false := (notYetD hdc (j := 19) rfl rfl hD)
            have hs0 := hs; rw [d17, d19] at hs0
            exact .inl ⟨rfl, L_ldR (j := 0) (V := .int .u16 (st.2[(lo + ((hi - lo) / 4) * 2 - 1) + q]!)) ((lo + ((hi - lo) / 4) * 2 - 1) + q) S1_57 (hs0.rd 0 rfl) (da_at (by omega)) rfl g14 (by omega) ⟨hs, f0, f1, f2, f3, f4, f5, f6, f7, f8, f9, f10, f11, f12, f13, f14, fun _ => rfl, f16, f17, f18, f19⟩⟩
          · rintro D ρ wx hD hd hdc hf ⟨hs, f0, f1, f2, f3, f4, f5, f6, f7, f8, f9, f10, f11, f12, f13, f14, f15, f16, f17, f18, f19⟩
            have g0 := f0 (doneD hd 0 rfl)
            have g1 := f1 (doneD hd 1 rfl)
            have d17 : D 17 = false := (notYetD hdc (j := 17) rfl rfl hD)
            have d19 : D 19 = false := (notYetD hdc (j := 19) rfl rfl hD)
            have hs0 := hs; rw [d17, d19] at hs0
            exact .inl ⟨rfl, L_ixR UD_72 S1_57.1 (hs0.rd 0 rfl) g0 g1 (by omega) (by simp only [List.length_map, Array.length_toList, Array.size_setIfInBounds, Go.Sort.size_swp]; omega) ⟨hs, f0, f1, f2, f3, f4, f5, f6, f7, f8, f9, f10, f11, f12, f13, f14, f15, fun _ => rfl, f17, f18, f19⟩⟩
          · rintro D ρ wx hD hd hdc hf ⟨hs, f0, f1, f2, f3, f4, f5, f6, f7, f8, f9, f10, f11, f12, f13, f14, f15, f16, f17, f18, f19⟩
            have g11 := f11 (doneD hd 11 rfl)
            have g16 := f16 (doneD hd 16 rfl)
            have d17 : D 17 = false := hD
            have d19 : D 19 = false := (notYetD hdc (j := 19) rfl rfl hD)
            have hs0 := hs; rw [d17, d19] at hs0
            refine .inl ⟨rfl, L_stA (z := st.2[lo + ot]!) ((lo + ((hi - lo) / 4) * 2 - 1) + q) S1_57 hs0 0 rfl g16 (by omega) (by first | omega | (simp only [Array.size_setIfInBounds, Go.Sort.size_swp]; omega)) g11 rfl rfl fun _ hs0 => ⟨?_, f0, f1, f2, f3, f4, f5, f6, f7, f8, f9, f10, f11, f12, f13, f14, f15, f16, trivial, f18, f19⟩⟩
            rw [show Go.Vx.mark D 17 19 = false from d19]
            exact hs0
          · rintro D ρ wx hD hd hdc hf ⟨hs, f0, f1, f2, f3, f4, f5, f6, f7, f8, f9, f10, f11, f12, f13, f14, f15, f16, f17, f18, f19⟩
            have g2 := f2 (doneD hd 2 rfl)
            have g5 := f5 (doneD hd 5 rfl)
            have d17 : D 17 = true := doneD hd 17 rfl
            have d19 : D 19 = false := (notYetD hdc (j := 19) rfl rfl hD)
            have hs0 := hs; rw [d17, d19] at hs0
            exact .inl ⟨rfl, L_ixR UD_72 S1_57.1 (hs0.rd 0 rfl) g2 g5 (by omega) (by simp only [List.length_map, Array.length_toList, Array.size_setIfInBounds, Go.Sort.size_swp]; omega) ⟨hs, f0, f1, f2, f3, f4, f5, f6, f7, f8, f9, f10, f11, f12, f13, f14, f15, f16, f17, fun _ => rfl, f19⟩⟩
          · rintro D ρ wx hD hd hdc hf ⟨hs, f0, f1, f2, f3, f4, f5, f6, f7, f8, f9, f10, f11, f12, f13, f14, f15, f16, f17, f18, f19⟩
            have g15 := f15 (doneD hd 15 rfl)
            have g18 := f18 (doneD hd 18 rfl)
            have d17 : D 17 = true := doneD hd 17 rfl
            have d19 : D 19 = false := hD
            have hs0 := hs; rw [d17, d19] at hs0
            refine .inl ⟨rfl, L_stA (z := st.2[(lo + ((hi - lo) / 4) * 2 - 1) + q]!) (lo + ot) S1_57 hs0 0 rfl g18 (by omega) (by first | omega | (simp only [Array.size_setIfInBounds, Go.Sort.size_swp]; omega)) g15 rfl rfl fun _ hs0 => ⟨?_, f0, f1, f2, f3, f4, f5, f6, f7, f8, f9, f10, f11, f12, f13, f14, f15, f16, f17, f18, trivial⟩⟩
            rw [show Go.Vx.mark D 19 17 = true from d17]
            exact hs0
          · rintro ρ1 w1 D hD hf ⟨hs, f0, f1, f2, f3, f4, f5, f6, f7, f8, f9, f10, f11, f12, f13, f14, f15, f16, f17, f18, f19⟩
            rw [hD 17 rfl, hD 19 rfl] at hs
            clear f0 f1 f2 f3 f4 f5 f6 f7 f8 f9 f10 f11 f12 f13 f14 f15 f16 f17 f18 f19
            obtain ⟨ρ2, hρ⟩ : ∃ ρ2, ρ1 = mix [47, 48, 49, 50, 51, 52, 53, 54, 55, 56, 57, 58, 59, 60, 61, 62, 63, 64] ρ2 _ := ⟨ρ1, mix_of (ds := [47, 48, 49, 50, 51, 52, 53, 54, 55, 56, 57, 58, 59, 60, 61, 62, 63, 64]) hf⟩
            clear hf hD
            subst hρ
            refine W_region ?_
            refine RW_op (L_move (V := .int .i64 (((lo + ((hi - lo) / 4) * 2 - 1) + q : Nat) : Int)) rfl ?_)
            refine RW_op (L_add (a := (((lo + ((hi - lo) / 4) * 2 - 1) + q : Nat) : Int)) (b := 1) (c := ((((lo + ((hi - lo) / 4) * 2 - 1) + q) + 1 : Nat) : Int)) rfl rfl (nat_i64 (by omega) (by omega)) ?_)
            refine RW_op (L_assign (V := .int .i64 ((((lo + ((hi - lo) / 4) * 2 - 1) + q) + 1 : Nat) : Int)) rfl ?_)
            refine RW_nil ?_
            have hbn := bpS_next (lo := lo) (len := hi - lo) (md := 1 <<< Sort.bitsLen (hi - lo)) (i0 := lo + ((hi - lo) / 4) * 2 - 1) (q := q) (s0 := (UInt64.ofNat (hi - lo), d))
            rw [← hst] at hbn
            replace hs := hs.conv 1 rfl (R' := blk b2 [.int .u64 (((bpS lo (hi - lo) (1 <<< Sort.bitsLen (hi - lo)) (UInt64.ofNat (hi - lo), d) (lo + ((hi - lo) / 4) * 2 - 1) (q + 1)).1.toNat : Nat) : Int)] 145) (fun S h => by rw [hbn.1]; exact h)
            replace hs := hs.conv 0 rfl (R' := row (.slice a N c) (((bpS lo (hi - lo) (1 <<< Sort.bitsLen (hi - lo)) (UInt64.ofNat (hi - lo), d) (lo + ((hi - lo) / 4) * 2 - 1) (q + 1)).2).toList.map (ic .u16)) 57 1) (fun S h => by rw [hbn.2, ← hot]; exact h)
            refine ⟨_, ?_, _, q + 1, bpS lo (hi - lo) (1 <<< Sort.bitsLen (hi - lo)) (UInt64.ofNat (hi - lo), d) (lo + ((hi - lo) / 4) * 2 - 1) (q + 1), upd_of (mix_of (ds := [9, 10, 26, 27, 28, 29, 30, 31, 32, 33, 34, 35, 36, 37, 38, 39, 40, 41, 42, 43, 44, 45, 46, 47, 48, 49, 50, 51, 52, 53, 54, 55, 56, 57, 58, 59, 60, 61, 62, 63, 64]) (by repeat (first | exact Agr.refl _ _ | refine Agr.upd ?_ rfl | refine Agr.mix ?_ rfl))) rfl, (by omega), rfl, (bpS_size (s0 := (UInt64.ofNat (hi - lo), d)) hsz _), rfl, hs.take 2⟩
            omega
      ·
        replace c7 := of_decide_eq_false c7
        refine W_exit ?_
        refine ⟨_, res_none Try.results104, ?_⟩
        have hq3 : q = 3 := by omega
        subst hq3
        have hX : st.2 = Sort.breakPatterns d lo hi := by rw [hst]; exact bpS_end (by omega)
        exact ⟨(), rfl, hX ▸ hs.take 1, hX ▸ (by first | assumption | (simp only [Array.size_setIfInBounds, Go.Sort.size_swp]; omega))⟩
  ·
    replace c1 := of_decide_eq_false c1
    refine W_skip ?_
    refine ⟨_, res_none Try.results104, ?_⟩
    have hX : d = Sort.breakPatterns d lo hi := by unfold Sort.breakPatterns; dsimp only; rw [if_neg (by omega)]
    exact ⟨(), rfl, hX ▸ hs.take 1, hX ▸ (by first | assumption | (simp only [Array.size_setIfInBounds, Go.Sort.size_swp]; omega))⟩
end Ts
end Go.Proofs
