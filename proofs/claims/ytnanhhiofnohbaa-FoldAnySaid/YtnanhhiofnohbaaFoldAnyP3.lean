/- A part of a proof: what functions of the program compute, and plain facts on that. -/
import Derived.Test.YtnanhhiofnohbaaFoldAnyP2
set_option linter.unusedVariables false
set_option linter.unusedSimpArgs false
namespace Go.Proofs
open Go Go.Vx Go.RowKit
namespace Ts
theorem EN_116 : En Try.prog 116 := Try.call116
theorem hb_step {n first k : Nat} {d : Array Int} (h : 1 ≤ k) : Sort.heapBuild Sort.ltInt n first k d = Sort.heapBuild Sort.ltInt n first (k - 1) (Sort.siftDown Sort.ltInt n first (k - 1) d) := by
  obtain ⟨i, rfl⟩ : ∃ i, k = i + 1 := ⟨k - 1, by omega⟩
  rfl
theorem hp_step {first k : Nat} {d : Array Int} (h : 1 ≤ k) : Sort.heapPop Sort.ltInt first k d = Sort.heapPop Sort.ltInt first (k - 1) (Sort.siftDown Sort.ltInt (k - 1) first 0 (Sort.swp d first (first + (k - 1)))) := by
  obtain ⟨i, rfl⟩ : ∃ i, k = i + 1 := ⟨k - 1, by omega⟩
  rfl
theorem half_nat {n : Nat} : ((n : Int) - 1).tdiv 2 = (((n - 1) / 2 : Nat) : Int) := by
  cases n with
  | zero => rfl
  | succ m => rw [show (((m + 1 : Nat) : Int) - 1) = (m : Int) by omega]; rfl
set_option maxRecDepth 20000 in
set_option maxHeartbeats 4000000 in
theorem heap_ok (w : World) (S : Nat → Prop) (a : Option Addr) (N c : Nat) (d : Array Int) (hsz : d.size = N) (hN : N ≤ 2305843009213693951) (lo hi : Nat) (h1 : lo ≤ hi) (h2 : hi ≤ N) (hR : (row (.slice a N c) (d.toList.map (ic .u16)) 57 1).holds w S) (hlt : ∀ x, S x → x < w.heap.size) : Calls Try.prog 103 #[.slice a N c, .int .i64 ((lo : Nat) : Int), .int .i64 ((hi : Nat) : Int)] w (fun e w' => ∃ x : Unit, e = .returned (.tuple #[]) ∧ Own w S w' [row (.slice a N c) ((Sort.heapSort Sort.ltInt d lo hi).toList.map (ic .u16)) 57 1] ∧ (Sort.heapSort Sort.ltInt d lo hi).size = N) := by
  refine calls_of_Wn (n := 56) Try.func103 rfl Try.ntmps103 rfl ?_
  have hs := Own.lent hR hlt
  refine W_seq ?_
  refine W_region ?_
  refine RW_op (L_move (V := .int .i64 ((lo : Nat) : Int)) rfl ?_)
  refine RW_op (L_assign (V := .int .i64 ((lo : Nat) : Int)) rfl ?_)
  refine RW_nil ?_
  refine W_seq ?_
  refine W_region ?_
  refine RW_op (L_assign (V := .int .i64 0) rfl ?_)
  refine RW_nil ?_
  refine W_seq ?_
  refine W_region ?_
  refine RW_op (L_move (V := .int .i64 ((hi : Nat) : Int)) rfl ?_)
  refine RW_op (L_move (V := .int .i64 ((lo : Nat) : Int)) rfl ?_)
  refine RW_op (L_sub (a := ((hi : Nat) : Int)) (b := ((lo : Nat) : Int)) (c := ((hi - lo : Nat) : Int)) rfl rfl (nat_i64 (by omega) (by omega)) ?_)
  refine RW_op (L_assign (V := .int .i64 ((hi - lo : Nat) : Int)) rfl ?_)
  refine RW_nil ?_
  refine W_seq ?_
  refine W_seq ?_
  refine W_region ?_
  refine RW_op (L_move (V := .int .i64 ((hi - lo : Nat) : Int)) rfl ?_)
  refine RW_op (L_sub (a := ((hi - lo : Nat) : Int)) (b := 1) (c := ((hi - lo : Nat) : Int) - 1) rfl rfl (wr_i64 (by omega) (by omega)) ?_)
  refine RW_op (opW_to (V := .int .i64 (IntKind.i64.wrap ((((hi - lo : Nat) : Int) - 1).tdiv 2))) (V' := .int .i64 ((((hi - lo) - 1) / 2 : Nat) : Int)) (L_quo rfl rfl (by omega) rfl ⟨rfl, rfl⟩) (congrArg (Value.int .i64) (by rw [half_nat]; exact nat_i64 rfl (by omega))) ?_)
  refine RW_op (L_assign (V := .int .i64 ((((hi - lo) - 1) / 2 : Nat) : Int)) rfl ?_)
  refine RW_nil ?_
  refine W_block ?_
  refine W_loopI (fun ρ m ρ' w' => ∃ (ρo : Env) (k : Nat) (d1 : Array Int), ρ' = upd (mix [9, 18, 19, 20, 21, 22, 23, 24, 25, 26] ρo ρ) 9 (.int .i64 ((k : Int) - 1)) ∧ (k ≤ N + 1) ∧ (d1.size = N) ∧ (Sort.heapPop Sort.ltInt lo (hi - lo) (Sort.heapBuild Sort.ltInt (hi - lo) lo k d1) = Sort.heapSort Sort.ltInt d lo hi) ∧ m = 2 * k ∧ Own w S w' [row (.slice a N c) (d1.toList.map (ic .u16)) 57 1]) ?_ ?_
  · exact ⟨_, _, ((hi - lo) - 1) / 2 + 1, d, upd_of (mix_of (ds := [9, 18, 19, 20, 21, 22, 23, 24, 25, 26]) (Agr.refl _ _)) (congrArg (Value.int .i64) (by omega)), (by omega), hsz, rfl, rfl, hs⟩
  · rintro m ρ' w1 ⟨ρo, k, d1, rfl, hk, hz1, hev, rfl, hs⟩
    refine W_seq ?_
    refine W_seq ?_
    refine W_region ?_
    refine RW_op (L_move (V := .int .i64 ((k : Int) - 1)) rfl ?_)
    refine RW_op (L_geq rfl rfl ?_)
    refine RW_nil ?_
    refine W_cond (t := decide (0 ≤ (k : Int) - 1)) rfl (fun c2 => ?_) (fun c2 => ?_)
    ·
      replace c2 := of_decide_eq_true c2
      refine W_skip ?_
      refine W_seq ?_
      refine W_block ?_
      refine W_region ?_
      refine RW_op (L_move (V := .slice a N c) rfl ?_)
      refine RW_op (opW_to (V := .int .i64 ((k : Int) - 1)) (V' := .int .i64 ((k - 1 : Nat) : Int)) (L_move (V := .int .i64 ((k : Int) - 1)) rfl ⟨rfl, rfl⟩) (congrArg (Value.int .i64) (by omega)) ?_)
      refine RW_op (L_move (V := .int .i64 ((hi - lo : Nat) : Int)) rfl ?_)
      refine RW_op (L_move (V := .int .i64 ((lo : Nat) : Int)) rfl ?_)
      refine RW_op (L_callB (vs := [.slice a N c, .int .i64 ((k - 1 : Nat) : Int), .int .i64 ((hi - lo : Nat) : Int), .int .i64 ((lo : Nat) : Int)]) (V := fun _ : Unit => .tuple #[]) (R := row (.slice a N c) (d1.toList.map (ic .u16)) 57 1) (R' := fun _ => row (.slice a N c) ((Sort.siftDown Sort.ltInt (hi - lo) lo (k - 1) d1).toList.map (ic .u16)) 57 1) (Lo := fun _ => []) (F := fun _ _ => (Sort.siftDown Sort.ltInt (hi - lo) lo (k - 1) d1).size = N) EN_116 rfl rfl hs 0 rfl (fun S hS hlt => sift_ok _ S a N c d1 (by first | assumption | (simp only [Array.size_setIfInBounds, Go.Sort.size_swp]; omega)) hN (k - 1) (hi - lo) lo (by omega) (by omega) hS hlt) fun _ w3 hs hz4 => ?_)
      refine RW_nil ?_
      refine W_region ?_
      refine RW_op (L_move (V := .int .i64 ((k : Int) - 1)) rfl ?_)
      refine RW_op (L_sub (a := (k : Int) - 1) (b := 1) (c := ((k : Int) - 1) - 1) rfl rfl (wr_i64 (by omega) (by omega)) ?_)
      refine RW_op (L_assign (V := .int .i64 (((k : Int) - 1) - 1)) rfl ?_)
      refine RW_nil ?_
      refine ⟨_, ?_, _, k - 1, Sort.siftDown Sort.ltInt (hi - lo) lo (k - 1) d1, upd_of (mix_of (ds := [9, 18, 19, 20, 21, 22, 23, 24, 25, 26]) (by repeat (first | exact Agr.refl _ _ | refine Agr.upd ?_ rfl | refine Agr.mix ?_ rfl))) (congrArg (Value.int .i64) (by omega)), (by omega), (by assumption), (by rw [← hev, hb_step (k := k) (by omega)]), rfl, hs.take 1⟩
      omega
    ·
      replace c2 := of_decide_eq_false c2
      refine W_exit ?_
      refine W_seq ?_
      refine W_region ?_
      refine RW_op (L_move (V := .int .i64 ((hi - lo : Nat) : Int)) rfl ?_)
      refine RW_op (L_sub (a := ((hi - lo : Nat) : Int)) (b := 1) (c := ((hi - lo : Nat) : Int) - 1) rfl rfl (wr_i64 (by omega) (by omega)) ?_)
      refine RW_op (L_assign (V := .int .i64 (((hi - lo : Nat) : Int) - 1)) rfl ?_)
      refine RW_nil ?_
      refine W_block ?_
      have hk0 : k = 0 := by omega
      subst hk0
      have hev1 : Sort.heapPop Sort.ltInt lo (hi - lo) d1 = Sort.heapSort Sort.ltInt d lo hi := hev
      refine W_loopI (fun ρ m ρ' w' => ∃ (ρo : Env) (q : Nat) (d2 : Array Int), ρ' = upd (mix [10, 29, 30, 31, 32, 33, 34, 35, 36, 37, 38, 39, 40, 41, 42, 43, 44, 45, 46, 47, 48, 49, 50, 51, 52, 53, 54, 55] ρo ρ) 10 (.int .i64 ((q : Int) - 1)) ∧ (q ≤ hi - lo) ∧ (d2.size = N) ∧ (Sort.heapPop Sort.ltInt lo q d2 = Sort.heapSort Sort.ltInt d lo hi) ∧ m = 2 * q ∧ Own w S w' [row (.slice a N c) (d2.toList.map (ic .u16)) 57 1]) ?_ ?_
      · exact ⟨_, _, hi - lo, d1, upd_of (mix_of (ds := [10, 29, 30, 31, 32, 33, 34, 35, 36, 37, 38, 39, 40, 41, 42, 43, 44, 45, 46, 47, 48, 49, 50, 51, 52, 53, 54, 55]) (Agr.refl _ _)) rfl, (Nat.le_refl _), hz1, hev1, rfl, hs⟩
      · rintro m ρ' w6 ⟨ρo, q, d2, rfl, hk2, hz2, hev2, rfl, hs⟩
        refine W_seq ?_
        refine W_seq ?_
        refine W_region ?_
        refine RW_op (L_move (V := .int .i64 ((q : Int) - 1)) rfl ?_)
        refine RW_op (L_geq rfl rfl ?_)
        refine RW_nil ?_
        refine W_cond (t := decide (0 ≤ (q : Int) - 1)) rfl (fun c7 => ?_) (fun c7 => ?_)
        ·
          replace c7 := of_decide_eq_true c7
          refine W_skip ?_
          refine W_seq ?_
          refine W_block ?_
          refine W_seq ?_
          replace hs := hs.drew
          refine W_draw2 HM [33, 34, 35, 36, 37, 38, 39, 40, 41, 42, 43, 44, 45, 46, 47, 48, 49, 50] [[], [], [], [], [], [3, 4], [], [], [], [7, 8], [6, 9], [10], [], [], [12, 13], [14], [0, 1, 0, 1, 6, 7, 8, 9, 10, 11, 15], [16, 11, 0, 1, 6, 7, 8, 9, 10, 11, 15], [2, 5, 0, 1, 2, 3, 4, 5, 6, 7, 8, 9, 10, 11, 12, 13, 14, 15, 16, 17], [18, 15, 17, 0, 1, 2, 3, 4, 5, 6, 7, 8, 9, 10, 11, 12, 13, 14, 15, 16, 17]] (fun D ρ wx => Own w S wx [cond (D 19) (row (.slice a N c) ((((d2.setIfInBounds lo (d2[lo + (q - 1)]!)).setIfInBounds (lo + (q - 1)) (d2[lo]!)).toList).map (ic .u16)) 57 1) (cond (D 17) (row (.slice a N c) (((d2.setIfInBounds lo (d2[lo + (q - 1)]!)).toList).map (ic .u16)) 57 1) (row (.slice a N c) (d2.toList.map (ic .u16)) 57 1))] ∧ (D 0 = true → ρ 33 = .slice a N c) ∧ (D 1 = true → ρ 34 = .int .i64 ((lo : Nat) : Int)) ∧ (D 2 = true → ρ 35 = .slice a N c) ∧ (D 3 = true → ρ 36 = .int .i64 ((lo : Nat) : Int)) ∧ (D 4 = true → ρ 37 = .int .i64 ((q - 1 : Nat) : Int)) ∧ (D 5 = true → ρ 38 = .int .i64 ((lo + (q - 1) : Nat) : Int)) ∧ (D 6 = true → ρ 39 = .slice a N c) ∧ (D 7 = true → ρ 40 = .int .i64 ((lo : Nat) : Int)) ∧ (D 8 = true → ρ 41 = .int .i64 ((q - 1 : Nat) : Int)) ∧ (D 9 = true → ρ 42 = .int .i64 ((lo + (q - 1) : Nat) : Int)) ∧ (D 10 = true → ρ 43 = .pointer (some ⟨bkS (.slice a N c), ofS (.slice a N c) + ((lo + (q - 1) : Nat) : Int).toNat * 1, none⟩)) ∧ (D 11 = true → ρ 44 = .int .u16 (d2[lo + (q - 1)]!)) ∧ (D 12 = true → ρ 45 = .slice a N c) ∧ (D 13 = true → ρ 46 = .int .i64 ((lo : Nat) : Int)) ∧ (D 14 = true → ρ 47 = .pointer (some ⟨bkS (.slice a N c), ofS (.slice a N c) + ((lo : Nat) : Int).toNat * 1, none⟩)) ∧ (D 15 = true → ρ 48 = .int .u16 (d2[lo]!)) ∧ (D 16 = true → ρ 49 = .pointer (some ⟨bkS (.slice a N c), ofS (.slice a N c) + ((lo : Nat) : Int).toNat * 1, none⟩)) ∧ (True) ∧ (D 18 = true → ρ 50 = .pointer (some ⟨bkS (.slice a N c), ofS (.slice a N c) + ((lo + (q - 1) : Nat) : Int).toNat * 1, none⟩)) ∧ (True)) rfl rfl rfl ⟨hs, fun h => absurd h Bool.false_ne_true, fun h => absurd h Bool.false_ne_true, fun h => absurd h Bool.false_ne_true, fun h => absurd h Bool.false_ne_true, fun h => absurd h Bool.false_ne_true, fun h => absurd h Bool.false_ne_true, fun h => absurd h Bool.false_ne_true, fun h => absurd h Bool.false_ne_true, fun h => absurd h Bool.false_ne_true, fun h => absurd h Bool.false_ne_true, fun h => absurd h Bool.false_ne_true, fun h => absurd h Bool.false_ne_true, fun h => absurd h Bool.false_ne_true, fun h => absurd h Bool.false_ne_true, fun h => absurd h Bool.false_ne_true, fun h => absurd h Bool.false_ne_true, fun h => absurd h Bool.false_ne_true, trivial, fun h => absurd h Bool.false_ne_true, trivial⟩ ⟨?_, ?_, ?_, ?_, ?_, ?_, ?_, ?_, ?_, ?_, ?_, ?_, ?_, ?_, ?_, ?_, ?_, ?_, ?_, ?_, trivial⟩ ?_
          · rintro D ρ wx hD hd hdc hf ⟨hs, f0, f1, f2, f3, f4, f5, f6, f7, f8, f9, f10, f11, f12, f13, f14, f15, f16, f17, f18, f19⟩
            have r0 : ρ 0 = .slice a N c := outD hf 0 rfl
            exact .inl ⟨rfl, L_move (V := .slice a N c) r0 ⟨hs, fun _ => rfl, f1, f2, f3, f4, f5, f6, f7, f8, f9, f10, f11, f12, f13, f14, f15, f16, f17, f18, f19⟩⟩
          · rintro D ρ wx hD hd hdc hf ⟨hs, f0, f1, f2, f3, f4, f5, f6, f7, f8, f9, f10, f11, f12, f13, f14, f15, f16, f17, f18, f19⟩
            have r6 : ρ 6 = .int .i64 ((lo : Nat) : Int) := outD hf 6 rfl
            exact .inl ⟨rfl, L_move (V := .int .i64 ((lo : Nat) : Int)) r6 ⟨hs, f0, fun _ => rfl, f2, f3, f4, f5, f6, f7, f8, f9, f10, f11, f12, f13, f14, f15, f16, f17, f18, f19⟩⟩
          · rintro D ρ wx hD hd hdc hf ⟨hs, f0, f1, f2, f3, f4, f5, f6, f7, f8, f9, f10, f11, f12, f13, f14, f15, f16, f17, f18, f19⟩
            have r0 : ρ 0 = .slice a N c := outD hf 0 rfl
            exact .inl ⟨rfl, L_move (V := .slice a N c) r0 ⟨hs, f0, f1, fun _ => rfl, f3, f4, f5, f6, f7, f8, f9, f10, f11, f12, f13, f14, f15, f16, f17, f18, f19⟩⟩
          · rintro D ρ wx hD hd hdc hf ⟨hs, f0, f1, f2, f3, f4, f5, f6, f7, f8, f9, f10, f11, f12, f13, f14, f15, f16, f17, f18, f19⟩
            have r6 : ρ 6 = .int .i64 ((lo : Nat) : Int) := outD hf 6 rfl
            exact .inl ⟨rfl, L_move (V := .int .i64 ((lo : Nat) : Int)) r6 ⟨hs, f0, f1, f2, fun _ => rfl, f4, f5, f6, f7, f8, f9, f10, f11, f12, f13, f14, f15, f16, f17, f18, f19⟩⟩
          · rintro D ρ wx hD hd hdc hf ⟨hs, f0, f1, f2, f3, f4, f5, f6, f7, f8, f9, f10, f11, f12, f13, f14, f15, f16, f17, f18, f19⟩
            have r10 : ρ 10 = .int .i64 ((q : Int) - 1) := outD hf 10 rfl
            exact .inl ⟨rfl, opW_to (V := .int .i64 ((q : Int) - 1)) (V' := .int .i64 ((q - 1 : Nat) : Int)) (L_move (V := .int .i64 ((q : Int) - 1)) r10 ⟨rfl, rfl⟩) (congrArg (Value.int .i64) (by omega)) ⟨hs, f0, f1, f2, f3, fun _ => rfl, f5, f6, f7, f8, f9, f10, f11, f12, f13, f14, f15, f16, f17, f18, f19⟩⟩
          · rintro D ρ wx hD hd hdc hf ⟨hs, f0, f1, f2, f3, f4, f5, f6, f7, f8, f9, f10, f11, f12, f13, f14, f15, f16, f17, f18, f19⟩
            have g3 := f3 (doneD hd 3 rfl)
            have g4 := f4 (doneD hd 4 rfl)
            exact .inl ⟨rfl, L_add (a := ((lo : Nat) : Int)) (b := ((q - 1 : Nat) : Int)) (c := ((lo + (q - 1) : Nat) : Int)) g3 g4 (nat_i64 (by omega) (by omega)) ⟨hs, f0, f1, f2, f3, f4, fun _ => rfl, f6, f7, f8, f9, f10, f11, f12, f13, f14, f15, f16, f17, f18, f19⟩⟩
          · rintro D ρ wx hD hd hdc hf ⟨hs, f0, f1, f2, f3, f4, f5, f6, f7, f8, f9, f10, f11, f12, f13, f14, f15, f16, f17, f18, f19⟩
            have r0 : ρ 0 = .slice a N c := outD hf 0 rfl
            exact .inl ⟨rfl, L_move (V := .slice a N c) r0 ⟨hs, f0, f1, f2, f3, f4, f5, fun _ => rfl, f7, f8, f9, f10, f11, f12, f13, f14, f15, f16, f17, f18, f19⟩⟩
          · rintro D ρ wx hD hd hdc hf ⟨hs, f0, f1, f2, f3, f4, f5, f6, f7, f8, f9, f10, f11, f12, f13, f14, f15, f16, f17, f18, f19⟩
            have r6 : ρ 6 = .int .i64 ((lo : Nat) : Int) := outD hf 6 rfl
            exact .inl ⟨rfl, L_move (V := .int .i64 ((lo : Nat) : Int)) r6 ⟨hs, f0, f1, f2, f3, f4, f5, f6, fun _ => rfl, f8, f9, f10, f11, f12, f13, f14, f15, f16, f17, f18, f19⟩⟩
          · rintro D ρ wx hD hd hdc hf ⟨hs, f0, f1, f2, f3, f4, f5, f6, f7, f8, f9, f10, f11, f12, f13, f14, f15, f16, f17, f18, f19⟩
            have r10 : ρ 10 = .int .i64 ((q : Int) - 1) := outD hf 10 rfl
            exact .inl ⟨rfl, opW_to (V := .int .i64 ((q : Int) - 1)) (V' := .int .i64 ((q - 1 : Nat) : Int)) (L_move (V := .int .i64 ((q : Int) - 1)) r10 ⟨rfl, rfl⟩) (congrArg (Value.int .i64) (by omega)) ⟨hs, f0, f1, f2, f3, f4, f5, f6, f7, fun _ => rfl, f9, f10, f11, f12, f13, f14, f15, f16, f17, f18, f19⟩⟩
          · rintro D ρ wx hD hd hdc hf ⟨hs, f0, f1, f2, f3, f4, f5, f6, f7, f8, f9, f10, f11, f12, f13, f14, f15, f16, f17, f18, f19⟩
            have g7 := f7 (doneD hd 7 rfl)
            have g8 := f8 (doneD hd 8 rfl)
            exact .inl ⟨rfl, L_add (a := ((lo : Nat) : Int)) (b := ((q - 1 : Nat) : Int)) (c := ((lo + (q - 1) : Nat) : Int)) g7 g8 (nat_i64 (by omega) (by omega)) ⟨hs, f0, f1, f2, f3, f4, f5, f6, f7, f8, fun _ => rfl, f10, f11, f12, f13, f14, f15, f16, f17, f18, f19⟩⟩
          · rintro D ρ wx hD hd hdc hf ⟨hs, f0, f1, f2, f3, f4, f5, f6, f7, f8, f9, f10, f11, f12, f13, f14, f15, f16, f17, f18, f19⟩
            have g6 := f6 (doneD hd 6 rfl)
            have g9 := f9 (doneD hd 9 rfl)
            have d17 : D 17 = false := (notYetD hdc (j := 17) rfl rfl hD)
            have d19 : D 19 = false := (notYetD hdc (j := 19) rfl rfl hD)
            have hs0 := hs; rw [d17, d19] at hs0
            exact .inl ⟨rfl, L_ixR UD_72 S1_57.1 (hs0.rd 0 rfl) g6 g9 (by omega) (by simp only [List.length_map, Array.length_toList, Array.size_setIfInBounds, Go.Sort.size_swp]; omega) ⟨hs, f0, f1, f2, f3, f4, f5, f6, f7, f8, f9, fun _ => rfl, f11, f12, f13, f14, f15, f16, f17, f18, f19⟩⟩
          · rintro D ρ wx hD hd hdc hf ⟨hs, f0, f1, f2, f3, f4, f5, f6, f7, f8, f9, f10, f11, f12, f13, f14, f15, f16, f17, f18, f19⟩
            have g10 := f10 (doneD hd 10 rfl)
            have d17 : D 17 = false := (notYetD hdc (j := 17) rfl rfl hD)
            have d19 : D 19 = false := (notYetD hdc (j := 19) rfl rfl hD)
            have hs0 := hs; rw [d17, d19] at hs0
            exact .inl ⟨rfl, L_ldR (j := 0) (V := .int .u16 (d2[lo + (q - 1)]!)) (lo + (q - 1)) S1_57 (hs0.rd 0 rfl) (da_at (by omega)) rfl g10 (by omega) ⟨hs, f0, f1, f2, f3, f4, f5, f6, f7, f8, f9, f10, fun _ => rfl, f12, f13, f14, f15, f16, f17, f18, f19⟩⟩
          · rintro D ρ wx hD hd hdc hf ⟨hs, f0, f1, f2, f3, f4, f5, f6, f7, f8, f9, f10, f11, f12, f13, f14, f15, f16, f17, f18, f19⟩
            have r0 : ρ 0 = .slice a N c := outD hf 0 rfl
            exact .inl ⟨rfl, L_move (V := .slice a N c) r0 ⟨hs, f0, f1, f2, f3, f4, f5, f6, f7, f8, f9, f10, f11, fun _ => rfl, f13, f14, f15, f16, f17, f18, f19⟩⟩
          · rintro D ρ wx hD hd hdc hf ⟨hs, f0, f1, f2, f3, f4, f5, f6, f7, f8, f9, f10, f11, f12, f13, f14, f15, f16, f17, f18, f19⟩
            have r6 : ρ 6 = .int .i64 ((lo : Nat) : Int) := outD hf 6 rfl
            exact .inl ⟨rfl, L_move (V := .int .i64 ((lo : Nat) : Int)) r6 ⟨hs, f0, f1, f2, f3, f4, f5, f6, f7, f8, f9, f10, f11, f12, fun _ => rfl, f14, f15, f16, f17, f18, f19⟩⟩
          · rintro D ρ wx hD hd hdc hf ⟨hs, f0, f1, f2, f3, f4, f5, f6, f7, f8, f9, f10, f11, f12, f13, f14, f15, f16, f17, f18, f19⟩
            have g12 := f12 (doneD hd 12 rfl)
            have g13 := f13 (doneD hd 13 rfl)
            have d17 : D 17 = false := (notYetD hdc (j := 17) rfl rfl (notYetD hdc (j := 15) rfl rfl hD))
            have d19 : D 19 = false := (notYetD hdc (j := 19) rfl rfl hD)
            have hs0 := hs; rw [d17, d19] at hs0
            exact .inl ⟨rfl, L_ixR UD_72 S1_57.1 (hs0.rd 0 rfl) g12 g13 (by omega) (by simp only [List.length_map, Array.length_toList, Array.size_setIfInBounds, Go.Sort.size_swp]; omega) ⟨hs, f0, f1, f2, f3, f4, f5, f6, f7, f8, f9, f10, f11, f12, f13, fun _ => rfl, f15, f16, f17, f18, f19⟩⟩
          · rintro D ρ wx hD hd hdc hf ⟨hs, f0, f1, f2, f3, f4, f5, f6, f7, f8, f9, f10, f11, f12, f13, f14, f15, f16, f17, f18, f19⟩
            have g14 := f14 (doneD hd 14 rfl)
            have d17 : D 17 = false := (notYetD hdc (j := 17) rfl rfl hD)
            have d19 : D 19 = false := (notYetD hdc (j := 19) rfl rfl hD)
            have hs0 := hs; rw [d17, d19] at hs0
            exact .inl ⟨rfl, L_ldR (j := 0) (V := .int .u16 (d2[lo]!)) lo S1_57 (hs0.rd 0 rfl) (da_at (by omega)) rfl g14 (by omega) ⟨hs, f0, f1, f2, f3, f4, f5, f6, f7, f8, f9, f10, f11, f12, f13, f14, fun _ => rfl, f16, f17, f18, f19⟩⟩
          · rintro D ρ wx hD hd hdc hf ⟨hs, f0, f1, f2, f3, f4, f5, f6, f7, f8, f9, f10, f11, f12, f13, f14, f15, f16, f17, f18, f19⟩
            have g0 := f0 (doneD hd 0 rfl)
            have g1 := f1 (doneD hd 1 rfl)
            have d17 : D 17 = false := (notYetD hdc (j := 17) rfl rfl hD)
            have d19 : D 19 = false := (notYetD hdc (j := 19) rfl rfl hD)
            have hs0 := hs; rw [d17, d19] at hs0
            exact .inl ⟨rfl, L_ixR UD_72 S1_57.1 (hs0.rd 0 rfl) g0 g1 (by omega) (by simp only [List.length_map, Array.length_toList, Array.size_setIfInBounds, Go.Sort.size_swp]; omega) ⟨hs, f0, f1, f2, f3, f4, f5, f6, f7, f8, f9, f10, f11, f12, f13, f14, f15, fun _ => rfl, f17, f18, f19⟩⟩
          · rintro D ρ wx hD hd hdc hf ⟨hs, f0, f1, f2, f3, f4, f5, f6, f7, f8, f9, f10, f11, f12, f13, f14, f15, f16, f17, f18, f19⟩
            have g11 := f11 (doneD hd 11 rfl)
            have g16 := f16 (doneD hd 16 rfl)
            have d17 : D 17 = false := hD
            have d19 : D 19 = false := (notYetD hdc (j := 19) rfl rfl hD)
            have hs0 := hs; rw [d17, d19] at hs0
            refine .inl ⟨rfl, L_stA (z := d2[lo + (q - 1)]!) lo S1_57 hs0 0 rfl g16 (by omega) (by first | omega | (simp only [Array.size_setIfInBounds, Go.Sort.size_swp]; omega)) g11 rfl rfl fun _ hs0 => ⟨?_, f0, f1, f2, f3, f4, f5, f6, f7, f8, f9, f10, f11, f12, f13, f14, f15, f16, trivial, f18, f19⟩⟩
            rw [show Go.Vx.mark D 17 19 = false from d19]
            exact hs0
          · rintro D ρ wx hD hd hdc hf ⟨hs, f0, f1, f2, f3, f4, f5, f6, f7, f8, f9, f10, f11, f12, f13, f14, f15, f16, f17, f18, f19⟩
            have g2 := f2 (doneD hd 2 rfl)
            have g5 := f5 (doneD hd 5 rfl)
            have d17 : D 17 = true := doneD hd 17 rfl
            have d19 : D 19 = false := (notYetD hdc (j := 19) rfl rfl hD)
            have hs0 := hs; rw [d17, d19] at hs0
            exact .inl ⟨rfl, L_ixR UD_72 S1_57.1 (hs0.rd 0 rfl) g2 g5 (by omega) (by simp only [List.length_map, Array.length_toList, Array.size_setIfInBounds, Go.Sort.size_swp]; omega) ⟨hs, f0, f1, f2, f3, f4, f5, f6, f7, f8, f9, f10, f11, f12, f13, f14, f15, f16, f17, fun _ => rfl, f19⟩⟩
          · rintro D ρ wx hD hd hdc hf ⟨hs, f0, f1, f2, f3, f4, f5, f6, f7, f8, f9, f10, f11, f12, f13, f14, f15, f16, f17, f18, f19⟩
            have g15 := f15 (doneD hd 15 rfl)
            have g18 := f18 (doneD hd 18 rfl)
            have d17 : D 17 = true := doneD hd 17 rfl
            have d19 : D 19 = false := hD
            have hs0 := hs; rw [d17, d19] at hs0
            refine .inl ⟨rfl, L_stA (z := d2[lo]!) (lo + (q - 1)) S1_57 hs0 0 rfl g18 (by omega) (by first | omega | (simp only [Array.size_setIfInBounds, Go.Sort.size_swp]; omega)) g15 rfl rfl fun _ hs0 => ⟨?_, f0, f1, f2, f3, f4, f5, f6, f7, f8, f9, f10, f11, f12, f13, f14, f15, f16, f17, f18, trivial⟩⟩
            rw [show Go.Vx.mark D 19 17 = true from d17]
            exact hs0
          · rintro ρ1 w1 D hD hf ⟨hs, f0, f1, f2, f3, f4, f5, f6, f7, f8, f9, f10, f11, f12, f13, f14, f15, f16, f17, f18, f19⟩
            rw [hD 17 rfl, hD 19 rfl] at hs
            clear f0 f1 f2 f3 f4 f5 f6 f7 f8 f9 f10 f11 f12 f13 f14 f15 f16 f17 f18 f19
            obtain ⟨ρ2, hρ⟩ : ∃ ρ2, ρ1 = mix [33, 34, 35, 36, 37, 38, 39, 40, 41, 42, 43, 44, 45, 46, 47, 48, 49, 50] ρ2 _ := ⟨ρ1, mix_of (ds := [33, 34, 35, 36, 37, 38, 39, 40, 41, 42, 43, 44, 45, 46, 47, 48, 49, 50]) hf⟩
            clear hf hD
            subst hρ
            refine W_region ?_
            refine RW_op (L_move (V := .slice a N c) rfl ?_)
            refine RW_op (L_move (V := .int .i64 0) rfl ?_)
            refine RW_op (opW_to (V := .int .i64 ((q : Int) - 1)) (V' := .int .i64 ((q - 1 : Nat) : Int)) (L_move (V := .int .i64 ((q : Int) - 1)) rfl ⟨rfl, rfl⟩) (congrArg (Value.int .i64) (by omega)) ?_)
            refine RW_op (L_move (V := .int .i64 ((lo : Nat) : Int)) rfl ?_)
            refine RW_op (L_callB (vs := [.slice a N c, .int .i64 0, .int .i64 ((q - 1 : Nat) : Int), .int .i64 ((lo : Nat) : Int)]) (V := fun _ : Unit => .tuple #[]) (R := row (.slice a N c) (((d2.setIfInBounds lo (d2[lo + (q - 1)]!)).setIfInBounds (lo + (q - 1)) (d2[lo]!)).toList.map (ic .u16)) 57 1) (R' := fun _ => row (.slice a N c) ((Sort.siftDown Sort.ltInt (q - 1) lo 0 ((d2.setIfInBounds lo (d2[lo + (q - 1)]!)).setIfInBounds (lo + (q - 1)) (d2[lo]!))).toList.map (ic .u16)) 57 1) (Lo := fun _ => []) (F := fun _ _ => (Sort.siftDown Sort.ltInt (q - 1) lo 0 ((d2.setIfInBounds lo (d2[lo + (q - 1)]!)).setIfInBounds (lo + (q - 1)) (d2[lo]!))).size = N) EN_116 rfl rfl hs 0 rfl (fun S hS hlt => sift_ok _ S a N c ((d2.setIfInBounds lo (d2[lo + (q - 1)]!)).setIfInBounds (lo + (q - 1)) (d2[lo]!)) (by first | assumption | (simp only [Array.size_setIfInBounds, Go.Sort.size_swp]; omega)) hN 0 (q - 1) lo (by omega) (by omega) hS hlt) fun _ w11 hs hz12 => ?_)
            refine RW_nil ?_
            refine W_region ?_
            refine RW_op (L_move (V := .int .i64 ((q : Int) - 1)) rfl ?_)
            refine RW_op (L_sub (a := (q : Int) - 1) (b := 1) (c := ((q : Int) - 1) - 1) rfl rfl (wr_i64 (by omega) (by omega)) ?_)
            refine RW_op (L_assign (V := .int .i64 (((q : Int) - 1) - 1)) rfl ?_)
            refine RW_nil ?_
            refine ⟨_, ?_, _, q - 1, Sort.siftDown Sort.ltInt (q - 1) lo 0 ((d2.setIfInBounds lo (d2[lo + (q - 1)]!)).setIfInBounds (lo + (q - 1)) (d2[lo]!)), upd_of (mix_of (ds := [10, 29, 30, 31, 32, 33, 34, 35, 36, 37, 38, 39, 40, 41, 42, 43, 44, 45, 46, 47, 48, 49, 50, 51, 52, 53, 54, 55]) (by repeat (first | exact Agr.refl _ _ | refine Agr.upd ?_ rfl | refine Agr.mix ?_ rfl))) (congrArg (Value.int .i64) (by omega)), (by omega), (by assumption), (by rw [← hev2, hp_step (k := q) (by omega)]; rfl), rfl, hs.take 1⟩
            omega
        ·
          replace c7 := of_decide_eq_false c7
          refine W_exit ?_
          refine ⟨_, res_none Try.results103, ?_⟩
          have hk3 : q = 0 := by omega
          subst hk3
          have hX : d2 = Sort.heapSort Sort.ltInt d lo hi := hev2
          exact ⟨(), rfl, hX ▸ hs.take 1, hX ▸ (by first | assumption | (simp only [Array.size_setIfInBounds, Go.Sort.size_swp]; omega))⟩
end Ts
end Go.Proofs
namespace Go.Proofs
open Go Go.Vx Go.RowKit
namespace Ts
theorem S1_3 : T1 Try.prog 3 := ⟨Try.sizeOf3, Try.isAgg3⟩
theorem EN_118 : En Try.prog 118 := Try.call118
theorem EN_121 : En Try.prog 121 := Try.call121
section
variable {d : Array Int} {x y sw : Nat}
theorem o2_yes (h : d[y]! < d[x]!) : Sort.order2 Sort.ltInt d x y sw = (y, x, sw + 1) := by unfold Sort.order2; rw [if_pos (by simpa [Sort.ltInt] using h)]
theorem o2_no (h : ¬ d[y]! < d[x]!) : Sort.order2 Sort.ltInt d x y sw = (x, y, sw) := by unfold Sort.order2; rw [if_neg (by simpa [Sort.ltInt] using h)]
theorem o2_lt {N : Nat} (hx : x < N) (hy : y < N) : (Sort.order2 Sort.ltInt d x y sw).1 < N ∧ (Sort.order2 Sort.ltInt d x y sw).2.1 < N ∧ (Sort.order2 Sort.ltInt d x y sw).2.2 ≤ sw + 1 := by
  unfold Sort.order2; split <;> simp [hx, hy]
end
theorem med_lt {d : Array Int} {N x y z sw : Nat} (hx : x < N) (hy : y < N) (hz : z < N) : (Sort.median Sort.ltInt d x y z sw).1 < N ∧ (Sort.median Sort.ltInt d x y z sw).2 ≤ sw + 3 := by
  unfold Sort.median
  have h1 := o2_lt (d := d) (sw := sw) hx hy
  have h2 := o2_lt (d := d) (sw := (Sort.order2 Sort.ltInt d x y sw).2.2) h1.2.1 hz
  have h3 := o2_lt (d := d) (sw := (Sort.order2 Sort.ltInt d (Sort.order2 Sort.ltInt d x y sw).2.1 z (Sort.order2 Sort.ltInt d x y sw).2.2).2.2) h1.1 h2.1
  exact ⟨h3.2.1, Nat.le_trans h3.2.2 (Nat.succ_le_succ (Nat.le_trans h2.2.2 (Nat.succ_le_succ h1.2.2)))⟩
theorem adj_lt {d : Array Int} {N x sw : Nat} (h1 : 1 ≤ x) (hx : x + 1 < N) : (Sort.medianAdjacent Sort.ltInt d x sw).1 < N ∧ (Sort.medianAdjacent Sort.ltInt d x sw).2 ≤ sw + 3 := med_lt (by omega) (by omega) (by omega)
set_option maxRecDepth 20000 in
set_option maxHeartbeats 4000000 in
theorem o2_ok (w : World) (S : Nat → Prop) (a : Option Addr) (N c : Nat) (d : Array Int) (hsz : d.size = N) (hN : N ≤ 2305843009213693951) (sb sw : Nat) (hsw : sw ≤ 1000) (hr : Rd w (.slice a N c) 1 (d.toList.map (ic .u16))) (hb : bkS (.slice a N c) < w.heap.size) (hm : ¬ S (bkS (.slice a N c))) (hR : (blk sb [.int .i64 ((sw : Nat) : Int)] 3).holds w S) (hlt : ∀ x, S x → x < w.heap.size) (x y : Nat) (hx : x < N) (hy : y < N) : Calls Try.prog 121 #[.slice a N c, .int .i64 ((x : Nat) : Int), .int .i64 ((y : Nat) : Int), .pointer (some ⟨sb, 0, none⟩)] w (fun e w' => ∃ _u : Unit, e = .returned (.tuple #[.int .i64 (((Sort.order2 Sort.ltInt d x y sw).1 : Nat) : Int), .int .i64 (((Sort.order2 Sort.ltInt d x y sw).2.1 : Nat) : Int)]) ∧ Own w S w' [blk sb [.int .i64 (((Sort.order2 Sort.ltInt d x y sw).2.2 : Nat) : Int)] 3] ∧ True) := by
  refine calls_of_Wn (n := 28) Try.func121 rfl Try.ntmps121 rfl ?_
  have hs := Own.lent hR hlt
  refine W_seq ?_
  refine W_region ?_
  refine RW_op (L_assign (V := .int .i64 0) rfl ?_)
  refine RW_op (L_assign (V := .int .i64 0) rfl ?_)
  refine RW_nil ?_
  refine W_seq ?_
  refine W_seq ?_
  replace hs := hs.drew
  refine W_draw2 HM [10, 11, 12, 13, 14, 15, 16, 17, 18] [[], [], [0, 1], [2], [], [], [4, 5], [6], [3, 7]] (fun D ρ wx => Own w S wx [blk sb [.int .i64 ((sw : Nat) : Int)] 3] ∧ (D 0 = true → ρ 10 = .slice a N c) ∧ (D 1 = true → ρ 11 = .int .i64 ((y : Nat) : Int)) ∧ (D 2 = true → ρ 12 = .pointer (some ⟨bkS (.slice a N c), ofS (.slice a N c) + ((y : Nat) : Int).toNat * 1, none⟩)) ∧ (D 3 = true → ρ 13 = .int .u16 (d[y]!)) ∧ (D 4 = true → ρ 14 = .slice a N c) ∧ (D 5 = true → ρ 15 = .int .i64 ((x : Nat) : Int)) ∧ (D 6 = true → ρ 16 = .pointer (some ⟨bkS (.slice a N c), ofS (.slice a N c) + ((x : Nat) : Int).toNat * 1, none⟩)) ∧ (D 7 = true → ρ 17 = .int .u16 (d[x]!)) ∧ (D 8 = true → ρ 18 = .bool (decide (d[y]! < d[x]!)))) rfl rfl rfl ⟨hs, fun h => absurd h Bool.false_ne_true, fun h => absurd h Bool.false_ne_true, fun h => absurd h Bool.false_ne_true, fun h => absurd h Bool.false_ne_true, fun h => absurd h Bool.false_ne_true, fun h => absurd h Bool.false_ne_true, fun h => absurd h Bool.false_ne_true, fun h => absurd h Bool.false_ne_true, fun h => absurd h Bool.false_ne_true⟩ ⟨?_, ?_, ?_, ?_, ?_, ?_, ?_, ?_, ?_, trivial⟩ ?_
  · rintro D ρ wx hD hd hdc hf ⟨hs, f0, f1, f2, f3, f4, f5, f6, f7, f8⟩
    have r0 : ρ 0 = .slice a N c := outD hf 0 rfl
    exact .inl ⟨rfl, L_move (V := .slice a N c) r0 ⟨hs, fun _ => rfl, f1, f2, f3, f4, f5, f6, f7, f8⟩⟩
  · rintro D ρ wx hD hd hdc hf ⟨hs, f0, f1, f2, f3, f4, f5, f6, f7, f8⟩
    have r2 : ρ 2 = .int .i64 ((y : Nat) : Int) := outD hf 2 rfl
    exact .inl ⟨rfl, L_move (V := .int .i64 ((y : Nat) : Int)) r2 ⟨hs, f0, fun _ => rfl, f2, f3, f4, f5, f6, f7, f8⟩⟩
  · rintro D ρ wx hD hd hdc hf ⟨hs, f0, f1, f2, f3, f4, f5, f6, f7, f8⟩
    have g0 := f0 (doneD hd 0 rfl)
    have g1 := f1 (doneD hd 1 rfl)
    exact .inl ⟨rfl, L_ixR UD_72 S1_57.1 (Rd.ownS hm hr hs) g0 g1 (by omega) (by simp only [List.length_map, Array.length_toList, Array.size_setIfInBounds, Go.Sort.size_swp]; omega) ⟨hs, f0, f1, fun _ => rfl, f3, f4, f5, f6, f7, f8⟩⟩
  · rintro D ρ wx hD hd hdc hf ⟨hs, f0, f1, f2, f3, f4, f5, f6, f7, f8⟩
    have g2 := f2 (doneD hd 2 rfl)
    exact .inl ⟨rfl, L_ldR (j := 0) (V := .int .u16 (d[y]!)) y S1_57 (Rd.ownS hm hr hs) (da_at (by omega)) rfl g2 (by omega) ⟨hs, f0, f1, f2, fun _ => rfl, f4, f5, f6, f7, f8⟩⟩
  · rintro D ρ wx hD hd hdc hf ⟨hs, f0, f1, f2, f3, f4, f5, f6, f7, f8⟩
    have r0 : ρ 0 = .slice a N c := outD hf 0 rfl
    exact .inl ⟨rfl, L_move (V := .slice a N c) r0 ⟨hs, f0, f1, f2, f3, fun _ => rfl, f5, f6, f7, f8⟩⟩
  · rintro D ρ wx hD hd hdc hf ⟨hs, f0, f1, f2, f3, f4, f5, f6, f7, f8⟩
    have r1 : ρ 1 = .int .i64 ((x : Nat) : Int) := outD hf 1 rfl
    exact .inl ⟨rfl, L_move (V := .int .i64 ((x : Nat) : Int)) r1 ⟨hs, f0, f1, f2, f3, f4, fun _ => rfl, f6, f7, f8⟩⟩
  · rintro D ρ wx hD hd hdc hf ⟨hs, f0, f1, f2, f3, f4, f5, f6, f7, f8⟩
    have g4 := f4 (doneD hd 4 rfl)
    have g5 := f5 (doneD hd 5 rfl)
    exact .inl ⟨rfl, L_ixR UD_72 S1_57.1 (Rd.ownS hm hr hs) g4 g5 (by omega) (by simp only [List.length_map, Array.length_toList, Array.size_setIfInBounds, Go.Sort.size_swp]; omega) ⟨hs, f0, f1, f2, f3, f4, f5, fun _ => rfl, f7, f8⟩⟩
  · rintro D ρ wx hD hd hdc hf ⟨hs, f0, f1, f2, f3, f4, f5, f6, f7, f8⟩
    have g6 := f6 (doneD hd 6 rfl)
    exact .inl ⟨rfl, L_ldR (j := 0) (V := .int .u16 (d[x]!)) x S1_57 (Rd.ownS hm hr hs) (da_at (by omega)) rfl g6 (by omega) ⟨hs, f0, f1, f2, f3, f4, f5, f6, fun _ => rfl, f8⟩⟩
  · rintro D ρ wx hD hd hdc hf ⟨hs, f0, f1, f2, f3, f4, f5, f6, f7, f8⟩
    have g3 := f3 (doneD hd 3 rfl)
    have g7 := f7 (doneD hd 7 rfl)
    exact .inl ⟨rfl, L_callP (vs := [.int .u16 (d[y]!), .int .u16 (d[x]!)]) (V := .bool (decide (d[y]! < d[x]!))) EN_108 rfl (mapc g3 (mapc g7 rfl)) (less_ok _ (d[y]!) (d[x]!)) hs fun _ hs0 => ⟨hs0, f0, f1, f2, f3, f4, f5, f6, f7, fun _ => rfl⟩⟩
  · rintro ρ1 w1 D hD hf ⟨hs, f0, f1, f2, f3, f4, f5, f6, f7, f8⟩
    have e8 := f8 (hD 8 rfl)
    clear f0 f1 f2 f3 f4 f5 f6 f7 f8
    obtain ⟨ρ2, hρ⟩ : ∃ ρ2, ρ1 = upd (mix [10, 11, 12, 13, 14, 15, 16, 17, 18] ρ2 _) 18 (.bool (decide (d[y]! < d[x]!))) := ⟨ρ1, upd_of (mix_of (ds := [10, 11, 12, 13, 14, 15, 16, 17, 18]) hf) e8⟩
    clear hf hD e8
    subst hρ
    refine W_cond (t := decide (d[y]! < d[x]!)) rfl (fun c3 => ?_) (fun c3 => ?_)
    ·
      replace c3 := of_decide_eq_true c3
      refine W_seq ?_
      refine W_region ?_
      refine RW_op (L_move (V := .pointer (some ⟨sb, 0, none⟩)) rfl ?_)
      refine RW_op (L_nilCheck rfl ?_)
      refine RW_op (L_ld (V := .int .i64 ((sw : Nat) : Int)) S1_3 hs 0 rfl rfl rfl ?_)
      refine RW_op (L_add (a := ((sw : Nat) : Int)) (b := 1) (c := ((sw + 1 : Nat) : Int)) rfl rfl (nat_i64 (by omega) (by omega)) ?_)
      refine RW_op (L_nilCheck rfl ?_)
      refine RW_op (L_st1 (V := .int .i64 ((sw + 1 : Nat) : Int)) (cs' := [.int .i64 ((sw + 1 : Nat) : Int)]) S1_3 hs 0 rfl rfl rfl rfl (Nat.le_of_ble_eq_true rfl) rfl fun w4 hs => ?_)
      refine RW_nil ?_
      refine W_seq ?_
      refine W_region ?_
      refine RW_op (L_move (V := .int .i64 ((y : Nat) : Int)) rfl ?_)
      refine RW_op (L_move (V := .int .i64 ((x : Nat) : Int)) rfl ?_)
      refine RW_op (L_assign (V := .int .i64 ((y : Nat) : Int)) rfl ?_)
      refine RW_op (L_assign (V := .int .i64 ((x : Nat) : Int)) rfl ?_)
      refine RW_nil ?_
      refine W_ret ?_
      refine ⟨_, res_two (U := .int .i64 ((y : Nat) : Int)) (V := .int .i64 ((x : Nat) : Int)) Try.results121 rfl rfl, ?_⟩
      rw [o2_yes c3]
      exact ⟨(), rfl, hs.take 1, trivial⟩
    ·
      replace c3 := of_decide_eq_false c3
      refine W_skip ?_
      refine W_seq ?_
      refine W_region ?_
      refine RW_op (L_move (V := .int .i64 ((x : Nat) : Int)) rfl ?_)
      refine RW_op (L_move (V := .int .i64 ((y : Nat) : Int)) rfl ?_)
      refine RW_op (L_assign (V := .int .i64 ((x : Nat) : Int)) rfl ?_)
      refine RW_op (L_assign (V := .int .i64 ((y : Nat) : Int)) rfl ?_)
      refine RW_nil ?_
      refine W_ret ?_
      refine ⟨_, res_two (U := .int .i64 ((x : Nat) : Int)) (V := .int .i64 ((y : Nat) : Int)) Try.results121 rfl rfl, ?_⟩
      rw [o2_no c3]
      exact ⟨(), rfl, hs.take 1, trivial⟩
set_option maxRecDepth 20000 in
set_option maxHeartbeats 4000000 in
theorem med_ok (w : World) (S : Nat → Prop) (a : Option Addr) (N c : Nat) (d : Array Int) (hsz : d.size = N) (hN : N ≤ 2305843009213693951) (sb sw : Nat) (hsw : sw ≤ 900) (hr : Rd w (.slice a N c) 1 (d.toList.map (ic .u16))) (hb : bkS (.slice a N c) < w.heap.size) (hm : ¬ S (bkS (.slice a N c))) (hR : (blk sb [.int .i64 ((sw : Nat) : Int)] 3).holds w S) (hlt : ∀ x, S x → x < w.heap.size) (x y z : Nat) (hx : x < N) (hy : y < N) (hz : z < N) : Calls Try.prog 118 #[.slice a N c, .int .i64 ((x : Nat) : Int), .int .i64 ((y : Nat) : Int), .int .i64 ((z : Nat) : Int), .pointer (some ⟨sb, 0, none⟩)] w (fun e w' => ∃ _u : Unit, e = .returned (.int .i64 (((Sort.median Sort.ltInt d x y z sw).1 : Nat) : Int)) ∧ Own w S w' [blk sb [.int .i64 (((Sort.median Sort.ltInt d x y z sw).2 : Nat) : Int)] 3] ∧ True) := by
  refine calls_of_Wn (n := 36) Try.func118 rfl Try.ntmps118 rfl ?_
  have hs := Own.lent hR hlt
  refine W_seq ?_
  refine W_region ?_
  refine RW_op (L_assign (V := .int .i64 0) rfl ?_)
  refine RW_nil ?_
  refine W_seq ?_
  refine W_region ?_
  refine RW_op (L_move (V := .slice a N c) rfl ?_)
  refine RW_op (L_move (V := .int .i64 ((x : Nat) : Int)) rfl ?_)
  refine RW_op (L_move (V := .int .i64 ((y : Nat) : Int)) rfl ?_)
  refine RW_op (L_move (V := .pointer (some ⟨sb, 0, none⟩)) rfl ?_)
  refine RW_op (L_callB2 (vs := [.slice a N c, .int .i64 ((x : Nat) : Int), .int .i64 ((y : Nat) : Int), .pointer (some ⟨sb, 0, none⟩)]) (V := fun _ : Unit => .tuple #[.int .i64 (((Sort.order2 Sort.ltInt d x y sw).1 : Nat) : Int), .int .i64 (((Sort.order2 Sort.ltInt d x y sw).2.1 : Nat) : Int)]) (R := blk sb [.int .i64 ((sw : Nat) : Int)] 3) (R' := fun _ => blk sb [.int .i64 (((Sort.order2 Sort.ltInt d x y sw).2.2 : Nat) : Int)] 3) (Lo := fun _ => []) (F := fun _ _ => True) EN_121 rfl rfl hs 0 rfl (fun S hS hlt hSM => o2_ok _ S a N c d hsz hN sb sw (by omega) (Rd.ownS hm hr hs) (Nat.lt_of_lt_of_le hb hs.size) (fun h => hm (hSM _ h hb)) hS hlt x y (by omega) (by omega)) fun _ w1 hs _ => ?_)
  refine RW_op (L_move (V := .tuple #[.int .i64 (((Sort.order2 Sort.ltInt d x y sw).1 : Nat) : Int), .int .i64 (((Sort.order2 Sort.ltInt d x y sw).2.1 : Nat) : Int)]) rfl ?_)
  refine RW_op (L_extract (V := .int .i64 (((Sort.order2 Sort.ltInt d x y sw).1 : Nat) : Int)) rfl rfl ?_)
  refine RW_op (L_extract (V := .int .i64 (((Sort.order2 Sort.ltInt d x y sw).2.1 : Nat) : Int)) rfl rfl ?_)
  refine RW_op (L_assign (V := .int .i64 (((Sort.order2 Sort.ltInt d x y sw).1 : Nat) : Int)) rfl ?_)
  refine RW_op (L_assign (V := .int .i64 (((Sort.order2 Sort.ltInt d x y sw).2.1 : Nat) : Int)) rfl ?_)
  refine RW_nil ?_
  refine W_seq ?_
  have hq1 := o2_lt (d := d) (sw := sw) hx hy
  refine W_region ?_
  refine RW_op (L_move (V := .slice a N c) rfl ?_)
  refine RW_op (L_move (V := .int .i64 (((Sort.order2 Sort.ltInt d x y sw).2.1 : Nat) : Int)) rfl ?_)
  refine RW_op (L_move (V := .int .i64 ((z : Nat) : Int)) rfl ?_)
  refine RW_op (L_move (V := .pointer (some ⟨sb, 0, none⟩)) rfl ?_)
  refine RW_op (L_callB2 (vs := [.slice a N c, .int .i64 (((Sort.order2 Sort.ltInt d x y sw).2.1 : Nat) : Int), .int .i64 ((z : Nat) : Int), .pointer (some ⟨sb, 0, none⟩)]) (V := fun _ : Unit => .tuple #[.int .i64 (((Sort.order2 Sort.ltInt d ((Sort.order2 Sort.ltInt d x y sw).2.1) z ((Sort.order2 Sort.ltInt d x y sw).2.2)).1 : Nat) : Int), .int .i64 (((Sort.order2 Sort.ltInt d ((Sort.order2 Sort.ltInt d x y sw).2.1) z ((Sort.order2 Sort.ltInt d x y sw).2.2)).2.1 : Nat) : Int)]) (R := blk sb [.int .i64 (((Sort.order2 Sort.ltInt d x y sw).2.2 : Nat) : Int)] 3) (R' := fun _ => blk sb [.int .i64 (((Sort.order2 Sort.ltInt d ((Sort.order2 Sort.ltInt d x y sw).2.1) z ((Sort.order2 Sort.ltInt d x y sw).2.2)).2.2 : Nat) : Int)] 3) (Lo := fun _ => []) (F := fun _ _ => True) EN_121 rfl rfl hs 0 rfl (fun S hS hlt hSM => o2_ok _ S a N c d hsz hN sb ((Sort.order2 Sort.ltInt d x y sw).2.2) (by omega) (Rd.ownS hm hr hs) (Nat.lt_of_lt_of_le hb hs.size) (fun h => hm (hSM _ h hb)) hS hlt ((Sort.order2 Sort.ltInt d x y sw).2.1) z (by omega) (by omega)) fun _ w2 hs _ => ?_)
  refine RW_op (L_move (V := .tuple #[.int .i64 (((Sort.order2 Sort.ltInt d ((Sort.order2 Sort.ltInt d x y sw).2.1) z ((Sort.order2 Sort.ltInt d x y sw).2.2)).1 : Nat) : Int), .int .i64 (((Sort.order2 Sort.ltInt d ((Sort.order2 Sort.ltInt d x y sw).2.1) z ((Sort.order2 Sort.ltInt d x y sw).2.2)).2.1 : Nat) : Int)]) rfl ?_)
  refine RW_op (L_extract (V := .int .i64 (((Sort.order2 Sort.ltInt d ((Sort.order2 Sort.ltInt d x y sw).2.1) z ((Sort.order2 Sort.ltInt d x y sw).2.2)).1 : Nat) : Int)) rfl rfl ?_)
  refine RW_op (L_extract (V := .int .i64 (((Sort.order2 Sort.ltInt d ((Sort.order2 Sort.ltInt d x y sw).2.1) z ((Sort.order2 Sort.ltInt d x y sw).2.2)).2.1 : Nat) : Int)) rfl rfl ?_)
  refine RW_op (L_assign (V := .int .i64 (((Sort.order2 Sort.ltInt d ((Sort.order2 Sort.ltInt d x y sw).2.1) z ((Sort.order2 Sort.ltInt d x y sw).2.2)).1 : Nat) : Int)) rfl ?_)
  refine RW_op (L_assign (V := .int .i64 (((Sort.order2 Sort.ltInt d ((Sort.order2 Sort.ltInt d x y sw).2.1) z ((Sort.order2 Sort.ltInt d x y sw).2.2)).2.1 : Nat) : Int)) rfl ?_)
  refine RW_nil ?_
  refine W_seq ?_
  have hq2 := o2_lt (d := d) (sw := (Sort.order2 Sort.ltInt d x y sw).2.2) hq1.2.1 hz
  refine W_region ?_
  refine RW_op (L_move (V := .slice a N c) rfl ?_)
  refine RW_op (L_move (V := .int .i64 (((Sort.order2 Sort.ltInt d x y sw).1 : Nat) : Int)) rfl ?_)
  refine RW_op (L_move (V := .int .i64 (((Sort.order2 Sort.ltInt d ((Sort.order2 Sort.ltInt d x y sw).2.1) z ((Sort.order2 Sort.ltInt d x y sw).2.2)).1 : Nat) : Int)) rfl ?_)
  refine RW_op (L_move (V := .pointer (some ⟨sb, 0, none⟩)) rfl ?_)
  refine RW_op (L_callB2 (vs := [.slice a N c, .int .i64 (((Sort.order2 Sort.ltInt d x y sw).1 : Nat) : Int), .int .i64 (((Sort.order2 Sort.ltInt d ((Sort.order2 Sort.ltInt d x y sw).2.1) z ((Sort.order2 Sort.ltInt d x y sw).2.2)).1 : Nat) : Int), .pointer (some ⟨sb, 0, none⟩)]) (V := fun _ : Unit => .tuple #[.int .i64 (((Sort.order2 Sort.ltInt d ((Sort.order2 Sort.ltInt d x y sw).1) ((Sort.order2 Sort.ltInt d ((Sort.order2 Sort.ltInt d x y sw).2.1) z ((Sort.order2 Sort.ltInt d x y sw).2.2)).1) ((Sort.order2 Sort.ltInt d ((Sort.order2 Sort.ltInt d x y sw).2.1) z ((Sort.order2 Sort.ltInt d x y sw).2.2)).2.2)).1 : Nat) : Int), .int .i64 (((Sort.order2 Sort.ltInt d ((Sort.order2 Sort.ltInt d x y sw).1) ((Sort.order2 Sort.ltInt d ((Sort.order2 Sort.ltInt d x y sw).2.1) z ((Sort.order2 Sort.ltInt d x y sw).2.2)).1) ((Sort.order2 Sort.ltInt d ((Sort.order2 Sort.ltInt d x y sw).2.1) z ((Sort.order2 Sort.ltInt d x y sw).2.2)).2.2)).2.1 : Nat) : Int)]) (R := blk sb [.int .i64 (((Sort.order2 Sort.ltInt d ((Sort.order2 Sort.ltInt d x y sw).2.1) z ((Sort.order2 Sort.ltInt d x y sw).2.2)).2.2 : Nat) : Int)] 3) (R' := fun _ => blk sb [.int .i64 (((Sort.order2 Sort.ltInt d ((Sort.order2 Sort.ltInt d x y sw).1) ((Sort.order2 Sort.ltInt d ((Sort.order2 Sort.ltInt d x y sw).2.1) z ((Sort.order2 Sort.ltInt d x y sw).2.2)).1) ((Sort.order2 Sort.ltInt d ((Sort.order2 Sort.ltInt d x y sw).2.1) z ((Sort.order2 Sort.ltInt d x y sw).2.2)).2.2)).2.2 : Nat) : Int)] 3) (Lo := fun _ => []) (F := fun _ _ => True) EN_121 rfl rfl hs 0 rfl (fun S hS hlt hSM => o2_ok _ S a N c d hsz hN sb ((Sort.order2 Sort.ltInt d ((Sort.order2 Sort.ltInt d x y sw).2.1) z ((Sort.order2 Sort.ltInt d x y sw).2.2)).2.2) (by omega) (Rd.ownS hm hr hs) (Nat.lt_of_lt_of_le hb hs.size) (fun h => hm (hSM _ h hb)) hS hlt ((Sort.order2 Sort.ltInt d x y sw).1) ((Sort.order2 Sort.ltInt d ((Sort.order2 Sort.ltInt d x y sw).2.1) z ((Sort.order2 Sort.ltInt d x y sw).2.2)).1) (by omega) (by omega)) fun _ w3 hs _ => ?_)
  refine RW_op (L_move (V := .tuple #[.int .i64 (((Sort.order2 Sort.ltInt d ((Sort.order2 Sort.ltInt d x y sw).1) ((Sort.order2 Sort.ltInt d ((Sort.order2 Sort.ltInt d x y sw).2.1) z ((Sort.order2 Sort.ltInt d x y sw).2.2)).1) ((Sort.order2 Sort.ltInt d ((Sort.order2 Sort.ltInt d x y sw).2.1) z ((Sort.order2 Sort.ltInt d x y sw).2.2)).2.2)).1 : Nat) : Int), .int .i64 (((Sort.order2 Sort.ltInt d ((Sort.order2 Sort.ltInt d x y sw).1) ((Sort.order2 Sort.ltInt d ((Sort.order2 Sort.ltInt d x y sw).2.1) z ((Sort.order2 Sort.ltInt d x y sw).2.2)).1) ((Sort.order2 Sort.ltInt d ((Sort.order2 Sort.ltInt d x y sw).2.1) z ((Sort.order2 Sort.ltInt d x y sw).2.2)).2.2)).2.1 : Nat) : Int)]) rfl ?_)
  refine RW_op (L_extract (V := .int .i64 (((Sort.order2 Sort.ltInt d ((Sort.order2 Sort.ltInt d x y sw).1) ((Sort.order2 Sort.ltInt d ((Sort.order2 Sort.ltInt d x y sw).2.1) z ((Sort.order2 Sort.ltInt d x y sw).2.2)).1) ((Sort.order2 Sort.ltInt d ((Sort.order2 Sort.ltInt d x y sw).2.1) z ((Sort.order2 Sort.ltInt d x y sw).2.2)).2.2)).1 : Nat) : Int)) rfl rfl ?_)
  refine RW_op (L_extract (V := .int .i64 (((Sort.order2 Sort.ltInt d ((Sort.order2 Sort.ltInt d x y sw).1) ((Sort.order2 Sort.ltInt d ((Sort.order2 Sort.ltInt d x y sw).2.1) z ((Sort.order2 Sort.ltInt d x y sw).2.2)).1) ((Sort.order2 Sort.ltInt d ((Sort.order2 Sort.ltInt d x y sw).2.1) z ((Sort.order2 Sort.ltInt d x y sw).2.2)).2.2)).2.1 : Nat) : Int)) rfl rfl ?_)
  refine RW_op (L_assign (V := .int .i64 (((Sort.order2 Sort.ltInt d ((Sort.order2 Sort.ltInt d x y sw).1) ((Sort.order2 Sort.ltInt d ((Sort.order2 Sort.ltInt d x y sw).2.1) z ((Sort.order2 Sort.ltInt d x y sw).2.2)).1) ((Sort.order2 Sort.ltInt d ((Sort.order2 Sort.ltInt d x y sw).2.1) z ((Sort.order2 Sort.ltInt d x y sw).2.2)).2.2)).1 : Nat) : Int)) rfl ?_)
  refine RW_op (L_assign (V := .int .i64 (((Sort.order2 Sort.ltInt d ((Sort.order2 Sort.ltInt d x y sw).1) ((Sort.order2 Sort.ltInt d ((Sort.order2 Sort.ltInt d x y sw).2.1) z ((Sort.order2 Sort.ltInt d x y sw).2.2)).1) ((Sort.order2 Sort.ltInt d ((Sort.order2 Sort.ltInt d x y sw).2.1) z ((Sort.order2 Sort.ltInt d x y sw).2.2)).2.2)).2.1 : Nat) : Int)) rfl ?_)
  refine RW_nil ?_
  refine W_seq ?_
  refine W_region ?_
  refine RW_op (L_move (V := .int .i64 (((Sort.order2 Sort.ltInt d ((Sort.order2 Sort.ltInt d x y sw).1) ((Sort.order2 Sort.ltInt d ((Sort.order2 Sort.ltInt d x y sw).2.1) z ((Sort.order2 Sort.ltInt d x y sw).2.2)).1) ((Sort.order2 Sort.ltInt d ((Sort.order2 Sort.ltInt d x y sw).2.1) z ((Sort.order2 Sort.ltInt d x y sw).2.2)).2.2)).2.1 : Nat) : Int)) rfl ?_)
  refine RW_op (L_assign (V := .int .i64 (((Sort.order2 Sort.ltInt d ((Sort.order2 Sort.ltInt d x y sw).1) ((Sort.order2 Sort.ltInt d ((Sort.order2 Sort.ltInt d x y sw).2.1) z ((Sort.order2 Sort.ltInt d x y sw).2.2)).1) ((Sort.order2 Sort.ltInt d ((Sort.order2 Sort.ltInt d x y sw).2.1) z ((Sort.order2 Sort.ltInt d x y sw).2.2)).2.2)).2.1 : Nat) : Int)) rfl ?_)
  refine RW_nil ?_
  refine W_ret ?_
  refine ⟨_, res_one (V := .int .i64 (((Sort.order2 Sort.ltInt d ((Sort.order2 Sort.ltInt d x y sw).1) ((Sort.order2 Sort.ltInt d ((Sort.order2 Sort.ltInt d x y sw).2.1) z ((Sort.order2 Sort.ltInt d x y sw).2.2)).1) ((Sort.order2 Sort.ltInt d ((Sort.order2 Sort.ltInt d x y sw).2.1) z ((Sort.order2 Sort.ltInt d x y sw).2.2)).2.2)).2.1 : Nat) : Int)) Try.results118 rfl, ?_⟩
  exact ⟨(), rfl, hs.take 1, trivial⟩
set_option maxRecDepth 20000 in
set_option maxHeartbeats 4000000 in
theorem adj_ok (w : World) (S : Nat → Prop) (a : Option Addr) (N c : Nat) (d : Array Int) (hsz : d.size = N) (hN : N ≤ 2305843009213693951) (sb sw : Nat) (hsw : sw ≤ 900) (hr : Rd w (.slice a N c) 1 (d.toList.map (ic .u16))) (hb : bkS (.slice a N c) < w.heap.size) (hm : ¬ S (bkS (.slice a N c))) (hR : (blk sb [.int .i64 ((sw : Nat) : Int)] 3).holds w S) (hlt : ∀ x, S x → x < w.heap.size) (x : Nat) (hx : 1 ≤ x) (hy : x + 1 < N) : Calls Try.prog 117 #[.slice a N c, .int .i64 ((x : Nat) : Int), .pointer (some ⟨sb, 0, none⟩)] w (fun e w' => ∃ _u : Unit, e = .returned (.int .i64 (((Sort.medianAdjacent Sort.ltInt d x sw).1 : Nat) : Int)) ∧ Own w S w' [blk sb [.int .i64 (((Sort.medianAdjacent Sort.ltInt d x sw).2 : Nat) : Int)] 3] ∧ True) := by
  refine calls_of_Wn (n := 15) Try.func117 rfl Try.ntmps117 rfl ?_
  have hs := Own.lent hR hlt
  refine W_seq ?_
  refine W_region ?_
  refine RW_op (L_assign (V := .int .i64 0) rfl ?_)
  refine RW_nil ?_
  refine W_seq ?_
  refine W_region ?_
  refine RW_op (L_move (V := .slice a N c) rfl ?_)
  refine RW_op (L_move (V := .int .i64 ((x : Nat) : Int)) rfl ?_)
  refine RW_op (L_sub (a := ((x : Nat) : Int)) (b := 1) (c := ((x - 1 : Nat) : Int)) rfl rfl (nat_i64 (by omega) (by omega)) ?_)
  refine RW_op (L_move (V := .int .i64 ((x : Nat) : Int)) rfl ?_)
  refine RW_op (L_move (V := .int .i64 ((x : Nat) : Int)) rfl ?_)
  refine RW_op (L_add (a := ((x : Nat) : Int)) (b := 1) (c := ((x + 1 : Nat) : Int)) rfl rfl (nat_i64 (by omega) (by omega)) ?_)
  refine RW_op (L_move (V := .pointer (some ⟨sb, 0, none⟩)) rfl ?_)
  refine RW_op (L_callB2 (vs := [.slice a N c, .int .i64 ((x - 1 : Nat) : Int), .int .i64 ((x : Nat) : Int), .int .i64 ((x + 1 : Nat) : Int), .pointer (some ⟨sb, 0, none⟩)]) (V := fun _ : Unit => .int .i64 (((Sort.median Sort.ltInt d (x - 1) x (x + 1) sw).1 : Nat) : Int)) (R := blk sb [.int .i64 ((sw : Nat) : Int)] 3) (R' := fun _ => blk sb [.int .i64 (((Sort.median Sort.ltInt d (x - 1) x (x + 1) sw).2 : Nat) : Int)] 3) (Lo := fun _ => []) (F := fun _ _ => True) EN_118 rfl rfl hs 0 rfl (fun S hS hlt hSM => med_ok _ S a N c d hsz hN sb sw (by omega) (Rd.ownS hm hr hs) (Nat.lt_of_lt_of_le hb hs.size) (fun h => hm (hSM _ h hb)) hS hlt (x - 1) x (x + 1) (by omega) (by omega) (by omega)) fun _ w1 hs _ => ?_)
  refine RW_op (L_assign (V := .int .i64 (((Sort.median Sort.ltInt d (x - 1) x (x + 1) sw).1 : Nat) : Int)) rfl ?_)
  refine RW_nil ?_
  refine W_ret ?_
  refine ⟨_, res_one (V := .int .i64 (((Sort.median Sort.ltInt d (x - 1) x (x + 1) sw).1 : Nat) : Int)) Try.results117 rfl, ?_⟩
  exact ⟨(), rfl, hs.take 1, trivial⟩
end Ts
end Go.Proofs
namespace Go.Proofs
open Go Go.Vx Go.RowKit
namespace Ts
theorem EN_117 : En Try.prog 117 := Try.call117
theorem ZV_3 : Zv Try.prog 3 (.int .i64 0) := Try.zeroValue3
def hintI : Sort.Hint → Int
  | .unknown => 0
  | .increasing => 1
  | .decreasing => 2
def cpR (d : Array Int) (lo hi : Nat) : Nat × Nat := if hi - lo ≥ 8 then (if hi - lo ≥ 50 then Sort.median Sort.ltInt d (Sort.medianAdjacent Sort.ltInt d (lo + ((hi - lo) / 4) * 1) (0)).1 (Sort.medianAdjacent Sort.ltInt d (lo + ((hi - lo) / 4) * 2) ((Sort.medianAdjacent Sort.ltInt d (lo + ((hi - lo) / 4) * 1) (0)).2)).1 (Sort.medianAdjacent Sort.ltInt d (lo + ((hi - lo) / 4) * 3) ((Sort.medianAdjacent Sort.ltInt d (lo + ((hi - lo) / 4) * 2) ((Sort.medianAdjacent Sort.ltInt d (lo + ((hi - lo) / 4) * 1) (0)).2)).2)).1 (Sort.medianAdjacent Sort.ltInt d (lo + ((hi - lo) / 4) * 3) ((Sort.medianAdjacent Sort.ltInt d (lo + ((hi - lo) / 4) * 2) ((Sort.medianAdjacent Sort.ltInt d (lo + ((hi - lo) / 4) * 1) (0)).2)).2)).2 else Sort.median Sort.ltInt d (lo + ((hi - lo) / 4) * 1) (lo + ((hi - lo) / 4) * 2) (lo + ((hi - lo) / 4) * 3) 0) else (lo + ((hi - lo) / 4) * 2, 0)
theorem cp_eq (d : Array Int) (lo hi : Nat) : Sort.choosePivot Sort.ltInt d lo hi = ((cpR d lo hi).1, if (cpR d lo hi).2 = 0 then .increasing else if (cpR d lo hi).2 = 12 then .decreasing else .unknown) := rfl
theorem cp_of {d : Array Int} {lo hi : Nat} {X : Nat × Nat} {h : Sort.Hint} (hR : cpR d lo hi = X) (hh : (if X.2 = 0 then Sort.Hint.increasing else if X.2 = 12 then .decreasing else .unknown) = h) : Sort.choosePivot Sort.ltInt d lo hi = (X.1, h) := by
  rw [cp_eq, hR, hh]
set_option maxRecDepth 20000 in
set_option maxHeartbeats 4000000 in
theorem piv_ok (w : World) (a : Option Addr) (N c : Nat) (d : Array Int) (hsz : d.size = N) (hN : N ≤ 2305843009213693951) (hr : Rd w (.slice a N c) 1 (d.toList.map (ic .u16))) (lo hi : Nat) (h1 : lo < hi) (h2 : hi ≤ N) : Calls Try.prog 105 #[.slice a N c, .int .i64 ((lo : Nat) : Int), .int .i64 ((hi : Nat) : Int)] w (fun e w' => e = .returned (.tuple #[.int .i64 (((Sort.choosePivot Sort.ltInt d lo hi).1 : Nat) : Int), .int .i64 (hintI (Sort.choosePivot Sort.ltInt d lo hi).2)]) ∧ Own w no w' []) := by
  refine calls_of_Wn (n := 57) Try.func105 rfl Try.ntmps105 rfl ?_
  have hs := Own.start w
  have hb : bkS (.slice a N c) < w.heap.size := hr.bk_lt (by simp only [List.length_map, Array.length_toList]; omega)
  refine W_seq ?_
  refine W_region ?_
  refine RW_op (L_assign (V := .int .i64 0) rfl ?_)
  refine RW_op (L_assign (V := .int .i64 0) rfl ?_)
  refine RW_nil ?_
  refine W_seq ?_
  refine W_region ?_
  refine RW_op (L_move (V := .int .i64 ((hi : Nat) : Int)) rfl ?_)
  refine RW_op (L_move (V := .int .i64 ((lo : Nat) : Int)) rfl ?_)
  refine RW_op (L_sub (a := ((hi : Nat) : Int)) (b := ((lo : Nat) : Int)) (c := ((hi - lo : Nat) : Int)) rfl rfl (nat_i64 (by omega) (by omega)) ?_)
  refine RW_op (L_assign (V := .int .i64 ((hi - lo : Nat) : Int)) rfl ?_)
  refine RW_nil ?_
  refine W_seq ?_
  refine W_region ?_
  refine RW_op (L_alloc (cs := [.int .i64 0]) ZV_3 rfl hs fun b1 w2 hs => ?_)
  refine RW_nil ?_
  refine W_seq ?_
  refine W_region ?_
  refine RW_op (L_move (V := .int .i64 ((lo : Nat) : Int)) rfl ?_)
  refine RW_op (L_move (V := .int .i64 ((hi - lo : Nat) : Int)) rfl ?_)
  refine RW_op (L_quo (a := ((hi - lo : Nat) : Int)) (b := 4) (c := (((hi - lo) / 4 : Nat) : Int)) rfl rfl (by decide) (nat_i64 rfl (by omega)) ?_)
  refine RW_op (L_mul (a := (((hi - lo) / 4 : Nat) : Int)) (b := 1) (c := ((((hi - lo) / 4) * 1 : Nat) : Int)) rfl rfl (nat_i64 (by omega) (by omega)) ?_)
  refine RW_op (L_add (a := ((lo : Nat) : Int)) (b := ((((hi - lo) / 4) * 1 : Nat) : Int)) (c := ((lo + (((hi - lo) / 4) * 1) : Nat) : Int)) rfl rfl (nat_i64 (by omega) (by omega)) ?_)
  refine RW_op (L_assign (V := .int .i64 ((lo + (((hi - lo) / 4) * 1) : Nat) : Int)) rfl ?_)
  refine RW_nil ?_
  refine W_seq ?_
  refine W_region ?_
  refine RW_op (L_move (V := .int .i64 ((lo : Nat) : Int)) rfl ?_)
  refine RW_op (L_move (V := .int .i64 ((hi - lo : Nat) : Int)) rfl ?_)
  refine RW_op (L_quo (a := ((hi - lo : Nat) : Int)) (b := 4) (c := (((hi - lo) / 4 : Nat) : Int)) rfl rfl (by decide) (nat_i64 rfl (by omega)) ?_)
  refine RW_op (L_mul (a := (((hi - lo) / 4 : Nat) : Int)) (b := 2) (c := ((((hi - lo) / 4) * 2 : Nat) : Int)) rfl rfl (nat_i64 (by omega) (by omega)) ?_)
  refine RW_op (L_add (a := ((lo : Nat) : Int)) (b := ((((hi - lo) / 4) * 2 : Nat) : Int)) (c := ((lo + (((hi - lo) / 4) * 2) : Nat) : Int)) rfl rfl (nat_i64 (by omega) (by omega)) ?_)
  refine RW_op (L_assign (V := .int .i64 ((lo + (((hi - lo) / 4) * 2) : Nat) : Int)) rfl ?_)
  refine RW_nil ?_
  refine W_seq ?_
  refine W_region ?_
  refine RW_op (L_move (V := .int .i64 ((lo : Nat) : Int)) rfl ?_)
  refine RW_op (L_move (V := .int .i64 ((hi - lo : Nat) : Int)) rfl ?_)
  refine RW_op (L_quo (a := ((hi - lo : Nat) : Int)) (b := 4) (c := (((hi - lo) / 4 : Nat) : Int)) rfl rfl (by decide) (nat_i64 rfl (by omega)) ?_)
  refine RW_op (L_mul (a := (((hi - lo) / 4 : Nat) : Int)) (b := 3) (c := ((((hi - lo) / 4) * 3 : Nat) : Int)) rfl rfl (nat_i64 (by omega) (by omega)) ?_)
  refine RW_op (L_add (a := ((lo : Nat) : Int)) (b := ((((hi - lo) / 4) * 3 : Nat) : Int)) (c := ((lo + (((hi - lo) / 4) * 3) : Nat) : Int)) rfl rfl (nat_i64 (by omega) (by omega)) ?_)
  refine RW_op (L_assign (V := .int .i64 ((lo + (((hi - lo) / 4) * 3) : Nat) : Int)) rfl ?_)
  refine RW_nil ?_
  refine W_seq ?_
  refine W_seq ?_
  refine W_region ?_
  refine RW_op (L_move (V := .int .i64 ((hi - lo : Nat) : Int)) rfl ?_)
  refine RW_op (L_geq rfl rfl ?_)
  refine RW_nil ?_
  refine W_cond (t := decide (8 ≤ ((hi - lo : Nat) : Int))) rfl (fun c3 => ?_) (fun c3 => ?_)
  ·
    replace c3 := of_decide_eq_true c3
    refine W_seq ?_
    refine W_seq ?_
    refine W_region ?_
    refine RW_op (L_move (V := .int .i64 ((hi - lo : Nat) : Int)) rfl ?_)
    refine RW_op (L_geq rfl rfl ?_)
    refine RW_nil ?_
    refine W_cond (t := decide (50 ≤ ((hi - lo : Nat) : Int))) rfl (fun c4 => ?_) (fun c4 => ?_)
    ·
      replace c4 := of_decide_eq_true c4
      refine W_seq ?_
      refine W_region ?_
      refine RW_op (L_move (V := .slice a N c) rfl ?_)
      refine RW_op (L_move (V := .int .i64 ((lo + (((hi - lo) / 4) * 1) : Nat) : Int)) rfl ?_)
      refine RW_op (L_callB2 (vs := [.slice a N c, .int .i64 ((lo + (((hi - lo) / 4) * 1) : Nat) : Int), .pointer (some ⟨b1, 0, none⟩)]) (V := fun _ : Unit => .int .i64 (((Sort.medianAdjacent Sort.ltInt d (lo + (((hi - lo) / 4) * 1)) 0).1 : Nat) : Int)) (R := blk b1 [.int .i64 ((0 : Nat) : Int)] 3) (R' := fun _ => blk b1 [.int .i64 (((Sort.medianAdjacent Sort.ltInt d (lo + (((hi - lo) / 4) * 1)) 0).2 : Nat) : Int)] 3) (Lo := fun _ => []) (F := fun _ _ => True) EN_117 rfl rfl hs 0 rfl (fun S hS hlt hSM => adj_ok _ S a N c d hsz hN b1 0 (by omega) (Rd.own' hr hs) (Nat.lt_of_lt_of_le hb hs.size) (fun h => hSM _ h hb) hS hlt (lo + (((hi - lo) / 4) * 1)) (by omega) (by omega)) fun _ w5 hs _ => ?_)
      refine RW_op (L_assign (V := .int .i64 (((Sort.medianAdjacent Sort.ltInt d (lo + (((hi - lo) / 4) * 1)) 0).1 : Nat) : Int)) rfl ?_)
      refine RW_nil ?_
      refine W_seq ?_
      have hq1 := adj_lt (d := d) (sw := 0) (N := N) (x := lo + ((hi - lo) / 4) * 1) (by omega) (by omega)
      refine W_region ?_
      refine RW_op (L_move (V := .slice a N c) rfl ?_)
      refine RW_op (L_move (V := .int .i64 ((lo + (((hi - lo) / 4) * 2) : Nat) : Int)) rfl ?_)
      refine RW_op (L_callB2 (vs := [.slice a N c, .int .i64 ((lo + (((hi - lo) / 4) * 2) : Nat) : Int), .pointer (some ⟨b1, 0, none⟩)]) (V := fun _ : Unit => .int .i64 (((Sort.medianAdjacent Sort.ltInt d (lo + (((hi - lo) / 4) * 2)) ((Sort.medianAdjacent Sort.ltInt d (lo + (((hi - lo) / 4) * 1)) 0).2)).1 : Nat) : Int)) (R := blk b1 [.int .i64 (((Sort.medianAdjacent Sort.ltInt d (lo + (((hi - lo) / 4) * 1)) 0).2 : Nat) : Int)] 3) (R' := fun _ => blk b1 [.int .i64 (((Sort.medianAdjacent Sort.ltInt d (lo + (((hi - lo) / 4) * 2)) ((Sort.medianAdjacent Sort.ltInt d (lo + (((hi - lo) / 4) * 1)) 0).2)).2 : Nat) : Int)] 3) (Lo := fun _ => []) (F := fun _ _ => True) EN_117 rfl rfl hs 0 rfl (fun S hS hlt hSM => adj_ok _ S a N c d hsz hN b1 ((Sort.medianAdjacent Sort.ltInt d (lo + (((hi - lo) / 4) * 1)) 0).2) (by omega) (Rd.own' hr hs) (Nat.lt_of_lt_of_le hb hs.size) (fun h => hSM _ h hb) hS hlt (lo + (((hi - lo) / 4) * 2)) (by omega) (by omega)) fun _ w6 hs _ => ?_)
      refine RW_op (L_assign (V := .int .i64 (((Sort.medianAdjacent Sort.ltInt d (lo + (((hi - lo) / 4) * 2)) ((Sort.medianAdjacent Sort.ltInt d (lo + (((hi - lo) / 4) * 1)) 0).2)).1 : Nat) : Int)) rfl ?_)
      refine RW_nil ?_
      have hq2 := adj_lt (d := d) (sw := (Sort.medianAdjacent Sort.ltInt d (lo + ((hi - lo) / 4) * 1) (0)).2) (N := N) (x := lo + ((hi - lo) / 4) * 2) (by omega) (by omega)
      refine W_region ?_
      refine RW_op (L_move (V := .slice a N c) rfl ?_)
      refine RW_op (L_move (V := .int .i64 ((lo + (((hi - lo) / 4) * 3) : Nat) : Int)) rfl ?_)
      refine RW_op (L_callB2 (vs := [.slice a N c, .int .i64 ((lo + (((hi - lo) / 4) * 3) : Nat) : Int), .pointer (some ⟨b1, 0, none⟩)]) (V := fun _ : Unit => .int .i64 (((Sort.medianAdjacent Sort.ltInt d (lo + (((hi - lo) / 4) * 3)) ((Sort.medianAdjacent Sort.ltInt d (lo + (((hi - lo) / 4) * 2)) ((Sort.medianAdjacent Sort.ltInt d (lo + (((hi - lo) / 4) * 1)) 0).2)).2)).1 : Nat) : Int)) (R := blk b1 [.int .i64 (((Sort.medianAdjacent Sort.ltInt d (lo + (((hi - lo) / 4) * 2)) ((Sort.medianAdjacent Sort.ltInt d (lo + (((hi - lo) / 4) * 1)) 0).2)).2 : Nat) : Int)] 3) (R' := fun _ => blk b1 [.int .i64 (((Sort.medianAdjacent Sort.ltInt d (lo + (((hi - lo) / 4) * 3)) ((Sort.medianAdjacent Sort.ltInt d (lo + (((hi - lo) / 4) * 2)) ((Sort.medianAdjacent Sort.ltInt d (lo + (((hi - lo) / 4) * 1)) 0).2)).2)).2 : Nat) : Int)] 3) (Lo := fun _ => []) (F := fun _ _ => True) EN_117 rfl rfl hs 0 rfl (fun S hS hlt hSM => adj_ok _ S a N c d hsz hN b1 ((Sort.medianAdjacent Sort.ltInt d (lo + (((hi - lo) / 4) * 2)) ((Sort.medianAdjacent Sort.ltInt d (lo + (((hi - lo) / 4) * 1)) 0).2)).2) (by omega) (Rd.own' hr hs) (Nat.lt_of_lt_of_le hb hs.size) (fun h => hSM _ h hb) hS hlt (lo + (((hi - lo) / 4) * 3)) (by omega) (by omega)) fun _ w7 hs _ => ?_)
      replace hs : Own w no w7 [blk b1 [.int .i64 (((Sort.medianAdjacent Sort.ltInt d (lo + (((hi - lo) / 4) * 3)) ((Sort.medianAdjacent Sort.ltInt d (lo + (((hi - lo) / 4) * 2)) ((Sort.medianAdjacent Sort.ltInt d (lo + (((hi - lo) / 4) * 1)) 0).2)).2)).2 : Nat) : Int)] 3] := hs
      refine RW_op (L_assign (V := .int .i64 (((Sort.medianAdjacent Sort.ltInt d (lo + (((hi - lo) / 4) * 3)) ((Sort.medianAdjacent Sort.ltInt d (lo + (((hi - lo) / 4) * 2)) ((Sort.medianAdjacent Sort.ltInt d (lo + (((hi - lo) / 4) * 1)) 0).2)).2)).1 : Nat) : Int)) rfl ?_)
      refine RW_nil ?_
      have hq3 := adj_lt (d := d) (sw := (Sort.medianAdjacent Sort.ltInt d (lo + ((hi - lo) / 4) * 2) ((Sort.medianAdjacent Sort.ltInt d (lo + ((hi - lo) / 4) * 1) (0)).2)).2) (N := N) (x := lo + ((hi - lo) / 4) * 3) (by omega) (by omega)
      refine W_region ?_
      refine RW_op (L_move (V := .slice a N c) rfl ?_)
      refine RW_op (L_move (V := .int .i64 (((Sort.medianAdjacent Sort.ltInt d (lo + (((hi - lo) / 4) * 1)) 0).1 : Nat) : Int)) rfl ?_)
      refine RW_op (L_move (V := .int .i64 (((Sort.medianAdjacent Sort.ltInt d (lo + (((hi - lo) / 4) * 2)) ((Sort.medianAdjacent Sort.ltInt d (lo + (((hi - lo) / 4) * 1)) 0).2)).1 : Nat) : Int)) rfl ?_)
      refine RW_op (L_move (V := .int .i64 (((Sort.medianAdjacent Sort.ltInt d (lo + (((hi - lo) / 4) * 3)) ((Sort.medianAdjacent Sort.ltInt d (lo + (((hi - lo) / 4) * 2)) ((Sort.medianAdjacent Sort.ltInt d (lo + (((hi - lo) / 4) * 1)) 0).2)).2)).1 : Nat) : Int)) rfl ?_)
      refine RW_op (L_callB2 (vs := [.slice a N c, .int .i64 (((Sort.medianAdjacent Sort.ltInt d (lo + (((hi - lo) / 4) * 1)) 0).1 : Nat) : Int), .int .i64 (((Sort.medianAdjacent Sort.ltInt d (lo + (((hi - lo) / 4) * 2)) ((Sort.medianAdjacent Sort.ltInt d (lo + (((hi - lo) / 4) * 1)) 0).2)).1 : Nat) : Int), .int .i64 (((Sort.medianAdjacent Sort.ltInt d (lo + (((hi - lo) / 4) * 3)) ((Sort.medianAdjacent Sort.ltInt d (lo + (((hi - lo) / 4) * 2)) ((Sort.medianAdjacent Sort.ltInt d (lo + (((hi - lo) / 4) * 1)) 0).2)).2)).1 : Nat) : Int), .pointer (some ⟨b1, 0, none⟩)]) (V := fun _ : Unit => .int .i64 (((Sort.median Sort.ltInt d ((Sort.medianAdjacent Sort.ltInt d (lo + (((hi - lo) / 4) * 1)) 0).1) ((Sort.medianAdjacent Sort.ltInt d (lo + (((hi - lo) / 4) * 2)) ((Sort.medianAdjacent Sort.ltInt d (lo + (((hi - lo) / 4) * 1)) 0).2)).1) ((Sort.medianAdjacent Sort.ltInt d (lo + (((hi - lo) / 4) * 3)) ((Sort.medianAdjacent Sort.ltInt d (lo + (((hi - lo) / 4) * 2)) ((Sort.medianAdjacent Sort.ltInt d (lo + (((hi - lo) / 4) * 1)) 0).2)).2)).1) ((Sort.medianAdjacent Sort.ltInt d (lo + (((hi - lo) / 4) * 3)) ((Sort.medianAdjacent Sort.ltInt d (lo + (((hi - lo) / 4) * 2)) ((Sort.medianAdjacent Sort.ltInt d (lo + (((hi - lo) / 4) * 1)) 0).2)).2)).2)).1 : Nat) : Int)) (R := blk b1 [.int .i64 (((Sort.medianAdjacent Sort.ltInt d (lo + (((hi - lo) / 4) * 3)) ((Sort.medianAdjacent Sort.ltInt d (lo + (((hi - lo) / 4) * 2)) ((Sort.medianAdjacent Sort.ltInt d (lo + (((hi - lo) / 4) * 1)) 0).2)).2)).2 : Nat) : Int)] 3) (R' := fun _ => blk b1 [.int .i64 (((Sort.median Sort.ltInt d ((Sort.medianAdjacent Sort.ltInt d (lo + (((hi - lo) / 4) * 1)) 0).1) ((Sort.medianAdjacent Sort.ltInt d (lo + (((hi - lo) / 4) * 2)) ((Sort.medianAdjacent Sort.ltInt d (lo + (((hi - lo) / 4) * 1)) 0).2)).1) ((Sort.medianAdjacent Sort.ltInt d (lo + (((hi - lo) / 4) * 3)) ((Sort.medianAdjacent Sort.ltInt d (lo + (((hi - lo) / 4) * 2)) ((Sort.medianAdjacent Sort.ltInt d (lo + (((hi - lo) / 4) * 1)) 0).2)).2)).1) ((Sort.medianAdjacent Sort.ltInt d (lo + (((hi - lo) / 4) * 3)) ((Sort.medianAdjacent Sort.ltInt d (lo + (((hi - lo) / 4) * 2)) ((Sort.medianAdjacent Sort.ltInt d (lo + (((hi - lo) / 4) * 1)) 0).2)).2)).2)).2 : Nat) : Int)] 3) (Lo := fun _ => []) (F := fun _ _ => True) EN_118 rfl rfl hs 0 rfl (fun S hS hlt hSM => med_ok _ S a N c d hsz hN b1 ((Sort.medianAdjacent Sort.ltInt d (lo + (((hi - lo) / 4) * 3)) ((Sort.medianAdjacent Sort.ltInt d (lo + (((hi - lo) / 4) * 2)) ((Sort.medianAdjacent Sort.ltInt d (lo + (((hi - lo) / 4) * 1)) 0).2)).2)).2) (by omega) (Rd.own' hr hs) (Nat.lt_of_lt_of_le hb hs.size) (fun h => hSM _ h hb) hS hlt ((Sort.medianAdjacent Sort.ltInt d (lo + (((hi - lo) / 4) * 1)) 0).1) ((Sort.medianAdjacent Sort.ltInt d (lo + (((hi - lo) / 4) * 2)) ((Sort.medianAdjacent Sort.ltInt d (lo + (((hi - lo) / 4) * 1)) 0).2)).1) ((Sort.medianAdjacent Sort.ltInt d (lo + (((hi - lo) / 4) * 3)) ((Sort.medianAdjacent Sort.ltInt d (lo + (((hi - lo) / 4) * 2)) ((Sort.medianAdjacent Sort.ltInt d (lo + (((hi - lo) / 4) * 1)) 0).2)).2)).1) (by omega) (by omega) (by omega)) fun _ w8 hs _ => ?_)
      refine RW_op (L_assign (V := .int .i64 (((Sort.median Sort.ltInt d ((Sort.medianAdjacent Sort.ltInt d (lo + (((hi - lo) / 4) * 1)) 0).1) ((Sort.medianAdjacent Sort.ltInt d (lo + (((hi - lo) / 4) * 2)) ((Sort.medianAdjacent Sort.ltInt d (lo + (((hi - lo) / 4) * 1)) 0).2)).1) ((Sort.medianAdjacent Sort.ltInt d (lo + (((hi - lo) / 4) * 3)) ((Sort.medianAdjacent Sort.ltInt d (lo + (((hi - lo) / 4) * 2)) ((Sort.medianAdjacent Sort.ltInt d (lo + (((hi - lo) / 4) * 1)) 0).2)).2)).1) ((Sort.medianAdjacent Sort.ltInt d (lo + (((hi - lo) / 4) * 3)) ((Sort.medianAdjacent Sort.ltInt d (lo + (((hi - lo) / 4) * 2)) ((Sort.medianAdjacent Sort.ltInt d (lo + (((hi - lo) / 4) * 1)) 0).2)).2)).2)).1 : Nat) : Int)) rfl ?_)
      refine RW_nil ?_
      refine W_seq ?_
      refine W_region ?_
      refine RW_op (L_ld (V := .int .i64 (((Sort.median Sort.ltInt d ((Sort.medianAdjacent Sort.ltInt d (lo + (((hi - lo) / 4) * 1)) 0).1) ((Sort.medianAdjacent Sort.ltInt d (lo + (((hi - lo) / 4) * 2)) ((Sort.medianAdjacent Sort.ltInt d (lo + (((hi - lo) / 4) * 1)) 0).2)).1) ((Sort.medianAdjacent Sort.ltInt d (lo + (((hi - lo) / 4) * 3)) ((Sort.medianAdjacent Sort.ltInt d (lo + (((hi - lo) / 4) * 2)) ((Sort.medianAdjacent Sort.ltInt d (lo + (((hi - lo) / 4) * 1)) 0).2)).2)).1) ((Sort.medianAdjacent Sort.ltInt d (lo + (((hi - lo) / 4) * 3)) ((Sort.medianAdjacent Sort.ltInt d (lo + (((hi - lo) / 4) * 2)) ((Sort.medianAdjacent Sort.ltInt d (lo + (((hi - lo) / 4) * 1)) 0).2)).2)).2)).2 : Nat) : Int)) S1_3 hs 0 rfl rfl rfl ?_)
      refine RW_nil ?_
      refine W_block ?_
      refine W_seq ?_
      refine W_region ?_
      refine RW_op (L_eql rfl rfl ?_)
      refine RW_op (L_assign (V := .bool (decide ((((Sort.median Sort.ltInt d ((Sort.medianAdjacent Sort.ltInt d (lo + (((hi - lo) / 4) * 1)) 0).1) ((Sort.medianAdjacent Sort.ltInt d (lo + (((hi - lo) / 4) * 2)) ((Sort.medianAdjacent Sort.ltInt d (lo + (((hi - lo) / 4) * 1)) 0).2)).1) ((Sort.medianAdjacent Sort.ltInt d (lo + (((hi - lo) / 4) * 3)) ((Sort.medianAdjacent Sort.ltInt d (lo + (((hi - lo) / 4) * 2)) ((Sort.medianAdjacent Sort.ltInt d (lo + (((hi - lo) / 4) * 1)) 0).2)).2)).1) ((Sort.medianAdjacent Sort.ltInt d (lo + (((hi - lo) / 4) * 3)) ((Sort.medianAdjacent Sort.ltInt d (lo + (((hi - lo) / 4) * 2)) ((Sort.medianAdjacent Sort.ltInt d (lo + (((hi - lo) / 4) * 1)) 0).2)).2)).2)).2 : Nat) : Int) = 0))) rfl ?_)
      refine RW_nil ?_
      refine W_cond (t := decide ((((Sort.median Sort.ltInt d ((Sort.medianAdjacent Sort.ltInt d (lo + (((hi - lo) / 4) * 1)) 0).1) ((Sort.medianAdjacent Sort.ltInt d (lo + (((hi - lo) / 4) * 2)) ((Sort.medianAdjacent Sort.ltInt d (lo + (((hi - lo) / 4) * 1)) 0).2)).1) ((Sort.medianAdjacent Sort.ltInt d (lo + (((hi - lo) / 4) * 3)) ((Sort.medianAdjacent Sort.ltInt d (lo + (((hi - lo) / 4) * 2)) ((Sort.medianAdjacent Sort.ltInt d (lo + (((hi - lo) / 4) * 1)) 0).2)).2)).1) ((Sort.medianAdjacent Sort.ltInt d (lo + (((hi - lo) / 4) * 3)) ((Sort.medianAdjacent Sort.ltInt d (lo + (((hi - lo) / 4) * 2)) ((Sort.medianAdjacent Sort.ltInt d (lo + (((hi - lo) / 4) * 1)) 0).2)).2)).2)).2 : Nat) : Int) = 0)) rfl (fun c9 => ?_) (fun c9 => ?_)
      ·
        replace c9 := of_decide_eq_true c9
        refine W_seq ?_
        refine W_region ?_
        refine RW_op (L_move (V := .int .i64 (((Sort.median Sort.ltInt d ((Sort.medianAdjacent Sort.ltInt d (lo + (((hi - lo) / 4) * 1)) 0).1) ((Sort.medianAdjacent Sort.ltInt d (lo + (((hi - lo) / 4) * 2)) ((Sort.medianAdjacent Sort.ltInt d (lo + (((hi - lo) / 4) * 1)) 0).2)).1) ((Sort.medianAdjacent Sort.ltInt d (lo + (((hi - lo) / 4) * 3)) ((Sort.medianAdjacent Sort.ltInt d (lo + (((hi - lo) / 4) * 2)) ((Sort.medianAdjacent Sort.ltInt d (lo + (((hi - lo) / 4) * 1)) 0).2)).2)).1) ((Sort.medianAdjacent Sort.ltInt d (lo + (((hi - lo) / 4) * 3)) ((Sort.medianAdjacent Sort.ltInt d (lo + (((hi - lo) / 4) * 2)) ((Sort.medianAdjacent Sort.ltInt d (lo + (((hi - lo) / 4) * 1)) 0).2)).2)).2)).1 : Nat) : Int)) rfl ?_)
        refine RW_op (L_assign (V := .int .i64 (((Sort.median Sort.ltInt d ((Sort.medianAdjacent Sort.ltInt d (lo + (((hi - lo) / 4) * 1)) 0).1) ((Sort.medianAdjacent Sort.ltInt d (lo + (((hi - lo) / 4) * 2)) ((Sort.medianAdjacent Sort.ltInt d (lo + (((hi - lo) / 4) * 1)) 0).2)).1) ((Sort.medianAdjacent Sort.ltInt d (lo + (((hi - lo) / 4) * 3)) ((Sort.medianAdjacent Sort.ltInt d (lo + (((hi - lo) / 4) * 2)) ((Sort.medianAdjacent Sort.ltInt d (lo + (((hi - lo) / 4) * 1)) 0).2)).2)).1) ((Sort.medianAdjacent Sort.ltInt d (lo + (((hi - lo) / 4) * 3)) ((Sort.medianAdjacent Sort.ltInt d (lo + (((hi - lo) / 4) * 2)) ((Sort.medianAdjacent Sort.ltInt d (lo + (((hi - lo) / 4) * 1)) 0).2)).2)).2)).1 : Nat) : Int)) rfl ?_)
        refine RW_op (L_assign (V := .int .i64 1) rfl ?_)
        refine RW_nil ?_
        refine W_ret ?_
        refine ⟨_, res_two (U := .int .i64 (((Sort.median Sort.ltInt d ((Sort.medianAdjacent Sort.ltInt d (lo + (((hi - lo) / 4) * 1)) 0).1) ((Sort.medianAdjacent Sort.ltInt d (lo + (((hi - lo) / 4) * 2)) ((Sort.medianAdjacent Sort.ltInt d (lo + (((hi - lo) / 4) * 1)) 0).2)).1) ((Sort.medianAdjacent Sort.ltInt d (lo + (((hi - lo) / 4) * 3)) ((Sort.medianAdjacent Sort.ltInt d (lo + (((hi - lo) / 4) * 2)) ((Sort.medianAdjacent Sort.ltInt d (lo + (((hi - lo) / 4) * 1)) 0).2)).2)).1) ((Sort.medianAdjacent Sort.ltInt d (lo + (((hi - lo) / 4) * 3)) ((Sort.medianAdjacent Sort.ltInt d (lo + (((hi - lo) / 4) * 2)) ((Sort.medianAdjacent Sort.ltInt d (lo + (((hi - lo) / 4) * 1)) 0).2)).2)).2)).1 : Nat) : Int)) (V := .int .i64 1) Try.results105 rfl rfl, ?_⟩
        refine ⟨?_, hs.take 0⟩
        rw [cp_of (X := Sort.median Sort.ltInt d (Sort.medianAdjacent Sort.ltInt d (lo + ((hi - lo) / 4) * 1) (0)).1 (Sort.medianAdjacent Sort.ltInt d (lo + ((hi - lo) / 4) * 2) ((Sort.medianAdjacent Sort.ltInt d (lo + ((hi - lo) / 4) * 1) (0)).2)).1 (Sort.medianAdjacent Sort.ltInt d (lo + ((hi - lo) / 4) * 3) ((Sort.medianAdjacent Sort.ltInt d (lo + ((hi - lo) / 4) * 2) ((Sort.medianAdjacent Sort.ltInt d (lo + ((hi - lo) / 4) * 1) (0)).2)).2)).1 (Sort.medianAdjacent Sort.ltInt d (lo + ((hi - lo) / 4) * 3) ((Sort.medianAdjacent Sort.ltInt d (lo + ((hi - lo) / 4) * 2) ((Sort.medianAdjacent Sort.ltInt d (lo + ((hi - lo) / 4) * 1) (0)).2)).2)).2) (h := .increasing) ((if_pos (by omega)).trans (if_pos (by omega))) (if_pos (by omega))]; rfl
      ·
        replace c9 := of_decide_eq_false c9
        refine W_seq ?_
        refine W_region ?_
        refine RW_op (L_eql rfl rfl ?_)
        refine RW_op (L_assign (V := .bool (decide ((((Sort.median Sort.ltInt d ((Sort.medianAdjacent Sort.ltInt d (lo + (((hi - lo) / 4) * 1)) 0).1) ((Sort.medianAdjacent Sort.ltInt d (lo + (((hi - lo) / 4) * 2)) ((Sort.medianAdjacent Sort.ltInt d (lo + (((hi - lo) / 4) * 1)) 0).2)).1) ((Sort.medianAdjacent Sort.ltInt d (lo + (((hi - lo) / 4) * 3)) ((Sort.medianAdjacent Sort.ltInt d (lo + (((hi - lo) / 4) * 2)) ((Sort.medianAdjacent Sort.ltInt d (lo + (((hi - lo) / 4) * 1)) 0).2)).2)).1) ((Sort.medianAdjacent Sort.ltInt d (lo + (((hi - lo) / 4) * 3)) ((Sort.medianAdjacent Sort.ltInt d (lo + (((hi - lo) / 4) * 2)) ((Sort.medianAdjacent Sort.ltInt d (lo + (((hi - lo) / 4) * 1)) 0).2)).2)).2)).2 : Nat) : Int) = 12))) rfl ?_)
        refine RW_nil ?_
        refine W_cond (t := decide ((((Sort.median Sort.ltInt d ((Sort.medianAdjacent Sort.ltInt d (lo + (((hi - lo) / 4) * 1)) 0).1) ((Sort.medianAdjacent Sort.ltInt d (lo + (((hi - lo) / 4) * 2)) ((Sort.medianAdjacent Sort.ltInt d (lo + (((hi - lo) / 4) * 1)) 0).2)).1) ((Sort.medianAdjacent Sort.ltInt d (lo + (((hi - lo) / 4) * 3)) ((Sort.medianAdjacent Sort.ltInt d (lo + (((hi - lo) / 4) * 2)) ((Sort.medianAdjacent Sort.ltInt d (lo + (((hi - lo) / 4) * 1)) 0).2)).2)).1) ((Sort.medianAdjacent Sort.ltInt d (lo + (((hi - lo) / 4) * 3)) ((Sort.medianAdjacent Sort.ltInt d (lo + (((hi - lo) / 4) * 2)) ((Sort.medianAdjacent Sort.ltInt d (lo + (((hi - lo) / 4) * 1)) 0).2)).2)).2)).2 : Nat) : Int) = 12)) rfl (fun c10 => ?_) (fun c10 => ?_)
        ·
          replace c10 := of_decide_eq_true c10
          refine W_seq ?_
          refine W_region ?_
          refine RW_op (L_move (V := .int .i64 (((Sort.median Sort.ltInt d ((Sort.medianAdjacent Sort.ltInt d (lo + (((hi - lo) / 4) * 1)) 0).1) ((Sort.medianAdjacent Sort.ltInt d (lo + (((hi - lo) / 4) * 2)) ((Sort.medianAdjacent Sort.ltInt d (lo + (((hi - lo) / 4) * 1)) 0).2)).1) ((Sort.medianAdjacent Sort.ltInt d (lo + (((hi - lo) / 4) * 3)) ((Sort.medianAdjacent Sort.ltInt d (lo + (((hi - lo) / 4) * 2)) ((Sort.medianAdjacent Sort.ltInt d (lo + (((hi - lo) / 4) * 1)) 0).2)).2)).1) ((Sort.medianAdjacent Sort.ltInt d (lo + (((hi - lo) / 4) * 3)) ((Sort.medianAdjacent Sort.ltInt d (lo + (((hi - lo) / 4) * 2)) ((Sort.medianAdjacent Sort.ltInt d (lo + (((hi - lo) / 4) * 1)) 0).2)).2)).2)).1 : Nat) : Int)) rfl ?_)
          refine RW_op (L_assign (V := .int .i64 (((Sort.median Sort.ltInt d ((Sort.medianAdjacent Sort.ltInt d (lo + (((hi - lo) / 4) * 1)) 0).1) ((Sort.medianAdjacent Sort.ltInt d (lo + (((hi - lo) / 4) * 2)) ((Sort.medianAdjacent Sort.ltInt d (lo + (((hi - lo) / 4) * 1)) 0).2)).1) ((Sort.medianAdjacent Sort.ltInt d (lo + (((hi - lo) / 4) * 3)) ((Sort.medianAdjacent Sort.ltInt d (lo + (((hi - lo) / 4) * 2)) ((Sort.medianAdjacent Sort.ltInt d (lo + (((hi - lo) / 4) * 1)) 0).2)).2)).1) ((Sort.medianAdjacent Sort.ltInt d (lo + (((hi - lo) / 4) * 3)) ((Sort.medianAdjacent Sort.ltInt d (lo + (((hi - lo) / 4) * 2)) ((Sort.medianAdjacent Sort.ltInt d (lo + (((hi - lo) / 4) * 1)) 0).2)).2)).2)).1 : Nat) : Int)) rfl ?_)
          refine RW_op (L_assign (V := .int .i64 2) rfl ?_)
          refine RW_nil ?_
          refine W_ret ?_
          refine ⟨_, res_two (U := .int .i64 (((Sort.median Sort.ltInt d ((Sort.medianAdjacent Sort.ltInt d (lo + (((hi - lo) / 4) * 1)) 0).1) ((Sort.medianAdjacent Sort.ltInt d (lo + (((hi - lo) / 4) * 2)) ((Sort.medianAdjacent Sort.ltInt d (lo + (((hi - lo) / 4) * 1)) 0).2)).1) ((Sort.medianAdjacent Sort.ltInt d (lo + (((hi - lo) / 4) * 3)) ((Sort.medianAdjacent Sort.ltInt d (lo + (((hi - lo) / 4) * 2)) ((Sort.medianAdjacent Sort.ltInt d (lo + (((hi - lo) / 4) * 1)) 0).2)).2)).1) ((Sort.medianAdjacent Sort.ltInt d (lo + (((hi - lo) / 4) * 3)) ((Sort.medianAdjacent Sort.ltInt d (lo + (((hi - lo) / 4) * 2)) ((Sort.medianAdjacent Sort.ltInt d (lo + (((hi - lo) / 4) * 1)) 0).2)).2)).2)).1 : Nat) : Int)) (V := .int .i64 2) Try.results105 rfl rfl, ?_⟩
          refine ⟨?_, hs.take 0⟩
          rw [cp_of (X := Sort.median Sort.ltInt d (Sort.medianAdjacent Sort.ltInt d (lo + ((hi - lo) / 4) * 1) (0)).1 (Sort.medianAdjacent Sort.ltInt d (lo + ((hi - lo) / 4) * 2) ((Sort.medianAdjacent Sort.ltInt d (lo + ((hi - lo) / 4) * 1) (0)).2)).1 (Sort.medianAdjacent Sort.ltInt d (lo + ((hi - lo) / 4) * 3) ((Sort.medianAdjacent Sort.ltInt d (lo + ((hi - lo) / 4) * 2) ((Sort.medianAdjacent Sort.ltInt d (lo + ((hi - lo) / 4) * 1) (0)).2)).2)).1 (Sort.medianAdjacent Sort.ltInt d (lo + ((hi - lo) / 4) * 3) ((Sort.medianAdjacent Sort.ltInt d (lo + ((hi - lo) / 4) * 2) ((Sort.medianAdjacent Sort.ltInt d (lo + ((hi - lo) / 4) * 1) (0)).2)).2)).2) (h := .decreasing) ((if_pos (by omega)).trans (if_pos (by omega))) ((if_neg (by omega)).trans (if_pos (by omega)))]; rfl
        ·
          replace c10 := of_decide_eq_false c10
          refine W_seq ?_
          refine W_region ?_
          refine RW_op (L_move (V := .int .i64 (((Sort.median Sort.ltInt d ((Sort.medianAdjacent Sort.ltInt d (lo + (((hi - lo) / 4) * 1)) 0).1) ((Sort.medianAdjacent Sort.ltInt d (lo + (((hi - lo) / 4) * 2)) ((Sort.medianAdjacent Sort.ltInt d (lo + (((hi - lo) / 4) * 1)) 0).2)).1) ((Sort.medianAdjacent Sort.ltInt d (lo + (((hi - lo) / 4) * 3)) ((Sort.medianAdjacent Sort.ltInt d (lo + (((hi - lo) / 4) * 2)) ((Sort.medianAdjacent Sort.ltInt d (lo + (((hi - lo) / 4) * 1)) 0).2)).2)).1) ((Sort.medianAdjacent Sort.ltInt d (lo + (((hi - lo) / 4) * 3)) ((Sort.medianAdjacent Sort.ltInt d (lo + (((hi - lo) / 4) * 2)) ((Sort.medianAdjacent Sort.ltInt d (lo + (((hi - lo) / 4) * 1)) 0).2)).2)).2)).1 : Nat) : Int)) rfl ?_)
          refine RW_op (L_assign (V := .int .i64 (((Sort.median Sort.ltInt d ((Sort.medianAdjacent Sort.ltInt d (lo + (((hi - lo) / 4) * 1)) 0).1) ((Sort.medianAdjacent Sort.ltInt d (lo + (((hi - lo) / 4) * 2)) ((Sort.medianAdjacent Sort.ltInt d (lo + (((hi - lo) / 4) * 1)) 0).2)).1) ((Sort.medianAdjacent Sort.ltInt d (lo + (((hi - lo) / 4) * 3)) ((Sort.medianAdjacent Sort.ltInt d (lo + (((hi - lo) / 4) * 2)) ((Sort.medianAdjacent Sort.ltInt d (lo + (((hi - lo) / 4) * 1)) 0).2)).2)).1) ((Sort.medianAdjacent Sort.ltInt d (lo + (((hi - lo) / 4) * 3)) ((Sort.medianAdjacent Sort.ltInt d (lo + (((hi - lo) / 4) * 2)) ((Sort.medianAdjacent Sort.ltInt d (lo + (((hi - lo) / 4) * 1)) 0).2)).2)).2)).1 : Nat) : Int)) rfl ?_)
          refine RW_op (L_assign (V := .int .i64 0) rfl ?_)
          refine RW_nil ?_
          refine W_ret ?_
          refine ⟨_, res_two (U := .int .i64 (((Sort.median Sort.ltInt d ((Sort.medianAdjacent Sort.ltInt d (lo + (((hi - lo) / 4) * 1)) 0).1) ((Sort.medianAdjacent Sort.ltInt d (lo + (((hi - lo) / 4) * 2)) ((Sort.medianAdjacent Sort.ltInt d (lo + (((hi - lo) / 4) * 1)) 0).2)).1) ((Sort.medianAdjacent Sort.ltInt d (lo + (((hi - lo) / 4) * 3)) ((Sort.medianAdjacent Sort.ltInt d (lo + (((hi - lo) / 4) * 2)) ((Sort.medianAdjacent Sort.ltInt d (lo + (((hi - lo) / 4) * 1)) 0).2)).2)).1) ((Sort.medianAdjacent Sort.ltInt d (lo + (((hi - lo) / 4) * 3)) ((Sort.medianAdjacent Sort.ltInt d (lo + (((hi - lo) / 4) * 2)) ((Sort.medianAdjacent Sort.ltInt d (lo + (((hi - lo) / 4) * 1)) 0).2)).2)).2)).1 : Nat) : Int)) (V := .int .i64 0) Try.results105 rfl rfl, ?_⟩
          refine ⟨?_, hs.take 0⟩
          rw [cp_of (X := Sort.median Sort.ltInt d (Sort.medianAdjacent Sort.ltInt d (lo + ((hi - lo) / 4) * 1) (0)).1 (Sort.medianAdjacent Sort.ltInt d (lo + ((hi - lo) / 4) * 2) ((Sort.medianAdjacent Sort.ltInt d (lo + ((hi - lo) / 4) * 1) (0)).2)).1 (Sort.medianAdjacent Sort.ltInt d (lo + ((hi - lo) / 4) * 3) ((Sort.medianAdjacent Sort.ltInt d (lo + ((hi - lo) / 4) * 2) ((Sort.medianAdjacent Sort.ltInt d (lo + ((hi - lo) / 4) * 1) (0)).2)).2)).1 (Sort.medianAdjacent Sort.ltInt d (lo + ((hi - lo) / 4) * 3) ((Sort.medianAdjacent Sort.ltInt d (lo + ((hi - lo) / 4) * 2) ((Sort.medianAdjacent Sort.ltInt d (lo + ((hi - lo) / 4) * 1) (0)).2)).2)).2) (h := .unknown) ((if_pos (by omega)).trans (if_pos (by omega))) ((if_neg (by omega)).trans (if_neg (by omega)))]; rfl
    ·
      replace c4 := of_decide_eq_false c4
      refine W_skip ?_
      refine W_region ?_
      refine RW_op (L_move (V := .slice a N c) rfl ?_)
      refine RW_op (L_move (V := .int .i64 ((lo + (((hi - lo) / 4) * 1) : Nat) : Int)) rfl ?_)
      refine RW_op (L_move (V := .int .i64 ((lo + (((hi - lo) / 4) * 2) : Nat) : Int)) rfl ?_)
      refine RW_op (L_move (V := .int .i64 ((lo + (((hi - lo) / 4) * 3) : Nat) : Int)) rfl ?_)
      refine RW_op (L_callB2 (vs := [.slice a N c, .int .i64 ((lo + (((hi - lo) / 4) * 1) : Nat) : Int), .int .i64 ((lo + (((hi - lo) / 4) * 2) : Nat) : Int), .int .i64 ((lo + (((hi - lo) / 4) * 3) : Nat) : Int), .pointer (some ⟨b1, 0, none⟩)]) (V := fun _ : Unit => .int .i64 (((Sort.median Sort.ltInt d (lo + (((hi - lo) / 4) * 1)) (lo + (((hi - lo) / 4) * 2)) (lo + (((hi - lo) / 4) * 3)) 0).1 : Nat) : Int)) (R := blk b1 [.int .i64 ((0 : Nat) : Int)] 3) (R' := fun _ => blk b1 [.int .i64 (((Sort.median Sort.ltInt d (lo + (((hi - lo) / 4) * 1)) (lo + (((hi - lo) / 4) * 2)) (lo + (((hi - lo) / 4) * 3)) 0).2 : Nat) : Int)] 3) (Lo := fun _ => []) (F := fun _ _ => True) EN_118 rfl rfl hs 0 rfl (fun S hS hlt hSM => med_ok _ S a N c d hsz hN b1 0 (by omega) (Rd.own' hr hs) (Nat.lt_of_lt_of_le hb hs.size) (fun h => hSM _ h hb) hS hlt (lo + (((hi - lo) / 4) * 1)) (lo + (((hi - lo) / 4) * 2)) (lo + (((hi - lo) / 4) * 3)) (by omega) (by omega) (by omega)) fun _ w11 hs _ => ?_)
      refine RW_op (L_assign (V := .int .i64 (((Sort.median Sort.ltInt d (lo + (((hi - lo) / 4) * 1)) (lo + (((hi - lo) / 4) * 2)) (lo + (((hi - lo) / 4) * 3)) 0).1 : Nat) : Int)) rfl ?_)
      refine RW_nil ?_
      refine W_seq ?_
      refine W_region ?_
      refine RW_op (L_ld (V := .int .i64 (((Sort.median Sort.ltInt d (lo + (((hi - lo) / 4) * 1)) (lo + (((hi - lo) / 4) * 2)) (lo + (((hi - lo) / 4) * 3)) 0).2 : Nat) : Int)) S1_3 hs 0 rfl rfl rfl ?_)
      refine RW_nil ?_
      refine W_block ?_
      refine W_seq ?_
      refine W_region ?_
      refine RW_op (L_eql rfl rfl ?_)
      refine RW_op (L_assign (V := .bool (decide ((((Sort.median Sort.ltInt d (lo + (((hi - lo) / 4) * 1)) (lo + (((hi - lo) / 4) * 2)) (lo + (((hi - lo) / 4) * 3)) 0).2 : Nat) : Int) = 0))) rfl ?_)
      refine RW_nil ?_
      refine W_cond (t := decide ((((Sort.median Sort.ltInt d (lo + (((hi - lo) / 4) * 1)) (lo + (((hi - lo) / 4) * 2)) (lo + (((hi - lo) / 4) * 3)) 0).2 : Nat) : Int) = 0)) rfl (fun c12 => ?_) (fun c12 => ?_)
      ·
        replace c12 := of_decide_eq_true c12
        refine W_seq ?_
        refine W_region ?_
        refine RW_op (L_move (V := .int .i64 (((Sort.median Sort.ltInt d (lo + (((hi - lo) / 4) * 1)) (lo + (((hi - lo) / 4) * 2)) (lo + (((hi - lo) / 4) * 3)) 0).1 : Nat) : Int)) rfl ?_)
        refine RW_op (L_assign (V := .int .i64 (((Sort.median Sort.ltInt d (lo + (((hi - lo) / 4) * 1)) (lo + (((hi - lo) / 4) * 2)) (lo + (((hi - lo) / 4) * 3)) 0).1 : Nat) : Int)) rfl ?_)
        refine RW_op (L_assign (V := .int .i64 1) rfl ?_)
        refine RW_nil ?_
        refine W_ret ?_
        refine ⟨_, res_two (U := .int .i64 (((Sort.median Sort.ltInt d (lo + (((hi - lo) / 4) * 1)) (lo + (((hi - lo) / 4) * 2)) (lo + (((hi - lo) / 4) * 3)) 0).1 : Nat) : Int)) (V := .int .i64 1) Try.results105 rfl rfl, ?_⟩
        refine ⟨?_, hs.take 0⟩
        rw [cp_of (X := Sort.median Sort.ltInt d (lo + ((hi - lo) / 4) * 1) (lo + ((hi - lo) / 4) * 2) (lo + ((hi - lo) / 4) * 3) 0) (h := .increasing) ((if_pos (by omega)).trans (if_neg (by omega))) (if_pos (by omega))]; rfl
      ·
        replace c12 := of_decide_eq_false c12
        refine W_seq ?_
        refine W_region ?_
        refine RW_op (L_eql rfl rfl ?_)
        refine RW_op (L_assign (V := .bool (decide ((((Sort.median Sort.ltInt d (lo + (((hi - lo) / 4) * 1)) (lo + (((hi - lo) / 4) * 2)) (lo + (((hi - lo) / 4) * 3)) 0).2 : Nat) : Int) = 12))) rfl ?_)
        refine RW_nil ?_
        refine W_cond (t := decide ((((Sort.median Sort.ltInt d (lo + (((hi - lo) / 4) * 1)) (lo + (((hi - lo) / 4) * 2)) (lo + (((hi - lo) / 4) * 3)) 0).2 : Nat) : Int) = 12)) rfl (fun c13 => ?_) (fun c13 => ?_)
        ·
          replace c13 := of_decide_eq_true c13
          refine W_seq ?_
          refine W_region ?_
          refine RW_op (L_move (V := .int .i64 (((Sort.median Sort.ltInt d (lo + (((hi - lo) / 4) * 1)) (lo + (((hi - lo) / 4) * 2)) (lo + (((hi - lo) / 4) * 3)) 0).1 : Nat) : Int)) rfl ?_)
          refine RW_op (L_assign (V := .int .i64 (((Sort.median Sort.ltInt d (lo + (((hi - lo) / 4) * 1)) (lo + (((hi - lo) / 4) * 2)) (lo + (((hi - lo) / 4) * 3)) 0).1 : Nat) : Int)) rfl ?_)
          refine RW_op (L_assign (V := .int .i64 2) rfl ?_)
          refine RW_nil ?_
          refine W_ret ?_
          refine ⟨_, res_two (U := .int .i64 (((Sort.median Sort.ltInt d (lo + (((hi - lo) / 4) * 1)) (lo + (((hi - lo) / 4) * 2)) (lo + (((hi - lo) / 4) * 3)) 0).1 : Nat) : Int)) (V := .int .i64 2) Try.results105 rfl rfl, ?_⟩
          refine ⟨?_, hs.take 0⟩
          rw [cp_of (X := Sort.median Sort.ltInt d (lo + ((hi - lo) / 4) * 1) (lo + ((hi - lo) / 4) * 2) (lo + ((hi - lo) / 4) * 3) 0) (h := .decreasing) ((if_pos (by omega)).trans (if_neg (by omega))) ((if_neg (by omega)).trans (if_pos (by omega)))]; rfl
        ·
          replace c13 := of_decide_eq_false c13
          refine W_seq ?_
          refine W_region ?_
          refine RW_op (L_move (V := .int .i64 (((Sort.median Sort.ltInt d (lo + (((hi - lo) / 4) * 1)) (lo + (((hi - lo) / 4) * 2)) (lo + (((hi - lo) / 4) * 3)) 0).1 : Nat) : Int)) rfl ?_)
          refine RW_op (L_assign (V := .int .i64 (((Sort.median Sort.ltInt d (lo + (((hi - lo) / 4) * 1)) (lo + (((hi - lo) / 4) * 2)) (lo + (((hi - lo) / 4) * 3)) 0).1 : Nat) : Int)) rfl ?_)
          refine RW_op (L_assign (V := .int .i64 0) rfl ?_)
          refine RW_nil ?_
          refine W_ret ?_
          refine ⟨_, res_two (U := .int .i64 (((Sort.median Sort.ltInt d (lo + (((hi - lo) / 4) * 1)) (lo + (((hi - lo) / 4) * 2)) (lo + (((hi - lo) / 4) * 3)) 0).1 : Nat) : Int)) (V := .int .i64 0) Try.results105 rfl rfl, ?_⟩
          refine ⟨?_, hs.take 0⟩
          rw [cp_of (X := Sort.median Sort.ltInt d (lo + ((hi - lo) / 4) * 1) (lo + ((hi - lo) / 4) * 2) (lo + ((hi - lo) / 4) * 3) 0) (h := .unknown) ((if_pos (by omega)).trans (if_neg (by omega))) ((if_neg (by omega)).trans (if_neg (by omega)))]; rfl
  ·
    replace c3 := of_decide_eq_false c3
    refine W_skip ?_
    refine W_seq ?_
    refine W_region ?_
    refine RW_op (L_ld (V := .int .i64 0) S1_3 hs 0 rfl rfl rfl ?_)
    refine RW_nil ?_
    refine W_block ?_
    refine W_seq ?_
    refine W_region ?_
    refine RW_op (L_eql rfl rfl ?_)
    refine RW_op (L_assign (V := .bool (decide ((0 : Int) = 0))) rfl ?_)
    refine RW_nil ?_
    refine W_cond (t := decide ((0 : Int) = 0)) rfl (fun c14 => ?_) (fun c14 => ?_)
    ·
      replace c14 := of_decide_eq_true c14
      refine W_seq ?_
      refine W_region ?_
      refine RW_op (L_move (V := .int .i64 ((lo + (((hi - lo) / 4) * 2) : Nat) : Int)) rfl ?_)
      refine RW_op (L_assign (V := .int .i64 ((lo + (((hi - lo) / 4) * 2) : Nat) : Int)) rfl ?_)
      refine RW_op (L_assign (V := .int .i64 1) rfl ?_)
      refine RW_nil ?_
      refine W_ret ?_
      refine ⟨_, res_two (U := .int .i64 ((lo + (((hi - lo) / 4) * 2) : Nat) : Int)) (V := .int .i64 1) Try.results105 rfl rfl, ?_⟩
      refine ⟨?_, hs.take 0⟩
      rw [cp_of (X := (lo + ((hi - lo) / 4) * 2, 0)) (h := .increasing) (if_neg (by omega)) (if_pos rfl)]; rfl
    ·
      replace c14 := of_decide_eq_false c14
      refine W_seq ?_
      refine W_region ?_
      refine RW_op (L_eql rfl rfl ?_)
      refine RW_op (L_assign (V := .bool (decide ((0 : Int) = 12))) rfl ?_)
      refine RW_nil ?_
      refine W_cond (t := decide ((0 : Int) = 12)) rfl (fun c15 => ?_) (fun c15 => ?_)
      ·
        replace c15 := of_decide_eq_true c15
        refine W_seq ?_
        refine W_region ?_
        refine RW_op (L_move (V := .int .i64 ((lo + (((hi - lo) / 4) * 2) : Nat) : Int)) rfl ?_)
        refine RW_op (L_assign (V := .int .i64 ((lo + (((hi - lo) / 4) * 2) : Nat) : Int)) rfl ?_)
        refine RW_op (L_assign (V := .int .i64 2) rfl ?_)
        refine RW_nil ?_
        refine W_ret ?_
        refine ⟨_, res_two (U := .int .i64 ((lo + (((hi - lo) / 4) * 2) : Nat) : Int)) (V := .int .i64 2) Try.results105 rfl rfl, ?_⟩
        exfalso; omega
      ·
        replace c15 := of_decide_eq_false c15
        refine W_seq ?_
        refine W_region ?_
        refine RW_op (L_move (V := .int .i64 ((lo + (((hi - lo) / 4) * 2) : Nat) : Int)) rfl ?_)
        refine RW_op (L_assign (V := .int .i64 ((lo + (((hi - lo) / 4) * 2) : Nat) : Int)) rfl ?_)
        refine RW_op (L_assign (V := .int .i64 0) rfl ?_)
        refine RW_nil ?_
        refine W_ret ?_
        refine ⟨_, res_two (U := .int .i64 ((lo + (((hi - lo) / 4) * 2) : Nat) : Int)) (V := .int .i64 0) Try.results105 rfl rfl, ?_⟩
        exfalso; omega
end Ts
end Go.Proofs
namespace Go.Proofs
open Go Go.Vx Go.RowKit
namespace Ts
section
variable {lo hi i s : Nat} {d : Array Int}
theorem ss_yes (h : ((i : Nat) : Int) < ((hi : Nat) : Int)) (h2 : ¬ d[i]! < d[i - 1]!) : Sort.scanSorted Sort.ltInt d hi i = Sort.scanSorted Sort.ltInt d hi (i + 1) := by
  rw [Sort.scanSorted, if_pos]
  simp only [Bool.and_eq_true, decide_eq_true_eq, Bool.not_eq_true', Sort.ltInt, decide_eq_false_iff_not]; exact ⟨by omega, h2⟩
theorem ss_no (h : (decide (((i : Nat) : Int) < ((hi : Nat) : Int)) && !decide (d[i]! < d[i - 1]!)) = false) : Sort.scanSorted Sort.ltInt d hi i = i := by
  rw [Sort.scanSorted, if_neg]
  intro h2
  simp only [Bool.and_eq_true, decide_eq_true_eq, Bool.not_eq_true', Sort.ltInt, decide_eq_false_iff_not] at h2
  simp only [Bool.and_eq_false_iff, decide_eq_false_iff_not, Bool.not_eq_false', decide_eq_true_eq] at h
  rcases h with h | h
  · exact h (by omega)
  · exact h2.2 h
theorem dn_yes (h : 1 ≤ ((i : Nat) : Int)) (h2 : d[i]! < d[i - 1]!) : Sort.shiftDown Sort.ltInt i d = Sort.shiftDown Sort.ltInt (i - 1) (Sort.swp d i (i - 1)) := by
  obtain ⟨j, rfl⟩ : ∃ j, i = j + 1 := ⟨i - 1, by omega⟩
  rw [Nat.add_sub_cancel] at *
  rw [Sort.shiftDown, if_neg (by simp [Sort.ltInt, h2])]
theorem dn_no (h2 : ¬ d[i]! < d[i - 1]!) : Sort.shiftDown Sort.ltInt i d = d := by
  cases i with
  | zero => rfl
  | succ j => rw [Nat.add_sub_cancel] at h2; rw [Sort.shiftDown, if_pos (by simpa [Sort.ltInt] using h2)]
theorem dn_0 (h : ¬ 1 ≤ ((i : Nat) : Int)) : Sort.shiftDown Sort.ltInt i d = d := by
  have : i = 0 := by omega
  subst this; rfl
theorem up_yes (h : ((i : Nat) : Int) < ((hi : Nat) : Int)) (h2 : d[i]! < d[i - 1]!) : Sort.shiftUp Sort.ltInt hi i d = Sort.shiftUp Sort.ltInt hi (i + 1) (Sort.swp d i (i - 1)) := by
  rw [Sort.shiftUp, if_pos (by omega), if_neg (by simp [Sort.ltInt, h2])]
theorem up_no (h : ((i : Nat) : Int) < ((hi : Nat) : Int)) (h2 : ¬ d[i]! < d[i - 1]!) : Sort.shiftUp Sort.ltInt hi i d = d := by
  rw [Sort.shiftUp, if_pos (by omega), if_pos (by simpa [Sort.ltInt] using h2)]
theorem up_0 (h : ¬ ((i : Nat) : Int) < ((hi : Nat) : Int)) : Sort.shiftUp Sort.ltInt hi i d = d := by rw [Sort.shiftUp, if_neg (by omega)]
def dnI (lo i : Nat) (d : Array Int) : Array Int := if i - lo ≥ 2 then Sort.shiftDown Sort.ltInt (i - 1) d else d
def upI (hi i : Nat) (d : Array Int) : Array Int := if hi - i ≥ 2 then Sort.shiftUp Sort.ltInt hi (i + 1) d else d
theorem pi_step {q i2 : Nat} (hq : q < 5) (h2 : i2 = Sort.scanSorted Sort.ltInt d hi i) : Sort.partialIns Sort.ltInt lo hi (5 - q) i d = if i2 = hi then (d, true) else if hi - lo < 50 then (d, false) else Sort.partialIns Sort.ltInt lo hi (5 - (q + 1)) i2 (upI hi i2 (dnI lo i2 (Sort.swp d i2 (i2 - 1)))) := by
  obtain ⟨s, hs⟩ : ∃ s, 5 - q = s + 1 := ⟨5 - q - 1, by omega⟩
  rw [hs, show 5 - (q + 1) = s by omega, h2]
  rfl
end
set_option maxRecDepth 20000 in
set_option maxHeartbeats 4000000 in
theorem pins_ok (w : World) (S : Nat → Prop) (a : Option Addr) (N c : Nat) (d : Array Int) (hsz : d.size = N) (hN : N ≤ 2305843009213693951) (lo hi : Nat) (h1 : lo < hi) (h2 : hi ≤ N) (hR : (row (.slice a N c) (d.toList.map (ic .u16)) 57 1).holds w S) (hlt : ∀ x, S x → x < w.heap.size) : Calls Try.prog 107 #[.slice a N c, .int .i64 ((lo : Nat) : Int), .int .i64 ((hi : Nat) : Int)] w (fun e w' => ∃ _u : Unit, e = .returned (.bool (Sort.partialInsertionSort Sort.ltInt d lo hi).2) ∧ Own w S w' [row (.slice a N c) (((Sort.partialInsertionSort Sort.ltInt d lo hi).1).toList.map (ic .u16)) 57 1] ∧ (Sort.partialInsertionSort Sort.ltInt d lo hi).1.size = N) := by
  refine calls_of_Wn (n := 133) Try.func107 rfl Try.ntmps107 rfl ?_
  have hs := Own.lent hR hlt
  refine W_seq ?_
  refine W_region ?_
  refine RW_op (L_assign (V := .bool false) rfl ?_)
  refine RW_nil ?_
  refine W_seq ?_
  refine W_region ?_
  refine RW_op (L_move (V := .int .i64 ((lo : Nat) : Int)) rfl ?_)
  refine RW_op (L_add (a := ((lo : Nat) : Int)) (b := 1) (c := ((lo + 1 : Nat) : Int)) rfl rfl (nat_i64 (by omega) (by omega)) ?_)
  refine RW_op (L_assign (V := .int .i64 ((lo + 1 : Nat) : Int)) rfl ?_)
  refine RW_nil ?_
  refine W_seq ?_
  refine W_seq ?_
  refine W_region ?_
  refine RW_op (L_assign (V := .int .i64 0) rfl ?_)
  refine RW_nil ?_
  refine W_block ?_
  refine W_loopI (fun ρ m ρ' w' => ∃ (ρo : Env) (q : Nat) (i : Nat) (d1 : Array Int), ρ' = upd (upd (mix [6, 7, 8, 9, 10, 13, 14, 15, 16, 17, 18, 19, 20, 21, 22, 23, 24, 25, 26, 27, 28, 29, 30, 31, 32, 33, 34, 35, 36, 37, 38, 39, 40, 41, 42, 43, 44, 45, 46, 47, 48, 49, 50, 51, 52, 53, 54, 55, 56, 57, 58, 59, 60, 61, 62, 63, 64, 65, 66, 67, 68, 69, 70, 71, 72, 73, 74, 75, 76, 77, 78, 79, 80, 81, 82, 83, 84, 85, 86, 87, 88, 89, 90, 91, 92, 93, 94, 95, 96, 97, 98, 99, 100, 101, 102, 103, 104, 105, 106, 107, 108, 109, 110, 111, 112, 113, 114, 115, 116, 117, 118, 119, 120, 121, 122, 123, 124, 125, 126, 127, 128, 129, 130, 131, 132] ρo ρ) 8 (.int .i64 ((q : Nat) : Int))) 7 (.int .i64 ((i : Nat) : Int)) ∧ (q ≤ 5) ∧ (lo + 1 ≤ i) ∧ (i ≤ hi) ∧ (d1.size = N) ∧ (Sort.partialIns Sort.ltInt lo hi (5 - q) i d1 = Sort.partialInsertionSort Sort.ltInt d lo hi) ∧ m = 5 - q ∧ Own w S w' [row (.slice a N c) (d1.toList.map (ic .u16)) 57 1]) ?_ ?_
  · exact ⟨_, _, 0, lo + 1, d, upd_of (upd_of (mix_of (ds := [6, 7, 8, 9, 10, 13, 14, 15, 16, 17, 18, 19, 20, 21, 22, 23, 24, 25, 26, 27, 28, 29, 30, 31, 32, 33, 34, 35, 36, 37, 38, 39, 40, 41, 42, 43, 44, 45, 46, 47, 48, 49, 50, 51, 52, 53, 54, 55, 56, 57, 58, 59, 60, 61, 62, 63, 64, 65, 66, 67, 68, 69, 70, 71, 72, 73, 74, 75, 76, 77, 78, 79, 80, 81, 82, 83, 84, 85, 86, 87, 88, 89, 90, 91, 92, 93, 94, 95, 96, 97, 98, 99, 100, 101, 102, 103, 104, 105, 106, 107, 108, 109, 110, 111, 112, 113, 114, 115, 116, 117, 118, 119, 120, 121, 122, 123, 124, 125, 126, 127, 128, 129, 130, 131, 132]) (Agr.refl _ _)) rfl) rfl, (by omega), (by omega), (by omega), hsz, rfl, rfl, hs⟩
  · rintro m ρ' w1 ⟨ρo, q, i, d1, rfl, hq, hi0, hi1, hz1, hev, rfl, hs⟩
    refine W_seq ?_
    refine W_seq ?_
    refine W_region ?_
    refine RW_op (L_move (V := .int .i64 ((q : Nat) : Int)) rfl ?_)
    refine RW_op (L_lss rfl rfl ?_)
    refine RW_nil ?_
    refine W_cond (t := decide (((q : Nat) : Int) < 5)) rfl (fun c2 => ?_) (fun c2 => ?_)
    ·
      replace c2 := of_decide_eq_true c2
      refine W_skip ?_
      refine W_seq ?_
      refine W_block ?_
      refine W_seq ?_
      refine W_block ?_
      refine W_loopI (fun ρ m ρ' w' => ∃ (ρo : Env) (i2 : Nat), ρ' = upd (mix [7, 17, 18, 19, 20, 21, 22, 23, 24, 25, 26, 27, 28, 29, 30, 31, 32, 33, 34] ρo ρ) 7 (.int .i64 ((i2 : Nat) : Int)) ∧ (i ≤ i2) ∧ (i2 ≤ hi) ∧ (Sort.scanSorted Sort.ltInt d1 hi i2 = Sort.scanSorted Sort.ltInt d1 hi i) ∧ m = hi - i2 ∧ Own w S w' [row (.slice a N c) (d1.toList.map (ic .u16)) 57 1]) ?_ ?_
      · exact ⟨_, _, i, upd_of (mix_of (ds := [7, 17, 18, 19, 20, 21, 22, 23, 24, 25, 26, 27, 28, 29, 30, 31, 32, 33, 34]) (Agr.refl _ _)) rfl, (Nat.le_refl _), hi1, rfl, rfl, hs⟩
      · rintro m ρ' w3 ⟨ρo, i2, rfl, hi2a, hi2b, hsc, rfl, hs⟩
        refine W_seq ?_
        refine W_seq ?_
        replace hs := hs.drew
        refine W_draw2 HM [17, 18, 19, 20, 21, 22, 23, 24, 25, 26, 27, 28, 29, 30, 31, 32] [[], [], [0, 1], [2], [3], [3], [4, 5, 3], [6, 3], [3], [3], [9, 3], [8, 10, 3], [11, 3], [7, 12, 3, 3], [13, 3], [3, 14]] (fun D ρ wx => Own w S wx [row (.slice a N c) (d1.toList.map (ic .u16)) 57 1] ∧ (D 0 = true → ρ 17 = .int .i64 ((i2 : Nat) : Int)) ∧ (D 1 = true → ρ 18 = .int .i64 ((hi : Nat) : Int)) ∧ (D 2 = true → ρ 19 = .bool (decide (((i2 : Nat) : Int) < ((hi : Nat) : Int)))) ∧ (D 3 = true → ρ 20 = .bool (decide (((i2 : Nat) : Int) < ((hi : Nat) : Int)))) ∧ (D 4 = true → ρ 21 = cond ((decide (((i2 : Nat) : Int) < ((hi : Nat) : Int))) == true) (.slice a N c) undef) ∧ (D 5 = true → ρ 22 = cond ((decide (((i2 : Nat) : Int) < ((hi : Nat) : Int))) == true) (.int .i64 ((i2 : Nat) : Int)) undef) ∧ (D 6 = true → ρ 23 = cond ((decide (((i2 : Nat) : Int) < ((hi : Nat) : Int))) == true) (.pointer (some ⟨bkS (.slice a N c), ofS (.slice a N c) + ((i2 : Nat) : Int).toNat * 1, none⟩)) undef) ∧ (D 7 = true → ρ 24 = cond ((decide (((i2 : Nat) : Int) < ((hi : Nat) : Int))) == true) (.int .u16 (d1[i2]!)) undef) ∧ (D 8 = true → ρ 25 = cond ((decide (((i2 : Nat) : Int) < ((hi : Nat) : Int))) == true) (.slice a N c) undef) ∧ (D 9 = true → ρ 26 = cond ((decide (((i2 : Nat) : Int) < ((hi : Nat) : Int))) == true) (.int .i64 ((i2 : Nat) : Int)) undef) ∧ (D 10 = true → ρ 27 = cond ((decide (((i2 : Nat) : Int) < ((hi : Nat) : Int))) == true) (.int .i64 ((i2 - 1 : Nat) : Int)) undef) ∧ (D 11 = true → ρ 28 = cond ((decide (((i2 : Nat) : Int) < ((hi : Nat) : Int))) == true) (.pointer (some ⟨bkS (.slice a N c), ofS (.slice a N c) + ((i2 - 1 : Nat) : Int).toNat * 1, none⟩)) undef) ∧ (D 12 = true → ρ 29 = cond ((decide (((i2 : Nat) : Int) < ((hi : Nat) : Int))) == true) (.int .u16 (d1[i2 - 1]!)) undef) ∧ (D 13 = true → ρ 30 = cond ((decide (((i2 : Nat) : Int) < ((hi : Nat) : Int))) == true) (.bool (decide (d1[i2]! < d1[i2 - 1]!))) undef) ∧ (D 14 = true → ρ 31 = cond ((decide (((i2 : Nat) : Int) < ((hi : Nat) : Int))) == true) (.bool (!decide (d1[i2]! < d1[i2 - 1]!))) undef) ∧ (D 15 = true → ρ 32 = .bool ((decide (((i2 : Nat) : Int) < ((hi : Nat) : Int))) && (!decide (d1[i2]! < d1[i2 - 1]!))))) rfl rfl rfl ⟨hs, fun h => absurd h Bool.false_ne_true, fun h => absurd h Bool.false_ne_true, fun h => absurd h Bool.false_ne_true, fun h => absurd h Bool.false_ne_true, fun h => absurd h Bool.false_ne_true, fun h => absurd h Bool.false_ne_true, fun h => absurd h Bool.false_ne_true, fun h => absurd h Bool.false_ne_true, fun h => absurd h Bool.false_ne_true, fun h => absurd h Bool.false_ne_true, fun h => absurd h Bool.false_ne_true, fun h => absurd h Bool.false_ne_true, fun h => absurd h Bool.false_ne_true, fun h => absurd h Bool.false_ne_true, fun h => absurd h Bool.false_ne_true, fun h => absurd h Bool.false_ne_true⟩ ⟨?_, ?_, ?_, ?_, ?_, ?_, ?_, ?_, ?_, ?_, ?_, ?_, ?_, ?_, ?_, ?_, trivial⟩ ?_
        · rintro D ρ wx hD hd hdc hf ⟨hs, f0, f1, f2, f3, f4, f5, f6, f7, f8, f9, f10, f11, f12, f13, f14, f15⟩
          have r7 : ρ 7 = .int .i64 ((i2 : Nat) : Int) := outD hf 7 rfl
          exact .inl ⟨rfl, L_move (V := .int .i64 ((i2 : Nat) : Int)) r7 ⟨hs, fun _ => rfl, f1, f2, f3, f4, f5, f6, f7, f8, f9, f10, f11, f12, f13, f14, f15⟩⟩
        · rintro D ρ wx hD hd hdc hf ⟨hs, f0, f1, f2, f3, f4, f5, f6, f7, f8, f9, f10, f11, f12, f13, f14, f15⟩
          have r2 : ρ 2 = .int .i64 ((hi : Nat) : Int) := outD hf 2 rfl
          exact .inl ⟨rfl, L_move (V := .int .i64 ((hi : Nat) : Int)) r2 ⟨hs, f0, fun _ => rfl, f2, f3, f4, f5, f6, f7, f8, f9, f10, f11, f12, f13, f14, f15⟩⟩
        · rintro D ρ wx hD hd hdc hf ⟨hs, f0, f1, f2, f3, f4, f5, f6, f7, f8, f9, f10, f11, f12, f13, f14, f15⟩
          have g0 := f0 (doneD hd 0 rfl)
          have g1 := f1 (doneD hd 1 rfl)
          exact .inl ⟨rfl, L_lss g0 g1 ⟨hs, f0, f1, fun _ => rfl, f3, f4, f5, f6, f7, f8, f9, f10, f11, f12, f13, f14, f15⟩⟩
        · rintro D ρ wx hD hd hdc hf ⟨hs, f0, f1, f2, f3, f4, f5, f6, f7, f8, f9, f10, f11, f12, f13, f14, f15⟩
          have g2 := f2 (doneD hd 2 rfl)
          exact .inl ⟨rfl, L_move (V := .bool (decide (((i2 : Nat) : Int) < ((hi : Nat) : Int)))) g2 ⟨hs, f0, f1, f2, fun _ => rfl, f4, f5, f6, f7, f8, f9, f10, f11, f12, f13, f14, f15⟩⟩
        · rintro D ρ wx hD hd hdc hf ⟨hs, f0, f1, f2, f3, f4, f5, f6, f7, f8, f9, f10, f11, f12, f13, f14, f15⟩
          have r0 : ρ 0 = .slice a N c := outD hf 0 rfl
          rcases Bool.eq_false_or_eq_true ((decide (((i2 : Nat) : Int) < ((hi : Nat) : Int))) == true) with hG | hG
          rotate_left
          · exact .inr ⟨(Eq.trans (wantG1 (j := 3) rfl (f3 (doneD hd 3 rfl))) hG), ⟨hs, f0, f1, f2, f3, fun _ => (condF hG).symm, f5, f6, f7, f8, f9, f10, f11, f12, f13, f14, f15⟩⟩
          ·
            have hgd := of_decide_eq_true (eq_of_beq hG)
            exact .inl ⟨(Eq.trans (wantG1 (j := 3) rfl (f3 (doneD hd 3 rfl))) hG), L_move (V := .slice a N c) r0 ⟨hs, f0, f1, f2, f3, fun _ => (condT hG).symm, f5, f6, f7, f8, f9, f10, f11, f12, f13, f14, f15⟩⟩
        · rintro D ρ wx hD hd hdc hf ⟨hs, f0, f1, f2, f3, f4, f5, f6, f7, f8, f9, f10, f11, f12, f13, f14, f15⟩
          have r7 : ρ 7 = .int .i64 ((i2 : Nat) : Int) := outD hf 7 rfl
          rcases Bool.eq_false_or_eq_true ((decide (((i2 : Nat) : Int) < ((hi : Nat) : Int))) == true) with hG | hG
          rotate_left
          · exact .inr ⟨(Eq.trans (wantG1 (j := 3) rfl (f3 (doneD hd 3 rfl))) hG), ⟨hs, f0, f1, f2, f3, f4, fun _ => (condF hG).symm, f6, f7, f8, f9, f10, f11, f12, f13, f14, f15⟩⟩
          ·
            have hgd := of_decide_eq_true (eq_of_beq hG)
            exact .inl ⟨(Eq.trans (wantG1 (j := 3) rfl (f3 (doneD hd 3 rfl))) hG), L_move (V := .int .i64 ((i2 : Nat) : Int)) r7 ⟨hs, f0, f1, f2, f3, f4, fun _ => (condT hG).symm, f6, f7, f8, f9, f10, f11, f12, f13, f14, f15⟩⟩
        · rintro D ρ wx hD hd hdc hf ⟨hs, f0, f1, f2, f3, f4, f5, f6, f7, f8, f9, f10, f11, f12, f13, f14, f15⟩
          have g4 := f4 (doneD hd 4 rfl)
          have g5 := f5 (doneD hd 5 rfl)
          rcases Bool.eq_false_or_eq_true ((decide (((i2 : Nat) : Int) < ((hi : Nat) : Int))) == true) with hG | hG
          rotate_left
          · exact .inr ⟨(Eq.trans (wantG1 (j := 3) rfl (f3 (doneD hd 3 rfl))) hG), ⟨hs, f0, f1, f2, f3, f4, f5, fun _ => (condF hG).symm, f7, f8, f9, f10, f11, f12, f13, f14, f15⟩⟩
          ·
            have hgd := of_decide_eq_true (eq_of_beq hG)
            exact .inl ⟨(Eq.trans (wantG1 (j := 3) rfl (f3 (doneD hd 3 rfl))) hG), L_ixR UD_72 S1_57.1 (hs.rd 0 rfl) ((g4).trans (condT (by exact hG))) ((g5).trans (condT (by exact hG))) (by omega) (by simp only [List.length_map, Array.length_toList, Array.size_setIfInBounds, Go.Sort.size_swp]; omega) ⟨hs, f0, f1, f2, f3, f4, f5, fun _ => (condT hG).symm, f7, f8, f9, f10, f11, f12, f13, f14, f15⟩⟩
        · rintro D ρ wx hD hd hdc hf ⟨hs, f0, f1, f2, f3, f4, f5, f6, f7, f8, f9, f10, f11, f12, f13, f14, f15⟩
          have g6 := f6 (doneD hd 6 rfl)
          rcases Bool.eq_false_or_eq_true ((decide (((i2 : Nat) : Int) < ((hi : Nat) : Int))) == true) with hG | hG
          rotate_left
          · exact .inr ⟨(Eq.trans (wantG1 (j := 3) rfl (f3 (doneD hd 3 rfl))) hG), ⟨hs, f0, f1, f2, f3, f4, f5, f6, fun _ => (condF hG).symm, f8, f9, f10, f11, f12, f13, f14, f15⟩⟩
          ·
            have hgd := of_decide_eq_true (eq_of_beq hG)
            exact .inl ⟨(Eq.trans (wantG1 (j := 3) rfl (f3 (doneD hd 3 rfl))) hG), L_ldR (j := 0) (V := .int .u16 (d1[i2]!)) i2 S1_57 (hs.rd 0 rfl) (da_at (by omega)) rfl ((g6).trans (condT (by exact hG))) (by omega) ⟨hs, f0, f1, f2, f3, f4, f5, f6, fun _ => (condT hG).symm, f8, f9, f10, f11, f12, f13, f14, f15⟩⟩
        · rintro D ρ wx hD hd hdc hf ⟨hs, f0, f1, f2, f3, f4, f5, f6, f7, f8, f9, f10, f11, f12, f13, f14, f15⟩
          have r0 : ρ 0 = .slice a N c := outD hf 0 rfl
          rcases Bool.eq_false_or_eq_true ((decide (((i2 : Nat) : Int) < ((hi : Nat) : Int))) == true) with hG | hG
          rotate_left
          · exact .inr ⟨(Eq.trans (wantG1 (j := 3) rfl (f3 (doneD hd 3 rfl))) hG), ⟨hs, f0, f1, f2, f3, f4, f5, f6, f7, fun _ => (condF hG).symm, f9, f10, f11, f12, f13, f14, f15⟩⟩
          ·
            have hgd := of_decide_eq_true (eq_of_beq hG)
            exact .inl ⟨(Eq.trans (wantG1 (j := 3) rfl (f3 (doneD hd 3 rfl))) hG), L_move (V := .slice a N c) r0 ⟨hs, f0, f1, f2, f3, f4, f5, f6, f7, fun _ => (condT hG).symm, f9, f10, f11, f12, f13, f14, f15⟩⟩
        · rintro D ρ wx hD hd hdc hf ⟨hs, f0, f1, f2, f3, f4, f5, f6, f7, f8, f9, f10, f11, f12, f13, f14, f15⟩
          have r7 : ρ 7 = .int .i64 ((i2 : Nat) : Int) := outD hf 7 rfl
          rcases Bool.eq_false_or_eq_true ((decide (((i2 : Nat) : Int) < ((hi : Nat) : Int))) == true) with hG | hG
          rotate_left
          · exact .inr ⟨(Eq.trans (wantG1 (j := 3) rfl (f3 (doneD hd 3 rfl))) hG), ⟨hs, f0, f1, f2, f3, f4, f5, f6, f7, f8, fun _ => (condF hG).symm, f10, f11, f12, f13, f14, f15⟩⟩
          ·
            have hgd := of_decide_eq_true (eq_of_beq hG)
            exact .inl ⟨(Eq.trans (wantG1 (j := 3) rfl (f3 (doneD hd 3 rfl))) hG), L_move (V := .int .i64 ((i2 : Nat) : Int)) r7 ⟨hs, f0, f1, f2, f3, f4, f5, f6, f7, f8, fun _ => (condT hG).symm, f10, f11, f12, f13, f14, f15⟩⟩
        · rintro D ρ wx hD hd hdc hf ⟨hs, f0, f1, f2, f3, f4, f5, f6, f7, f8, f9, f10, f11, f12, f13, f14, f15⟩
          have g9 := f9 (doneD hd 9 rfl)
          rcases Bool.eq_false_or_eq_true ((decide (((i2 : Nat) : Int) < ((hi : Nat) : Int))) == true) with hG | hG
          rotate_left
          · exact .inr ⟨(Eq.trans (wantG1 (j := 3) rfl (f3 (doneD hd 3 rfl))) hG), ⟨hs, f0, f1, f2, f3, f4, f5, f6, f7, f8, f9, fun _ => (condF hG).symm, f11, f12, f13, f14, f15⟩⟩
          ·
            have hgd := of_decide_eq_true (eq_of_beq hG)
            exact .inl ⟨(Eq.trans (wantG1 (j := 3) rfl (f3 (doneD hd 3 rfl))) hG), L_sub (a := ((i2 : Nat) : Int)) (b := 1) (c := ((i2 - 1 : Nat) : Int)) ((g9).trans (condT (by exact hG))) rfl (nat_i64 (by omega) (by omega)) ⟨hs, f0, f1, f2, f3, f4, f5, f6, f7, f8, f9, fun _ => (condT hG).symm, f11, f12, f13, f14, f15⟩⟩
        · rintro D ρ wx hD hd hdc hf ⟨hs, f0, f1, f2, f3, f4, f5, f6, f7, f8, f9, f10, f11, f12, f13, f14, f15⟩
          have g8 := f8 (doneD hd 8 rfl)
          have g10 := f10 (doneD hd 10 rfl)
          rcases Bool.eq_false_or_eq_true ((decide (((i2 : Nat) : Int) < ((hi : Nat) : Int))) == true) with hG | hG
          rotate_left
          · exact .inr ⟨(Eq.trans (wantG1 (j := 3) rfl (f3 (doneD hd 3 rfl))) hG), ⟨hs, f0, f1, f2, f3, f4, f5, f6, f7, f8, f9, f10, fun _ => (condF hG).symm, f12, f13, f14, f15⟩⟩
          ·
            have hgd := of_decide_eq_true (eq_of_beq hG)
            exact .inl ⟨(Eq.trans (wantG1 (j := 3) rfl (f3 (doneD hd 3 rfl))) hG), L_ixR UD_72 S1_57.1 (hs.rd 0 rfl) ((g8).trans (condT (by exact hG))) ((g10).trans (condT (by exact hG))) (by omega) (by simp only [List.length_map, Array.length_toList, Array.size_setIfInBounds, Go.Sort.size_swp]; omega) ⟨hs, f0, f1, f2, f3, f4, f5, f6, f7, f8, f9, f10, fun _ => (condT hG).symm, f12, f13, f14, f15⟩⟩
        · rintro D ρ wx hD hd hdc hf ⟨hs, f0, f1, f2, f3, f4, f5, f6, f7, f8, f9, f10, f11, f12, f13, f14, f15⟩
          have g11 := f11 (doneD hd 11 rfl)
          rcases Bool.eq_false_or_eq_true ((decide (((i2 : Nat) : Int) < ((hi : Nat) : Int))) == true) with hG | hG
          rotate_left
          · exact .inr ⟨(Eq.trans (wantG1 (j := 3) rfl (f3 (doneD hd 3 rfl))) hG), ⟨hs, f0, f1, f2, f3, f4, f5, f6, f7, f8, f9, f10, f11, fun _ => (condF hG).symm, f13, f14, f15⟩⟩
          ·
            have hgd := of_decide_eq_true (eq_of_beq hG)
            exact .inl ⟨(Eq.trans (wantG1 (j := 3) rfl (f3 (doneD hd 3 rfl))) hG), L_ldR (j := 0) (V := .int .u16 (d1[i2 - 1]!)) (i2 - 1) S1_57 (hs.rd 0 rfl) (da_at (by omega)) rfl ((g11).trans (condT (by exact hG))) (by omega) ⟨hs, f0, f1, f2, f3, f4, f5, f6, f7, f8, f9, f10, f11, fun _ => (condT hG).symm, f13, f14, f15⟩⟩
        · rintro D ρ wx hD hd hdc hf ⟨hs, f0, f1, f2, f3, f4, f5, f6, f7, f8, f9, f10, f11, f12, f13, f14, f15⟩
          have g7 := f7 (doneD hd 7 rfl)
          have g12 := f12 (doneD hd 12 rfl)
          rcases Bool.eq_false_or_eq_true ((decide (((i2 : Nat) : Int) < ((hi : Nat) : Int))) == true) with hG | hG
          rotate_left
          · exact .inr ⟨(Eq.trans (wantG1 (j := 3) rfl (f3 (doneD hd 3 rfl))) hG), ⟨hs, f0, f1, f2, f3, f4, f5, f6, f7, f8, f9, f10, f11, f12, fun _ => (condF hG).symm, f14, f15⟩⟩
          ·
            have hgd := of_decide_eq_true (eq_of_beq hG)
            exact .inl ⟨(Eq.trans (wantG1 (j := 3) rfl (f3 (doneD hd 3 rfl))) hG), L_callP (vs := [.int .u16 (d1[i2]!), .int .u16 (d1[i2 - 1]!)]) (V := .bool (decide (d1[i2]! < d1[i2 - 1]!))) EN_108 rfl (mapc ((g7).trans (condT (by exact hG))) (mapc ((g12).trans (condT (by exact hG))) rfl)) (less_ok _ (d1[i2]!) (d1[i2 - 1]!)) hs fun _ hs0 => ⟨hs0, f0, f1, f2, f3, f4, f5, f6, f7, f8, f9, f10, f11, f12, fun _ => (condT hG).symm, f14, f15⟩⟩
        · rintro D ρ wx hD hd hdc hf ⟨hs, f0, f1, f2, f3, f4, f5, f6, f7, f8, f9, f10, f11, f12, f13, f14, f15⟩
          have g13 := f13 (doneD hd 13 rfl)
          rcases Bool.eq_false_or_eq_true ((decide (((i2 : Nat) : Int) < ((hi : Nat) : Int))) == true) with hG | hG
          rotate_left
          · exact .inr ⟨(Eq.trans (wantG1 (j := 3) rfl (f3 (doneD hd 3 rfl))) hG), ⟨hs, f0, f1, f2, f3, f4, f5, f6, f7, f8, f9, f10, f11, f12, f13, fun _ => (condF hG).symm, f15⟩⟩
          ·
            have hgd := of_decide_eq_true (eq_of_beq hG)
            exact .inl ⟨(Eq.trans (wantG1 (j := 3) rfl (f3 (doneD hd 3 rfl))) hG), L_not ((g13).trans (condT (by exact hG))) ⟨hs, f0, f1, f2, f3, f4, f5, f6, f7, f8, f9, f10, f11, f12, f13, fun _ => (condT hG).symm, f15⟩⟩
        · rintro D ρ wx hD hd hdc hf ⟨hs, f0, f1, f2, f3, f4, f5, f6, f7, f8, f9, f10, f11, f12, f13, f14, f15⟩
          have g3 := f3 (doneD hd 3 rfl)
          have g14 := f14 (doneD hd 14 rfl)
          exact .inl ⟨rfl, L_and g3 rfl (fun hg => ((g14).trans (condT (by first | exact beqT hg | rfl)))) ⟨hs, f0, f1, f2, f3, f4, f5, f6, f7, f8, f9, f10, f11, f12, f13, f14, fun _ => rfl⟩⟩
        · rintro ρ1 w1 D hD hf ⟨hs, f0, f1, f2, f3, f4, f5, f6, f7, f8, f9, f10, f11, f12, f13, f14, f15⟩
          have e15 := f15 (hD 15 rfl)
          clear f0 f1 f2 f3 f4 f5 f6 f7 f8 f9 f10 f11 f12 f13 f14 f15
          obtain ⟨ρ2, hρ⟩ : ∃ ρ2, ρ1 = upd (mix [17, 18, 19, 20, 21, 22, 23, 24, 25, 26, 27, 28, 29, 30, 31, 32] ρ2 _) 32 (.bool ((decide (((i2 : Nat) : Int) < ((hi : Nat) : Int))) && (!decide (d1[i2]! < d1[i2 - 1]!)))) := ⟨ρ1, upd_of (mix_of (ds := [17, 18, 19, 20, 21, 22, 23, 24, 25, 26, 27, 28, 29, 30, 31, 32]) hf) e15⟩
          clear hf hD e15
          subst hρ
          refine W_cond (t := (decide (((i2 : Nat) : Int) < ((hi : Nat) : Int))) && (!decide (d1[i2]! < d1[i2 - 1]!))) rfl (fun c6 => ?_) (fun c6 => ?_)
          ·
            have c6r := and_r c6
            replace c6 := and_l c6
            replace c6 := of_decide_eq_true c6
            replace c6r := not_t c6r
            replace c6r := of_decide_eq_false c6r
            refine W_skip ?_
            refine W_block ?_
            refine W_region ?_
            refine RW_op (L_move (V := .int .i64 ((i2 : Nat) : Int)) rfl ?_)
            refine RW_op (L_add (a := ((i2 : Nat) : Int)) (b := 1) (c := ((i2 + 1 : Nat) : Int)) rfl rfl (nat_i64 (by omega) (by omega)) ?_)
            refine RW_op (L_assign (V := .int .i64 ((i2 + 1 : Nat) : Int)) rfl ?_)
            refine RW_nil ?_
            refine ⟨_, ?_, _, i2 + 1, upd_of (mix_of (ds := [7, 17, 18, 19, 20, 21, 22, 23, 24, 25, 26, 27, 28, 29, 30, 31, 32, 33, 34]) (by repeat (first | exact Agr.refl _ _ | refine Agr.upd ?_ rfl | refine Agr.mix ?_ rfl))) rfl, (by omega), (by omega), (by rw [← hsc, ss_yes c6 c6r]), rfl, hs.take 1⟩
            omega
          ·
            refine W_exit ?_
            refine W_seq ?_
            refine W_seq ?_
            have hi2e : i2 = Sort.scanSorted Sort.ltInt d1 hi i := by rw [← hsc, ss_no c6]
            refine W_region ?_
            refine RW_op (L_move (V := .int .i64 ((i2 : Nat) : Int)) rfl ?_)
            refine RW_op (L_move (V := .int .i64 ((hi : Nat) : Int)) rfl ?_)
            refine RW_op (L_eql rfl rfl ?_)
            refine RW_nil ?_
            refine W_cond (t := decide (((i2 : Nat) : Int) = ((hi : Nat) : Int))) rfl (fun c7 => ?_) (fun c7 => ?_)
            ·
              replace c7 := of_decide_eq_true c7
              refine W_seq ?_
              refine W_region ?_
              refine RW_op (L_assign (V := .bool true) rfl ?_)
              refine RW_nil ?_
              refine W_ret ?_
              refine ⟨_, res_one (V := .bool true) Try.results107 rfl, ?_⟩
              have hX : Sort.partialInsertionSort Sort.ltInt d lo hi = (d1, true) := by rw [← hev, pi_step (q := q) (by omega) hi2e, if_pos (by omega)]
              rw [hX]
              exact ⟨(), rfl, hs.take 1, hz1⟩
            ·
              replace c7 := of_decide_eq_false c7
              refine W_skip ?_
              refine W_seq ?_
              refine W_seq ?_
              refine W_region ?_
              refine RW_op (L_move (V := .int .i64 ((hi : Nat) : Int)) rfl ?_)
              refine RW_op (L_move (V := .int .i64 ((lo : Nat) : Int)) rfl ?_)
              refine RW_op (L_sub (a := ((hi : Nat) : Int)) (b := ((lo : Nat) : Int)) (c := ((hi - lo : Nat) : Int)) rfl rfl (nat_i64 (by omega) (by omega)) ?_)
              refine RW_op (L_lss rfl rfl ?_)
              refine RW_nil ?_
              refine W_cond (t := decide (((hi - lo : Nat) : Int) < 50)) rfl (fun c8 => ?_) (fun c8 => ?_)
              ·
                replace c8 := of_decide_eq_true c8
                refine W_seq ?_
                refine W_region ?_
                refine RW_op (L_assign (V := .bool false) rfl ?_)
                refine RW_nil ?_
                refine W_ret ?_
                refine ⟨_, res_one (V := .bool false) Try.results107 rfl, ?_⟩
                have hX : Sort.partialInsertionSort Sort.ltInt d lo hi = (d1, false) := by rw [← hev, pi_step (q := q) (by omega) hi2e, if_neg (by omega), if_pos (by omega)]
                rw [hX]
                exact ⟨(), rfl, hs.take 1, hz1⟩
              ·
                replace c8 := of_decide_eq_false c8
                refine W_skip ?_
                refine W_seq ?_
                replace hs := hs.drew
                refine W_draw2 HM [42, 43, 44, 45, 46, 47, 48, 49, 50, 51, 52, 53, 54, 55, 56, 57] [[], [], [], [], [3], [], [], [6], [5, 7], [8], [], [], [10, 11], [12], [0, 1, 0, 1, 5, 6, 7, 8, 9, 13], [14, 9, 0, 1, 5, 6, 7, 8, 9, 13], [2, 4, 0, 1, 2, 3, 4, 5, 6, 7, 8, 9, 10, 11, 12, 13, 14, 15], [16, 13, 15, 0, 1, 2, 3, 4, 5, 6, 7, 8, 9, 10, 11, 12, 13, 14, 15]] (fun D ρ wx => Own w S wx [cond (D 17) (row (.slice a N c) ((((d1.setIfInBounds i2 (d1[i2 - 1]!)).setIfInBounds (i2 - 1) (d1[i2]!)).toList).map (ic .u16)) 57 1) (cond (D 15) (row (.slice a N c) (((d1.setIfInBounds i2 (d1[i2 - 1]!)).toList).map (ic .u16)) 57 1) (row (.slice a N c) (d1.toList.map (ic .u16)) 57 1))] ∧ (D 0 = true → ρ 42 = .slice a N c) ∧ (D 1 = true → ρ 43 = .int .i64 ((i2 : Nat) : Int)) ∧ (D 2 = true → ρ 44 = .slice a N c) ∧ (D 3 = true → ρ 45 = .int .i64 ((i2 : Nat) : Int)) ∧ (D 4 = true → ρ 46 = .int .i64 ((i2 - 1 : Nat) : Int)) ∧ (D 5 = true → ρ 47 = .slice a N c) ∧ (D 6 = true → ρ 48 = .int .i64 ((i2 : Nat) : Int)) ∧ (D 7 = true → ρ 49 = .int .i64 ((i2 - 1 : Nat) : Int)) ∧ (D 8 = true → ρ 50 = .pointer (some ⟨bkS (.slice a N c), ofS (.slice a N c) + ((i2 - 1 : Nat) : Int).toNat * 1, none⟩)) ∧ (D 9 = true → ρ 51 = .int .u16 (d1[i2 - 1]!)) ∧ (D 10 = true → ρ 52 = .slice a N c) ∧ (D 11 = true → ρ 53 = .int .i64 ((i2 : Nat) : Int)) ∧ (D 12 = true → ρ 54 = .pointer (some ⟨bkS (.slice a N c), ofS (.slice a N c) + ((i2 : Nat) : Int).toNat * 1, none⟩)) ∧ (D 13 = true → ρ 55 = .int .u16 (d1[i2]!)) ∧ (D 14 = true → ρ 56 = .pointer (some ⟨bkS (.slice a N c), ofS (.slice a N c) + ((i2 : Nat) : Int).toNat * 1, none⟩)) ∧ (True) ∧ (D 16 = true → ρ 57 = .pointer (some ⟨bkS (.slice a N c), ofS (.slice a N c) + ((i2 - 1 : Nat) : Int).toNat * 1, none⟩)) ∧ (True)) rfl rfl rfl ⟨hs, fun h => absurd h Bool.false_ne_true, fun h => absurd h Bool.false_ne_true, fun h => absurd h Bool.false_ne_true, fun h => absurd h Bool.false_ne_true, fun h => absurd h Bool.false_ne_true, fun h => absurd h Bool.false_ne_true, fun h => absurd h Bool.false_ne_true, fun h => absurd h Bool.false_ne_true, fun h => absurd h Bool.false_ne_true, fun h => absurd h Bool.false_ne_true, fun h => absurd h Bool.false_ne_true, fun h => absurd h Bool.false_ne_true, fun h => absurd h Bool.false_ne_true, fun h => absurd h Bool.false_ne_true, fun h => absurd h Bool.false_ne_true, trivial, fun h => absurd h Bool.false_ne_true, trivial⟩ ⟨?_, ?_, ?_, ?_, ?_, ?_, ?_, ?_, ?_, ?_, ?_, ?_, ?_, ?_, ?_, ?_, ?_, ?_, trivial⟩ ?_
                · rintro D ρ wx hD hd hdc hf ⟨hs, f0, f1, f2, f3, f4, f5, f6, f7, f8, f9, f10, f11, f12, f13, f14, f15, f16, f17⟩
                  have r0 : ρ 0 = .slice a N c := outD hf 0 rfl
                  exact .inl ⟨rfl, L_move (V := .slice a N c) r0 ⟨hs, fun _ => rfl, f1, f2, f3, f4, f5, f6, f7, f8, f9, f10, f11, f12, f13, f14, f15, f16, f17⟩⟩
                · rintro D ρ wx hD hd hdc hf ⟨hs, f0, f1, f2, f3, f4, f5, f6, f7, f8, f9, f10, f11, f12, f13, f14, f15, f16, f17⟩
                  have r7 : ρ 7 = .int .i64 ((i2 : Nat) : Int) := outD hf 7 rfl
                  exact .inl ⟨rfl, L_move (V := .int .i64 ((i2 : Nat) : Int)) r7 ⟨hs, f0, fun _ => rfl, f2, f3, f4, f5, f6, f7, f8, f9, f10, f11, f12, f13, f14, f15, f16, f17⟩⟩
                · rintro D ρ wx hD hd hdc hf ⟨hs, f0, f1, f2, f3, f4, f5, f6, f7, f8, f9, f10, f11, f12, f13, f14, f15, f16, f17⟩
                  have r0 : ρ 0 = .slice a N c := outD hf 0 rfl
                  exact .inl ⟨rfl, L_move (V := .slice a N c) r0 ⟨hs, f0, f1, fun _ => rfl, f3, f4, f5, f6, f7, f8, f9, f10, f11, f12, f13, f14, f15, f16, f17⟩⟩
                · rintro D ρ wx hD hd hdc hf ⟨hs, f0, f1, f2, f3, f4, f5, f6, f7, f8, f9, f10, f11, f12, f13, f14, f15, f16, f17⟩
                  have r7 : ρ 7 = .int .i64 ((i2 : Nat) : Int) := outD hf 7 rfl
                  exact .inl ⟨rfl, L_move (V := .int .i64 ((i2 : Nat) : Int)) r7 ⟨hs, f0, f1, f2, fun _ => rfl, f4, f5, f6, f7, f8, f9, f10, f11, f12, f13, f14, f15, f16, f17⟩⟩
                · rintro D ρ wx hD hd hdc hf ⟨hs, f0, f1, f2, f3, f4, f5, f6, f7, f8, f9, f10, f11, f12, f13, f14, f15, f16, f17⟩
                  have g3 := f3 (doneD hd 3 rfl)
                  exact .inl ⟨rfl, L_sub (a := ((i2 : Nat) : Int)) (b := 1) (c := ((i2 - 1 : Nat) : Int)) g3 rfl (nat_i64 (by omega) (by omega)) ⟨hs, f0, f1, f2, f3, fun _ => rfl, f5, f6, f7, f8, f9, f10, f11, f12, f13, f14, f15, f16, f17⟩⟩
                · rintro D ρ wx hD hd hdc hf ⟨hs, f0, f1, f2, f3, f4, f5, f6, f7, f8, f9, f10, f11, f12, f13, f14, f15, f16, f17⟩
                  have r0 : ρ 0 = .slice a N c := outD hf 0 rfl
                  exact .inl ⟨rfl, L_move (V := .slice a N c) r0 ⟨hs, f0, f1, f2, f3, f4, fun _ => rfl, f6, f7, f8, f9, f10, f11, f12, f13, f14, f15, f16, f17⟩⟩
                · rintro D ρ wx hD hd hdc hf ⟨hs, f0, f1, f2, f3, f4, f5, f6, f7, f8, f9, f10, f11, f12, f13, f14, f15, f16, f17⟩
                  have r7 : ρ 7 = .int .i64 ((i2 : Nat) : Int) := outD hf 7 rfl
                  exact .inl ⟨rfl, L_move (V := .int .i64 ((i2 : Nat) : Int)) r7 ⟨hs, f0, f1, f2, f3, f4, f5, fun _ => rfl, f7, f8, f9, f10, f11, f12, f13, f14, f15, f16, f17⟩⟩
                · rintro D ρ wx hD hd hdc hf ⟨hs, f0, f1, f2, f3, f4, f5, f6, f7, f8, f9, f10, f11, f12, f13, f14, f15, f16, f17⟩
                  have g6 := f6 (doneD hd 6 rfl)
                  exact .inl ⟨rfl, L_sub (a := ((i2 : Nat) : Int)) (b := 1) (c := ((i2 - 1 : Nat) : Int)) g6 rfl (nat_i64 (by omega) (by omega)) ⟨hs, f0, f1, f2, f3, f4, f5, f6, fun _ => rfl, f8, f9, f10, f11, f12, f13, f14, f15, f16, f17⟩⟩
                · rintro D ρ wx hD hd hdc hf ⟨hs, f0, f1, f2, f3, f4, f5, f6, f7, f8, f9, f10, f11, f12, f13, f14, f15, f16, f17⟩
                  have g5 := f5 (doneD hd 5 rfl)
                  have g7 := f7 (doneD hd 7 rfl)
                  have d15 : D 15 = false := (notYetD hdc (j := 15) rfl rfl hD)
                  have d17 : D 17 = false := (notYetD hdc (j := 17) rfl rfl hD)
                  have hs0 := hs; rw [d15, d17] at hs0
                  exact .inl ⟨rfl, L_ixR UD_72 S1_57.1 (hs0.rd 0 rfl) g5 g7 (by omega) (by simp only [List.length_map, Array.length_toList, Array.size_setIfInBounds, Go.Sort.size_swp]; omega) ⟨hs, f0, f1, f2, f3, f4, f5, f6, f7, fun _ => rfl, f9, f10, f11, f12, f13, f14, f15, f16, f17⟩⟩
                · rintro D ρ wx hD hd hdc hf ⟨hs, f0, f1, f2, f3, f4, f5, f6, f7, f8, f9, f10, f11, f12, f13, f14, f15, f16, f17⟩
                  have g8 := f8 (doneD hd 8 rfl)
                  have d15 : D 15 = false := (notYetD hdc (j := 15) rfl rfl hD)
                  have d17 : D 17 = false := (notYetD hdc (j := 17) rfl rfl hD)
                  have hs0 := hs; rw [d15, d17] at hs0
                  exact .inl ⟨rfl, L_ldR (j := 0) (V := .int .u16 (d1[i2 - 1]!)) (i2 - 1) S1_57 (hs0.rd 0 rfl) (da_at (by omega)) rfl g8 (by omega) ⟨hs, f0, f1, f2, f3, f4, f5, f6, f7, f8, fun _ => rfl, f10, f11, f12, f13, f14, f15, f16, f17⟩⟩
                · rintro D ρ wx hD hd hdc hf ⟨hs, f0, f1, f2, f3, f4, f5, f6, f7, f8, f9, f10, f11, f12, f13, f14, f15, f16, f17⟩
                  have r0 : ρ 0 = .slice a N c := outD hf 0 rfl
                  exact .inl ⟨rfl, L_move (V := .slice a N c) r0 ⟨hs, f0, f1, f2, f3, f4, f5, f6, f7, f8, f9, fun _ => rfl, f11, f12, f13, f14, f15, f16, f17⟩⟩
                · rintro D ρ wx hD hd hdc hf ⟨hs, f0, f1, f2, f3, f4, f5, f6, f7, f8, f9, f10, f11, f12, f13, f14, f15, f16, f17⟩
                  have r7 : ρ 7 = .int .i64 ((i2 : Nat) : Int) := outD hf 7 rfl
                  exact .inl ⟨rfl, L_move (V := .int .i64 ((i2 : Nat) : Int)) r7 ⟨hs, f0, f1, f2, f3, f4, f5, f6, f7, f8, f9, f10, fun _ => rfl, f12, f13, f14, f15, f16, f17⟩⟩
                · rintro D ρ wx hD hd hdc hf ⟨hs, f0, f1, f2, f3, f4, f5, f6, f7, f8, f9, f10, f11, f12, f13, f14, f15, f16, f17⟩
                  have g10 := f10 (doneD hd 10 rfl)
                  have g11 := f11 (doneD hd 11 rfl)
                  have d15 : D 15 = false := (notYetD hdc (j := 15) rfl rfl (notYetD hdc (j := 13) rfl rfl hD))
                  have d17 : D 17 = false := (notYetD hdc (j := 17) rfl rfl hD)
                  have hs0 := hs; rw [d15, d17] at hs0
                  exact .inl ⟨rfl, L_ixR UD_72 S1_57.1 (hs0.rd 0 rfl) g10 g11 (by omega) (by simp only [List.length_map, Array.length_toList, Array.size_setIfInBounds, Go.Sort.size_swp]; omega) ⟨hs, f0, f1, f2, f3, f4, f5, f6, f7, f8, f9, f10, f11, fun _ => rfl, f13, f14, f15, f16, f17⟩⟩
                · rintro D ρ wx hD hd hdc hf ⟨hs, f0, f1, f2, f3, f4, f5, f6, f7, f8, f9, f10, f11, f12, f13, f14, f15, f16, f17⟩
                  have g12 := f12 (doneD hd 12 rfl)
                  have d15 : D 15 = false := (notYetD hdc (j := 15) rfl rfl hD)
                  have d17 : D 17 = false := (notYetD hdc (j := 17) rfl rfl hD)
                  have hs0 := hs; rw [d15, d17] at hs0
                  exact .inl ⟨rfl, L_ldR (j := 0) (V := .int .u16 (d1[i2]!)) i2 S1_57 (hs0.rd 0 rfl) (da_at (by omega)) rfl g12 (by omega) ⟨hs, f0, f1, f2, f3, f4, f5, f6, f7, f8, f9, f10, f11, f12, fun _ => rfl, f14, f15, f16, f17⟩⟩
                · rintro D ρ wx hD hd hdc hf ⟨hs, f0, f1, f2, f3, f4, f5, f6, f7, f8, f9, f10, f11, f12, f13, f14, f15, f16, f17⟩
                  have g0 := f0 (doneD hd 0 rfl)
                  have g1 := f1 (doneD hd 1 rfl)
                  have d15 : D 15 = false := (notYetD hdc (j := 15) rfl rfl hD)
                  have d17 : D 17 = false := (notYetD hdc (j := 17) rfl rfl hD)
                  have hs0 := hs; rw [d15, d17] at hs0
                  exact .inl ⟨rfl, L_ixR UD_72 S1_57.1 (hs0.rd 0 rfl) g0 g1 (by omega) (by simp only [List.length_map, Array.length_toList, Array.size_setIfInBounds, Go.Sort.size_swp]; omega) ⟨hs, f0, f1, f2, f3, f4, f5, f6, f7, f8, f9, f10, f11, f12, f13, fun _ => rfl, f15, f16, f17⟩⟩
                · rintro D ρ wx hD hd hdc hf ⟨hs, f0, f1, f2, f3, f4, f5, f6, f7, f8, f9, f10, f11, f12, f13, f14, f15, f16, f17⟩
                  have g9 := f9 (doneD hd 9 rfl)
                  have g14 := f14 (doneD hd 14 rfl)
                  have d15 : D 15 = false := hD
                  have d17 : D 17 = false := (notYetD hdc (j := 17) rfl rfl hD)
                  have hs0 := hs; rw [d15, d17] at hs0
                  refine .inl ⟨rfl, L_stA (z := d1[i2 - 1]!) i2 S1_57 hs0 0 rfl g14 (by omega) (by first | omega | (simp only [Array.size_setIfInBounds, Go.Sort.size_swp]; omega)) g9 rfl rfl fun _ hs0 => ⟨?_, f0, f1, f2, f3, f4, f5, f6, f7, f8, f9, f10, f11, f12, f13, f14, trivial, f16, f17⟩⟩
                  rw [show Go.Vx.mark D 15 17 = false from d17]
                  exact hs0
                · rintro D ρ wx hD hd hdc hf ⟨hs, f0, f1, f2, f3, f4, f5, f6, f7, f8, f9, f10, f11, f12, f13, f14, f15, f16, f17⟩
                  have g2 := f2 (doneD hd 2 rfl)
                  have g4 := f4 (doneD hd 4 rfl)
                  have d15 : D 15 = true := doneD hd 15 rfl
                  have d17 : D 17 = false := (notYetD hdc (j := 17) rfl rfl hD)
                  have hs0 := hs; rw [d15, d17] at hs0
                  exact .inl ⟨rfl, L_ixR UD_72 S1_57.1 (hs0.rd 0 rfl) g2 g4 (by omega) (by simp only [List.length_map, Array.length_toList, Array.size_setIfInBounds, Go.Sort.size_swp]; omega) ⟨hs, f0, f1, f2, f3, f4, f5, f6, f7, f8, f9, f10, f11, f12, f13, f14, f15, fun _ => rfl, f17⟩⟩
                · rintro D ρ wx hD hd hdc hf ⟨hs, f0, f1, f2, f3, f4, f5, f6, f7, f8, f9, f10, f11, f12, f13, f14, f15, f16, f17⟩
                  have g13 := f13 (doneD hd 13 rfl)
                  have g16 := f16 (doneD hd 16 rfl)
                  have d15 : D 15 = true := doneD hd 15 rfl
                  have d17 : D 17 = false := hD
                  have hs0 := hs; rw [d15, d17] at hs0
                  refine .inl ⟨rfl, L_stA (z := d1[i2]!) (i2 - 1) S1_57 hs0 0 rfl g16 (by omega) (by first | omega | (simp only [Array.size_setIfInBounds, Go.Sort.size_swp]; omega)) g13 rfl rfl fun _ hs0 => ⟨?_, f0, f1, f2, f3, f4, f5, f6, f7, f8, f9, f10, f11, f12, f13, f14, f15, f16, trivial⟩⟩
                  rw [show Go.Vx.mark D 17 15 = true from d15]
                  exact hs0
                · rintro ρ1 w1 D hD hf ⟨hs, f0, f1, f2, f3, f4, f5, f6, f7, f8, f9, f10, f11, f12, f13, f14, f15, f16, f17⟩
                  rw [hD 15 rfl, hD 17 rfl] at hs
                  clear f0 f1 f2 f3 f4 f5 f6 f7 f8 f9 f10 f11 f12 f13 f14 f15 f16 f17
                  obtain ⟨ρ2, hρ⟩ : ∃ ρ2, ρ1 = mix [42, 43, 44, 45, 46, 47, 48, 49, 50, 51, 52, 53, 54, 55, 56, 57] ρ2 _ := ⟨ρ1, mix_of (ds := [42, 43, 44, 45, 46, 47, 48, 49, 50, 51, 52, 53, 54, 55, 56, 57]) hf⟩
                  clear hf hD
                  subst hρ
                  refine W_seq ?_
                  refine W_seq ?_
                  refine W_region ?_
                  refine RW_op (L_move (V := .int .i64 ((i2 : Nat) : Int)) rfl ?_)
                  refine RW_op (L_move (V := .int .i64 ((lo : Nat) : Int)) rfl ?_)
                  refine RW_op (L_sub (a := ((i2 : Nat) : Int)) (b := ((lo : Nat) : Int)) (c := ((i2 - lo : Nat) : Int)) rfl rfl (nat_i64 (by omega) (by omega)) ?_)
                  refine RW_op (L_geq rfl rfl ?_)
                  refine RW_nil ?_
                  refine W_mid (fun ρ ρ' w' => ∃ (ρo : Env) (d3 : Array Int), ρ' = mix [9, 62, 63, 64, 65, 66, 67, 68, 69, 70, 71, 72, 73, 74, 75, 76, 77, 78, 79, 80, 81, 82, 83, 84, 85, 86, 87, 88, 89, 90, 91, 92, 93, 94] ρo ρ ∧ (d3 = dnI lo i2 (Sort.swp d1 i2 (i2 - 1))) ∧ (d3.size = N) ∧ Own w S w' [row (.slice a N c) (d3.toList.map (ic .u16)) 57 1]) ?_ ?_
                  ·
                    refine W_cond (t := decide (2 ≤ ((i2 - lo : Nat) : Int))) rfl (fun c12 => ?_) (fun c12 => ?_)
                    ·
                      replace c12 := of_decide_eq_true c12
                      refine W_seq ?_
                      refine W_region ?_
                      refine RW_op (L_move (V := .int .i64 ((i2 : Nat) : Int)) rfl ?_)
                      refine RW_op (L_sub (a := ((i2 : Nat) : Int)) (b := 1) (c := ((i2 - 1 : Nat) : Int)) rfl rfl (nat_i64 (by omega) (by omega)) ?_)
                      refine RW_op (L_assign (V := .int .i64 ((i2 - 1 : Nat) : Int)) rfl ?_)
                      refine RW_nil ?_
                      refine W_block ?_
                      refine W_loopI (fun ρ m ρ' w' => ∃ (ρo : Env) (j : Nat) (d4 : Array Int), ρ' = upd (mix [9, 64, 65, 66, 67, 68, 69, 70, 71, 72, 73, 74, 75, 76, 77, 78, 79, 80, 81, 82, 83, 84, 85, 86, 87, 88, 89, 90, 91, 92, 93, 94] ρo ρ) 9 (.int .i64 ((j : Nat) : Int)) ∧ (j < hi) ∧ (d4.size = N) ∧ (Sort.shiftDown Sort.ltInt j d4 = Sort.shiftDown Sort.ltInt (i2 - 1) (Sort.swp d1 i2 (i2 - 1))) ∧ m = 2 * j ∧ Own w S w' [row (.slice a N c) (d4.toList.map (ic .u16)) 57 1]) ?_ ?_
                      · exact ⟨_, _, i2 - 1, ((d1.setIfInBounds i2 (d1[i2 - 1]!)).setIfInBounds (i2 - 1) (d1[i2]!)), upd_of (mix_of (ds := [9, 64, 65, 66, 67, 68, 69, 70, 71, 72, 73, 74, 75, 76, 77, 78, 79, 80, 81, 82, 83, 84, 85, 86, 87, 88, 89, 90, 91, 92, 93, 94]) (Agr.refl _ _)) rfl, (by omega), (by simp only [Array.size_setIfInBounds]; exact hz1), rfl, rfl, hs⟩
                      · rintro m ρ' w13 ⟨ρo, j, d4, rfl, hj, hz4, hdn, rfl, hs⟩
                        refine W_seq ?_
                        refine W_seq ?_
                        refine W_region ?_
                        refine RW_op (L_move (V := .int .i64 ((j : Nat) : Int)) rfl ?_)
                        refine RW_op (L_geq rfl rfl ?_)
                        refine RW_nil ?_
                        refine W_cond (t := decide (1 ≤ ((j : Nat) : Int))) rfl (fun c14 => ?_) (fun c14 => ?_)
                        ·
                          replace c14 := of_decide_eq_true c14
                          refine W_skip ?_
                          refine W_seq ?_
                          refine W_block ?_
                          refine W_seq ?_
                          refine W_seq ?_
                          replace hs := hs.drew
                          refine W_draw2 HM [68, 69, 70, 71, 72, 73, 74, 75, 76, 77, 78] [[], [], [0, 1], [2], [], [], [5], [4, 6], [7], [3, 8], [9]] (fun D ρ wx => Own w S wx [row (.slice a N c) (d4.toList.map (ic .u16)) 57 1] ∧ (D 0 = true → ρ 68 = .slice a N c) ∧ (D 1 = true → ρ 69 = .int .i64 ((j : Nat) : Int)) ∧ (D 2 = true → ρ 70 = .pointer (some ⟨bkS (.slice a N c), ofS (.slice a N c) + ((j : Nat) : Int).toNat * 1, none⟩)) ∧ (D 3 = true → ρ 71 = .int .u16 (d4[j]!)) ∧ (D 4 = true → ρ 72 = .slice a N c) ∧ (D 5 = true → ρ 73 = .int .i64 ((j : Nat) : Int)) ∧ (D 6 = true → ρ 74 = .int .i64 ((j - 1 : Nat) : Int)) ∧ (D 7 = true → ρ 75 = .pointer (some ⟨bkS (.slice a N c), ofS (.slice a N c) + ((j - 1 : Nat) : Int).toNat * 1, none⟩)) ∧ (D 8 = true → ρ 76 = .int .u16 (d4[j - 1]!)) ∧ (D 9 = true → ρ 77 = .bool (decide (d4[j]! < d4[j - 1]!))) ∧ (D 10 = true → ρ 78 = .bool (!decide (d4[j]! < d4[j - 1]!)))) rfl rfl rfl ⟨hs, fun h => absurd h Bool.false_ne_true, fun h => absurd h Bool.false_ne_true, fun h => absurd h Bool.false_ne_true, fun h => absurd h Bool.false_ne_true, fun h => absurd h Bool.false_ne_true, fun h => absurd h Bool.false_ne_true, fun h => absurd h Bool.false_ne_true, fun h => absurd h Bool.false_ne_true, fun h => absurd h Bool.false_ne_true, fun h => absurd h Bool.false_ne_true, fun h => absurd h Bool.false_ne_true⟩ ⟨?_, ?_, ?_, ?_, ?_, ?_, ?_, ?_, ?_, ?_, ?_, trivial⟩ ?_
                          · rintro D ρ wx hD hd hdc hf ⟨hs, f0, f1, f2, f3, f4, f5, f6, f7, f8, f9, f10⟩
                            have r0 : ρ 0 = .slice a N c := outD hf 0 rfl
                            exact .inl ⟨rfl, L_move (V := .slice a N c) r0 ⟨hs, fun _ => rfl, f1, f2, f3, f4, f5, f6, f7, f8, f9, f10⟩⟩
                          · rintro D ρ wx hD hd hdc hf ⟨hs, f0, f1, f2, f3, f4, f5, f6, f7, f8, f9, f10⟩
                            have r9 : ρ 9 = .int .i64 ((j : Nat) : Int) := outD hf 9 rfl
                            exact .inl ⟨rfl, L_move (V := .int .i64 ((j : Nat) : Int)) r9 ⟨hs, f0, fun _ => rfl, f2, f3, f4, f5, f6, f7, f8, f9, f10⟩⟩
                          · rintro D ρ wx hD hd hdc hf ⟨hs, f0, f1, f2, f3, f4, f5, f6, f7, f8, f9, f10⟩
                            have g0 := f0 (doneD hd 0 rfl)
                            have g1 := f1 (doneD hd 1 rfl)
                            exact .inl ⟨rfl, L_ixR UD_72 S1_57.1 (hs.rd 0 rfl) g0 g1 (by omega) (by simp only [List.length_map, Array.length_toList, Array.size_setIfInBounds, Go.Sort.size_swp]; omega) ⟨hs, f0, f1, fun _ => rfl, f3, f4, f5, f6, f7, f8, f9, f10⟩⟩
                          · rintro D ρ wx hD hd hdc hf ⟨hs, f0, f1, f2, f3, f4, f5, f6, f7, f8, f9, f10⟩
                            have g2 := f2 (doneD hd 2 rfl)
                            exact .inl ⟨rfl, L_ldR (j := 0) (V := .int .u16 (d4[j]!)) j S1_57 (hs.rd 0 rfl) (da_at (by omega)) rfl g2 (by omega) ⟨hs, f0, f1, f2, fun _ => rfl, f4, f5, f6, f7, f8, f9, f10⟩⟩
                          · rintro D ρ wx hD hd hdc hf ⟨hs, f0, f1, f2, f3, f4, f5, f6, f7, f8, f9, f10⟩
                            have r0 : ρ 0 = .slice a N c := outD hf 0 rfl
                            exact .inl ⟨rfl, L_move (V := .slice a N c) r0 ⟨hs, f0, f1, f2, f3, fun _ => rfl, f5, f6, f7, f8, f9, f10⟩⟩
                          · rintro D ρ wx hD hd hdc hf ⟨hs, f0, f1, f2, f3, f4, f5, f6, f7, f8, f9, f10⟩
                            have r9 : ρ 9 = .int .i64 ((j : Nat) : Int) := outD hf 9 rfl
                            exact .inl ⟨rfl, L_move (V := .int .i64 ((j : Nat) : Int)) r9 ⟨hs, f0, f1, f2, f3, f4, fun _ => rfl, f6, f7, f8, f9, f10⟩⟩
                          · rintro D ρ wx hD hd hdc hf ⟨hs, f0, f1, f2, f3, f4, f5, f6, f7, f8, f9, f10⟩
                            have g5 := f5 (doneD hd 5 rfl)
                            exact .inl ⟨rfl, L_sub (a := ((j : Nat) : Int)) (b := 1) (c := ((j - 1 : Nat) : Int)) g5 rfl (nat_i64 (by omega) (by omega)) ⟨hs, f0, f1, f2, f3, f4, f5, fun _ => rfl, f7, f8, f9, f10⟩⟩
                          · rintro D ρ wx hD hd hdc hf ⟨hs, f0, f1, f2, f3, f4, f5, f6, f7, f8, f9, f10⟩
                            have g4 := f4 (doneD hd 4 rfl)
                            have g6 := f6 (doneD hd 6 rfl)
                            exact .inl ⟨rfl, L_ixR UD_72 S1_57.1 (hs.rd 0 rfl) g4 g6 (by omega) (by simp only [List.length_map, Array.length_toList, Array.size_setIfInBounds, Go.Sort.size_swp]; omega) ⟨hs, f0, f1, f2, f3, f4, f5, f6, fun _ => rfl, f8, f9, f10⟩⟩
                          · rintro D ρ wx hD hd hdc hf ⟨hs, f0, f1, f2, f3, f4, f5, f6, f7, f8, f9, f10⟩
                            have g7 := f7 (doneD hd 7 rfl)
                            exact .inl ⟨rfl, L_ldR (j := 0) (V := .int .u16 (d4[j - 1]!)) (j - 1) S1_57 (hs.rd 0 rfl) (da_at (by omega)) rfl g7 (by omega) ⟨hs, f0, f1, f2, f3, f4, f5, f6, f7, fun _ => rfl, f9, f10⟩⟩
                          · rintro D ρ wx hD hd hdc hf ⟨hs, f0, f1, f2, f3, f4, f5, f6, f7, f8, f9, f10⟩
                            have g3 := f3 (doneD hd 3 rfl)
                            have g8 := f8 (doneD hd 8 rfl)
                            exact .inl ⟨rfl, L_callP (vs := [.int .u16 (d4[j]!), .int .u16 (d4[j - 1]!)]) (V := .bool (decide (d4[j]! < d4[j - 1]!))) EN_108 rfl (mapc g3 (mapc g8 rfl)) (less_ok _ (d4[j]!) (d4[j - 1]!)) hs fun _ hs0 => ⟨hs0, f0, f1, f2, f3, f4, f5, f6, f7, f8, fun _ => rfl, f10⟩⟩
                          · rintro D ρ wx hD hd hdc hf ⟨hs, f0, f1, f2, f3, f4, f5, f6, f7, f8, f9, f10⟩
                            have g9 := f9 (doneD hd 9 rfl)
                            exact .inl ⟨rfl, L_not g9 ⟨hs, f0, f1, f2, f3, f4, f5, f6, f7, f8, f9, fun _ => rfl⟩⟩
                          · rintro ρ1 w1 D hD hf ⟨hs, f0, f1, f2, f3, f4, f5, f6, f7, f8, f9, f10⟩
                            have e10 := f10 (hD 10 rfl)
                            clear f0 f1 f2 f3 f4 f5 f6 f7 f8 f9 f10
                            obtain ⟨ρ2, hρ⟩ : ∃ ρ2, ρ1 = upd (mix [68, 69, 70, 71, 72, 73, 74, 75, 76, 77, 78] ρ2 _) 78 (.bool (!decide (d4[j]! < d4[j - 1]!))) := ⟨ρ1, upd_of (mix_of (ds := [68, 69, 70, 71, 72, 73, 74, 75, 76, 77, 78]) hf) e10⟩
                            clear hf hD e10
                            subst hρ
                            refine W_cond (t := !decide (d4[j]! < d4[j - 1]!)) rfl (fun c17 => ?_) (fun c17 => ?_)
                            ·
                              replace c17 := not_t c17
                              replace c17 := of_decide_eq_false c17
                              refine W_exit ?_
                              exact ⟨_, d4, mix_of (ds := [9, 62, 63, 64, 65, 66, 67, 68, 69, 70, 71, 72, 73, 74, 75, 76, 77, 78, 79, 80, 81, 82, 83, 84, 85, 86, 87, 88, 89, 90, 91, 92, 93, 94]) (by repeat (first | exact Agr.refl _ _ | refine Agr.upd ?_ rfl | refine Agr.mix ?_ rfl)), (by unfold dnI; rw [if_pos (by omega), ← hdn, dn_no c17]), hz4, hs.take 1⟩
                            ·
                              replace c17 := not_f c17
                              replace c17 := of_decide_eq_true c17
                              refine W_skip ?_
                              replace hs := hs.drew
                              refine W_draw2 HM [79, 80, 81, 82, 83, 84, 85, 86, 87, 88, 89, 90, 91, 92, 93, 94] [[], [], [], [], [3], [], [], [6], [5, 7], [8], [], [], [10, 11], [12], [0, 1, 0, 1, 5, 6, 7, 8, 9, 13], [14, 9, 0, 1, 5, 6, 7, 8, 9, 13], [2, 4, 0, 1, 2, 3, 4, 5, 6, 7, 8, 9, 10, 11, 12, 13, 14, 15], [16, 13, 15, 0, 1, 2, 3, 4, 5, 6, 7, 8, 9, 10, 11, 12, 13, 14, 15]] (fun D ρ wx => Own w S wx [cond (D 17) (row (.slice a N c) ((((d4.setIfInBounds j (d4[j - 1]!)).setIfInBounds (j - 1) (d4[j]!)).toList).map (ic .u16)) 57 1) (cond (D 15) (row (.slice a N c) (((d4.setIfInBounds j (d4[j - 1]!)).toList).map (ic .u16)) 57 1) (row (.slice a N c) (d4.toList.map (ic .u16)) 57 1))] ∧ (D 0 = true → ρ 79 = .slice a N c) ∧ (D 1 = true → ρ 80 = .int .i64 ((j : Nat) : Int)) ∧ (D 2 = true → ρ 81 = .slice a N c) ∧ (D 3 = true → ρ 82 = .int .i64 ((j : Nat) : Int)) ∧ (D 4 = true → ρ 83 = .int .i64 ((j - 1 : Nat) : Int)) ∧ (D 5 = true → ρ 84 = .slice a N c) ∧ (D 6 = true → ρ 85 = .int .i64 ((j : Nat) : Int)) ∧ (D 7 = true → ρ 86 = .int .i64 ((j - 1 : Nat) : Int)) ∧ (D 8 = true → ρ 87 = .pointer (some ⟨bkS (.slice a N c), ofS (.slice a N c) + ((j - 1 : Nat) : Int).toNat * 1, none⟩)) ∧ (D 9 = true → ρ 88 = .int .u16 (d4[j - 1]!)) ∧ (D 10 = true → ρ 89 = .slice a N c) ∧ (D 11 = true → ρ 90 = .int .i64 ((j : Nat) : Int)) ∧ (D 12 = true → ρ 91 = .pointer (some ⟨bkS (.slice a N c), ofS (.slice a N c) + ((j : Nat) : Int).toNat * 1, none⟩)) ∧ (D 13 = true → ρ 92 = .int .u16 (d4[j]!)) ∧ (D 14 = true → ρ 93 = .pointer (some ⟨bkS (.slice a N c), ofS (.slice a N c) + ((j : Nat) : Int).toNat * 1, none⟩)) ∧ (True) ∧ (D 16 = true → ρ 94 = .pointer (some ⟨bkS (.slice a N c), ofS (.slice a N c) + ((j - 1 : Nat) : Int).toNat * 1, none⟩)) ∧ (True)) rfl rfl rfl ⟨hs, fun h => absurd h Bool.false_ne_true, fun h => absurd h Bool.false_ne_true, fun h => absurd h Bool.false_ne_true, fun h => absurd h Bool.false_ne_true, fun h => absurd h Bool.false_ne_true, fun h => absurd h Bool.false_ne_true, fun h => absurd h Bool.false_ne_true, fun h => absurd h Bool.false_ne_true, fun h => absurd h Bool.false_ne_true, fun h => absurd h Bool.false_ne_true, fun h => absurd h Bool.false_ne_true, fun h => absurd h Bool.false_ne_true, fun h => absurd h Bool.false_ne_true, fun h => absurd h Bool.false_ne_true, fun h => absurd h Bool.false_ne_true, trivial, fun h => absurd h Bool.false_ne_true, trivial⟩ ⟨?_, ?_, ?_, ?_, ?_, ?_, ?_, ?_, ?_, ?_, ?_, ?_, ?_, ?_, ?_, ?_, ?_, ?_, trivial⟩ ?_
                              · rintro D ρ wx hD hd hdc hf ⟨hs, f0, f1, f2, f3, f4, f5, f6, f7, f8, f9, f10, f11, f12, f13, f14, f15, f16, f17⟩
                                have r0 : ρ 0 = .slice a N c := outD hf 0 rfl
                                exact .inl ⟨rfl, L_move (V := .slice a N c) r0 ⟨hs, fun _ => rfl, f1, f2, f3, f4, f5, f6, f7, f8, f9, f10, f11, f12, f13, f14, f15, f16, f17⟩⟩
                              · rintro D ρ wx hD hd hdc hf ⟨hs, f0, f1, f2, f3, f4, f5, f6, f7, f8, f9, f10, f11, f12, f13, f14, f15, f16, f17⟩
                                have r9 : ρ 9 = .int .i64 ((j : Nat) : Int) := outD hf 9 rfl
                                exact .inl ⟨rfl, L_move (V := .int .i64 ((j : Nat) : Int)) r9 ⟨hs, f0, fun _ => rfl, f2, f3, f4, f5, f6, f7, f8, f9, f10, f11, f12, f13, f14, f15, f16, f17⟩⟩
                              · rintro D ρ wx hD hd hdc hf ⟨hs, f0, f1, f2, f3, f4, f5, f6, f7, f8, f9, f10, f11, f12, f13, f14, f15, f16, f17⟩
                                have r0 : ρ 0 = .slice a N c := outD hf 0 rfl
                                exact .inl ⟨rfl, L_move (V := .slice a N c) r0 ⟨hs, f0, f1, fun _ => rfl, f3, f4, f5, f6, f7, f8, f9, f10, f11, f12, f13, f14, f15, f16, f17⟩⟩
                              · rintro D ρ wx hD hd hdc hf ⟨hs, f0, f1, f2, f3, f4, f5, f6, f7, f8, f9, f10, f11, f12, f13, f14, f15, f16, f17⟩
                                have r9 : ρ 9 = .int .i64 ((j : Nat) : Int) := outD hf 9 rfl
                                exact .inl ⟨rfl, L_move (V := .int .i64 ((j : Nat) : Int)) r9 ⟨hs, f0, f1, f2, fun _ => rfl, f4, f5, f6, f7, f8, f9, f10, f11, f12, f13, f14, f15, f16, f17⟩⟩
                              · rintro D ρ wx hD hd hdc hf ⟨hs, f0, f1, f2, f3, f4, f5, f6, f7, f8, f9, f10, f11, f12, f13, f14, f15, f16, f17⟩
                                have g3 := f3 (doneD hd 3 rfl)
                                exact .inl ⟨rfl, L_sub (a := ((j : Nat) : Int)) (b := 1) (c := ((j - 1 : Nat) : Int)) g3 rfl (nat_i64 (by omega) (by omega)) ⟨hs, f0, f1, f2, f3, fun _ => rfl, f5, f6, f7, f8, f9, f10, f11, f12, f13, f14, f15, f16, f17⟩⟩
                              · rintro D ρ wx hD hd hdc hf ⟨hs, f0, f1, f2, f3, f4, f5, f6, f7, f8, f9, f10, f11, f12, f13, f14, f15, f16, f17⟩
                                have r0 : ρ 0 = .slice a N c := outD hf 0 rfl
                                exact .inl ⟨rfl, L_move (V := .slice a N c) r0 ⟨hs, f0, f1, f2, f3, f4, fun _ => rfl, f6, f7, f8, f9, f10, f11, f12, f13, f14, f15, f16, f17⟩⟩
                              · rintro D ρ wx hD hd hdc hf ⟨hs, f0, f1, f2, f3, f4, f5, f6, f7, f8, f9, f10, f11, f12, f13, f14, f15, f16, f17⟩
                                have r9 : ρ 9 = .int .i64 ((j : Nat) : Int) := outD hf 9 rfl
                                exact .inl ⟨rfl, L_move (V := .int .i64 ((j : Nat) : Int)) r9 ⟨hs, f0, f1, f2, f3, f4, f5, fun _ => rfl, f7, f8, f9, f10, f11, f12, f13, f14, f15, f16, f17⟩⟩
                              · rintro D ρ wx hD hd hdc hf ⟨hs, f0, f1, f2, f3, f4, f5, f6, f7, f8, f9, f10, f11, f12, f13, f14, f15, f16, f17⟩
                                have g6 := f6 (doneD hd 6 rfl)
                                exact .inl ⟨rfl, L_sub (a := ((j : Nat) : Int)) (b := 1) (c := ((j - 1 : Nat) : Int)) g6 rfl (nat_i64 (by omega) (by omega)) ⟨hs, f0, f1, f2, f3, f4, f5, f6, fun _ => rfl, f8, f9, f10, f11, f12, f13, f14, f15, f16, f17⟩⟩
                              · rintro D ρ wx hD hd hdc hf ⟨hs, f0, f1, f2, f3, f4, f5, f6, f7, f8, f9, f10, f11, f12, f13, f14, f15, f16, f17⟩
                                have g5 := f5 (doneD hd 5 rfl)
                                have g7 := f7 (doneD hd 7 rfl)
                                have d15 : D 15 = false := (notYetD hdc (j := 15) rfl rfl hD)
                                have d17 : D 17 = false := (notYetD hdc (j := 17) rfl rfl hD)
                                have hs0 := hs; rw [d15, d17] at hs0
                                exact .inl ⟨rfl, L_ixR UD_72 S1_57.1 (hs0.rd 0 rfl) g5 g7 (by omega) (by simp only [List.length_map, Array.length_toList, Array.size_setIfInBounds, Go.Sort.size_swp]; omega) ⟨hs, f0, f1, f2, f3, f4, f5, f6, f7, fun _ => rfl, f9, f10, f11, f12, f13, f14, f15, f16, f17⟩⟩
                              · rintro D ρ wx hD hd hdc hf ⟨hs, f0, f1, f2, f3, f4, f5, f6, f7, f8, f9, f10, f11, f12, f13, f14, f15, f16, f17⟩
                                have g8 := f8 (doneD hd 8 rfl)
                                have d15 : D 15 = false := (notYetD hdc (j := 15) rfl rfl hD)
                                have d17 : D 17 = false := (notYetD hdc (j := 17) rfl rfl hD)
                                have hs0 := hs; rw [d15, d17] at hs0
                                exact .inl ⟨rfl, L_ldR (j := 0) (V := .int .u16 (d4[j - 1]!)) (j - 1) S1_57 (hs0.rd 0 rfl) (da_at (by omega)) rfl g8 (by omega) ⟨hs, f0, f1, f2, f3, f4, f5, f6, f7, f8, fun _ => rfl, f10, f11, f12, f13, f14, f15, f16, f17⟩⟩
                              · rintro D ρ wx hD hd hdc hf ⟨hs, f0, f1, f2, f3, f4, f5, f6, f7, f8, f9, f10, f11, f12, f13, f14, f15, f16, f17⟩
                                have r0 : ρ 0 = .slice a N c := outD hf 0 rfl
                                exact .inl ⟨rfl, L_move (V := .slice a N c) r0 ⟨hs, f0, f1, f2, f3, f4, f5, f6, f7, f8, f9, fun _ => rfl, f11, f12, f13, f14, f15, f16, f17⟩⟩
                              · rintro D ρ wx hD hd hdc hf ⟨hs, f0, f1, f2, f3, f4, f5, f6, f7, f8, f9, f10, f11, f12, f13, f14, f15, f16, f17⟩
                                have r9 : ρ 9 = .int .i64 ((j : Nat) : Int) := outD hf 9 rfl
                                exact .inl ⟨rfl, L_move (V := .int .i64 ((j : Nat) : Int)) r9 ⟨hs, f0, f1, f2, f3, f4, f5, f6, f7, f8, f9, f10, fun _ => rfl, f12, f13, f14, f15, f16, f17⟩⟩
                              · rintro D ρ wx hD hd hdc hf ⟨hs, f0, f1, f2, f3, f4, f5, f6, f7, f8, f9, f10, f11, f12, f13, f14, f15, f16, f17⟩
                                have g10 := f10 (doneD hd 10 rfl)
                                have g11 := f11 (doneD hd 11 rfl)
                                have d15 : D 15 = false := (notYetD hdc (j := 15) rfl rfl (notYetD hdc (j := 13) rfl rfl hD))
                                have d17 : D 17 = false := (notYetD hdc (j := 17) rfl rfl hD)
                                have hs0 := hs; rw [d15, d17] at hs0
                                exact .inl ⟨rfl, L_ixR UD_72 S1_57.1 (hs0.rd 0 rfl) g10 g11 (by omega) (by simp only [List.length_map, Array.length_toList, Array.size_setIfInBounds, Go.Sort.size_swp]; omega) ⟨hs, f0, f1, f2, f3, f4, f5, f6, f7, f8, f9, f10, f11, fun _ => rfl, f13, f14, f15, f16, f17⟩⟩
                              · rintro D ρ wx hD hd hdc hf ⟨hs, f0, f1, f2, f3, f4, f5, f6, f7, f8, f9, f10, f11, f12, f13, f14, f15, f16, f17⟩
                                have g12 := f12 (doneD hd 12 rfl)
                                have d15 : D 15 = false := (notYetD hdc (j := 15) rfl rfl hD)
                                have d17 : D 17 = false := (notYetD hdc (j := 17) rfl rfl hD)
                                have hs0 := hs; rw [d15, d17] at hs0
                                exact .inl ⟨rfl, L_ldR (j := 0) (V := .int .u16 (d4[j]!)) j S1_57 (hs0.rd 0 rfl) (da_at (by omega)) rfl g12 (by omega) ⟨hs, f0, f1, f2, f3, f4, f5, f6, f7, f8, f9, f10, f11, f12, fun _ => rfl, f14, f15, f16, f17⟩⟩
                              · rintro D ρ wx hD hd hdc hf ⟨hs, f0, f1, f2, f3, f4, f5, f6, f7, f8, f9, f10, f11, f12, f13, f14, f15, f16, f17⟩
                                have g0 := f0 (doneD hd 0 rfl)
                                have g1 := f1 (doneD hd 1 rfl)
                                have d15 : D 15 = false := (notYetD hdc (j := 15) rfl rfl hD)
                                have d17 : D 17 = false := (notYetD hdc (j := 17) rfl rfl hD)
                                have hs0 := hs; rw [d15, d17] at hs0
                                exact .inl ⟨rfl, L_ixR UD_72 S1_57.1 (hs0.rd 0 rfl) g0 g1 (by omega) (by simp only [List.length_map, Array.length_toList, Array.size_setIfInBounds, Go.Sort.size_swp]; omega) ⟨hs, f0, f1, f2, f3, f4, f5, f6, f7, f8, f9, f10, f11, f12, f13, fun _ => rfl, f15, f16, f17⟩⟩
                              · rintro D ρ wx hD hd hdc hf ⟨hs, f0, f1, f2, f3, f4, f5, f6, f7, f8, f9, f10, f11, f12, f13, f14, f15, f16, f17⟩
                                have g9 := f9 (doneD hd 9 rfl)
                                have g14 := f14 (doneD hd 14 rfl)
                                have d15 : D 15 = false := hD
                                have d17 : D 17 = false := (notYetD hdc (j := 17) rfl rfl hD)
                                have hs0 := hs; rw [d15, d17] at hs0
                                refine .inl ⟨rfl, L_stA (z := d4[j - 1]!) j S1_57 hs0 0 rfl g14 (by omega) (by first | omega | (simp only [Array.size_setIfInBounds, Go.Sort.size_swp]; omega)) g9 rfl rfl fun _ hs0 => ⟨?_, f0, f1, f2, f3, f4, f5, f6, f7, f8, f9, f10, f11, f12, f13, f14, trivial, f16, f17⟩⟩
                                rw [show Go.Vx.mark D 15 17 = false from d17]
                                exact hs0
                              · rintro D ρ wx hD hd hdc hf ⟨hs, f0, f1, f2, f3, f4, f5, f6, f7, f8, f9, f10, f11, f12, f13, f14, f15, f16, f17⟩
                                have g2 := f2 (doneD hd 2 rfl)
                                have g4 := f4 (doneD hd 4 rfl)
                                have d15 : D 15 = true := doneD hd 15 rfl
                                have d17 : D 17 = false := (notYetD hdc (j := 17) rfl rfl hD)
                                have hs0 := hs; rw [d15, d17] at hs0
                                exact .inl ⟨rfl, L_ixR UD_72 S1_57.1 (hs0.rd 0 rfl) g2 g4 (by omega) (by simp only [List.length_map, Array.length_toList, Array.size_setIfInBounds, Go.Sort.size_swp]; omega) ⟨hs, f0, f1, f2, f3, f4, f5, f6, f7, f8, f9, f10, f11, f12, f13, f14, f15, fun _ => rfl, f17⟩⟩
                              · rintro D ρ wx hD hd hdc hf ⟨hs, f0, f1, f2, f3, f4, f5, f6, f7, f8, f9, f10, f11, f12, f13, f14, f15, f16, f17⟩
                                have g13 := f13 (doneD hd 13 rfl)
                                have g16 := f16 (doneD hd 16 rfl)
                                have d15 : D 15 = true := doneD hd 15 rfl
                                have d17 : D 17 = false := hD
                                have hs0 := hs; rw [d15, d17] at hs0
                                refine .inl ⟨rfl, L_stA (z := d4[j]!) (j - 1) S1_57 hs0 0 rfl g16 (by omega) (by first | omega | (simp only [Array.size_setIfInBounds, Go.Sort.size_swp]; omega)) g13 rfl rfl fun _ hs0 => ⟨?_, f0, f1, f2, f3, f4, f5, f6, f7, f8, f9, f10, f11, f12, f13, f14, f15, f16, trivial⟩⟩
                                rw [show Go.Vx.mark D 17 15 = true from d15]
                                exact hs0
                              · rintro ρ1 w1 D hD hf ⟨hs, f0, f1, f2, f3, f4, f5, f6, f7, f8, f9, f10, f11, f12, f13, f14, f15, f16, f17⟩
                                rw [hD 15 rfl, hD 17 rfl] at hs
                                clear f0 f1 f2 f3 f4 f5 f6 f7 f8 f9 f10 f11 f12 f13 f14 f15 f16 f17
                                obtain ⟨ρ2, hρ⟩ : ∃ ρ2, ρ1 = mix [79, 80, 81, 82, 83, 84, 85, 86, 87, 88, 89, 90, 91, 92, 93, 94] ρ2 _ := ⟨ρ1, mix_of (ds := [79, 80, 81, 82, 83, 84, 85, 86, 87, 88, 89, 90, 91, 92, 93, 94]) hf⟩
                                clear hf hD
                                subst hρ
                                refine W_region ?_
                                refine RW_op (L_move (V := .int .i64 ((j : Nat) : Int)) rfl ?_)
                                refine RW_op (L_sub (a := ((j : Nat) : Int)) (b := 1) (c := ((j - 1 : Nat) : Int)) rfl rfl (nat_i64 (by omega) (by omega)) ?_)
                                refine RW_op (L_assign (V := .int .i64 ((j - 1 : Nat) : Int)) rfl ?_)
                                refine RW_nil ?_
                                refine ⟨_, ?_, _, j - 1, ((d4.setIfInBounds j (d4[j - 1]!)).setIfInBounds (j - 1) (d4[j]!)), upd_of (mix_of (ds := [9, 64, 65, 66, 67, 68, 69, 70, 71, 72, 73, 74, 75, 76, 77, 78, 79, 80, 81, 82, 83, 84, 85, 86, 87, 88, 89, 90, 91, 92, 93, 94]) (by repeat (first | exact Agr.refl _ _ | refine Agr.upd ?_ rfl | refine Agr.mix ?_ rfl))) rfl, (by omega), (by simp only [Array.size_setIfInBounds]; exact hz4), (by rw [← hdn, dn_yes c14 c17]; rfl), rfl, hs.take 1⟩
                                omega
                        ·
                          replace c14 := of_decide_eq_false c14
                          refine W_exit ?_
                          exact ⟨_, d4, mix_of (ds := [9, 62, 63, 64, 65, 66, 67, 68, 69, 70, 71, 72, 73, 74, 75, 76, 77, 78, 79, 80, 81, 82, 83, 84, 85, 86, 87, 88, 89, 90, 91, 92, 93, 94]) (by repeat (first | exact Agr.refl _ _ | refine Agr.upd ?_ rfl | refine Agr.mix ?_ rfl)), (by unfold dnI; rw [if_pos (by omega), ← hdn, dn_0 c14]), hz4, hs.take 1⟩
                    ·
                      replace c12 := of_decide_eq_false c12
                      refine W_skip ?_
                      exact ⟨_, ((d1.setIfInBounds i2 (d1[i2 - 1]!)).setIfInBounds (i2 - 1) (d1[i2]!)), mix_of (ds := [9, 62, 63, 64, 65, 66, 67, 68, 69, 70, 71, 72, 73, 74, 75, 76, 77, 78, 79, 80, 81, 82, 83, 84, 85, 86, 87, 88, 89, 90, 91, 92, 93, 94]) (by repeat (first | exact Agr.refl _ _ | refine Agr.upd ?_ rfl | refine Agr.mix ?_ rfl)), (by unfold dnI; rw [if_neg (by omega)]; rfl), (by simp only [Array.size_setIfInBounds]; exact hz1), hs.take 1⟩
                  · rintro ρ' w21 ⟨ρo, d3, rfl, hd3, hz3, hs⟩
                    refine W_seq ?_
                    refine W_region ?_
                    refine RW_op (L_move (V := .int .i64 ((hi : Nat) : Int)) rfl ?_)
                    refine RW_op (L_move (V := .int .i64 ((i2 : Nat) : Int)) rfl ?_)
                    refine RW_op (L_sub (a := ((hi : Nat) : Int)) (b := ((i2 : Nat) : Int)) (c := ((hi - i2 : Nat) : Int)) rfl rfl (nat_i64 (by omega) (by omega)) ?_)
                    refine RW_op (L_geq rfl rfl ?_)
                    refine RW_nil ?_
                    refine W_mid (fun ρ ρ' w' => ∃ (ρo : Env) (d5 : Array Int), ρ' = mix [10, 99, 100, 101, 102, 103, 104, 105, 106, 107, 108, 109, 110, 111, 112, 113, 114, 115, 116, 117, 118, 119, 120, 121, 122, 123, 124, 125, 126, 127, 128, 129, 130, 131, 132] ρo ρ ∧ (d5 = upI hi i2 d3) ∧ (d5.size = N) ∧ Own w S w' [row (.slice a N c) (d5.toList.map (ic .u16)) 57 1]) ?_ ?_
                    ·
                      refine W_cond (t := decide (2 ≤ ((hi - i2 : Nat) : Int))) rfl (fun c22 => ?_) (fun c22 => ?_)
                      ·
                        replace c22 := of_decide_eq_true c22
                        refine W_seq ?_
                        refine W_region ?_
                        refine RW_op (L_move (V := .int .i64 ((i2 : Nat) : Int)) rfl ?_)
                        refine RW_op (L_add (a := ((i2 : Nat) : Int)) (b := 1) (c := ((i2 + 1 : Nat) : Int)) rfl rfl (nat_i64 (by omega) (by omega)) ?_)
                        refine RW_op (L_assign (V := .int .i64 ((i2 + 1 : Nat) : Int)) rfl ?_)
                        refine RW_nil ?_
                        refine W_block ?_
                        refine W_loopI (fun ρ m ρ' w' => ∃ (ρo : Env) (p : Nat) (d6 : Array Int), ρ' = upd (mix [10, 101, 102, 103, 104, 105, 106, 107, 108, 109, 110, 111, 112, 113, 114, 115, 116, 117, 118, 119, 120, 121, 122, 123, 124, 125, 126, 127, 128, 129, 130, 131, 132] ρo ρ) 10 (.int .i64 ((p : Nat) : Int)) ∧ (i2 < p ∧ p ≤ hi) ∧ (d6.size = N) ∧ (Sort.shiftUp Sort.ltInt hi p d6 = Sort.shiftUp Sort.ltInt hi (i2 + 1) d3) ∧ m = hi - p ∧ Own w S w' [row (.slice a N c) (d6.toList.map (ic .u16)) 57 1]) ?_ ?_
                        · exact ⟨_, _, i2 + 1, d3, upd_of (mix_of (ds := [10, 101, 102, 103, 104, 105, 106, 107, 108, 109, 110, 111, 112, 113, 114, 115, 116, 117, 118, 119, 120, 121, 122, 123, 124, 125, 126, 127, 128, 129, 130, 131, 132]) (Agr.refl _ _)) rfl, (by omega), hz3, rfl, rfl, hs⟩
                        · rintro m ρ' w23 ⟨ρo, p, d6, rfl, hp, hz6, hup, rfl, hs⟩
                          refine W_seq ?_
                          refine W_seq ?_
                          refine W_region ?_
                          refine RW_op (L_move (V := .int .i64 ((p : Nat) : Int)) rfl ?_)
                          refine RW_op (L_move (V := .int .i64 ((hi : Nat) : Int)) rfl ?_)
                          refine RW_op (L_lss rfl rfl ?_)
                          refine RW_nil ?_
                          refine W_cond (t := decide (((p : Nat) : Int) < ((hi : Nat) : Int))) rfl (fun c24 => ?_) (fun c24 => ?_)
                          ·
                            replace c24 := of_decide_eq_true c24
                            refine W_skip ?_
                            refine W_seq ?_
                            refine W_block ?_
                            refine W_seq ?_
                            refine W_seq ?_
                            replace hs := hs.drew
                            refine W_draw2 HM [106, 107, 108, 109, 110, 111, 112, 113, 114, 115, 116] [[], [], [0, 1], [2], [], [], [5], [4, 6], [7], [3, 8], [9]] (fun D ρ wx => Own w S wx [row (.slice a N c) (d6.toList.map (ic .u16)) 57 1] ∧ (D 0 = true → ρ 106 = .slice a N c) ∧ (D 1 = true → ρ 107 = .int .i64 ((p : Nat) : Int)) ∧ (D 2 = true → ρ 108 = .pointer (some ⟨bkS (.slice a N c), ofS (.slice a N c) + ((p : Nat) : Int).toNat * 1, none⟩)) ∧ (D 3 = true → ρ 109 = .int .u16 (d6[p]!)) ∧ (D 4 = true → ρ 110 = .slice a N c) ∧ (D 5 = true → ρ 111 = .int .i64 ((p : Nat) : Int)) ∧ (D 6 = true → ρ 112 = .int .i64 ((p - 1 : Nat) : Int)) ∧ (D 7 = true → ρ 113 = .pointer (some ⟨bkS (.slice a N c), ofS (.slice a N c) + ((p - 1 : Nat) : Int).toNat * 1, none⟩)) ∧ (D 8 = true → ρ 114 = .int .u16 (d6[p - 1]!)) ∧ (D 9 = true → ρ 115 = .bool (decide (d6[p]! < d6[p - 1]!))) ∧ (D 10 = true → ρ 116 = .bool (!decide (d6[p]! < d6[p - 1]!)))) rfl rfl rfl ⟨hs, fun h => absurd h Bool.false_ne_true, fun h => absurd h Bool.false_ne_true, fun h => absurd h Bool.false_ne_true, fun h => absurd h Bool.false_ne_true, fun h => absurd h Bool.false_ne_true, fun h => absurd h Bool.false_ne_true, fun h => absurd h Bool.false_ne_true, fun h => absurd h Bool.false_ne_true, fun h => absurd h Bool.false_ne_true, fun h => absurd h Bool.false_ne_true, fun h => absurd h Bool.false_ne_true⟩ ⟨?_, ?_, ?_, ?_, ?_, ?_, ?_, ?_, ?_, ?_, ?_, trivial⟩ ?_
                            · rintro D ρ wx hD hd hdc hf ⟨hs, f0, f1, f2, f3, f4, f5, f6, f7, f8, f9, f10⟩
                              have r0 : ρ 0 = .slice a N c := outD hf 0 rfl
                              exact .inl ⟨rfl, L_move (V := .slice a N c) r0 ⟨hs, fun _ => rfl, f1, f2, f3, f4, f5, f6, f7, f8, f9, f10⟩⟩
                            · rintro D ρ wx hD hd hdc hf ⟨hs, f0, f1, f2, f3, f4, f5, f6, f7, f8, f9, f10⟩
                              have r10 : ρ 10 = .int .i64 ((p : Nat) : Int) := outD hf 10 rfl
                              exact .inl ⟨rfl, L_move (V := .int .i64 ((p : Nat) : Int)) r10 ⟨hs, f0, fun _ => rfl, f2, f3, f4, f5, f6, f7, f8, f9, f10⟩⟩
                            · rintro D ρ wx hD hd hdc hf ⟨hs, f0, f1, f2, f3, f4, f5, f6, f7, f8, f9, f10⟩
                              have g0 := f0 (doneD hd 0 rfl)
                              have g1 := f1 (doneD hd 1 rfl)
                              exact .inl ⟨rfl, L_ixR UD_72 S1_57.1 (hs.rd 0 rfl) g0 g1 (by omega) (by simp only [List.length_map, Array.length_toList, Array.size_setIfInBounds, Go.Sort.size_swp]; omega) ⟨hs, f0, f1, fun _ => rfl, f3, f4, f5, f6, f7, f8, f9, f10⟩⟩
                            · rintro D ρ wx hD hd hdc hf ⟨hs, f0, f1, f2, f3, f4, f5, f6, f7, f8, f9, f10⟩
                              have g2 := f2 (doneD hd 2 rfl)
                              exact .inl ⟨rfl, L_ldR (j := 0) (V := .int .u16 (d6[p]!)) p S1_57 (hs.rd 0 rfl) (da_at (by omega)) rfl g2 (by omega) ⟨hs, f0, f1, f2, fun _ => rfl, f4, f5, f6, f7, f8, f9, f10⟩⟩
                            · rintro D ρ wx hD hd hdc hf ⟨hs, f0, f1, f2, f3, f4, f5, f6, f7, f8, f9, f10⟩
                              have r0 : ρ 0 = .slice a N c := outD hf 0 rfl
                              exact .inl ⟨rfl, L_move (V := .slice a N c) r0 ⟨hs, f0, f1, f2, f3, fun _ => rfl, f5, f6, f7, f8, f9, f10⟩⟩
                            · rintro D ρ wx hD hd hdc hf ⟨hs, f0, f1, f2, f3, f4, f5, f6, f7, f8, f9, f10⟩
                              have r10 : ρ 10 = .int .i64 ((p : Nat) : Int) := outD hf 10 rfl
                              exact .inl ⟨rfl, L_move (V := .int .i64 ((p : Nat) : Int)) r10 ⟨hs, f0, f1, f2, f3, f4, fun _ => rfl, f6, f7, f8, f9, f10⟩⟩
                            · rintro D ρ wx hD hd hdc hf ⟨hs, f0, f1, f2, f3, f4, f5, f6, f7, f8, f9, f10⟩
                              have g5 := f5 (doneD hd 5 rfl)
                              exact .inl ⟨rfl, L_sub (a := ((p : Nat) : Int)) (b := 1) (c := ((p - 1 : Nat) : Int)) g5 rfl (nat_i64 (by omega) (by omega)) ⟨hs, f0, f1, f2, f3, f4, f5, fun _ => rfl, f7, f8, f9, f10⟩⟩
                            · rintro D ρ wx hD hd hdc hf ⟨hs, f0, f1, f2, f3, f4, f5, f6, f7, f8, f9, f10⟩
                              have g4 := f4 (doneD hd 4 rfl)
                              have g6 := f6 (doneD hd 6 rfl)
                              exact .inl ⟨rfl, L_ixR UD_72 S1_57.1 (hs.rd 0 rfl) g4 g6 (by omega) (by simp only [List.length_map, Array.length_toList, Array.size_setIfInBounds, Go.Sort.size_swp]; omega) ⟨hs, f0, f1, f2, f3, f4, f5, f6, fun _ => rfl, f8, f9, f10⟩⟩
                            · rintro D ρ wx hD hd hdc hf ⟨hs, f0, f1, f2, f3, f4, f5, f6, f7, f8, f9, f10⟩
                              have g7 := f7 (doneD hd 7 rfl)
                              exact .inl ⟨rfl, L_ldR (j := 0) (V := .int .u16 (d6[p - 1]!)) (p - 1) S1_57 (hs.rd 0 rfl) (da_at (by omega)) rfl g7 (by omega) ⟨hs, f0, f1, f2, f3, f4, f5, f6, f7, fun _ => rfl, f9, f10⟩⟩
                            · rintro D ρ wx hD hd hdc hf ⟨hs, f0, f1, f2, f3, f4, f5, f6, f7, f8, f9, f10⟩
                              have g3 := f3 (doneD hd 3 rfl)
                              have g8 := f8 (doneD hd 8 rfl)
                              exact .inl ⟨rfl, L_callP (vs := [.int .u16 (d6[p]!), .int .u16 (d6[p - 1]!)]) (V := .bool (decide (d6[p]! < d6[p - 1]!))) EN_108 rfl (mapc g3 (mapc g8 rfl)) (less_ok _ (d6[p]!) (d6[p - 1]!)) hs fun _ hs0 => ⟨hs0, f0, f1, f2, f3, f4, f5, f6, f7, f8, fun _ => rfl, f10⟩⟩
                            · rintro D ρ wx hD hd hdc hf ⟨hs, f0, f1, f2, f3, f4, f5, f6, f7, f8, f9, f10⟩
                              have g9 := f9 (doneD hd 9 rfl)
                              exact .inl ⟨rfl, L_not g9 ⟨hs, f0, f1, f2, f3, f4, f5, f6, f7, f8, f9, fun _ => rfl⟩⟩
                            · rintro ρ1 w1 D hD hf ⟨hs, f0, f1, f2, f3, f4, f5, f6, f7, f8, f9, f10⟩
                              have e10 := f10 (hD 10 rfl)
                              clear f0 f1 f2 f3 f4 f5 f6 f7 f8 f9 f10
                              obtain ⟨ρ2, hρ⟩ : ∃ ρ2, ρ1 = upd (mix [106, 107, 108, 109, 110, 111, 112, 113, 114, 115, 116] ρ2 _) 116 (.bool (!decide (d6[p]! < d6[p - 1]!))) := ⟨ρ1, upd_of (mix_of (ds := [106, 107, 108, 109, 110, 111, 112, 113, 114, 115, 116]) hf) e10⟩
                              clear hf hD e10
                              subst hρ
                              refine W_cond (t := !decide (d6[p]! < d6[p - 1]!)) rfl (fun c27 => ?_) (fun c27 => ?_)
                              ·
                                replace c27 := not_t c27
                                replace c27 := of_decide_eq_false c27
                                refine W_exit ?_
                                exact ⟨_, d6, mix_of (ds := [10, 99, 100, 101, 102, 103, 104, 105, 106, 107, 108, 109, 110, 111, 112, 113, 114, 115, 116, 117, 118, 119, 120, 121, 122, 123, 124, 125, 126, 127, 128, 129, 130, 131, 132]) (by repeat (first | exact Agr.refl _ _ | refine Agr.upd ?_ rfl | refine Agr.mix ?_ rfl)), (by unfold upI; rw [if_pos (by omega), ← hup, up_no c24 c27]), hz6, hs.take 1⟩
                              ·
                                replace c27 := not_f c27
                                replace c27 := of_decide_eq_true c27
                                refine W_skip ?_
                                replace hs := hs.drew
                                refine W_draw2 HM [117, 118, 119, 120, 121, 122, 123, 124, 125, 126, 127, 128, 129, 130, 131, 132] [[], [], [], [], [3], [], [], [6], [5, 7], [8], [], [], [10, 11], [12], [0, 1, 0, 1, 5, 6, 7, 8, 9, 13], [14, 9, 0, 1, 5, 6, 7, 8, 9, 13], [2, 4, 0, 1, 2, 3, 4, 5, 6, 7, 8, 9, 10, 11, 12, 13, 14, 15], [16, 13, 15, 0, 1, 2, 3, 4, 5, 6, 7, 8, 9, 10, 11, 12, 13, 14, 15]] (fun D ρ wx => Own w S wx [cond (D 17) (row (.slice a N c) ((((d6.setIfInBounds p (d6[p - 1]!)).setIfInBounds (p - 1) (d6[p]!)).toList).map (ic .u16)) 57 1) (cond (D 15) (row (.slice a N c) (((d6.setIfInBounds p (d6[p - 1]!)).toList).map (ic .u16)) 57 1) (row (.slice a N c) (d6.toList.map (ic .u16)) 57 1))] ∧ (D 0 = true → ρ 117 = .slice a N c) ∧ (D 1 = true → ρ 118 = .int .i64 ((p : Nat) : Int)) ∧ (D 2 = true → ρ 119 = .slice a N c) ∧ (D 3 = true → ρ 120 = .int .i64 ((p : Nat) : Int)) ∧ (D 4 = true → ρ 121 = .int .i64 ((p - 1 : Nat) : Int)) ∧ (D 5 = true → ρ 122 = .slice a N c) ∧ (D 6 = true → ρ 123 = .int .i64 ((p : Nat) : Int)) ∧ (D 7 = true → ρ 124 = .int .i64 ((p - 1 : Nat) : Int)) ∧ (D 8 = true → ρ 125 = .pointer (some ⟨bkS (.slice a N c), ofS (.slice a N c) + ((p - 1 : Nat) : Int).toNat * 1, none⟩)) ∧ (D 9 = true → ρ 126 = .int .u16 (d6[p - 1]!)) ∧ (D 10 = true → ρ 127 = .slice a N c) ∧ (D 11 = true → ρ 128 = .int .i64 ((p : Nat) : Int)) ∧ (D 12 = true → ρ 129 = .pointer (some ⟨bkS (.slice a N c), ofS (.slice a N c) + ((p : Nat) : Int).toNat * 1, none⟩)) ∧ (D 13 = true → ρ 130 = .int .u16 (d6[p]!)) ∧ (D 14 = true → ρ 131 = .pointer (some ⟨bkS (.slice a N c), ofS (.slice a N c) + ((p : Nat) : Int).toNat * 1, none⟩)) ∧ (True) ∧ (D 16 = true → ρ 132 = .pointer (some ⟨bkS (.slice a N c), ofS (.slice a N c) + ((p - 1 : Nat) : Int).toNat * 1, none⟩)) ∧ (True)) rfl rfl rfl ⟨hs, fun h => absurd h Bool.false_ne_true, fun h => absurd h Bool.false_ne_true, fun h => absurd h Bool.false_ne_true, fun h => absurd h Bool.false_ne_true, fun h => absurd h Bool.false_ne_true, fun h => absurd h Bool.false_ne_true, fun h => absurd h Bool.false_ne_true, fun h => absurd h Bool.false_ne_true, fun h => absurd h Bool.false_ne_true, fun h => absurd h Bool.false_ne_true, fun h => absurd h Bool.false_ne_true, fun h => absurd h Bool.false_ne_true, fun h => absurd h Bool.false_ne_true, fun h => absurd h Bool.false_ne_true, fun h => absurd h Bool.false_ne_true, trivial, fun h => absurd h Bool.false_ne_true, trivial⟩ ⟨?_, ?_, ?_, ?_, ?_, ?_, ?_, ?_, ?_, ?_, ?_, ?_, ?_, ?_, ?_, ?_, ?_, ?_, trivial⟩ ?_
                                · rintro D ρ wx hD hd hdc hf ⟨hs, f0, f1, f2, f3, f4, f5, f6, f7, f8, f9, f10, f11, f12, f13, f14, f15, f16, f17⟩
                                  have r0 : ρ 0 = .slice a N c := outD hf 0 rfl
                                  exact .inl ⟨rfl, L_move (V := .slice a N c) r0 ⟨hs, fun _ => rfl, f1, f2, f3, f4, f5, f6, f7, f8, f9, f10, f11, f12, f13, f14, f15, f16, f17⟩⟩
                                · rintro D ρ wx hD hd hdc hf ⟨hs, f0, f1, f2, f3, f4, f5, f6, f7, f8, f9, f10, f11, f12, f13, f14, f15, f16, f17⟩
                                  have r10 : ρ 10 = .int .i64 ((p : Nat) : Int) := outD hf 10 rfl
                                  exact .inl ⟨rfl, L_move (V := .int .i64 ((p : Nat) : Int)) r10 ⟨hs, f0, fun _ => rfl, f2, f3, f4, f5, f6, f7, f8, f9, f10, f11, f12, f13, f14, f15, f16, f17⟩⟩
                                · rintro D ρ wx hD hd hdc hf ⟨hs, f0, f1, f2, f3, f4, f5, f6, f7, f8, f9, f10, f11, f12, f13, f14, f15, f16, f17⟩
                                  have r0 : ρ 0 = .slice a N c := outD hf 0 rfl
                                  exact .inl ⟨rfl, L_move (V := .slice a N c) r0 ⟨hs, f0, f1, fun _ => rfl, f3, f4, f5, f6, f7, f8, f9, f10, f11, f12, f13, f14, f15, f16, f17⟩⟩
                                · rintro D ρ wx hD hd hdc hf ⟨hs, f0, f1, f2, f3, f4, f5, f6, f7, f8, f9, f10, f11, f12, f13, f14, f15, f16, f17⟩
                                  have r10 : ρ 10 = .int .i64 ((p : Nat) : Int) := outD hf 10 rfl
                                  exact .inl ⟨rfl, L_move (V := .int .i64 ((p : Nat) : Int)) r10 ⟨hs, f0, f1, f2, fun _ => rfl, f4, f5, f6, f7, f8, f9, f10, f11, f12, f13, f14, f15, f16, f17⟩⟩
                                · rintro D ρ wx hD hd hdc hf ⟨hs, f0, f1, f2, f3, f4, f5, f6, f7, f8, f9, f10, f11, f12, f13, f14, f15, f16, f17⟩
                                  have g3 := f3 (doneD hd 3 rfl)
                                  exact .inl ⟨rfl, L_sub (a := ((p : Nat) : Int)) (b := 1) (c := ((p - 1 : Nat) : Int)) g3 rfl (nat_i64 (by omega) (by omega)) ⟨hs, f0, f1, f2, f3, fun _ => rfl, f5, f6, f7, f8, f9, f10, f11, f12, f13, f14, f15, f16, f17⟩⟩
                                · rintro D ρ wx hD hd hdc hf ⟨hs, f0, f1, f2, f3, f4, f5, f6, f7, f8, f9, f10, f11, f12, f13, f14, f15, f16, f17⟩
                                  have r0 : ρ 0 = .slice a N c := outD hf 0 rfl
                                  exact .inl ⟨rfl, L_move (V := .slice a N c) r0 ⟨hs, f0, f1, f2, f3, f4, fun _ => rfl, f6, f7, f8, f9, f10, f11, f12, f13, f14, f15, f16, f17⟩⟩
                                · rintro D ρ wx hD hd hdc hf ⟨hs, f0, f1, f2, f3, f4, f5, f6, f7, f8, f9, f10, f11, f12, f13, f14, f15, f16, f17⟩
                                  have r10 : ρ 10 = .int .i64 ((p : Nat) : Int) := outD hf 10 rfl
                                  exact .inl ⟨rfl, L_move (V := .int .i64 ((p : Nat) : Int)) r10 ⟨hs, f0, f1, f2, f3, f4, f5, fun _ => rfl, f7, f8, f9, f10, f11, f12, f13, f14, f15, f16, f17⟩⟩
                                · rintro D ρ wx hD hd hdc hf ⟨hs, f0, f1, f2, f3, f4, f5, f6, f7, f8, f9, f10, f11, f12, f13, f14, f15, f16, f17⟩
                                  have g6 := f6 (doneD hd 6 rfl)
                                  exact .inl ⟨rfl, L_sub (a := ((p : Nat) : Int)) (b := 1) (c := ((p - 1 : Nat) : Int)) g6 rfl (nat_i64 (by omega) (by omega)) ⟨hs, f0, f1, f2, f3, f4, f5, f6, fun _ => rfl, f8, f9, f10, f11, f12, f13, f14, f15, f16, f17⟩⟩
                                · rintro D ρ wx hD hd hdc hf ⟨hs, f0, f1, f2, f3, f4, f5, f6, f7, f8, f9, f10, f11, f12, f13, f14, f15, f16, f17⟩
                                  have g5 := f5 (doneD hd 5 rfl)
                                  have g7 := f7 (doneD hd 7 rfl)
                                  have d15 : D 15 = false := (notYetD hdc (j := 15) rfl rfl hD)
                                  have d17 : D 17 = false := (notYetD hdc (j := 17) rfl rfl hD)
                                  have hs0 := hs; rw [d15, d17] at hs0
                                  exact .inl ⟨rfl, L_ixR UD_72 S1_57.1 (hs0.rd 0 rfl) g5 g7 (by omega) (by simp only [List.length_map, Array.length_toList, Array.size_setIfInBounds, Go.Sort.size_swp]; omega) ⟨hs, f0, f1, f2, f3, f4, f5, f6, f7, fun _ => rfl, f9, f10, f11, f12, f13, f14, f15, f16, f17⟩⟩
                                · rintro D ρ wx hD hd hdc hf ⟨hs, f0, f1, f2, f3, f4, f5, f6, f7, f8, f9, f10, f11, f12, f13, f14, f15, f16, f17⟩
                                  have g8 := f8 (doneD hd 8 rfl)
                                  have d15 : D 15 = false := (notYetD hdc (j := 15) rfl rfl hD)
                                  have d17 : D 17 = false := (notYetD hdc (j := 17) rfl rfl hD)
                                  have hs0 := hs; rw [d15, d17] at hs0
                                  exact .inl ⟨rfl, L_ldR (j := 0) (V := .int .u16 (d6[p - 1]!)) (p - 1) S1_57 (hs0.rd 0 rfl) (da_at (by omega)) rfl g8 (by omega) ⟨hs, f0, f1, f2, f3, f4, f5, f6, f7, f8, fun _ => rfl, f10, f11, f12, f13, f14, f15, f16, f17⟩⟩
                                · rintro D ρ wx hD hd hdc hf ⟨hs, f0, f1, f2, f3, f4, f5, f6, f7, f8, f9, f10, f11, f12, f13, f14, f15, f16, f17⟩
                                  have r0 : ρ 0 = .slice a N c := outD hf 0 rfl
                                  exact .inl ⟨rfl, L_move (V := .slice a N c) r0 ⟨hs, f0, f1, f2, f3, f4, f5, f6, f7, f8, f9, fun _ => rfl, f11, f12, f13, f14, f15, f16, f17⟩⟩
                                · rintro D ρ wx hD hd hdc hf ⟨hs, f0, f1, f2, f3, f4, f5, f6, f7, f8, f9, f10, f11, f12, f13, f14, f15, f16, f17⟩
                                  have r10 : ρ 10 = .int .i64 ((p : Nat) : Int) := outD hf 10 rfl
                                  exact .inl ⟨rfl, L_move (V := .int .i64 ((p : Nat) : Int)) r10 ⟨hs, f0, f1, f2, f3, f4, f5, f6, f7, f8, f9, f10, fun _ => rfl, f12, f13, f14, f15, f16, f17⟩⟩
                                · rintro D ρ wx hD hd hdc hf ⟨hs, f0, f1, f2, f3, f4, f5, f6, f7, f8, f9, f10, f11, f12, f13, f14, f15, f16, f17⟩
                                  have g10 := f10 (doneD hd 10 rfl)
                                  have g11 := f11 (doneD hd 11 rfl)
                                  have d15 : D 15 = false := (notYetD hdc (j := 15) rfl rfl (notYetD hdc (j := 13) rfl rfl hD))
                                  have d17 : D 17 = false := (notYetD hdc (j := 17) rfl rfl hD)
                                  have hs0 := hs; rw [d15, d17] at hs0
                                  exact .inl ⟨rfl, L_ixR UD_72 S1_57.1 (hs0.rd 0 rfl) g10 g11 (by omega) (by simp only [List.length_map, Array.length_toList, Array.size_setIfInBounds, Go.Sort.size_swp]; omega) ⟨hs, f0, f1, f2, f3, f4, f5, f6, f7, f8, f9, f10, f11, fun _ => rfl, f13, f14, f15, f16, f17⟩⟩
                                · rintro D ρ wx hD hd hdc hf ⟨hs, f0, f1, f2, f3, f4, f5, f6, f7, f8, f9, f10, f11, f12, f13, f14, f15, f16, f17⟩
                                  have g12 := f12 (doneD hd 12 rfl)
                                  have d15 : D 15 = false := (notYetD hdc (j := 15) rfl rfl hD)
                                  have d17 : D 17 = false := (notYetD hdc (j := 17) rfl rfl hD)
                                  have hs0 := hs; rw [d15, d17] at hs0
                                  exact .inl ⟨rfl, L_ldR (j := 0) (V := .int .u16 (d6[p]!)) p S1_57 (hs0.rd 0 rfl) (da_at (by omega)) rfl g12 (by omega) ⟨hs, f0, f1, f2, f3, f4, f5, f6, f7, f8, f9, f10, f11, f12, fun _ => rfl, f14, f15, f16, f17⟩⟩
                                · rintro D ρ wx hD hd hdc hf ⟨hs, f0, f1, f2, f3, f4, f5, f6, f7, f8, f9, f10, f11, f12, f13, f14, f15, f16, f17⟩
                                  have g0 := f0 (doneD hd 0 rfl)
                                  have g1 := f1 (doneD hd 1 rfl)
                                  have d15 : D 15 = false := (notYetD hdc (j := 15) rfl rfl hD)
                                  have d17 : D 17 = false := (notYetD hdc (j := 17) rfl rfl hD)
                                  have hs0 := hs; rw [d15, d17] at hs0
                                  exact .inl ⟨rfl, L_ixR UD_72 S1_57.1 (hs0.rd 0 rfl) g0 g1 (by omega) (by simp only [List.length_map, Array.length_toList, Array.size_setIfInBounds, Go.Sort.size_swp]; omega) ⟨hs, f0, f1, f2, f3, f4, f5, f6, f7, f8, f9, f10, f11, f12, f13, fun _ => rfl, f15, f16, f17⟩⟩
                                · rintro D ρ wx hD hd hdc hf ⟨hs, f0, f1, f2, f3, f4, f5, f6, f7, f8, f9, f10, f11, f12, f13, f14, f15, f16, f17⟩
                                  have g9 := f9 (doneD hd 9 rfl)
                                  have g14 := f14 (doneD hd 14 rfl)
                                  have d15 : D 15 = false := hD
                                  have d17 : D 17 = false := (notYetD hdc (j := 17) rfl rfl hD)
                                  have hs0 := hs; rw [d15, d17] at hs0
                                  refine .inl ⟨rfl, L_stA (z := d6[p - 1]!) p S1_57 hs0 0 rfl g14 (by omega) (by first | omega | (simp only [Array.size_setIfInBounds, Go.Sort.size_swp]; omega)) g9 rfl rfl fun _ hs0 => ⟨?_, f0, f1, f2, f3, f4, f5, f6, f7, f8, f9, f10, f11, f12, f13, f14, trivial, f16, f17⟩⟩
                                  rw [show Go.Vx.mark D 15 17 = false from d17]
                                  exact hs0
                                · rintro D ρ wx hD hd hdc hf ⟨hs, f0, f1, f2, f3, f4, f5, f6, f7, f8, f9, f10, f11, f12, f13, f14, f15, f16, f17⟩
                                  have g2 := f2 (doneD hd 2 rfl)
                                  have g4 := f4 (doneD hd 4 rfl)
                                  have d15 : D 15 = true := doneD hd 15 rfl
                                  have d17 : D 17 = false := (notYetD hdc (j := 17) rfl rfl hD)
                                  have hs0 := hs; rw [d15, d17] at hs0
                                  exact .inl ⟨rfl, L_ixR UD_72 S1_57.1 (hs0.rd 0 rfl) g2 g4 (by omega) (by simp only [List.length_map, Array.length_toList, Array.size_setIfInBounds, Go.Sort.size_swp]; omega) ⟨hs, f0, f1, f2, f3, f4, f5, f6, f7, f8, f9, f10, f11, f12, f13, f14, f15, fun _ => rfl, f17⟩⟩
                                · rintro D ρ wx hD hd hdc hf ⟨hs, f0, f1, f2, f3, f4, f5, f6, f7, f8, f9, f10, f11, f12, f13, f14, f15, f16, f17⟩
                                  have g13 := f13 (doneD hd 13 rfl)
                                  have g16 := f16 (doneD hd 16 rfl)
                                  have d15 : D 15 = true := doneD hd 15 rfl
                                  have d17 : D 17 = false := hD
                                  have hs0 := hs; rw [d15, d17] at hs0
                                  refine .inl ⟨rfl, L_stA (z := d6[p]!) (p - 1) S1_57 hs0 0 rfl g16 (by omega) (by first | omega | (simp only [Array.size_setIfInBounds, Go.Sort.size_swp]; omega)) g13 rfl rfl fun _ hs0 => ⟨?_, f0, f1, f2, f3, f4, f5, f6, f7, f8, f9, f10, f11, f12, f13, f14, f15, f16, trivial⟩⟩
                                  rw [show Go.Vx.mark D 17 15 = true from d15]
                                  exact hs0
                                · rintro ρ1 w1 D hD hf ⟨hs, f0, f1, f2, f3, f4, f5, f6, f7, f8, f9, f10, f11, f12, f13, f14, f15, f16, f17⟩
                                  rw [hD 15 rfl, hD 17 rfl] at hs
                                  clear f0 f1 f2 f3 f4 f5 f6 f7 f8 f9 f10 f11 f12 f13 f14 f15 f16 f17
                                  obtain ⟨ρ2, hρ⟩ : ∃ ρ2, ρ1 = mix [117, 118, 119, 120, 121, 122, 123, 124, 125, 126, 127, 128, 129, 130, 131, 132] ρ2 _ := ⟨ρ1, mix_of (ds := [117, 118, 119, 120, 121, 122, 123, 124, 125, 126, 127, 128, 129, 130, 131, 132]) hf⟩
                                  clear hf hD
                                  subst hρ
                                  refine W_region ?_
                                  refine RW_op (L_move (V := .int .i64 ((p : Nat) : Int)) rfl ?_)
                                  refine RW_op (L_add (a := ((p : Nat) : Int)) (b := 1) (c := ((p + 1 : Nat) : Int)) rfl rfl (nat_i64 (by omega) (by omega)) ?_)
                                  refine RW_op (L_assign (V := .int .i64 ((p + 1 : Nat) : Int)) rfl ?_)
                                  refine RW_nil ?_
                                  refine ⟨_, ?_, _, p + 1, ((d6.setIfInBounds p (d6[p - 1]!)).setIfInBounds (p - 1) (d6[p]!)), upd_of (mix_of (ds := [10, 101, 102, 103, 104, 105, 106, 107, 108, 109, 110, 111, 112, 113, 114, 115, 116, 117, 118, 119, 120, 121, 122, 123, 124, 125, 126, 127, 128, 129, 130, 131, 132]) (by repeat (first | exact Agr.refl _ _ | refine Agr.upd ?_ rfl | refine Agr.mix ?_ rfl))) rfl, (by omega), (by simp only [Array.size_setIfInBounds]; exact hz6), (by rw [← hup, up_yes c24 c27]; rfl), rfl, hs.take 1⟩
                                  omega
                          ·
                            replace c24 := of_decide_eq_false c24
                            refine W_exit ?_
                            exact ⟨_, d6, mix_of (ds := [10, 99, 100, 101, 102, 103, 104, 105, 106, 107, 108, 109, 110, 111, 112, 113, 114, 115, 116, 117, 118, 119, 120, 121, 122, 123, 124, 125, 126, 127, 128, 129, 130, 131, 132]) (by repeat (first | exact Agr.refl _ _ | refine Agr.upd ?_ rfl | refine Agr.mix ?_ rfl)), (by unfold upI; rw [if_pos (by omega), ← hup, up_0 c24]), hz6, hs.take 1⟩
                      ·
                        replace c22 := of_decide_eq_false c22
                        refine W_skip ?_
                        exact ⟨_, d3, mix_of (ds := [10, 99, 100, 101, 102, 103, 104, 105, 106, 107, 108, 109, 110, 111, 112, 113, 114, 115, 116, 117, 118, 119, 120, 121, 122, 123, 124, 125, 126, 127, 128, 129, 130, 131, 132]) (by repeat (first | exact Agr.refl _ _ | refine Agr.upd ?_ rfl | refine Agr.mix ?_ rfl)), (by unfold upI; rw [if_neg (by omega)]), hz3, hs.take 1⟩
                    · rintro ρ' w31 ⟨ρo, d5, rfl, hd5, hz5, hs⟩
                      refine W_region ?_
                      refine RW_op (L_move (V := .int .i64 ((q : Nat) : Int)) rfl ?_)
                      refine RW_op (L_add (a := ((q : Nat) : Int)) (b := 1) (c := ((q + 1 : Nat) : Int)) rfl rfl (nat_i64 (by omega) (by omega)) ?_)
                      refine RW_op (L_assign (V := .int .i64 ((q + 1 : Nat) : Int)) rfl ?_)
                      refine RW_nil ?_
                      refine ⟨_, ?_, _, q + 1, i2, d5, upd_of (upd_of (mix_of (ds := [6, 7, 8, 9, 10, 13, 14, 15, 16, 17, 18, 19, 20, 21, 22, 23, 24, 25, 26, 27, 28, 29, 30, 31, 32, 33, 34, 35, 36, 37, 38, 39, 40, 41, 42, 43, 44, 45, 46, 47, 48, 49, 50, 51, 52, 53, 54, 55, 56, 57, 58, 59, 60, 61, 62, 63, 64, 65, 66, 67, 68, 69, 70, 71, 72, 73, 74, 75, 76, 77, 78, 79, 80, 81, 82, 83, 84, 85, 86, 87, 88, 89, 90, 91, 92, 93, 94, 95, 96, 97, 98, 99, 100, 101, 102, 103, 104, 105, 106, 107, 108, 109, 110, 111, 112, 113, 114, 115, 116, 117, 118, 119, 120, 121, 122, 123, 124, 125, 126, 127, 128, 129, 130, 131, 132]) (by repeat (first | exact Agr.refl _ _ | refine Agr.upd ?_ rfl | refine Agr.mix ?_ rfl))) rfl) rfl, (by omega), (by omega), (by omega), hz5, (by rw [← hev, pi_step (q := q) (by omega) hi2e, if_neg (by omega), if_neg (by omega), hd5, hd3]), rfl, hs.take 1⟩
                      omega
    ·
      replace c2 := of_decide_eq_false c2
      refine W_exit ?_
      refine W_seq ?_
      refine W_region ?_
      refine RW_op (L_assign (V := .bool false) rfl ?_)
      refine RW_nil ?_
      refine W_ret ?_
      refine ⟨_, res_one (V := .bool false) Try.results107 rfl, ?_⟩
      have hq5 : q = 5 := by omega
      subst hq5
      have hX : Sort.partialInsertionSort Sort.ltInt d lo hi = (d1, false) := hev.symm
      rw [hX]
      exact ⟨(), rfl, hs.take 1, hz1⟩
end Ts
end Go.Proofs
