/- A part of a proof: what functions of the program compute, and plain facts on that. -/
import Derived.Test.YtnanhhiofnohbaaFoldPartsP6
import Derived.Shelf.SlLaysF0
import Derived.Ground.SlsfProg
import Derived.Test.YtnanhhiofnohbaaProg
import Derived.KernelRfl
set_option linter.unusedVariables false
set_option linter.unusedSimpArgs false
namespace Go.Proofs
open Go Go.Vx Go.RowKit
open Tt
namespace Tf
theorem EN_60 : En Try.prog 60 := Try.call60
theorem EN_61 : En Try.prog 61 := Try.call61
theorem UDR_56 : Try.prog.underlying 56 = some (.slice 59) := Try.underlying56
set_option maxRecDepth 20000 in
set_option maxHeartbeats 4000000 in
theorem rHasO_ok (w : World) (a : Option Addr) (c : Nat) (l : List Opn) (d : Dot) (hr : Rd w (.slice a l.length c) 23 (l.map oc)) : Calls Try.prog 60 #[.slice a l.length c, .agg (dc d).toArray] w (fun e w' => e = .returned (.bool (l.any fun o => decide (o.dot = d))) ∧ Own w no w' []) := by
  refine calls_of_Wn (n := 19) Try.func60 rfl Try.ntmps60 rfl ?_
  have hs := Own.start w
  have hn := hr.sml
  refine W_seq ?_
  refine W_region ?_
  refine RW_op (L_box (V := .agg (dc d).toArray) (cs := dc d) rfl rfl hs fun b1 w2 hs => ?_)
  refine RW_op (L_assign (V := .bool false) rfl ?_)
  refine RW_nil ?_
  refine W_seq ?_
  refine W_seq ?_
  refine W_region ?_
  refine RW_op (L_assign (V := .int .i64 0) rfl ?_)
  refine RW_nil ?_
  refine W_block ?_
  refine W_loopI (fun ρ m ρ' w' => ∃ (ρo : Env) (k : Nat), ρ' = upd (mix [4, 5, 6, 7, 8, 9, 10, 11, 12, 13, 14, 15, 16, 17, 18] ρo ρ) 5 (.int .i64 (k : Int)) ∧ (k ≤ l.length) ∧ (∀ j : Nat, j < k → decide ((gd l j).dot = d) = false) ∧ m = l.length - k ∧ Own w no w' [blk b1 (dc d) 34]) ?_ ?_
  · exact ⟨_, _, 0, upd_of (mix_of (ds := [4, 5, 6, 7, 8, 9, 10, 11, 12, 13, 14, 15, 16, 17, 18]) (Agr.refl _ _)) rfl, (by omega), (fun j hj => absurd hj (Nat.not_lt_zero j)), rfl, hs⟩
  · rintro m ρ' w3 ⟨ρo, k, rfl, hk, hno, rfl, hs⟩
    refine W_seq ?_
    refine W_seq ?_
    refine W_region ?_
    refine RW_op (L_move (V := .int .i64 (k : Int)) rfl ?_)
    refine RW_op (L_move (V := .slice a l.length c) rfl ?_)
    refine RW_op (L_lenR (n := l.length) UD_56 (Rd.own' hr hs) (by simp) rfl ?_)
    refine RW_op (L_lss rfl rfl ?_)
    refine RW_nil ?_
    refine W_cond (t := decide ((k : Int) < ((l.length : Nat) : Int))) rfl (fun c4 => ?_) (fun c4 => ?_)
    ·
      replace c4 := of_decide_eq_true c4
      refine W_skip ?_
      refine W_seq ?_
      refine W_block ?_
      refine W_seq ?_
      replace hs := hs.drew
      refine W_draw2 HM [12, 13, 14, 15, 16, 17, 18] [[], [], [0, 1], [2], [3], [], [4, 5]] (fun D ρ wx => Own w no wx [blk b1 (dc d) 34] ∧ (D 0 = true → ρ 12 = .slice a l.length c) ∧ (D 1 = true → ρ 13 = .int .i64 (k : Int)) ∧ (D 2 = true → ρ 14 = .pointer (some ⟨bkS (.slice a l.length c), ofS (.slice a l.length c) + (k : Int).toNat * 23, none⟩)) ∧ (D 3 = true → ρ 15 = .pointer (some ⟨bkS (.slice a l.length c), ofS (.slice a l.length c) + (k : Int).toNat * 23 + 0, none⟩)) ∧ (D 4 = true → ρ 16 = .agg (dc ((gd l k).dot)).toArray) ∧ (D 5 = true → ρ 17 = .agg (dc d).toArray) ∧ (D 6 = true → ρ 18 = .bool (decide ((gd l k).dot = d)))) rfl rfl rfl ⟨hs, fun h => absurd h Bool.false_ne_true, fun h => absurd h Bool.false_ne_true, fun h => absurd h Bool.false_ne_true, fun h => absurd h Bool.false_ne_true, fun h => absurd h Bool.false_ne_true, fun h => absurd h Bool.false_ne_true, fun h => absurd h Bool.false_ne_true⟩ ⟨?_, ?_, ?_, ?_, ?_, ?_, ?_, trivial⟩ ?_
      · rintro D ρ wx hD hd hdc hf ⟨hs, f0, f1, f2, f3, f4, f5, f6⟩
        have r0 : ρ 0 = .slice a l.length c := outD hf 0 rfl
        exact .inl ⟨rfl, L_move (V := .slice a l.length c) r0 ⟨hs, fun _ => rfl, f1, f2, f3, f4, f5, f6⟩⟩
      · rintro D ρ wx hD hd hdc hf ⟨hs, f0, f1, f2, f3, f4, f5, f6⟩
        have r5 : ρ 5 = .int .i64 (k : Int) := outD hf 5 rfl
        exact .inl ⟨rfl, L_move (V := .int .i64 (k : Int)) r5 ⟨hs, f0, fun _ => rfl, f2, f3, f4, f5, f6⟩⟩
      · rintro D ρ wx hD hd hdc hf ⟨hs, f0, f1, f2, f3, f4, f5, f6⟩
        have g0 := f0 (doneD hd 0 rfl)
        have g1 := f1 (doneD hd 1 rfl)
        exact .inl ⟨rfl, L_ixR UD_56 SA_59.1 (Rd.own' hr hs) g0 g1 (by omega) (by rw [List.length_map]; omega) ⟨hs, f0, f1, fun _ => rfl, f3, f4, f5, f6⟩⟩
      · rintro D ρ wx hD hd hdc hf ⟨hs, f0, f1, f2, f3, f4, f5, f6⟩
        have g2 := f2 (doneD hd 2 rfl)
        exact .inl ⟨rfl, L_fieldAddr FA_59_0 g2 ⟨hs, f0, f1, f2, fun _ => rfl, f4, f5, f6⟩⟩
      · rintro D ρ wx hD hd hdc hf ⟨hs, f0, f1, f2, f3, f4, f5, f6⟩
        have g3 := f3 (doneD hd 3 rfl)
        exact .inl ⟨rfl, L_ldRA (j := 0) (vs := dc ((gd l k).dot)) k SA_34 (Rd.own' hr hs) (gd_at (by omega)) rfl rfl g3 (by omega) ⟨hs, f0, f1, f2, f3, fun _ => rfl, f5, f6⟩⟩
      · rintro D ρ wx hD hd hdc hf ⟨hs, f0, f1, f2, f3, f4, f5, f6⟩
        have r3 : ρ 3 = .pointer (some ⟨b1, 0, none⟩) := outD hf 3 rfl
        exact .inl ⟨rfl, L_ldW (cs := dc d) SA_34 hs 0 rfl r3 rfl ⟨hs, f0, f1, f2, f3, f4, fun _ => rfl, f6⟩⟩
      · rintro D ρ wx hD hd hdc hf ⟨hs, f0, f1, f2, f3, f4, f5, f6⟩
        have g4 := f4 (doneD hd 4 rfl)
        have g5 := f5 (doneD hd 5 rfl)
        exact .inl ⟨rfl, L_eqA (xs := dc ((gd l k).dot)) (ys := dc d) Try.eqGuardType34 (EQ_34 ((gd l k).dot) d) rfl g4 g5 ⟨hs, f0, f1, f2, f3, f4, f5, fun _ => rfl⟩⟩
      · rintro ρ1 w1 D hD hf ⟨hs, f0, f1, f2, f3, f4, f5, f6⟩
        have e6 := f6 (hD 6 rfl)
        clear f0 f1 f2 f3 f4 f5 f6
        obtain ⟨ρ2, hρ⟩ : ∃ ρ2, ρ1 = upd (mix [12, 13, 14, 15, 16, 17, 18] ρ2 _) 18 (.bool (decide ((gd l k).dot = d))) := ⟨ρ1, upd_of (mix_of (ds := [12, 13, 14, 15, 16, 17, 18]) hf) e6⟩
        clear hf hD e6
        subst hρ
        refine W_cond (t := decide ((gd l k).dot = d)) rfl (fun c6 => ?_) (fun c6 => ?_)
        ·
          replace c6 := of_decide_eq_true c6
          refine W_seq ?_
          refine W_region ?_
          refine RW_op (L_assign (V := .bool true) rfl ?_)
          refine RW_nil ?_
          refine W_ret ?_
          refine ⟨_, res_one (V := .bool true) Try.results60 rfl, ?_⟩
          refine ⟨congrArg Ending.returned ?_, hs.take 0⟩
          exact congrArg Value.bool (any_at (p := fun o : Opn => decide (o.dot = d)) (k := k) (by omega) (decide_eq_true c6)).symm
        ·
          replace c6 := of_decide_eq_false c6
          refine W_skip ?_
          refine W_region ?_
          refine RW_op (L_move (V := .int .i64 (k : Int)) rfl ?_)
          refine RW_op (L_add (a := (k : Int)) (b := 1) (c := (k : Int) + 1) rfl rfl (wr_i64 (by omega) (by omega)) ?_)
          refine RW_op (L_assign (V := .int .i64 ((k : Int) + 1)) rfl ?_)
          refine RW_nil ?_
          refine ⟨_, ?_, _, k + 1, upd_of (mix_of (ds := [4, 5, 6, 7, 8, 9, 10, 11, 12, 13, 14, 15, 16, 17, 18]) (by repeat (first | exact Agr.refl _ _ | refine Agr.upd ?_ rfl | refine Agr.mix ?_ rfl))) rfl, (by omega), (no_step (p := fun o : Opn => decide (o.dot = d)) hno (decide_eq_false c6)), rfl, hs.take 1⟩
          omega
    ·
      replace c4 := of_decide_eq_false c4
      refine W_exit ?_
      refine W_seq ?_
      refine W_region ?_
      refine RW_op (L_assign (V := .bool false) rfl ?_)
      refine RW_nil ?_
      refine W_ret ?_
      refine ⟨_, res_one (V := .bool false) Try.results60 rfl, ?_⟩
      refine ⟨congrArg Ending.returned ?_, hs.take 0⟩
      exact congrArg Value.bool (none_any (p := fun o : Opn => decide (o.dot = d)) fun j hj => hno j (by omega)).symm
set_option maxRecDepth 20000 in
set_option maxHeartbeats 4000000 in
theorem rCount_ok (w : World) (a : Option Addr) (c : Nat) (l : List Opn) (v : Vec) (rep : Int) (hl : ∀ o ∈ l, OpnOk o) (hlen : l.length ≤ 1000) (hr : Rd w (.slice a l.length c) 23 (l.map oc)) : Calls Try.prog 61 #[.slice a l.length c, .agg (vc v).toArray, .int .i64 rep] w (fun e w' => e = .returned (.int .u32 (cntR l v rep)) ∧ Own w no w' []) := by
  refine calls_of_Wn (n := 36) Try.func61 rfl Try.ntmps61 rfl ?_
  have hs := Own.start w
  have hn := hr.sml
  refine W_seq ?_
  refine W_region ?_
  refine RW_op (L_box (V := .agg (vc v).toArray) (cs := vc v) rfl rfl hs fun b1 w2 hs => ?_)
  refine RW_op (L_assign (V := .int .u32 0) rfl ?_)
  refine RW_nil ?_
  refine W_seq ?_
  refine W_region ?_
  refine RW_op (L_assign (V := .int .u32 0) rfl ?_)
  refine RW_nil ?_
  refine W_seq ?_
  refine W_seq ?_
  refine W_region ?_
  refine RW_op (L_assign (V := .int .i64 0) rfl ?_)
  refine RW_nil ?_
  refine W_block ?_
  refine W_loopI (fun ρ m ρ' w' => ∃ (ρo : Env) (k : Nat) (n : Int), ρ' = upd (upd (mix [7, 8, 9, 10, 11, 12, 13, 14, 15, 16, 17, 18, 19, 20, 21, 22, 23, 24, 25, 26, 27, 28, 29, 30, 31, 32, 33, 34] ρo ρ) 8 (.int .i64 (k : Int))) 7 (.int .u32 n) ∧ (k ≤ l.length) ∧ (n = cntR (l.take k) v rep) ∧ (0 ≤ n ∧ n ≤ k) ∧ m = l.length - k ∧ Own w no w' [blk b1 (vc v) 24]) ?_ ?_
  · exact ⟨_, _, 0, 0, upd_of (upd_of (mix_of (ds := [7, 8, 9, 10, 11, 12, 13, 14, 15, 16, 17, 18, 19, 20, 21, 22, 23, 24, 25, 26, 27, 28, 29, 30, 31, 32, 33, 34]) (Agr.refl _ _)) rfl) rfl, (by omega), rfl, (by omega), rfl, hs⟩
  · rintro m ρ' w3 ⟨ρo, k, n, rfl, hk, hn2, hnb, rfl, hs⟩
    refine W_seq ?_
    refine W_seq ?_
    refine W_region ?_
    refine RW_op (L_move (V := .int .i64 (k : Int)) rfl ?_)
    refine RW_op (L_move (V := .slice a l.length c) rfl ?_)
    refine RW_op (L_lenR (n := l.length) UD_56 (Rd.own' hr hs) (by simp) rfl ?_)
    refine RW_op (L_lss rfl rfl ?_)
    refine RW_nil ?_
    refine W_cond (t := decide ((k : Int) < ((l.length : Nat) : Int))) rfl (fun c4 => ?_) (fun c4 => ?_)
    ·
      replace c4 := of_decide_eq_true c4
      refine W_skip ?_
      refine W_seq ?_
      refine W_block ?_
      refine W_seq ?_
      have hok := hl _ (gd_mem (l := l) (i := k) (by omega))
      have hdk := hok.1
      have ⟨⟨hr1, hr2⟩, hr3, hr4⟩ := hdk
      replace hs := hs.drew
      refine W_draw2 HM [15, 16, 17, 18, 19, 20, 21, 22, 23, 24, 25, 26, 27, 28, 29, 30, 31, 32] [[], [], [0, 1], [2], [3], [4], [5], [], [6, 7], [8], [9], [9], [9], [11, 12, 9], [13, 9], [14, 9], [10, 15, 9, 9], [9, 16]] (fun D ρ wx => Own w no wx [blk b1 (vc v) 24] ∧ (D 0 = true → ρ 15 = .slice a l.length c) ∧ (D 1 = true → ρ 16 = .int .i64 (k : Int)) ∧ (D 2 = true → ρ 17 = .pointer (some ⟨bkS (.slice a l.length c), ofS (.slice a l.length c) + (k : Int).toNat * 23, none⟩)) ∧ (D 3 = true → ρ 18 = .pointer (some ⟨bkS (.slice a l.length c), ofS (.slice a l.length c) + (k : Int).toNat * 23 + 0, none⟩)) ∧ (D 4 = true → ρ 19 = .pointer (some ⟨bkS (.slice a l.length c), ofS (.slice a l.length c) + (k : Int).toNat * 23 + 0 + 0, none⟩)) ∧ (D 5 = true → ρ 20 = .int .u8 (((gd l k).dot).rep)) ∧ (D 6 = true → ρ 21 = .int .i64 (((gd l k).dot).rep)) ∧ (D 7 = true → ρ 22 = .int .i64 rep) ∧ (D 8 = true → ρ 23 = .bool (decide (((gd l k).dot).rep = rep))) ∧ (D 9 = true → ρ 24 = .bool (decide (((gd l k).dot).rep = rep))) ∧ (D 10 = true → ρ 25 = cond ((decide (((gd l k).dot).rep = rep)) == true) (.agg (vc v).toArray) undef) ∧ (D 11 = true → ρ 26 = cond ((decide (((gd l k).dot).rep = rep)) == true) (.slice a l.length c) undef) ∧ (D 12 = true → ρ 27 = cond ((decide (((gd l k).dot).rep = rep)) == true) (.int .i64 (k : Int)) undef) ∧ (D 13 = true → ρ 28 = cond ((decide (((gd l k).dot).rep = rep)) == true) (.pointer (some ⟨bkS (.slice a l.length c), ofS (.slice a l.length c) + (k : Int).toNat * 23, none⟩)) undef) ∧ (D 14 = true → ρ 29 = cond ((decide (((gd l k).dot).rep = rep)) == true) (.pointer (some ⟨bkS (.slice a l.length c), ofS (.slice a l.length c) + (k : Int).toNat * 23 + 0, none⟩)) undef) ∧ (D 15 = true → ρ 30 = cond ((decide (((gd l k).dot).rep = rep)) == true) (.agg (dc ((gd l k).dot)).toArray) undef) ∧ (D 16 = true → ρ 31 = cond ((decide (((gd l k).dot).rep = rep)) == true) (.bool (hasB v ((gd l k).dot))) undef) ∧ (D 17 = true → ρ 32 = .bool ((decide (((gd l k).dot).rep = rep)) && (hasB v ((gd l k).dot))))) rfl rfl rfl ⟨hs, fun h => absurd h Bool.false_ne_true, fun h => absurd h Bool.false_ne_true, fun h => absurd h Bool.false_ne_true, fun h => absurd h Bool.false_ne_true, fun h => absurd h Bool.false_ne_true, fun h => absurd h Bool.false_ne_true, fun h => absurd h Bool.false_ne_true, fun h => absurd h Bool.false_ne_true, fun h => absurd h Bool.false_ne_true, fun h => absurd h Bool.false_ne_true, fun h => absurd h Bool.false_ne_true, fun h => absurd h Bool.false_ne_true, fun h => absurd h Bool.false_ne_true, fun h => absurd h Bool.false_ne_true, fun h => absurd h Bool.false_ne_true, fun h => absurd h Bool.false_ne_true, fun h => absurd h Bool.false_ne_true, fun h => absurd h Bool.false_ne_true⟩ ⟨?_, ?_, ?_, ?_, ?_, ?_, ?_, ?_, ?_, ?_, ?_, ?_, ?_, ?_, ?_, ?_, ?_, ?_, trivial⟩ ?_
      · rintro D ρ wx hD hd hdc hf ⟨hs, f0, f1, f2, f3, f4, f5, f6, f7, f8, f9, f10, f11, f12, f13, f14, f15, f16, f17⟩
        have r0 : ρ 0 = .slice a l.length c := outD hf 0 rfl
        exact .inl ⟨rfl, L_move (V := .slice a l.length c) r0 ⟨hs, fun _ => rfl, f1, f2, f3, f4, f5, f6, f7, f8, f9, f10, f11, f12, f13, f14, f15, f16, f17⟩⟩
      · rintro D ρ wx hD hd hdc hf ⟨hs, f0, f1, f2, f3, f4, f5, f6, f7, f8, f9, f10, f11, f12, f13, f14, f15, f16, f17⟩
        have r8 : ρ 8 = .int .i64 (k : Int) := outD hf 8 rfl
        exact .inl ⟨rfl, L_move (V := .int .i64 (k : Int)) r8 ⟨hs, f0, fun _ => rfl, f2, f3, f4, f5, f6, f7, f8, f9, f10, f11, f12, f13, f14, f15, f16, f17⟩⟩
      · rintro D ρ wx hD hd hdc hf ⟨hs, f0, f1, f2, f3, f4, f5, f6, f7, f8, f9, f10, f11, f12, f13, f14, f15, f16, f17⟩
        have g0 := f0 (doneD hd 0 rfl)
        have g1 := f1 (doneD hd 1 rfl)
        exact .inl ⟨rfl, L_ixR UD_56 SA_59.1 (Rd.own' hr hs) g0 g1 (by omega) (by rw [List.length_map]; omega) ⟨hs, f0, f1, fun _ => rfl, f3, f4, f5, f6, f7, f8, f9, f10, f11, f12, f13, f14, f15, f16, f17⟩⟩
      · rintro D ρ wx hD hd hdc hf ⟨hs, f0, f1, f2, f3, f4, f5, f6, f7, f8, f9, f10, f11, f12, f13, f14, f15, f16, f17⟩
        have g2 := f2 (doneD hd 2 rfl)
        exact .inl ⟨rfl, L_fieldAddr FA_59_0 g2 ⟨hs, f0, f1, f2, fun _ => rfl, f4, f5, f6, f7, f8, f9, f10, f11, f12, f13, f14, f15, f16, f17⟩⟩
      · rintro D ρ wx hD hd hdc hf ⟨hs, f0, f1, f2, f3, f4, f5, f6, f7, f8, f9, f10, f11, f12, f13, f14, f15, f16, f17⟩
        have g3 := f3 (doneD hd 3 rfl)
        exact .inl ⟨rfl, L_fieldAddr FA_34_0 g3 ⟨hs, f0, f1, f2, f3, fun _ => rfl, f5, f6, f7, f8, f9, f10, f11, f12, f13, f14, f15, f16, f17⟩⟩
      · rintro D ρ wx hD hd hdc hf ⟨hs, f0, f1, f2, f3, f4, f5, f6, f7, f8, f9, f10, f11, f12, f13, f14, f15, f16, f17⟩
        have g4 := f4 (doneD hd 4 rfl)
        exact .inl ⟨rfl, L_ldR (j := 0) (V := .int .u8 (((gd l k).dot).rep)) k S1_5 (Rd.own' hr hs) (gd_at (by omega)) rfl g4 (by omega) ⟨hs, f0, f1, f2, f3, f4, fun _ => rfl, f6, f7, f8, f9, f10, f11, f12, f13, f14, f15, f16, f17⟩⟩
      · rintro D ρ wx hD hd hdc hf ⟨hs, f0, f1, f2, f3, f4, f5, f6, f7, f8, f9, f10, f11, f12, f13, f14, f15, f16, f17⟩
        have g5 := f5 (doneD hd 5 rfl)
        exact .inl ⟨rfl, L_conv UD_5 UD_3 g5 (wr_i64 (by omega) (by omega)) ⟨hs, f0, f1, f2, f3, f4, f5, fun _ => rfl, f7, f8, f9, f10, f11, f12, f13, f14, f15, f16, f17⟩⟩
      · rintro D ρ wx hD hd hdc hf ⟨hs, f0, f1, f2, f3, f4, f5, f6, f7, f8, f9, f10, f11, f12, f13, f14, f15, f16, f17⟩
        have r2 : ρ 2 = .int .i64 rep := outD hf 2 rfl
        exact .inl ⟨rfl, L_move (V := .int .i64 rep) r2 ⟨hs, f0, f1, f2, f3, f4, f5, f6, fun _ => rfl, f8, f9, f10, f11, f12, f13, f14, f15, f16, f17⟩⟩
      · rintro D ρ wx hD hd hdc hf ⟨hs, f0, f1, f2, f3, f4, f5, f6, f7, f8, f9, f10, f11, f12, f13, f14, f15, f16, f17⟩
        have g6 := f6 (doneD hd 6 rfl)
        have g7 := f7 (doneD hd 7 rfl)
        exact .inl ⟨rfl, L_eql g6 g7 ⟨hs, f0, f1, f2, f3, f4, f5, f6, f7, fun _ => rfl, f9, f10, f11, f12, f13, f14, f15, f16, f17⟩⟩
      · rintro D ρ wx hD hd hdc hf ⟨hs, f0, f1, f2, f3, f4, f5, f6, f7, f8, f9, f10, f11, f12, f13, f14, f15, f16, f17⟩
        have g8 := f8 (doneD hd 8 rfl)
        exact .inl ⟨rfl, L_move (V := .bool (decide (((gd l k).dot).rep = rep))) g8 ⟨hs, f0, f1, f2, f3, f4, f5, f6, f7, f8, fun _ => rfl, f10, f11, f12, f13, f14, f15, f16, f17⟩⟩
      · rintro D ρ wx hD hd hdc hf ⟨hs, f0, f1, f2, f3, f4, f5, f6, f7, f8, f9, f10, f11, f12, f13, f14, f15, f16, f17⟩
        have r4 : ρ 4 = .pointer (some ⟨b1, 0, none⟩) := outD hf 4 rfl
        rcases Bool.eq_false_or_eq_true ((decide (((gd l k).dot).rep = rep)) == true) with hG | hG
        rotate_left
        · exact .inr ⟨(Eq.trans (wantG1 (j := 9) rfl (f9 (doneD hd 9 rfl))) hG), ⟨hs, f0, f1, f2, f3, f4, f5, f6, f7, f8, f9, fun _ => (condF hG).symm, f11, f12, f13, f14, f15, f16, f17⟩⟩
        ·
          exact .inl ⟨(Eq.trans (wantG1 (j := 9) rfl (f9 (doneD hd 9 rfl))) hG), L_ldW (cs := vc v) SA_24 hs 0 rfl r4 rfl ⟨hs, f0, f1, f2, f3, f4, f5, f6, f7, f8, f9, fun _ => (condT hG).symm, f11, f12, f13, f14, f15, f16, f17⟩⟩
      · rintro D ρ wx hD hd hdc hf ⟨hs, f0, f1, f2, f3, f4, f5, f6, f7, f8, f9, f10, f11, f12, f13, f14, f15, f16, f17⟩
        have r0 : ρ 0 = .slice a l.length c := outD hf 0 rfl
        rcases Bool.eq_false_or_eq_true ((decide (((gd l k).dot).rep = rep)) == true) with hG | hG
        rotate_left
        · exact .inr ⟨(Eq.trans (wantG1 (j := 9) rfl (f9 (doneD hd 9 rfl))) hG), ⟨hs, f0, f1, f2, f3, f4, f5, f6, f7, f8, f9, f10, fun _ => (condF hG).symm, f12, f13, f14, f15, f16, f17⟩⟩
        ·
          exact .inl ⟨(Eq.trans (wantG1 (j := 9) rfl (f9 (doneD hd 9 rfl))) hG), L_move (V := .slice a l.length c) r0 ⟨hs, f0, f1, f2, f3, f4, f5, f6, f7, f8, f9, f10, fun _ => (condT hG).symm, f12, f13, f14, f15, f16, f17⟩⟩
      · rintro D ρ wx hD hd hdc hf ⟨hs, f0, f1, f2, f3, f4, f5, f6, f7, f8, f9, f10, f11, f12, f13, f14, f15, f16, f17⟩
        have r8 : ρ 8 = .int .i64 (k : Int) := outD hf 8 rfl
        rcases Bool.eq_false_or_eq_true ((decide (((gd l k).dot).rep = rep)) == true) with hG | hG
        rotate_left
        · exact .inr ⟨(Eq.trans (wantG1 (j := 9) rfl (f9 (doneD hd 9 rfl))) hG), ⟨hs, f0, f1, f2, f3, f4, f5, f6, f7, f8, f9, f10, f11, fun _ => (condF hG).symm, f13, f14, f15, f16, f17⟩⟩
        ·
          exact .inl ⟨(Eq.trans (wantG1 (j := 9) rfl (f9 (doneD hd 9 rfl))) hG), L_move (V := .int .i64 (k : Int)) r8 ⟨hs, f0, f1, f2, f3, f4, f5, f6, f7, f8, f9, f10, f11, fun _ => (condT hG).symm, f13, f14, f15, f16, f17⟩⟩
      · rintro D ρ wx hD hd hdc hf ⟨hs, f0, f1, f2, f3, f4, f5, f6, f7, f8, f9, f10, f11, f12, f13, f14, f15, f16, f17⟩
        have g11 := f11 (doneD hd 11 rfl)
        have g12 := f12 (doneD hd 12 rfl)
        rcases Bool.eq_false_or_eq_true ((decide (((gd l k).dot).rep = rep)) == true) with hG | hG
        rotate_left
        · exact .inr ⟨(Eq.trans (wantG1 (j := 9) rfl (f9 (doneD hd 9 rfl))) hG), ⟨hs, f0, f1, f2, f3, f4, f5, f6, f7, f8, f9, f10, f11, f12, fun _ => (condF hG).symm, f14, f15, f16, f17⟩⟩
        ·
          exact .inl ⟨(Eq.trans (wantG1 (j := 9) rfl (f9 (doneD hd 9 rfl))) hG), L_ixR UD_56 SA_59.1 (Rd.own' hr hs) ((g11).trans (condT (by exact hG))) ((g12).trans (condT (by exact hG))) (by omega) (by rw [List.length_map]; omega) ⟨hs, f0, f1, f2, f3, f4, f5, f6, f7, f8, f9, f10, f11, f12, fun _ => (condT hG).symm, f14, f15, f16, f17⟩⟩
      · rintro D ρ wx hD hd hdc hf ⟨hs, f0, f1, f2, f3, f4, f5, f6, f7, f8, f9, f10, f11, f12, f13, f14, f15, f16, f17⟩
        have g13 := f13 (doneD hd 13 rfl)
        rcases Bool.eq_false_or_eq_true ((decide (((gd l k).dot).rep = rep)) == true) with hG | hG
        rotate_left
        · exact .inr ⟨(Eq.trans (wantG1 (j := 9) rfl (f9 (doneD hd 9 rfl))) hG), ⟨hs, f0, f1, f2, f3, f4, f5, f6, f7, f8, f9, f10, f11, f12, f13, fun _ => (condF hG).symm, f15, f16, f17⟩⟩
        ·
          exact .inl ⟨(Eq.trans (wantG1 (j := 9) rfl (f9 (doneD hd 9 rfl))) hG), L_fieldAddr FA_59_0 ((g13).trans (condT (by exact hG))) ⟨hs, f0, f1, f2, f3, f4, f5, f6, f7, f8, f9, f10, f11, f12, f13, fun _ => (condT hG).symm, f15, f16, f17⟩⟩
      · rintro D ρ wx hD hd hdc hf ⟨hs, f0, f1, f2, f3, f4, f5, f6, f7, f8, f9, f10, f11, f12, f13, f14, f15, f16, f17⟩
        have g14 := f14 (doneD hd 14 rfl)
        rcases Bool.eq_false_or_eq_true ((decide (((gd l k).dot).rep = rep)) == true) with hG | hG
        rotate_left
        · exact .inr ⟨(Eq.trans (wantG1 (j := 9) rfl (f9 (doneD hd 9 rfl))) hG), ⟨hs, f0, f1, f2, f3, f4, f5, f6, f7, f8, f9, f10, f11, f12, f13, f14, fun _ => (condF hG).symm, f16, f17⟩⟩
        ·
          exact .inl ⟨(Eq.trans (wantG1 (j := 9) rfl (f9 (doneD hd 9 rfl))) hG), L_ldRA (j := 0) (vs := dc ((gd l k).dot)) k SA_34 (Rd.own' hr hs) (gd_at (by omega)) rfl rfl ((g14).trans (condT (by exact hG))) (by omega) ⟨hs, f0, f1, f2, f3, f4, f5, f6, f7, f8, f9, f10, f11, f12, f13, f14, fun _ => (condT hG).symm, f16, f17⟩⟩
      · rintro D ρ wx hD hd hdc hf ⟨hs, f0, f1, f2, f3, f4, f5, f6, f7, f8, f9, f10, f11, f12, f13, f14, f15, f16, f17⟩
        have g10 := f10 (doneD hd 10 rfl)
        have g15 := f15 (doneD hd 15 rfl)
        rcases Bool.eq_false_or_eq_true ((decide (((gd l k).dot).rep = rep)) == true) with hG | hG
        rotate_left
        · exact .inr ⟨(Eq.trans (wantG1 (j := 9) rfl (f9 (doneD hd 9 rfl))) hG), ⟨hs, f0, f1, f2, f3, f4, f5, f6, f7, f8, f9, f10, f11, f12, f13, f14, f15, fun _ => (condF hG).symm, f17⟩⟩
        ·
          exact .inl ⟨(Eq.trans (wantG1 (j := 9) rfl (f9 (doneD hd 9 rfl))) hG), L_callP (vs := [.agg (vc v).toArray, .agg (dc ((gd l k).dot)).toArray]) (V := .bool (hasB v ((gd l k).dot))) EN_29 rfl (mapc ((g10).trans (condT (by exact hG))) (mapc ((g15).trans (condT (by exact hG))) rfl)) (rHas_ok _ v ((gd l k).dot) (by first | assumption | exact dotOk_mk (by omega) (by omega) (by omega) (by omega))) hs fun _ hs0 => ⟨hs0, f0, f1, f2, f3, f4, f5, f6, f7, f8, f9, f10, f11, f12, f13, f14, f15, fun _ => (condT hG).symm, f17⟩⟩
      · rintro D ρ wx hD hd hdc hf ⟨hs, f0, f1, f2, f3, f4, f5, f6, f7, f8, f9, f10, f11, f12, f13, f14, f15, f16, f17⟩
        have g9 := f9 (doneD hd 9 rfl)
        have g16 := f16 (doneD hd 16 rfl)
        exact .inl ⟨rfl, L_and g9 rfl (fun hg => ((g16).trans (condT (by first | exact beqT hg | rfl)))) ⟨hs, f0, f1, f2, f3, f4, f5, f6, f7, f8, f9, f10, f11, f12, f13, f14, f15, f16, fun _ => rfl⟩⟩
      · rintro ρ1 w1 D hD hf ⟨hs, f0, f1, f2, f3, f4, f5, f6, f7, f8, f9, f10, f11, f12, f13, f14, f15, f16, f17⟩
        have e17 := f17 (hD 17 rfl)
        clear f0 f1 f2 f3 f4 f5 f6 f7 f8 f9 f10 f11 f12 f13 f14 f15 f16 f17
        obtain ⟨ρ2, hρ⟩ : ∃ ρ2, ρ1 = upd (mix [15, 16, 17, 18, 19, 20, 21, 22, 23, 24, 25, 26, 27, 28, 29, 30, 31, 32] ρ2 _) 32 (.bool ((decide (((gd l k).dot).rep = rep)) && (hasB v ((gd l k).dot)))) := ⟨ρ1, upd_of (mix_of (ds := [15, 16, 17, 18, 19, 20, 21, 22, 23, 24, 25, 26, 27, 28, 29, 30, 31, 32]) hf) e17⟩
        clear hf hD e17
        subst hρ
        refine W_cond (t := (decide (((gd l k).dot).rep = rep)) && (hasB v ((gd l k).dot))) rfl (fun c7 => ?_) (fun c7 => ?_)
        ·
          have c7r := and_r c7
          replace c7 := and_l c7
          replace c7 := of_decide_eq_true c7
          refine W_region ?_
          refine RW_op (L_move (V := .int .u32 n) rfl ?_)
          refine RW_op (L_add (a := n) (b := 1) (c := n + 1) rfl rfl (wr_u32 (by omega) (by omega)) ?_)
          refine RW_op (L_assign (V := .int .u32 (n + 1)) rfl ?_)
          refine RW_nil ?_
          refine W_region ?_
          refine RW_op (L_move (V := .int .i64 (k : Int)) rfl ?_)
          refine RW_op (L_add (a := (k : Int)) (b := 1) (c := (k : Int) + 1) rfl rfl (wr_i64 (by omega) (by omega)) ?_)
          refine RW_op (L_assign (V := .int .i64 ((k : Int) + 1)) rfl ?_)
          refine RW_nil ?_
          refine ⟨_, ?_, _, k + 1, n + 1, upd_of (upd_of (mix_of (ds := [7, 8, 9, 10, 11, 12, 13, 14, 15, 16, 17, 18, 19, 20, 21, 22, 23, 24, 25, 26, 27, 28, 29, 30, 31, 32, 33, 34]) (by repeat (first | exact Agr.refl _ _ | refine Agr.upd ?_ rfl | refine Agr.mix ?_ rfl))) rfl) rfl, (by omega), (cnt_yes hn2 (by omega) c7 c7r), (by omega), rfl, hs.take 1⟩
          omega
        ·
          refine W_skip ?_
          refine W_region ?_
          refine RW_op (L_move (V := .int .i64 (k : Int)) rfl ?_)
          refine RW_op (L_add (a := (k : Int)) (b := 1) (c := (k : Int) + 1) rfl rfl (wr_i64 (by omega) (by omega)) ?_)
          refine RW_op (L_assign (V := .int .i64 ((k : Int) + 1)) rfl ?_)
          refine RW_nil ?_
          refine ⟨_, ?_, _, k + 1, n, upd_of (upd_of (mix_of (ds := [7, 8, 9, 10, 11, 12, 13, 14, 15, 16, 17, 18, 19, 20, 21, 22, 23, 24, 25, 26, 27, 28, 29, 30, 31, 32, 33, 34]) (by repeat (first | exact Agr.refl _ _ | refine Agr.upd ?_ rfl | refine Agr.mix ?_ rfl))) rfl) rfl, (by omega), (cnt_no hn2 (by omega) c7), (by omega), rfl, hs.take 1⟩
          omega
    ·
      replace c4 := of_decide_eq_false c4
      refine W_exit ?_
      refine W_seq ?_
      refine W_region ?_
      refine RW_op (L_move (V := .int .u32 n) rfl ?_)
      refine RW_op (L_assign (V := .int .u32 n) rfl ?_)
      refine RW_nil ?_
      refine W_ret ?_
      refine ⟨_, res_one (V := .int .u32 n) Try.results61 rfl, ?_⟩
      refine ⟨congrArg Ending.returned ?_, hs.take 0⟩
      rw [hn2, take_all (by omega)]
set_option maxRecDepth 20000 in
set_option maxHeartbeats 4000000 in
theorem rCarts_ok (w : World) (a : Option Addr) (c : Nat) (l : List Opn) (hl : ∀ o ∈ l, OpnOk o) (hlen : l.length ≤ 1000) (hr : Rd w (.slice a l.length c) 23 (l.map oc)) : Calls Try.prog 39 #[.slice a l.length c] w (fun e w' => ∃ x : Option Addr × Nat, e = .returned (.slice x.1 (cartsP l).length x.2) ∧ Own w no w' [row (.slice x.1 (cartsP l).length x.2) ((cartsP l).map (ic .u16)) 57 1] ∧ True) := by
  refine calls_of_Wn (n := 42) Try.func39 rfl Try.ntmps39 rfl ?_
  have hs := Own.start w
  have hn := hr.sml
  refine W_seq ?_
  refine W_region ?_
  refine RW_op (L_assign (V := .slice none 0 0) rfl ?_)
  refine RW_nil ?_
  refine W_seq ?_
  refine W_region ?_
  refine RW_op (L_assign (V := .slice none 0 0) rfl ?_)
  refine RW_nil ?_
  refine W_seq ?_
  refine W_region ?_
  refine RW_op (L_assign (V := .int .i64 (-1)) rfl ?_)
  refine RW_nil ?_
  refine W_block ?_
  replace hs := hs.more (row (.slice none 0 0) (List.map (ic .u16) []) 57 1) (row_nil _ _ _ _)
  have hcc : ∀ x ∈ l.map (·.cart), 0 ≤ x ∧ x < 65536 := fun x hx => by obtain ⟨o, ho, rfl⟩ := List.mem_map.1 hx; exact (hl o ho).2.2.1
  have hc0 : ∀ x ∈ l.map (·.cart), 0 ≤ x := fun x hx => (hcc x hx).1
  refine W_loopI (fun ρ m ρ' w' => ∃ (ρo : Env) (last : Int) (a1 : Option Addr) (c1 : Nat) (out : List Int), ρ' = upd (upd (mix [2, 3, 4, 5, 6, 7, 8, 9, 10, 11, 12, 13, 14, 15, 16, 17, 18, 19, 20, 21, 22, 23, 24, 25, 26, 27, 28, 29, 30, 31, 32, 33, 34, 35, 36, 37, 38, 39, 40, 41] ρo ρ) 4 (.int .i64 last)) 3 (.slice a1 out.length c1) ∧ (-1 ≤ last ∧ last < 65536) ∧ (((out.length : Nat) : Int) ≤ last + 1) ∧ (UpTo (l.map (·.cart)) last out) ∧ m = (65536 - last).toNat ∧ Own w no w' [row (.slice a1 out.length c1) (out.map (ic .u16)) 57 1]) ?_ ?_
  · exact ⟨_, _, -1, none, 0, [], upd_of (upd_of (mix_of (ds := [2, 3, 4, 5, 6, 7, 8, 9, 10, 11, 12, 13, 14, 15, 16, 17, 18, 19, 20, 21, 22, 23, 24, 25, 26, 27, 28, 29, 30, 31, 32, 33, 34, 35, 36, 37, 38, 39, 40, 41]) (Agr.refl _ _)) rfl) rfl, (by omega), (by simp), (upto_nil hc0), rfl, hs⟩
  · rintro m ρ' w1 ⟨ρo, last, a1, c1, out, rfl, hla, hol, hup, rfl, hs⟩
    refine W_block ?_
    refine W_seq ?_
    refine W_region ?_
    refine RW_op (L_assign (V := .int .i64 (-1)) rfl ?_)
    refine RW_nil ?_
    refine W_seq ?_
    refine W_seq ?_
    refine W_region ?_
    refine RW_op (L_assign (V := .int .i64 0) rfl ?_)
    refine RW_nil ?_
    refine W_block ?_
    refine W_loopI (fun ρ m ρ' w' => ∃ (ρo : Env) (k : Nat) (nx : Int), ρ' = upd (upd (mix [5, 6, 7, 8, 9, 10, 11, 12, 13, 14, 15, 16, 17, 18, 19, 20, 21, 22, 23, 24, 25, 26, 27, 28, 29, 30, 31, 32] ρo ρ) 6 (.int .i64 (k : Int))) 5 (.int .i64 nx) ∧ (k ≤ l.length) ∧ (nx = minAb last ((l.take k).map (·.cart))) ∧ (-1 ≤ nx ∧ nx < 65536) ∧ m = l.length - k ∧ Own w no w' [row (.slice a1 out.length c1) (out.map (ic .u16)) 57 1]) ?_ ?_
    · exact ⟨_, _, 0, -1, upd_of (upd_of (mix_of (ds := [5, 6, 7, 8, 9, 10, 11, 12, 13, 14, 15, 16, 17, 18, 19, 20, 21, 22, 23, 24, 25, 26, 27, 28, 29, 30, 31, 32]) (Agr.refl _ _)) rfl) rfl, (by omega), rfl, (by omega), rfl, hs⟩
    · rintro m ρ' w2 ⟨ρo, k, nx, rfl, hk, hmin, hnx, rfl, hs⟩
      refine W_seq ?_
      refine W_seq ?_
      refine W_region ?_
      refine RW_op (L_move (V := .int .i64 (k : Int)) rfl ?_)
      refine RW_op (L_move (V := .slice a l.length c) rfl ?_)
      refine RW_op (L_lenR (n := l.length) UD_56 (Rd.own' hr hs) (by simp) rfl ?_)
      refine RW_op (L_lss rfl rfl ?_)
      refine RW_nil ?_
      refine W_cond (t := decide ((k : Int) < ((l.length : Nat) : Int))) rfl (fun c3 => ?_) (fun c3 => ?_)
      ·
        replace c3 := of_decide_eq_true c3
        refine W_skip ?_
        refine W_seq ?_
        refine W_block ?_
        refine W_seq ?_
        have hok := hl _ (gd_mem (l := l) (i := k) (by omega))
        have hdk := hok.1
        have ⟨_, _, ⟨hca, hcb⟩, _⟩ := hok
        refine W_region ?_
        refine RW_op (L_move (V := .slice a l.length c) rfl ?_)
        refine RW_op (L_move (V := .int .i64 (k : Int)) rfl ?_)
        refine RW_op (L_ixR UD_56 SA_59.1 (Rd.own' hr hs) rfl rfl (by omega) (by rw [List.length_map]; omega) ?_)
        refine RW_op (L_fieldAddr FA_59_2 rfl ?_)
        refine RW_op (L_ldR (j := 3) (V := .int .u16 ((gd l k).cart)) k S1_57 (Rd.own' hr hs) (gd_at (by omega)) rfl rfl (by omega) ?_)
        refine RW_op (L_conv UD_57 UD_3 rfl (wr_i64 (by omega) (by omega)) ?_)
        refine RW_op (L_assign (V := .int .i64 ((gd l k).cart)) rfl ?_)
        refine RW_nil ?_
        refine W_seq ?_
        refine W_inv2 [20, 21, 22, 23, 24, 25, 26, 27, 28, 29, 30, 31] [[], [], [0, 1], [2], [3], [4, 3], [5, 3, 3], [6], [6], [7, 8, 6], [6, 9, 3], [3, 10]] (fun D ρ wx => Own w no wx [row (.slice a1 out.length c1) (out.map (ic .u16)) 57 1] ∧ (D 0 = true → ρ 20 = .int .i64 ((gd l k).cart)) ∧ (D 1 = true → ρ 21 = .int .i64 last) ∧ (D 2 = true → ρ 22 = .bool (decide (last < (gd l k).cart))) ∧ (D 3 = true → ρ 23 = .bool (decide (last < (gd l k).cart))) ∧ (D 4 = true → ρ 24 = cond ((decide (last < (gd l k).cart)) == true) (.int .i64 nx) undef) ∧ (D 5 = true → ρ 25 = cond ((decide (last < (gd l k).cart)) == true) (.bool (decide (nx < 0))) undef) ∧ (D 6 = true → ρ 26 = cond ((decide (last < (gd l k).cart)) == true) (.bool (decide (nx < 0))) undef) ∧ (D 7 = true → ρ 27 = cond (((decide (last < (gd l k).cart)) == true) && ((decide (nx < 0)) == false)) (.int .i64 ((gd l k).cart)) undef) ∧ (D 8 = true → ρ 28 = cond (((decide (last < (gd l k).cart)) == true) && ((decide (nx < 0)) == false)) (.int .i64 nx) undef) ∧ (D 9 = true → ρ 29 = cond (((decide (last < (gd l k).cart)) == true) && ((decide (nx < 0)) == false)) (.bool (decide ((gd l k).cart < nx))) undef) ∧ (D 10 = true → ρ 30 = cond ((decide (last < (gd l k).cart)) == true) (.bool ((decide (nx < 0)) || (decide ((gd l k).cart < nx)))) undef) ∧ (D 11 = true → ρ 31 = .bool ((decide (last < (gd l k).cart)) && ((decide (nx < 0)) || (decide ((gd l k).cart < nx)))))) rfl rfl rfl ⟨hs, fun h => absurd h Bool.false_ne_true, fun h => absurd h Bool.false_ne_true, fun h => absurd h Bool.false_ne_true, fun h => absurd h Bool.false_ne_true, fun h => absurd h Bool.false_ne_true, fun h => absurd h Bool.false_ne_true, fun h => absurd h Bool.false_ne_true, fun h => absurd h Bool.false_ne_true, fun h => absurd h Bool.false_ne_true, fun h => absurd h Bool.false_ne_true, fun h => absurd h Bool.false_ne_true, fun h => absurd h Bool.false_ne_true⟩ ⟨?_, ?_, ?_, ?_, ?_, ?_, ?_, ?_, ?_, ?_, ?_, ?_, trivial⟩ ?_
        · rintro D ρ wx hD hd hdc hf ⟨hs, f0, f1, f2, f3, f4, f5, f6, f7, f8, f9, f10, f11⟩
          have r7 : ρ 7 = .int .i64 ((gd l k).cart) := outD hf 7 rfl
          exact .inl ⟨rfl, L_move (V := .int .i64 ((gd l k).cart)) r7 ⟨hs, fun _ => rfl, f1, f2, f3, f4, f5, f6, f7, f8, f9, f10, f11⟩⟩
        · rintro D ρ wx hD hd hdc hf ⟨hs, f0, f1, f2, f3, f4, f5, f6, f7, f8, f9, f10, f11⟩
          have r4 : ρ 4 = .int .i64 last := outD hf 4 rfl
          exact .inl ⟨rfl, L_move (V := .int .i64 last) r4 ⟨hs, f0, fun _ => rfl, f2, f3, f4, f5, f6, f7, f8, f9, f10, f11⟩⟩
        · rintro D ρ wx hD hd hdc hf ⟨hs, f0, f1, f2, f3, f4, f5, f6, f7, f8, f9, f10, f11⟩
          have g0 := f0 (doneD hd 0 rfl)
          have g1 := f1 (doneD hd 1 rfl)
          exact .inl ⟨rfl, L_gtr g0 g1 ⟨hs, f0, f1, fun _ => rfl, f3, f4, f5, f6, f7, f8, f9, f10, f11⟩⟩
        · rintro D ρ wx hD hd hdc hf ⟨hs, f0, f1, f2, f3, f4, f5, f6, f7, f8, f9, f10, f11⟩
          have g2 := f2 (doneD hd 2 rfl)
          exact .inl ⟨rfl, L_move (V := .bool (decide (last < (gd l k).cart))) g2 ⟨hs, f0, f1, f2, fun _ => rfl, f4, f5, f6, f7, f8, f9, f10, f11⟩⟩
        · rintro D ρ wx hD hd hdc hf ⟨hs, f0, f1, f2, f3, f4, f5, f6, f7, f8, f9, f10, f11⟩
          have r5 : ρ 5 = .int .i64 nx := outD hf 5 rfl
          rcases Bool.eq_false_or_eq_true ((decide (last < (gd l k).cart)) == true) with hG | hG
          rotate_left
          · exact .inr ⟨(Eq.trans (wantG1 (j := 3) rfl (f3 (doneD hd 3 rfl))) hG), ⟨hs, f0, f1, f2, f3, fun _ => (condF hG).symm, f5, f6, f7, f8, f9, f10, f11⟩⟩
          ·
            exact .inl ⟨(Eq.trans (wantG1 (j := 3) rfl (f3 (doneD hd 3 rfl))) hG), L_move (V := .int .i64 nx) r5 ⟨hs, f0, f1, f2, f3, fun _ => (condT hG).symm, f5, f6, f7, f8, f9, f10, f11⟩⟩
        · rintro D ρ wx hD hd hdc hf ⟨hs, f0, f1, f2, f3, f4, f5, f6, f7, f8, f9, f10, f11⟩
          have g4 := f4 (doneD hd 4 rfl)
          rcases Bool.eq_false_or_eq_true ((decide (last < (gd l k).cart)) == true) with hG | hG
          rotate_left
          · exact .inr ⟨(Eq.trans (wantG1 (j := 3) rfl (f3 (doneD hd 3 rfl))) hG), ⟨hs, f0, f1, f2, f3, f4, fun _ => (condF hG).symm, f6, f7, f8, f9, f10, f11⟩⟩
          ·
            exact .inl ⟨(Eq.trans (wantG1 (j := 3) rfl (f3 (doneD hd 3 rfl))) hG), L_lss ((g4).trans (condT (by exact hG))) rfl ⟨hs, f0, f1, f2, f3, f4, fun _ => (condT hG).symm, f6, f7, f8, f9, f10, f11⟩⟩
        · rintro D ρ wx hD hd hdc hf ⟨hs, f0, f1, f2, f3, f4, f5, f6, f7, f8, f9, f10, f11⟩
          have g5 := f5 (doneD hd 5 rfl)
          rcases Bool.eq_false_or_eq_true ((decide (last < (gd l k).cart)) == true) with hG | hG
          rotate_left
          · exact .inr ⟨(Eq.trans (wantG1 (j := 3) rfl (f3 (doneD hd 3 rfl))) hG), ⟨hs, f0, f1, f2, f3, f4, f5, fun _ => (condF hG).symm, f7, f8, f9, f10, f11⟩⟩
          ·
            exact .inl ⟨(Eq.trans (wantG1 (j := 3) rfl (f3 (doneD hd 3 rfl))) hG), L_move (V := .bool (decide (nx < 0))) ((g5).trans (condT (by exact hG))) ⟨hs, f0, f1, f2, f3, f4, f5, fun _ => (condT hG).symm, f7, f8, f9, f10, f11⟩⟩
        · rintro D ρ wx hD hd hdc hf ⟨hs, f0, f1, f2, f3, f4, f5, f6, f7, f8, f9, f10, f11⟩
          have r7 : ρ 7 = .int .i64 ((gd l k).cart) := outD hf 7 rfl
          rcases Bool.eq_false_or_eq_true (((decide (last < (gd l k).cart)) == true) && ((decide (nx < 0)) == false)) with hG | hG
          rotate_left
          · exact .inr ⟨(Eq.trans (wantG (j := 6) rfl (f6 (doneD hd 6 rfl))) hG), ⟨hs, f0, f1, f2, f3, f4, f5, f6, fun _ => (condF hG).symm, f8, f9, f10, f11⟩⟩
          ·
            exact .inl ⟨(Eq.trans (wantG (j := 6) rfl (f6 (doneD hd 6 rfl))) hG), L_move (V := .int .i64 ((gd l k).cart)) r7 ⟨hs, f0, f1, f2, f3, f4, f5, f6, fun _ => (condT hG).symm, f8, f9, f10, f11⟩⟩
        · rintro D ρ wx hD hd hdc hf ⟨hs, f0, f1, f2, f3, f4, f5, f6, f7, f8, f9, f10, f11⟩
          have r5 : ρ 5 = .int .i64 nx := outD hf 5 rfl
          rcases Bool.eq_false_or_eq_true (((decide (last < (gd l k).cart)) == true) && ((decide (nx < 0)) == false)) with hG | hG
          rotate_left
          · exact .inr ⟨(Eq.trans (wantG (j := 6) rfl (f6 (doneD hd 6 rfl))) hG), ⟨hs, f0, f1, f2, f3, f4, f5, f6, f7, fun _ => (condF hG).symm, f9, f10, f11⟩⟩
          ·
            exact .inl ⟨(Eq.trans (wantG (j := 6) rfl (f6 (doneD hd 6 rfl))) hG), L_move (V := .int .i64 nx) r5 ⟨hs, f0, f1, f2, f3, f4, f5, f6, f7, fun _ => (condT hG).symm, f9, f10, f11⟩⟩
        · rintro D ρ wx hD hd hdc hf ⟨hs, f0, f1, f2, f3, f4, f5, f6, f7, f8, f9, f10, f11⟩
          have g7 := f7 (doneD hd 7 rfl)
          have g8 := f8 (doneD hd 8 rfl)
          rcases Bool.eq_false_or_eq_true (((decide (last < (gd l k).cart)) == true) && ((decide (nx < 0)) == false)) with hG | hG
          rotate_left
          · exact .inr ⟨(Eq.trans (wantG (j := 6) rfl (f6 (doneD hd 6 rfl))) hG), ⟨hs, f0, f1, f2, f3, f4, f5, f6, f7, f8, fun _ => (condF hG).symm, f10, f11⟩⟩
          ·
            exact .inl ⟨(Eq.trans (wantG (j := 6) rfl (f6 (doneD hd 6 rfl))) hG), L_lss ((g7).trans (condT (by exact hG))) ((g8).trans (condT (by exact hG))) ⟨hs, f0, f1, f2, f3, f4, f5, f6, f7, f8, fun _ => (condT hG).symm, f10, f11⟩⟩
        · rintro D ρ wx hD hd hdc hf ⟨hs, f0, f1, f2, f3, f4, f5, f6, f7, f8, f9, f10, f11⟩
          have g6 := f6 (doneD hd 6 rfl)
          have g9 := f9 (doneD hd 9 rfl)
          rcases Bool.eq_false_or_eq_true ((decide (last < (gd l k).cart)) == true) with hG | hG
          rotate_left
          · exact .inr ⟨(Eq.trans (wantG1 (j := 3) rfl (f3 (doneD hd 3 rfl))) hG), ⟨hs, f0, f1, f2, f3, f4, f5, f6, f7, f8, f9, fun _ => (condF hG).symm, f11⟩⟩
          ·
            exact .inl ⟨(Eq.trans (wantG1 (j := 3) rfl (f3 (doneD hd 3 rfl))) hG), L_or ((g6).trans (condT (by exact hG))) rfl (fun hg => ((g9).trans (condT (by exact and_mk hG (beqT hg))))) ⟨hs, f0, f1, f2, f3, f4, f5, f6, f7, f8, f9, fun _ => (condT hG).symm, f11⟩⟩
        · rintro D ρ wx hD hd hdc hf ⟨hs, f0, f1, f2, f3, f4, f5, f6, f7, f8, f9, f10, f11⟩
          have g3 := f3 (doneD hd 3 rfl)
          have g10 := f10 (doneD hd 10 rfl)
          exact .inl ⟨rfl, L_and g3 rfl (fun hg => ((g10).trans (condT (by first | exact beqT hg | rfl)))) ⟨hs, f0, f1, f2, f3, f4, f5, f6, f7, f8, f9, f10, fun _ => rfl⟩⟩
        · rintro ρ1 w1 D hD hf ⟨hs, f0, f1, f2, f3, f4, f5, f6, f7, f8, f9, f10, f11⟩
          have e11 := f11 (hD 11 rfl)
          clear f0 f1 f2 f3 f4 f5 f6 f7 f8 f9 f10 f11
          obtain ⟨ρ2, hρ⟩ : ∃ ρ2, ρ1 = upd (mix [20, 21, 22, 23, 24, 25, 26, 27, 28, 29, 30, 31] ρ2 _) 31 (.bool ((decide (last < (gd l k).cart)) && ((decide (nx < 0)) || (decide ((gd l k).cart < nx))))) := ⟨ρ1, upd_of (mix_of (ds := [20, 21, 22, 23, 24, 25, 26, 27, 28, 29, 30, 31]) hf) e11⟩
          clear hf hD e11
          subst hρ
          refine W_cond (t := (decide (last < (gd l k).cart)) && ((decide (nx < 0)) || (decide ((gd l k).cart < nx)))) rfl (fun c5 => ?_) (fun c5 => ?_)
          ·
            have c5r := and_r c5
            replace c5 := and_l c5
            replace c5 := of_decide_eq_true c5
            refine W_region ?_
            refine RW_op (L_move (V := .int .i64 ((gd l k).cart)) rfl ?_)
            refine RW_op (L_assign (V := .int .i64 ((gd l k).cart)) rfl ?_)
            refine RW_nil ?_
            refine W_region ?_
            refine RW_op (L_move (V := .int .i64 (k : Int)) rfl ?_)
            refine RW_op (L_add (a := (k : Int)) (b := 1) (c := (k : Int) + 1) rfl rfl (wr_i64 (by omega) (by omega)) ?_)
            refine RW_op (L_assign (V := .int .i64 ((k : Int) + 1)) rfl ?_)
            refine RW_nil ?_
            refine ⟨_, ?_, _, k + 1, (gd l k).cart, upd_of (upd_of (mix_of (ds := [5, 6, 7, 8, 9, 10, 11, 12, 13, 14, 15, 16, 17, 18, 19, 20, 21, 22, 23, 24, 25, 26, 27, 28, 29, 30, 31, 32]) (by repeat (first | exact Agr.refl _ _ | refine Agr.upd ?_ rfl | refine Agr.mix ?_ rfl))) rfl) rfl, (by omega), (minAb_yes hmin (by omega) c5 (by have := c5r; simp at this; omega)), (by omega), rfl, hs.take 1⟩
            omega
          ·
            refine W_skip ?_
            refine W_region ?_
            refine RW_op (L_move (V := .int .i64 (k : Int)) rfl ?_)
            refine RW_op (L_add (a := (k : Int)) (b := 1) (c := (k : Int) + 1) rfl rfl (wr_i64 (by omega) (by omega)) ?_)
            refine RW_op (L_assign (V := .int .i64 ((k : Int) + 1)) rfl ?_)
            refine RW_nil ?_
            refine ⟨_, ?_, _, k + 1, nx, upd_of (upd_of (mix_of (ds := [5, 6, 7, 8, 9, 10, 11, 12, 13, 14, 15, 16, 17, 18, 19, 20, 21, 22, 23, 24, 25, 26, 27, 28, 29, 30, 31, 32]) (by repeat (first | exact Agr.refl _ _ | refine Agr.upd ?_ rfl | refine Agr.mix ?_ rfl))) rfl) rfl, (by omega), (minAb_no hmin (by omega) (by intro ⟨h1, h2⟩; have := c5; simp [h1, h2] at this; omega)), (by omega), rfl, hs.take 1⟩
            omega
      ·
        replace c3 := of_decide_eq_false c3
        refine W_exit ?_
        refine W_seq ?_
        refine W_seq ?_
        rw [take_all (by omega)] at hmin
        refine W_region ?_
        refine RW_op (L_move (V := .int .i64 nx) rfl ?_)
        refine RW_op (L_lss rfl rfl ?_)
        refine RW_nil ?_
        refine W_cond (t := decide (nx < 0)) rfl (fun c6 => ?_) (fun c6 => ?_)
        ·
          replace c6 := of_decide_eq_true c6
          refine W_seq ?_
          refine W_region ?_
          refine RW_op (L_move (V := .slice a1 out.length c1) rfl ?_)
          refine RW_op (L_assign (V := .slice a1 out.length c1) rfl ?_)
          refine RW_nil ?_
          refine W_ret ?_
          refine ⟨_, res_one (V := .slice a1 out.length c1) Try.results39 rfl, ?_⟩
          have hX : out = cartsP l := upto_end hup hla.1 hc0 (by rw [← hmin]; exact c6)
          rw [← hX]
          exact ⟨(a1, c1), rfl, hs.only 0 rfl, trivial⟩
        ·
          replace c6 := of_decide_eq_false c6
          refine W_skip ?_
          refine W_seq ?_
          have hup2 : UpTo (l.map (·.cart)) nx (out ++ [nx]) := by rw [hmin]; exact upto_next hup hla.1 hc0 (by rw [← hmin]; exact c6)
          have hgt : last < nx := by
            rcases minAb_spec last hla.1 _ hc0 with ⟨h1, _⟩ | ⟨_, h2, _⟩
            · rw [← hmin] at h1; omega
            · rw [← hmin] at h2; exact h2
          refine W_region ?_
          refine RW_op (L_move (V := .slice a1 out.length c1) rfl ?_)
          refine RW_op (L_move (V := .int .i64 nx) rfl ?_)
          refine RW_op (L_conv UD_3 UD_57 rfl (wr_u16 (by omega) (by omega)) ?_)
          refine RW_op (L_bs (vals := [.int .u16 nx]) (ls := List.map (ic .u16) ([nx] : List Int)) EL_72 rfl rfl rfl (len_map (enc := (ic .u16)) (fun _ => rfl) _) (one_map (ic_one .u16) _) (Nat.le_of_ble_eq_true rfl) hs fun b7 w8 hs => ?_)
          refine RW_op (L_appN (ls' := (out ++ [nx]).map (ic .u16)) (n := (out ++ [nx]).length) EL_72 hs 0 rfl rfl rfl (hs.rd 1 rfl) (one_map (ic_one .u16) _) (by simp only [List.length_map, List.length_append, List.length_cons, List.length_nil]; omega) (by simp) (by simp) fun a9 c9 w10 hs => ?_)
          refine RW_op (L_assign (V := .slice a9 ((out ++ [nx]).length) c9) rfl ?_)
          refine RW_nil ?_
          refine W_region ?_
          refine RW_op (L_move (V := .int .i64 nx) rfl ?_)
          refine RW_op (L_assign (V := .int .i64 nx) rfl ?_)
          refine RW_nil ?_
          refine ⟨_, ?_, _, nx, a9, c9, out ++ [nx], upd_of (upd_of (mix_of (ds := [2, 3, 4, 5, 6, 7, 8, 9, 10, 11, 12, 13, 14, 15, 16, 17, 18, 19, 20, 21, 22, 23, 24, 25, 26, 27, 28, 29, 30, 31, 32, 33, 34, 35, 36, 37, 38, 39, 40, 41]) (by repeat (first | exact Agr.refl _ _ | refine Agr.upd ?_ rfl | refine Agr.mix ?_ rfl))) rfl) rfl, (by omega), (by simp only [List.length_append, List.length_cons, List.length_nil]; omega), hup2, rfl, hs.take 1⟩
          omega
set_option maxRecDepth 20000 in
set_option maxHeartbeats 4000000 in
theorem rUnder_ok (w : World) (v : Vec) (a : Option Addr) (c : Nat) (l : List Opn) (hl : ∀ o ∈ l, OpnOk o) (hlen : l.length ≤ 1000) (hr : Rd w (.slice a l.length c) 23 (l.map oc)) : Calls Try.prog 41 #[.slice a l.length c, .agg (vc v).toArray] w (fun e w' => ∃ x : Option Addr × Nat, e = .returned (.slice x.1 (underP l v).length x.2) ∧ Own w no w' [row (.slice x.1 (underP l v).length x.2) ((underP l v).map oc) 59 23] ∧ True) := by
  refine calls_of_Wn (n := 28) Try.func41 rfl Try.ntmps41 rfl ?_
  have hs := Own.start w
  have hn := hr.sml
  refine W_seq ?_
  refine W_region ?_
  refine RW_op (L_box (V := .agg (vc v).toArray) (cs := vc v) rfl rfl hs fun b1 w2 hs => ?_)
  refine RW_op (L_assign (V := .slice none 0 0) rfl ?_)
  refine RW_nil ?_
  refine W_seq ?_
  refine W_region ?_
  refine RW_op (L_assign (V := .slice none 0 0) rfl ?_)
  refine RW_nil ?_
  refine W_seq ?_
  refine W_seq ?_
  refine W_region ?_
  refine RW_op (L_assign (V := .int .i64 0) rfl ?_)
  refine RW_nil ?_
  refine W_block ?_
  replace hs := hs.more (row (.slice none 0 0) (List.map oc []) 59 23) (row_nil _ _ _ _)
  refine W_loopI (fun ρ m ρ' w' => ∃ (ρo : Env) (k : Nat) (a1 : Option Addr) (c1 : Nat) (out : List Opn), ρ' = upd (upd (mix [5, 6, 7, 8, 9, 10, 11, 12, 13, 14, 15, 16, 17, 18, 19, 20, 21, 22, 23, 24, 25, 26] ρo ρ) 6 (.int .i64 (k : Int))) 5 (.slice a1 out.length c1) ∧ (k ≤ l.length) ∧ (out.length ≤ k) ∧ (out = underP (l.take k) v) ∧ m = l.length - k ∧ Own w no w' [blk b1 (vc v) 24, row (.slice a1 out.length c1) (out.map oc) 59 23]) ?_ ?_
  · exact ⟨_, _, 0, none, 0, [], upd_of (upd_of (mix_of (ds := [5, 6, 7, 8, 9, 10, 11, 12, 13, 14, 15, 16, 17, 18, 19, 20, 21, 22, 23, 24, 25, 26]) (Agr.refl _ _)) rfl) rfl, (by omega), (Nat.le_refl _), rfl, rfl, hs⟩
  · rintro m ρ' w3 ⟨ρo, k, a1, c1, out, rfl, hk, hol, hout, rfl, hs⟩
    refine W_seq ?_
    refine W_seq ?_
    refine W_region ?_
    refine RW_op (L_move (V := .int .i64 (k : Int)) rfl ?_)
    refine RW_op (L_move (V := .slice a l.length c) rfl ?_)
    refine RW_op (L_lenR (n := l.length) UD_56 (Rd.own' hr hs) (by simp) rfl ?_)
    refine RW_op (L_lss rfl rfl ?_)
    refine RW_nil ?_
    refine W_cond (t := decide ((k : Int) < ((l.length : Nat) : Int))) rfl (fun c4 => ?_) (fun c4 => ?_)
    ·
      replace c4 := of_decide_eq_true c4
      refine W_skip ?_
      refine W_seq ?_
      refine W_block ?_
      refine W_seq ?_
      have hok := hl _ (gd_mem (l := l) (i := k) (by omega))
      have hdk := hok.1
      replace hs := hs.drew
      refine W_draw2 HM [13, 14, 15, 16, 17, 18, 19] [[], [], [], [1, 2], [3], [4], [0, 5]] (fun D ρ wx => Own w no wx [blk b1 (vc v) 24, row (.slice a1 out.length c1) (out.map oc) 59 23] ∧ (D 0 = true → ρ 13 = .agg (vc v).toArray) ∧ (D 1 = true → ρ 14 = .slice a l.length c) ∧ (D 2 = true → ρ 15 = .int .i64 (k : Int)) ∧ (D 3 = true → ρ 16 = .pointer (some ⟨bkS (.slice a l.length c), ofS (.slice a l.length c) + (k : Int).toNat * 23, none⟩)) ∧ (D 4 = true → ρ 17 = .pointer (some ⟨bkS (.slice a l.length c), ofS (.slice a l.length c) + (k : Int).toNat * 23 + 0, none⟩)) ∧ (D 5 = true → ρ 18 = .agg (dc ((gd l k).dot)).toArray) ∧ (D 6 = true → ρ 19 = .bool (hasB v ((gd l k).dot)))) rfl rfl rfl ⟨hs, fun h => absurd h Bool.false_ne_true, fun h => absurd h Bool.false_ne_true, fun h => absurd h Bool.false_ne_true, fun h => absurd h Bool.false_ne_true, fun h => absurd h Bool.false_ne_true, fun h => absurd h Bool.false_ne_true, fun h => absurd h Bool.false_ne_true⟩ ⟨?_, ?_, ?_, ?_, ?_, ?_, ?_, trivial⟩ ?_
      · rintro D ρ wx hD hd hdc hf ⟨hs, f0, f1, f2, f3, f4, f5, f6⟩
        have r3 : ρ 3 = .pointer (some ⟨b1, 0, none⟩) := outD hf 3 rfl
        exact .inl ⟨rfl, L_ldW (cs := vc v) SA_24 hs 0 rfl r3 rfl ⟨hs, fun _ => rfl, f1, f2, f3, f4, f5, f6⟩⟩
      · rintro D ρ wx hD hd hdc hf ⟨hs, f0, f1, f2, f3, f4, f5, f6⟩
        have r0 : ρ 0 = .slice a l.length c := outD hf 0 rfl
        exact .inl ⟨rfl, L_move (V := .slice a l.length c) r0 ⟨hs, f0, fun _ => rfl, f2, f3, f4, f5, f6⟩⟩
      · rintro D ρ wx hD hd hdc hf ⟨hs, f0, f1, f2, f3, f4, f5, f6⟩
        have r6 : ρ 6 = .int .i64 (k : Int) := outD hf 6 rfl
        exact .inl ⟨rfl, L_move (V := .int .i64 (k : Int)) r6 ⟨hs, f0, f1, fun _ => rfl, f3, f4, f5, f6⟩⟩
      · rintro D ρ wx hD hd hdc hf ⟨hs, f0, f1, f2, f3, f4, f5, f6⟩
        have g1 := f1 (doneD hd 1 rfl)
        have g2 := f2 (doneD hd 2 rfl)
        exact .inl ⟨rfl, L_ixR UD_56 SA_59.1 (Rd.own' hr hs) g1 g2 (by omega) (by rw [List.length_map]; omega) ⟨hs, f0, f1, f2, fun _ => rfl, f4, f5, f6⟩⟩
      · rintro D ρ wx hD hd hdc hf ⟨hs, f0, f1, f2, f3, f4, f5, f6⟩
        have g3 := f3 (doneD hd 3 rfl)
        exact .inl ⟨rfl, L_fieldAddr FA_59_0 g3 ⟨hs, f0, f1, f2, f3, fun _ => rfl, f5, f6⟩⟩
      · rintro D ρ wx hD hd hdc hf ⟨hs, f0, f1, f2, f3, f4, f5, f6⟩
        have g4 := f4 (doneD hd 4 rfl)
        exact .inl ⟨rfl, L_ldRA (j := 0) (vs := dc ((gd l k).dot)) k SA_34 (Rd.own' hr hs) (gd_at (by omega)) rfl rfl g4 (by omega) ⟨hs, f0, f1, f2, f3, f4, fun _ => rfl, f6⟩⟩
      · rintro D ρ wx hD hd hdc hf ⟨hs, f0, f1, f2, f3, f4, f5, f6⟩
        have g0 := f0 (doneD hd 0 rfl)
        have g5 := f5 (doneD hd 5 rfl)
        exact .inl ⟨rfl, L_callP (vs := [.agg (vc v).toArray, .agg (dc ((gd l k).dot)).toArray]) (V := .bool (hasB v ((gd l k).dot))) EN_29 rfl (mapc g0 (mapc g5 rfl)) (rHas_ok _ v ((gd l k).dot) (by first | assumption | exact dotOk_mk (by omega) (by omega) (by omega) (by omega))) hs fun _ hs0 => ⟨hs0, f0, f1, f2, f3, f4, f5, fun _ => rfl⟩⟩
      · rintro ρ1 w1 D hD hf ⟨hs, f0, f1, f2, f3, f4, f5, f6⟩
        have e6 := f6 (hD 6 rfl)
        clear f0 f1 f2 f3 f4 f5 f6
        obtain ⟨ρ2, hρ⟩ : ∃ ρ2, ρ1 = upd (mix [13, 14, 15, 16, 17, 18, 19] ρ2 _) 19 (.bool (hasB v ((gd l k).dot))) := ⟨ρ1, upd_of (mix_of (ds := [13, 14, 15, 16, 17, 18, 19]) hf) e6⟩
        clear hf hD e6
        subst hρ
        refine W_cond (t := hasB v ((gd l k).dot)) rfl (fun c7 => ?_) (fun c7 => ?_)
        ·
          refine W_region ?_
          refine RW_op (L_move (V := .slice a1 out.length c1) rfl ?_)
          refine RW_op (L_move (V := .slice a l.length c) rfl ?_)
          refine RW_op (L_move (V := .int .i64 (k : Int)) rfl ?_)
          refine RW_op (L_ixR UD_56 SA_59.1 (Rd.own' hr hs) rfl rfl (by omega) (by rw [List.length_map]; omega) ?_)
          refine RW_op (L_ldRA (j := 0) (vs := oc (gd l k)) k SA_59 (Rd.own' hr hs) (gd_at (by omega)) rfl rfl rfl (by omega) ?_)
          refine RW_op (L_bs (vals := [.agg (oc (gd l k)).toArray]) (ls := List.map oc ([gd l k] : List Opn)) EL_56 rfl rfl rfl (len_map (enc := oc) (fun _ => rfl) _) (one_map oc_one _) (Nat.le_of_ble_eq_true rfl) hs fun b8 w9 hs => ?_)
          refine RW_op (L_appN (ls' := (out ++ [gd l k]).map oc) (n := (out ++ [gd l k]).length) EL_56 hs 1 rfl rfl rfl (hs.rd 2 rfl) (one_map oc_one _) (by simp only [List.length_map, List.length_append, List.length_cons, List.length_nil]; omega) (by simp) (by simp) fun a10 c10 w11 hs => ?_)
          refine RW_op (L_assign (V := .slice a10 ((out ++ [gd l k]).length) c10) rfl ?_)
          refine RW_nil ?_
          refine W_region ?_
          refine RW_op (L_move (V := .int .i64 (k : Int)) rfl ?_)
          refine RW_op (L_add (a := (k : Int)) (b := 1) (c := (k : Int) + 1) rfl rfl (wr_i64 (by omega) (by omega)) ?_)
          refine RW_op (L_assign (V := .int .i64 ((k : Int) + 1)) rfl ?_)
          refine RW_nil ?_
          refine ⟨_, ?_, _, k + 1, a10, c10, out ++ [gd l k], upd_of (upd_of (mix_of (ds := [5, 6, 7, 8, 9, 10, 11, 12, 13, 14, 15, 16, 17, 18, 19, 20, 21, 22, 23, 24, 25, 26]) (by repeat (first | exact Agr.refl _ _ | refine Agr.upd ?_ rfl | refine Agr.mix ?_ rfl))) rfl) rfl, (by omega), (by first | omega | (simp only [List.length_append, List.length_cons, List.length_nil]; omega)), (under_yes hout (by omega) c7), rfl, hs.take 2⟩
          omega
        ·
          refine W_skip ?_
          refine W_region ?_
          refine RW_op (L_move (V := .int .i64 (k : Int)) rfl ?_)
          refine RW_op (L_add (a := (k : Int)) (b := 1) (c := (k : Int) + 1) rfl rfl (wr_i64 (by omega) (by omega)) ?_)
          refine RW_op (L_assign (V := .int .i64 ((k : Int) + 1)) rfl ?_)
          refine RW_nil ?_
          refine ⟨_, ?_, _, k + 1, a1, c1, out, upd_of (upd_of (mix_of (ds := [5, 6, 7, 8, 9, 10, 11, 12, 13, 14, 15, 16, 17, 18, 19, 20, 21, 22, 23, 24, 25, 26]) (by repeat (first | exact Agr.refl _ _ | refine Agr.upd ?_ rfl | refine Agr.mix ?_ rfl))) rfl) rfl, (by omega), (by first | omega | (simp only [List.length_append, List.length_cons, List.length_nil]; omega)), (under_no hout (by omega) c7), rfl, hs.take 2⟩
          omega
    ·
      replace c4 := of_decide_eq_false c4
      refine W_exit ?_
      refine W_seq ?_
      refine W_region ?_
      refine RW_op (L_move (V := .slice a1 out.length c1) rfl ?_)
      refine RW_op (L_assign (V := .slice a1 out.length c1) rfl ?_)
      refine RW_nil ?_
      refine W_ret ?_
      refine ⟨_, res_one (V := .slice a1 out.length c1) Try.results41 rfl, ?_⟩
      have hX : out = underP l v := by rw [hout, take_all (by omega)]
      rw [← hX]
      exact ⟨(a1, c1), rfl, hs.only 1 rfl, trivial⟩
set_option maxRecDepth 20000 in
set_option maxHeartbeats 4000000 in
theorem rClosedO_ok (w : World) (a : Option Addr) (c : Nat) (l : List Opn) (hl : ∀ o ∈ l, OpnOk o) (hlen : l.length ≤ 1000) (hr : Rd w (.slice a l.length c) 23 (l.map oc)) : Calls Try.prog 42 #[.slice a l.length c] w (fun e w' => e = .returned (.bool (closedR l)) ∧ Own w no w' []) := by
  refine calls_of_Wn (n := 57) Try.func42 rfl Try.ntmps42 rfl ?_
  have hs := Own.start w
  have hn := hr.sml
  refine W_seq ?_
  refine W_region ?_
  refine RW_op (L_assign (V := .bool false) rfl ?_)
  refine RW_nil ?_
  refine W_seq ?_
  refine W_seq ?_
  refine W_region ?_
  refine RW_op (L_assign (V := .int .i64 0) rfl ?_)
  refine RW_nil ?_
  refine W_block ?_
  refine W_loopI (fun ρ m ρ' w' => ∃ (ρo : Env) (k : Nat), ρ' = upd (mix [2, 3, 6, 7, 8, 9, 10, 11, 12, 13, 14, 15, 16, 17, 18, 19, 20, 21, 22, 23, 24, 25, 26, 27, 28, 29] ρo ρ) 3 (.int .i64 (k : Int)) ∧ (k ≤ l.length) ∧ (∀ j : Nat, j < k → badR l j = false) ∧ m = l.length - k ∧ Own w no w' []) ?_ ?_
  · exact ⟨_, _, 0, upd_of (mix_of (ds := [2, 3, 6, 7, 8, 9, 10, 11, 12, 13, 14, 15, 16, 17, 18, 19, 20, 21, 22, 23, 24, 25, 26, 27, 28, 29]) (Agr.refl _ _)) rfl, (by omega), (fun j hj => absurd hj (Nat.not_lt_zero j)), rfl, hs⟩
  · rintro m ρ' w1 ⟨ρo, k, rfl, hk, hbad, rfl, hs⟩
    refine W_seq ?_
    refine W_seq ?_
    refine W_region ?_
    refine RW_op (L_move (V := .int .i64 (k : Int)) rfl ?_)
    refine RW_op (L_move (V := .slice a l.length c) rfl ?_)
    refine RW_op (L_lenR (n := l.length) UD_56 (Rd.own' hr hs) (by simp) rfl ?_)
    refine RW_op (L_lss rfl rfl ?_)
    refine RW_nil ?_
    refine W_cond (t := decide ((k : Int) < ((l.length : Nat) : Int))) rfl (fun c2 => ?_) (fun c2 => ?_)
    ·
      replace c2 := of_decide_eq_true c2
      refine W_skip ?_
      refine W_seq ?_
      refine W_block ?_
      refine W_seq ?_
      have hok := hl _ (gd_mem (l := l) (i := k) (by omega))
      have hdk := hok.1
      replace hs := hs.drew
      refine W_draw2 HM [12, 13, 14, 15, 16, 17, 18, 19, 20, 21, 22, 23, 24, 25, 26, 27, 28, 29] [[], [], [0, 1], [2], [3], [4], [5], [6, 5], [7], [7], [8, 9, 7], [7], [7], [11, 12, 7], [13, 7], [14, 7], [10, 15, 7, 7], [7, 16]] (fun D ρ wx => Own w no wx [] ∧ (D 0 = true → ρ 12 = .slice a l.length c) ∧ (D 1 = true → ρ 13 = .int .i64 (k : Int)) ∧ (D 2 = true → ρ 14 = .pointer (some ⟨bkS (.slice a l.length c), ofS (.slice a l.length c) + (k : Int).toNat * 23, none⟩)) ∧ (D 3 = true → ρ 15 = .pointer (some ⟨bkS (.slice a l.length c), ofS (.slice a l.length c) + (k : Int).toNat * 23 + 0, none⟩)) ∧ (D 4 = true → ρ 16 = .agg (dc ((gd l k).dot)).toArray) ∧ (D 5 = true → ρ 17 = .bool (dotB ((gd l k).dot))) ∧ (D 6 = true → ρ 18 = .bool (!(dotB ((gd l k).dot)))) ∧ (D 7 = true → ρ 19 = .bool (!(dotB ((gd l k).dot)))) ∧ (D 8 = true → ρ 20 = cond ((!(dotB ((gd l k).dot))) == false) (.slice a l.length c) undef) ∧ (D 9 = true → ρ 21 = cond ((!(dotB ((gd l k).dot))) == false) (.int .i64 (k : Int)) undef) ∧ (D 10 = true → ρ 22 = cond ((!(dotB ((gd l k).dot))) == false) (.slice (sla a 0 c 23) ((l.take k).length) (c - 0)) undef) ∧ (D 11 = true → ρ 23 = cond ((!(dotB ((gd l k).dot))) == false) (.slice a l.length c) undef) ∧ (D 12 = true → ρ 24 = cond ((!(dotB ((gd l k).dot))) == false) (.int .i64 (k : Int)) undef) ∧ (D 13 = true → ρ 25 = cond ((!(dotB ((gd l k).dot))) == false) (.pointer (some ⟨bkS (.slice a l.length c), ofS (.slice a l.length c) + (k : Int).toNat * 23, none⟩)) undef) ∧ (D 14 = true → ρ 26 = cond ((!(dotB ((gd l k).dot))) == false) (.pointer (some ⟨bkS (.slice a l.length c), ofS (.slice a l.length c) + (k : Int).toNat * 23 + 0, none⟩)) undef) ∧ (D 15 = true → ρ 27 = cond ((!(dotB ((gd l k).dot))) == false) (.agg (dc ((gd l k).dot)).toArray) undef) ∧ (D 16 = true → ρ 28 = cond ((!(dotB ((gd l k).dot))) == false) (.bool ((l.take k).any fun o => decide (o.dot = (gd l k).dot))) undef) ∧ (D 17 = true → ρ 29 = .bool ((!(dotB ((gd l k).dot))) || ((l.take k).any fun o => decide (o.dot = (gd l k).dot))))) rfl rfl rfl ⟨hs, fun h => absurd h Bool.false_ne_true, fun h => absurd h Bool.false_ne_true, fun h => absurd h Bool.false_ne_true, fun h => absurd h Bool.false_ne_true, fun h => absurd h Bool.false_ne_true, fun h => absurd h Bool.false_ne_true, fun h => absurd h Bool.false_ne_true, fun h => absurd h Bool.false_ne_true, fun h => absurd h Bool.false_ne_true, fun h => absurd h Bool.false_ne_true, fun h => absurd h Bool.false_ne_true, fun h => absurd h Bool.false_ne_true, fun h => absurd h Bool.false_ne_true, fun h => absurd h Bool.false_ne_true, fun h => absurd h Bool.false_ne_true, fun h => absurd h Bool.false_ne_true, fun h => absurd h Bool.false_ne_true, fun h => absurd h Bool.false_ne_true⟩ ⟨?_, ?_, ?_, ?_, ?_, ?_, ?_, ?_, ?_, ?_, ?_, ?_, ?_, ?_, ?_, ?_, ?_, ?_, trivial⟩ ?_
      · rintro D ρ wx hD hd hdc hf ⟨hs, f0, f1, f2, f3, f4, f5, f6, f7, f8, f9, f10, f11, f12, f13, f14, f15, f16, f17⟩
        have r0 : ρ 0 = .slice a l.length c := outD hf 0 rfl
        exact .inl ⟨rfl, L_move (V := .slice a l.length c) r0 ⟨hs, fun _ => rfl, f1, f2, f3, f4, f5, f6, f7, f8, f9, f10, f11, f12, f13, f14, f15, f16, f17⟩⟩
      · rintro D ρ wx hD hd hdc hf ⟨hs, f0, f1, f2, f3, f4, f5, f6, f7, f8, f9, f10, f11, f12, f13, f14, f15, f16, f17⟩
        have r3 : ρ 3 = .int .i64 (k : Int) := outD hf 3 rfl
        exact .inl ⟨rfl, L_move (V := .int .i64 (k : Int)) r3 ⟨hs, f0, fun _ => rfl, f2, f3, f4, f5, f6, f7, f8, f9, f10, f11, f12, f13, f14, f15, f16, f17⟩⟩
      · rintro D ρ wx hD hd hdc hf ⟨hs, f0, f1, f2, f3, f4, f5, f6, f7, f8, f9, f10, f11, f12, f13, f14, f15, f16, f17⟩
        have g0 := f0 (doneD hd 0 rfl)
        have g1 := f1 (doneD hd 1 rfl)
        exact .inl ⟨rfl, L_ixR UD_56 SA_59.1 (Rd.own' hr hs) g0 g1 (by omega) (by rw [List.length_map]; omega) ⟨hs, f0, f1, fun _ => rfl, f3, f4, f5, f6, f7, f8, f9, f10, f11, f12, f13, f14, f15, f16, f17⟩⟩
      · rintro D ρ wx hD hd hdc hf ⟨hs, f0, f1, f2, f3, f4, f5, f6, f7, f8, f9, f10, f11, f12, f13, f14, f15, f16, f17⟩
        have g2 := f2 (doneD hd 2 rfl)
        exact .inl ⟨rfl, L_fieldAddr FA_59_0 g2 ⟨hs, f0, f1, f2, fun _ => rfl, f4, f5, f6, f7, f8, f9, f10, f11, f12, f13, f14, f15, f16, f17⟩⟩
      · rintro D ρ wx hD hd hdc hf ⟨hs, f0, f1, f2, f3, f4, f5, f6, f7, f8, f9, f10, f11, f12, f13, f14, f15, f16, f17⟩
        have g3 := f3 (doneD hd 3 rfl)
        exact .inl ⟨rfl, L_ldRA (j := 0) (vs := dc ((gd l k).dot)) k SA_34 (Rd.own' hr hs) (gd_at (by omega)) rfl rfl g3 (by omega) ⟨hs, f0, f1, f2, f3, fun _ => rfl, f5, f6, f7, f8, f9, f10, f11, f12, f13, f14, f15, f16, f17⟩⟩
      · rintro D ρ wx hD hd hdc hf ⟨hs, f0, f1, f2, f3, f4, f5, f6, f7, f8, f9, f10, f11, f12, f13, f14, f15, f16, f17⟩
        have g4 := f4 (doneD hd 4 rfl)
        exact .inl ⟨rfl, L_callP (vs := [.agg (dc ((gd l k).dot)).toArray]) (V := .bool (dotB ((gd l k).dot))) EN_46 rfl (mapc g4 rfl) (rDot_ok _ ((gd l k).dot)) hs fun _ hs0 => ⟨hs0, f0, f1, f2, f3, f4, fun _ => rfl, f6, f7, f8, f9, f10, f11, f12, f13, f14, f15, f16, f17⟩⟩
      · rintro D ρ wx hD hd hdc hf ⟨hs, f0, f1, f2, f3, f4, f5, f6, f7, f8, f9, f10, f11, f12, f13, f14, f15, f16, f17⟩
        have g5 := f5 (doneD hd 5 rfl)
        exact .inl ⟨rfl, L_not g5 ⟨hs, f0, f1, f2, f3, f4, f5, fun _ => rfl, f7, f8, f9, f10, f11, f12, f13, f14, f15, f16, f17⟩⟩
      · rintro D ρ wx hD hd hdc hf ⟨hs, f0, f1, f2, f3, f4, f5, f6, f7, f8, f9, f10, f11, f12, f13, f14, f15, f16, f17⟩
        have g6 := f6 (doneD hd 6 rfl)
        exact .inl ⟨rfl, L_move (V := .bool (!(dotB ((gd l k).dot)))) g6 ⟨hs, f0, f1, f2, f3, f4, f5, f6, fun _ => rfl, f8, f9, f10, f11, f12, f13, f14, f15, f16, f17⟩⟩
      · rintro D ρ wx hD hd hdc hf ⟨hs, f0, f1, f2, f3, f4, f5, f6, f7, f8, f9, f10, f11, f12, f13, f14, f15, f16, f17⟩
        have r0 : ρ 0 = .slice a l.length c := outD hf 0 rfl
        rcases Bool.eq_false_or_eq_true ((!(dotB ((gd l k).dot))) == false) with hG | hG
        rotate_left
        · exact .inr ⟨(Eq.trans (wantG1 (j := 7) rfl (f7 (doneD hd 7 rfl))) hG), ⟨hs, f0, f1, f2, f3, f4, f5, f6, f7, fun _ => (condF hG).symm, f9, f10, f11, f12, f13, f14, f15, f16, f17⟩⟩
        ·
          exact .inl ⟨(Eq.trans (wantG1 (j := 7) rfl (f7 (doneD hd 7 rfl))) hG), L_move (V := .slice a l.length c) r0 ⟨hs, f0, f1, f2, f3, f4, f5, f6, f7, fun _ => (condT hG).symm, f9, f10, f11, f12, f13, f14, f15, f16, f17⟩⟩
      · rintro D ρ wx hD hd hdc hf ⟨hs, f0, f1, f2, f3, f4, f5, f6, f7, f8, f9, f10, f11, f12, f13, f14, f15, f16, f17⟩
        have r3 : ρ 3 = .int .i64 (k : Int) := outD hf 3 rfl
        rcases Bool.eq_false_or_eq_true ((!(dotB ((gd l k).dot))) == false) with hG | hG
        rotate_left
        · exact .inr ⟨(Eq.trans (wantG1 (j := 7) rfl (f7 (doneD hd 7 rfl))) hG), ⟨hs, f0, f1, f2, f3, f4, f5, f6, f7, f8, fun _ => (condF hG).symm, f10, f11, f12, f13, f14, f15, f16, f17⟩⟩
        ·
          exact .inl ⟨(Eq.trans (wantG1 (j := 7) rfl (f7 (doneD hd 7 rfl))) hG), L_move (V := .int .i64 (k : Int)) r3 ⟨hs, f0, f1, f2, f3, f4, f5, f6, f7, f8, fun _ => (condT hG).symm, f10, f11, f12, f13, f14, f15, f16, f17⟩⟩
      · rintro D ρ wx hD hd hdc hf ⟨hs, f0, f1, f2, f3, f4, f5, f6, f7, f8, f9, f10, f11, f12, f13, f14, f15, f16, f17⟩
        have g8 := f8 (doneD hd 8 rfl)
        have g9 := f9 (doneD hd 9 rfl)
        rcases Bool.eq_false_or_eq_true ((!(dotB ((gd l k).dot))) == false) with hG | hG
        rotate_left
        · exact .inr ⟨(Eq.trans (wantG1 (j := 7) rfl (f7 (doneD hd 7 rfl))) hG), ⟨hs, f0, f1, f2, f3, f4, f5, f6, f7, f8, f9, fun _ => (condF hG).symm, f11, f12, f13, f14, f15, f16, f17⟩⟩
        ·
          exact .inl ⟨(Eq.trans (wantG1 (j := 7) rfl (f7 (doneD hd 7 rfl))) hG), L_sl (l := 0) (h := k) (m := c) (n' := (l.take k).length) UDR_56 SA_59.1 (Rd.own' hr hs) ((g8).trans (condT (by exact hG))) (.inl ⟨rfl, rfl⟩) (.inr ⟨_, _, rfl, ((g9).trans (condT (by exact hG)))⟩) (.inl ⟨rfl, rfl⟩) (by omega) (by omega) (Nat.le_trans (show k ≤ l.length by omega) (Rd.roomM (Rd.own' hr hs))) (Nat.le_refl _) (by simp only [List.length_take, List.length_drop] <;> omega) ⟨hs, f0, f1, f2, f3, f4, f5, f6, f7, f8, f9, fun _ => (condT hG).symm, f11, f12, f13, f14, f15, f16, f17⟩⟩
      · rintro D ρ wx hD hd hdc hf ⟨hs, f0, f1, f2, f3, f4, f5, f6, f7, f8, f9, f10, f11, f12, f13, f14, f15, f16, f17⟩
        have r0 : ρ 0 = .slice a l.length c := outD hf 0 rfl
        rcases Bool.eq_false_or_eq_true ((!(dotB ((gd l k).dot))) == false) with hG | hG
        rotate_left
        · exact .inr ⟨(Eq.trans (wantG1 (j := 7) rfl (f7 (doneD hd 7 rfl))) hG), ⟨hs, f0, f1, f2, f3, f4, f5, f6, f7, f8, f9, f10, fun _ => (condF hG).symm, f12, f13, f14, f15, f16, f17⟩⟩
        ·
          exact .inl ⟨(Eq.trans (wantG1 (j := 7) rfl (f7 (doneD hd 7 rfl))) hG), L_move (V := .slice a l.length c) r0 ⟨hs, f0, f1, f2, f3, f4, f5, f6, f7, f8, f9, f10, fun _ => (condT hG).symm, f12, f13, f14, f15, f16, f17⟩⟩
      · rintro D ρ wx hD hd hdc hf ⟨hs, f0, f1, f2, f3, f4, f5, f6, f7, f8, f9, f10, f11, f12, f13, f14, f15, f16, f17⟩
        have r3 : ρ 3 = .int .i64 (k : Int) := outD hf 3 rfl
        rcases Bool.eq_false_or_eq_true ((!(dotB ((gd l k).dot))) == false) with hG | hG
        rotate_left
        · exact .inr ⟨(Eq.trans (wantG1 (j := 7) rfl (f7 (doneD hd 7 rfl))) hG), ⟨hs, f0, f1, f2, f3, f4, f5, f6, f7, f8, f9, f10, f11, fun _ => (condF hG).symm, f13, f14, f15, f16, f17⟩⟩
        ·
          exact .inl ⟨(Eq.trans (wantG1 (j := 7) rfl (f7 (doneD hd 7 rfl))) hG), L_move (V := .int .i64 (k : Int)) r3 ⟨hs, f0, f1, f2, f3, f4, f5, f6, f7, f8, f9, f10, f11, fun _ => (condT hG).symm, f13, f14, f15, f16, f17⟩⟩
      · rintro D ρ wx hD hd hdc hf ⟨hs, f0, f1, f2, f3, f4, f5, f6, f7, f8, f9, f10, f11, f12, f13, f14, f15, f16, f17⟩
        have g11 := f11 (doneD hd 11 rfl)
        have g12 := f12 (doneD hd 12 rfl)
        rcases Bool.eq_false_or_eq_true ((!(dotB ((gd l k).dot))) == false) with hG | hG
        rotate_left
        · exact .inr ⟨(Eq.trans (wantG1 (j := 7) rfl (f7 (doneD hd 7 rfl))) hG), ⟨hs, f0, f1, f2, f3, f4, f5, f6, f7, f8, f9, f10, f11, f12, fun _ => (condF hG).symm, f14, f15, f16, f17⟩⟩
        ·
          exact .inl ⟨(Eq.trans (wantG1 (j := 7) rfl (f7 (doneD hd 7 rfl))) hG), L_ixR UD_56 SA_59.1 (Rd.own' hr hs) ((g11).trans (condT (by exact hG))) ((g12).trans (condT (by exact hG))) (by omega) (by rw [List.length_map]; omega) ⟨hs, f0, f1, f2, f3, f4, f5, f6, f7, f8, f9, f10, f11, f12, fun _ => (condT hG).symm, f14, f15, f16, f17⟩⟩
      · rintro D ρ wx hD hd hdc hf ⟨hs, f0, f1, f2, f3, f4, f5, f6, f7, f8, f9, f10, f11, f12, f13, f14, f15, f16, f17⟩
        have g13 := f13 (doneD hd 13 rfl)
        rcases Bool.eq_false_or_eq_true ((!(dotB ((gd l k).dot))) == false) with hG | hG
        rotate_left
        · exact .inr ⟨(Eq.trans (wantG1 (j := 7) rfl (f7 (doneD hd 7 rfl))) hG), ⟨hs, f0, f1, f2, f3, f4, f5, f6, f7, f8, f9, f10, f11, f12, f13, fun _ => (condF hG).symm, f15, f16, f17⟩⟩
        ·
          exact .inl ⟨(Eq.trans (wantG1 (j := 7) rfl (f7 (doneD hd 7 rfl))) hG), L_fieldAddr FA_59_0 ((g13).trans (condT (by exact hG))) ⟨hs, f0, f1, f2, f3, f4, f5, f6, f7, f8, f9, f10, f11, f12, f13, fun _ => (condT hG).symm, f15, f16, f17⟩⟩
      · rintro D ρ wx hD hd hdc hf ⟨hs, f0, f1, f2, f3, f4, f5, f6, f7, f8, f9, f10, f11, f12, f13, f14, f15, f16, f17⟩
        have g14 := f14 (doneD hd 14 rfl)
        rcases Bool.eq_false_or_eq_true ((!(dotB ((gd l k).dot))) == false) with hG | hG
        rotate_left
        · exact .inr ⟨(Eq.trans (wantG1 (j := 7) rfl (f7 (doneD hd 7 rfl))) hG), ⟨hs, f0, f1, f2, f3, f4, f5, f6, f7, f8, f9, f10, f11, f12, f13, f14, fun _ => (condF hG).symm, f16, f17⟩⟩
        ·
          exact .inl ⟨(Eq.trans (wantG1 (j := 7) rfl (f7 (doneD hd 7 rfl))) hG), L_ldRA (j := 0) (vs := dc ((gd l k).dot)) k SA_34 (Rd.own' hr hs) (gd_at (by omega)) rfl rfl ((g14).trans (condT (by exact hG))) (by omega) ⟨hs, f0, f1, f2, f3, f4, f5, f6, f7, f8, f9, f10, f11, f12, f13, f14, fun _ => (condT hG).symm, f16, f17⟩⟩
      · rintro D ρ wx hD hd hdc hf ⟨hs, f0, f1, f2, f3, f4, f5, f6, f7, f8, f9, f10, f11, f12, f13, f14, f15, f16, f17⟩
        have g10 := f10 (doneD hd 10 rfl)
        have g15 := f15 (doneD hd 15 rfl)
        rcases Bool.eq_false_or_eq_true ((!(dotB ((gd l k).dot))) == false) with hG | hG
        rotate_left
        · exact .inr ⟨(Eq.trans (wantG1 (j := 7) rfl (f7 (doneD hd 7 rfl))) hG), ⟨hs, f0, f1, f2, f3, f4, f5, f6, f7, f8, f9, f10, f11, f12, f13, f14, f15, fun _ => (condF hG).symm, f17⟩⟩
        ·
          exact .inl ⟨(Eq.trans (wantG1 (j := 7) rfl (f7 (doneD hd 7 rfl))) hG), L_callP (vs := [.slice (sla a 0 c 23) ((l.take k).length) (c - 0), .agg (dc ((gd l k).dot)).toArray]) (V := .bool ((l.take k).any fun o => decide (o.dot = (gd l k).dot))) EN_60 rfl (mapc ((g10).trans (condT (by exact hG))) (mapc ((g15).trans (condT (by exact hG))) rfl)) (rHasO_ok _ (sla a 0 c 23) (c - 0) (l.take k) ((gd l k).dot) (Rd.subM (Rd.own' hr hs) 0 k c (by omega) (by omega) (Nat.le_trans (show k ≤ l.length by omega) (Rd.roomM (Rd.own' hr hs))) (Nat.le_refl _) _ (by simp only [List.length_take, List.length_drop] <;> omega))) hs fun _ hs0 => ⟨hs0, f0, f1, f2, f3, f4, f5, f6, f7, f8, f9, f10, f11, f12, f13, f14, f15, fun _ => (condT hG).symm, f17⟩⟩
      · rintro D ρ wx hD hd hdc hf ⟨hs, f0, f1, f2, f3, f4, f5, f6, f7, f8, f9, f10, f11, f12, f13, f14, f15, f16, f17⟩
        have g7 := f7 (doneD hd 7 rfl)
        have g16 := f16 (doneD hd 16 rfl)
        exact .inl ⟨rfl, L_or g7 rfl (fun hg => ((g16).trans (condT (by first | exact beqT hg | rfl)))) ⟨hs, f0, f1, f2, f3, f4, f5, f6, f7, f8, f9, f10, f11, f12, f13, f14, f15, f16, fun _ => rfl⟩⟩
      · rintro ρ1 w1 D hD hf ⟨hs, f0, f1, f2, f3, f4, f5, f6, f7, f8, f9, f10, f11, f12, f13, f14, f15, f16, f17⟩
        have e17 := f17 (hD 17 rfl)
        clear f0 f1 f2 f3 f4 f5 f6 f7 f8 f9 f10 f11 f12 f13 f14 f15 f16 f17
        obtain ⟨ρ2, hρ⟩ : ∃ ρ2, ρ1 = upd (mix [12, 13, 14, 15, 16, 17, 18, 19, 20, 21, 22, 23, 24, 25, 26, 27, 28, 29] ρ2 _) 29 (.bool ((!(dotB ((gd l k).dot))) || ((l.take k).any fun o => decide (o.dot = (gd l k).dot)))) := ⟨ρ1, upd_of (mix_of (ds := [12, 13, 14, 15, 16, 17, 18, 19, 20, 21, 22, 23, 24, 25, 26, 27, 28, 29]) hf) e17⟩
        clear hf hD e17
        subst hρ
        refine W_cond (t := (!(dotB ((gd l k).dot))) || ((l.take k).any fun o => decide (o.dot = (gd l k).dot))) rfl (fun c6 => ?_) (fun c6 => ?_)
        ·
          refine W_seq ?_
          refine W_region ?_
          refine RW_op (L_assign (V := .bool false) rfl ?_)
          refine RW_nil ?_
          refine W_ret ?_
          refine ⟨_, res_one (V := .bool false) Try.results42 rfl, ?_⟩
          refine ⟨congrArg Ending.returned ?_, hs.take 0⟩
          exact congrArg Value.bool (closedR_bad (k := k) (by omega) (by unfold badR; exact c6)).symm
        ·
          have c6r := or_r c6
          replace c6 := or_l c6
          replace c6 := not_f c6
          refine W_skip ?_
          refine W_region ?_
          refine RW_op (L_move (V := .int .i64 (k : Int)) rfl ?_)
          refine RW_op (L_add (a := (k : Int)) (b := 1) (c := (k : Int) + 1) rfl rfl (wr_i64 (by omega) (by omega)) ?_)
          refine RW_op (L_assign (V := .int .i64 ((k : Int) + 1)) rfl ?_)
          refine RW_nil ?_
          refine ⟨_, ?_, _, k + 1, upd_of (mix_of (ds := [2, 3, 6, 7, 8, 9, 10, 11, 12, 13, 14, 15, 16, 17, 18, 19, 20, 21, 22, 23, 24, 25, 26, 27, 28, 29]) (by repeat (first | exact Agr.refl _ _ | refine Agr.upd ?_ rfl | refine Agr.mix ?_ rfl))) rfl, (by omega), (no_step2 hbad (by unfold badR; rw [c6, c6r]; rfl)), rfl, hs.take 0⟩
          omega
    ·
      replace c2 := of_decide_eq_false c2
      refine W_exit ?_
      refine W_seq ?_
      refine W_seq ?_
      refine W_region ?_
      refine RW_op (L_assign (V := .int .i64 0) rfl ?_)
      refine RW_nil ?_
      refine W_block ?_
      refine W_loopI (fun ρ m ρ' w' => ∃ (ρo : Env) (k2 : Nat), ρ' = upd (mix [2, 4, 5, 30, 31, 32, 33, 34, 35, 36, 37, 38, 39, 40, 41, 42, 43, 44, 45, 46, 47, 48, 49, 50, 51, 52, 53, 54, 55, 56] ρo ρ) 4 (.int .i64 (k2 : Int)) ∧ (k2 ≤ l.length) ∧ (∀ j : Nat, j < k2 → knownR l (gd l j) = true) ∧ m = l.length - k2 ∧ Own w no w' []) ?_ ?_
      · exact ⟨_, _, 0, upd_of (mix_of (ds := [2, 4, 5, 30, 31, 32, 33, 34, 35, 36, 37, 38, 39, 40, 41, 42, 43, 44, 45, 46, 47, 48, 49, 50, 51, 52, 53, 54, 55, 56]) (Agr.refl _ _)) rfl, (by omega), (fun j hj => absurd hj (Nat.not_lt_zero j)), rfl, hs⟩
      · rintro m ρ' w7 ⟨ρo, k2, rfl, hk2, hkn, rfl, hs⟩
        refine W_seq ?_
        refine W_seq ?_
        refine W_region ?_
        refine RW_op (L_move (V := .int .i64 (k2 : Int)) rfl ?_)
        refine RW_op (L_move (V := .slice a l.length c) rfl ?_)
        refine RW_op (L_lenR (n := l.length) UD_56 (Rd.own' hr hs) (by simp) rfl ?_)
        refine RW_op (L_lss rfl rfl ?_)
        refine RW_nil ?_
        refine W_cond (t := decide ((k2 : Int) < ((l.length : Nat) : Int))) rfl (fun c8 => ?_) (fun c8 => ?_)
        ·
          replace c8 := of_decide_eq_true c8
          refine W_skip ?_
          refine W_seq ?_
          refine W_block ?_
          refine W_seq ?_
          refine W_region ?_
          refine RW_op (L_assign (V := .int .i64 0) rfl ?_)
          refine RW_nil ?_
          refine W_block ?_
          refine W_loopI (fun ρ m ρ' w' => ∃ (ρo : Env) (k3 : Nat), ρ' = upd (mix [2, 5, 36, 37, 38, 39, 40, 41, 42, 43, 44, 45, 46, 47, 48, 49, 50, 51, 52, 53, 54, 55, 56] ρo ρ) 5 (.int .i64 (k3 : Int)) ∧ (k3 ≤ 16) ∧ (∀ r : Nat, r < k3 → cntR l (gd l k2).ctx (r : Int) = min (vat (gd l k2).ctx r) 1048576) ∧ m = 16 - k3 ∧ Own w no w' []) ?_ ?_
          · exact ⟨_, _, 0, upd_of (mix_of (ds := [2, 5, 36, 37, 38, 39, 40, 41, 42, 43, 44, 45, 46, 47, 48, 49, 50, 51, 52, 53, 54, 55, 56]) (Agr.refl _ _)) rfl, (by omega), (fun j hj => absurd hj (Nat.not_lt_zero j)), rfl, hs⟩
          · rintro m ρ' w9 ⟨ρo, k3, rfl, hk3, hr3, rfl, hs⟩
            refine W_seq ?_
            refine W_seq ?_
            refine W_region ?_
            refine RW_op (L_move (V := .int .i64 (k3 : Int)) rfl ?_)
            refine RW_op (L_lss rfl rfl ?_)
            refine RW_nil ?_
            refine W_cond (t := decide ((k3 : Int) < 16)) rfl (fun c10 => ?_) (fun c10 => ?_)
            ·
              replace c10 := of_decide_eq_true c10
              refine W_skip ?_
              refine W_seq ?_
              refine W_block ?_
              refine W_seq ?_
              have hok2 := hl _ (gd_mem (l := l) (i := k2) (by omega))
              replace hs := hs.drew
              refine W_draw2 HM [40, 41, 42, 43, 44, 45, 46, 47, 48, 49, 50, 51, 52, 53, 54, 55, 56] [[], [], [], [1, 2], [3], [4], [], [0, 5, 6], [], [], [], [8, 9], [11], [12, 10], [13], [14], [7, 15]] (fun D ρ wx => Own w no wx [] ∧ (D 0 = true → ρ 40 = .slice a l.length c) ∧ (D 1 = true → ρ 41 = .slice a l.length c) ∧ (D 2 = true → ρ 42 = .int .i64 (k2 : Int)) ∧ (D 3 = true → ρ 43 = .pointer (some ⟨bkS (.slice a l.length c), ofS (.slice a l.length c) + (k2 : Int).toNat * 23, none⟩)) ∧ (D 4 = true → ρ 44 = .pointer (some ⟨bkS (.slice a l.length c), ofS (.slice a l.length c) + (k2 : Int).toNat * 23 + 7, none⟩)) ∧ (D 5 = true → ρ 45 = .agg (vc ((gd l k2).ctx)).toArray) ∧ (D 6 = true → ρ 46 = .int .i64 (k3 : Int)) ∧ (D 7 = true → ρ 47 = .int .u32 (cntR l ((gd l k2).ctx) (k3 : Int))) ∧ (D 8 = true → ρ 48 = .slice a l.length c) ∧ (D 9 = true → ρ 49 = .int .i64 (k2 : Int)) ∧ (D 10 = true → ρ 50 = .int .i64 (k3 : Int)) ∧ (D 11 = true → ρ 51 = .pointer (some ⟨bkS (.slice a l.length c), ofS (.slice a l.length c) + (k2 : Int).toNat * 23, none⟩)) ∧ (D 12 = true → ρ 52 = .pointer (some ⟨bkS (.slice a l.length c), ofS (.slice a l.length c) + (k2 : Int).toNat * 23 + 7, none⟩)) ∧ (D 13 = true → ρ 53 = .pointer (some ⟨bkS (.slice a l.length c), ofS (.slice a l.length c) + (k2 : Int).toNat * 23 + 7 + (k3 : Int).toNat, none⟩)) ∧ (D 14 = true → ρ 54 = .int .u32 (vat ((gd l k2).ctx) k3)) ∧ (D 15 = true → ρ 55 = .int .u32 (min (vat ((gd l k2).ctx) k3) 1048576)) ∧ (D 16 = true → ρ 56 = .bool (!decide (cntR l ((gd l k2).ctx) (k3 : Int) = min (vat ((gd l k2).ctx) k3) 1048576)))) rfl rfl rfl ⟨hs, fun h => absurd h Bool.false_ne_true, fun h => absurd h Bool.false_ne_true, fun h => absurd h Bool.false_ne_true, fun h => absurd h Bool.false_ne_true, fun h => absurd h Bool.false_ne_true, fun h => absurd h Bool.false_ne_true, fun h => absurd h Bool.false_ne_true, fun h => absurd h Bool.false_ne_true, fun h => absurd h Bool.false_ne_true, fun h => absurd h Bool.false_ne_true, fun h => absurd h Bool.false_ne_true, fun h => absurd h Bool.false_ne_true, fun h => absurd h Bool.false_ne_true, fun h => absurd h Bool.false_ne_true, fun h => absurd h Bool.false_ne_true, fun h => absurd h Bool.false_ne_true, fun h => absurd h Bool.false_ne_true⟩ ⟨?_, ?_, ?_, ?_, ?_, ?_, ?_, ?_, ?_, ?_, ?_, ?_, ?_, ?_, ?_, ?_, ?_, trivial⟩ ?_
              · rintro D ρ wx hD hd hdc hf ⟨hs, f0, f1, f2, f3, f4, f5, f6, f7, f8, f9, f10, f11, f12, f13, f14, f15, f16⟩
                have r0 : ρ 0 = .slice a l.length c := outD hf 0 rfl
                exact .inl ⟨rfl, L_move (V := .slice a l.length c) r0 ⟨hs, fun _ => rfl, f1, f2, f3, f4, f5, f6, f7, f8, f9, f10, f11, f12, f13, f14, f15, f16⟩⟩
              · rintro D ρ wx hD hd hdc hf ⟨hs, f0, f1, f2, f3, f4, f5, f6, f7, f8, f9, f10, f11, f12, f13, f14, f15, f16⟩
                have r0 : ρ 0 = .slice a l.length c := outD hf 0 rfl
                exact .inl ⟨rfl, L_move (V := .slice a l.length c) r0 ⟨hs, f0, fun _ => rfl, f2, f3, f4, f5, f6, f7, f8, f9, f10, f11, f12, f13, f14, f15, f16⟩⟩
              · rintro D ρ wx hD hd hdc hf ⟨hs, f0, f1, f2, f3, f4, f5, f6, f7, f8, f9, f10, f11, f12, f13, f14, f15, f16⟩
                have r4 : ρ 4 = .int .i64 (k2 : Int) := outD hf 4 rfl
                exact .inl ⟨rfl, L_move (V := .int .i64 (k2 : Int)) r4 ⟨hs, f0, f1, fun _ => rfl, f3, f4, f5, f6, f7, f8, f9, f10, f11, f12, f13, f14, f15, f16⟩⟩
              · rintro D ρ wx hD hd hdc hf ⟨hs, f0, f1, f2, f3, f4, f5, f6, f7, f8, f9, f10, f11, f12, f13, f14, f15, f16⟩
                have g1 := f1 (doneD hd 1 rfl)
                have g2 := f2 (doneD hd 2 rfl)
                exact .inl ⟨rfl, L_ixR UD_56 SA_59.1 (Rd.own' hr hs) g1 g2 (by omega) (by rw [List.length_map]; omega) ⟨hs, f0, f1, f2, fun _ => rfl, f4, f5, f6, f7, f8, f9, f10, f11, f12, f13, f14, f15, f16⟩⟩
              · rintro D ρ wx hD hd hdc hf ⟨hs, f0, f1, f2, f3, f4, f5, f6, f7, f8, f9, f10, f11, f12, f13, f14, f15, f16⟩
                have g3 := f3 (doneD hd 3 rfl)
                exact .inl ⟨rfl, L_fieldAddr FA_59_6 g3 ⟨hs, f0, f1, f2, f3, fun _ => rfl, f5, f6, f7, f8, f9, f10, f11, f12, f13, f14, f15, f16⟩⟩
              · rintro D ρ wx hD hd hdc hf ⟨hs, f0, f1, f2, f3, f4, f5, f6, f7, f8, f9, f10, f11, f12, f13, f14, f15, f16⟩
                have g4 := f4 (doneD hd 4 rfl)
                exact .inl ⟨rfl, L_ldRA (j := 7) (vs := vc ((gd l k2).ctx)) k2 SA_24 (Rd.own' hr hs) (gd_at (by omega)) rfl rfl g4 (by omega) ⟨hs, f0, f1, f2, f3, f4, fun _ => rfl, f6, f7, f8, f9, f10, f11, f12, f13, f14, f15, f16⟩⟩
              · rintro D ρ wx hD hd hdc hf ⟨hs, f0, f1, f2, f3, f4, f5, f6, f7, f8, f9, f10, f11, f12, f13, f14, f15, f16⟩
                have r5 : ρ 5 = .int .i64 (k3 : Int) := outD hf 5 rfl
                exact .inl ⟨rfl, L_move (V := .int .i64 (k3 : Int)) r5 ⟨hs, f0, f1, f2, f3, f4, f5, fun _ => rfl, f7, f8, f9, f10, f11, f12, f13, f14, f15, f16⟩⟩
              · rintro D ρ wx hD hd hdc hf ⟨hs, f0, f1, f2, f3, f4, f5, f6, f7, f8, f9, f10, f11, f12, f13, f14, f15, f16⟩
                have g0 := f0 (doneD hd 0 rfl)
                have g5 := f5 (doneD hd 5 rfl)
                have g6 := f6 (doneD hd 6 rfl)
                exact .inl ⟨rfl, L_callP (vs := [.slice a l.length c, .agg (vc ((gd l k2).ctx)).toArray, .int .i64 (k3 : Int)]) (V := .int .u32 (cntR l ((gd l k2).ctx) (k3 : Int))) EN_61 rfl (mapc g0 (mapc g5 (mapc g6 rfl))) (rCount_ok _ a c l ((gd l k2).ctx) (k3 : Int) (by assumption) (by assumption) (Rd.own' hr hs)) hs fun _ hs0 => ⟨hs0, f0, f1, f2, f3, f4, f5, f6, fun _ => rfl, f8, f9, f10, f11, f12, f13, f14, f15, f16⟩⟩
              · rintro D ρ wx hD hd hdc hf ⟨hs, f0, f1, f2, f3, f4, f5, f6, f7, f8, f9, f10, f11, f12, f13, f14, f15, f16⟩
                have r0 : ρ 0 = .slice a l.length c := outD hf 0 rfl
                exact .inl ⟨rfl, L_move (V := .slice a l.length c) r0 ⟨hs, f0, f1, f2, f3, f4, f5, f6, f7, fun _ => rfl, f9, f10, f11, f12, f13, f14, f15, f16⟩⟩
              · rintro D ρ wx hD hd hdc hf ⟨hs, f0, f1, f2, f3, f4, f5, f6, f7, f8, f9, f10, f11, f12, f13, f14, f15, f16⟩
                have r4 : ρ 4 = .int .i64 (k2 : Int) := outD hf 4 rfl
                exact .inl ⟨rfl, L_move (V := .int .i64 (k2 : Int)) r4 ⟨hs, f0, f1, f2, f3, f4, f5, f6, f7, f8, fun _ => rfl, f10, f11, f12, f13, f14, f15, f16⟩⟩
              · rintro D ρ wx hD hd hdc hf ⟨hs, f0, f1, f2, f3, f4, f5, f6, f7, f8, f9, f10, f11, f12, f13, f14, f15, f16⟩
                have r5 : ρ 5 = .int .i64 (k3 : Int) := outD hf 5 rfl
                exact .inl ⟨rfl, L_move (V := .int .i64 (k3 : Int)) r5 ⟨hs, f0, f1, f2, f3, f4, f5, f6, f7, f8, f9, fun _ => rfl, f11, f12, f13, f14, f15, f16⟩⟩
              · rintro D ρ wx hD hd hdc hf ⟨hs, f0, f1, f2, f3, f4, f5, f6, f7, f8, f9, f10, f11, f12, f13, f14, f15, f16⟩
                have g8 := f8 (doneD hd 8 rfl)
                have g9 := f9 (doneD hd 9 rfl)
                exact .inl ⟨rfl, L_ixR UD_56 SA_59.1 (Rd.own' hr hs) g8 g9 (by omega) (by rw [List.length_map]; omega) ⟨hs, f0, f1, f2, f3, f4, f5, f6, f7, f8, f9, f10, fun _ => rfl, f12, f13, f14, f15, f16⟩⟩
              · rintro D ρ wx hD hd hdc hf ⟨hs, f0, f1, f2, f3, f4, f5, f6, f7, f8, f9, f10, f11, f12, f13, f14, f15, f16⟩
                have g11 := f11 (doneD hd 11 rfl)
                exact .inl ⟨rfl, L_fieldAddr FA_59_6 g11 ⟨hs, f0, f1, f2, f3, f4, f5, f6, f7, f8, f9, f10, f11, fun _ => rfl, f13, f14, f15, f16⟩⟩
              · rintro D ρ wx hD hd hdc hf ⟨hs, f0, f1, f2, f3, f4, f5, f6, f7, f8, f9, f10, f11, f12, f13, f14, f15, f16⟩
                have g10 := f10 (doneD hd 10 rfl)
                have g12 := f12 (doneD hd 12 rfl)
                exact .inl ⟨rfl, L_ixArr1 UD_24 S1_22.1 g12 g10 (by omega) (by omega) ⟨hs, f0, f1, f2, f3, f4, f5, f6, f7, f8, f9, f10, f11, f12, fun _ => rfl, f14, f15, f16⟩⟩
              · rintro D ρ wx hD hd hdc hf ⟨hs, f0, f1, f2, f3, f4, f5, f6, f7, f8, f9, f10, f11, f12, f13, f14, f15, f16⟩
                have g13 := f13 (doneD hd 13 rfl)
                exact .inl ⟨rfl, L_ldR (j := 7 + k3) (V := .int .u32 (vat ((gd l k2).ctx) k3)) k2 S1_22 (Rd.own' hr hs) (gd_at (by omega)) (oc_at (by omega)) g13 (by omega) ⟨hs, f0, f1, f2, f3, f4, f5, f6, f7, f8, f9, f10, f11, f12, f13, fun _ => rfl, f15, f16⟩⟩
              · rintro D ρ wx hD hd hdc hf ⟨hs, f0, f1, f2, f3, f4, f5, f6, f7, f8, f9, f10, f11, f12, f13, f14, f15, f16⟩
                have g14 := f14 (doneD hd 14 rfl)
                exact .inl ⟨rfl, L_min g14 rfl ⟨hs, f0, f1, f2, f3, f4, f5, f6, f7, f8, f9, f10, f11, f12, f13, f14, fun _ => rfl, f16⟩⟩
              · rintro D ρ wx hD hd hdc hf ⟨hs, f0, f1, f2, f3, f4, f5, f6, f7, f8, f9, f10, f11, f12, f13, f14, f15, f16⟩
                have g7 := f7 (doneD hd 7 rfl)
                have g15 := f15 (doneD hd 15 rfl)
                exact .inl ⟨rfl, L_neq g7 g15 ⟨hs, f0, f1, f2, f3, f4, f5, f6, f7, f8, f9, f10, f11, f12, f13, f14, f15, fun _ => rfl⟩⟩
              · rintro ρ1 w1 D hD hf ⟨hs, f0, f1, f2, f3, f4, f5, f6, f7, f8, f9, f10, f11, f12, f13, f14, f15, f16⟩
                have e16 := f16 (hD 16 rfl)
                clear f0 f1 f2 f3 f4 f5 f6 f7 f8 f9 f10 f11 f12 f13 f14 f15 f16
                obtain ⟨ρ2, hρ⟩ : ∃ ρ2, ρ1 = upd (mix [40, 41, 42, 43, 44, 45, 46, 47, 48, 49, 50, 51, 52, 53, 54, 55, 56] ρ2 _) 56 (.bool (!decide (cntR l ((gd l k2).ctx) (k3 : Int) = min (vat ((gd l k2).ctx) k3) 1048576))) := ⟨ρ1, upd_of (mix_of (ds := [40, 41, 42, 43, 44, 45, 46, 47, 48, 49, 50, 51, 52, 53, 54, 55, 56]) hf) e16⟩
                clear hf hD e16
                subst hρ
                refine W_cond (t := !decide (cntR l ((gd l k2).ctx) (k3 : Int) = min (vat ((gd l k2).ctx) k3) 1048576)) rfl (fun c13 => ?_) (fun c13 => ?_)
                ·
                  replace c13 := not_t c13
                  replace c13 := of_decide_eq_false c13
                  refine W_seq ?_
                  refine W_region ?_
                  refine RW_op (L_assign (V := .bool false) rfl ?_)
                  refine RW_nil ?_
                  refine W_ret ?_
                  refine ⟨_, res_one (V := .bool false) Try.results42 rfl, ?_⟩
                  refine ⟨congrArg Ending.returned ?_, hs.take 0⟩
                  exact congrArg Value.bool (closedR_no (k := k2) (r := k3) (by omega) (by omega) c13).symm
                ·
                  replace c13 := not_f c13
                  replace c13 := of_decide_eq_true c13
                  refine W_skip ?_
                  refine W_region ?_
                  refine RW_op (L_move (V := .int .i64 (k3 : Int)) rfl ?_)
                  refine RW_op (L_add (a := (k3 : Int)) (b := 1) (c := (k3 : Int) + 1) rfl rfl (wr_i64 (by omega) (by omega)) ?_)
                  refine RW_op (L_assign (V := .int .i64 ((k3 : Int) + 1)) rfl ?_)
                  refine RW_nil ?_
                  refine ⟨_, ?_, _, k3 + 1, upd_of (mix_of (ds := [2, 5, 36, 37, 38, 39, 40, 41, 42, 43, 44, 45, 46, 47, 48, 49, 50, 51, 52, 53, 54, 55, 56]) (by repeat (first | exact Agr.refl _ _ | refine Agr.upd ?_ rfl | refine Agr.mix ?_ rfl))) rfl, (by omega), (fun r hr => if e : r = k3 then by subst e; exact c13 else hr3 r (by omega)), rfl, hs.take 0⟩
                  omega
            ·
              replace c10 := of_decide_eq_false c10
              refine W_exit ?_
              refine W_region ?_
              refine RW_op (L_move (V := .int .i64 (k2 : Int)) rfl ?_)
              refine RW_op (L_add (a := (k2 : Int)) (b := 1) (c := (k2 : Int) + 1) rfl rfl (wr_i64 (by omega) (by omega)) ?_)
              refine RW_op (L_assign (V := .int .i64 ((k2 : Int) + 1)) rfl ?_)
              refine RW_nil ?_
              refine ⟨_, ?_, _, k2 + 1, upd_of (mix_of (ds := [2, 4, 5, 30, 31, 32, 33, 34, 35, 36, 37, 38, 39, 40, 41, 42, 43, 44, 45, 46, 47, 48, 49, 50, 51, 52, 53, 54, 55, 56]) (by repeat (first | exact Agr.refl _ _ | refine Agr.upd ?_ rfl | refine Agr.mix ?_ rfl))) rfl, (by omega), (yes_step (p := fun j => knownR l (gd l j)) hkn (knownR_all fun r hr => hr3 r (by omega))), rfl, hs.take 0⟩
              omega
        ·
          replace c8 := of_decide_eq_false c8
          refine W_exit ?_
          refine W_seq ?_
          refine W_region ?_
          refine RW_op (L_assign (V := .bool true) rfl ?_)
          refine RW_nil ?_
          refine W_ret ?_
          refine ⟨_, res_one (V := .bool true) Try.results42 rfl, ?_⟩
          refine ⟨congrArg Ending.returned ?_, hs.take 0⟩
          exact congrArg Value.bool (closedR_yes (fun j hj => hbad j (by omega)) fun j hj => hkn j (by omega)).symm
end Tf
end Go.Proofs
namespace Go.Proofs
open Go Go.Vx Go.RowKit
open Tt
namespace Tf
theorem SA_67 : TA Try.prog 67 2 := ⟨Try.sizeOf67, Try.isAgg67⟩
set_option maxRecDepth 20000 in
theorem EQ_24 (a b : Vec) : EqF Try.prog 2 24 (.agg (vc a).toArray) (.agg (vc b).toArray) (decide (a = b)) := EqF_vec Try.underlying24 Try.type22 rfl Try.runUnderlying22 ⟨Try.sizeOf22, Try.isAgg22⟩ a b
set_option maxRecDepth 20000 in
theorem EQ_67 (a b : Line) : EqF Try.prog 2 67 (.agg (lc a).toArray) (.agg (lc b).toArray) (decide (a = b)) := by
  rw [← dec_line]
  exact EqF_struct (D := 1) Try.underlying67 Try.stoodInHeld67 (.cons (by decide) (PartF_one ⟨Try.sizeOf57, Try.isAgg57⟩ rfl) (PartF_one ⟨Try.sizeOf57, Try.isAgg57⟩ rfl) ((EqF_int Try.runUnderlying57).up (by decide)) (.cons (by decide) (PartF_one ⟨Try.sizeOf22, Try.isAgg22⟩ rfl) (PartF_one ⟨Try.sizeOf22, Try.isAgg22⟩ rfl) ((EqF_int Try.runUnderlying22).up (by decide)) .nil))
set_option maxRecDepth 20000 in
theorem EQ_59 (a b : Opn) : EqF Try.prog 3 59 (.agg (oc a).toArray) (.agg (oc b).toArray) (decide (a = b)) := by
  rw [← dec_opn]
  exact EqF_struct (D := 2) Try.underlying59 Try.stoodInHeld59 (.cons (by decide) (PartF_agg SA_34 rfl rfl) (PartF_agg SA_34 rfl rfl) ((EQ_34 _ _).up (by decide)) (.cons (by decide) (PartF_one ⟨Try.sizeOf5, Try.isAgg5⟩ rfl) (PartF_one ⟨Try.sizeOf5, Try.isAgg5⟩ rfl) ((EqF_int Try.runUnderlying5).up (by decide)) (.cons (by decide) (PartF_one ⟨Try.sizeOf57, Try.isAgg57⟩ rfl) (PartF_one ⟨Try.sizeOf57, Try.isAgg57⟩ rfl) ((EqF_int Try.runUnderlying57).up (by decide)) (.cons (by decide) (PartF_one ⟨Try.sizeOf57, Try.isAgg57⟩ rfl) (PartF_one ⟨Try.sizeOf57, Try.isAgg57⟩ rfl) ((EqF_int Try.runUnderlying57).up (by decide)) (.cons (by decide) (PartF_one ⟨Try.sizeOf57, Try.isAgg57⟩ rfl) (PartF_one ⟨Try.sizeOf57, Try.isAgg57⟩ rfl) ((EqF_int Try.runUnderlying57).up (by decide)) (.cons (by decide) (PartF_one ⟨Try.sizeOf22, Try.isAgg22⟩ rfl) (PartF_one ⟨Try.sizeOf22, Try.isAgg22⟩ rfl) ((EqF_int Try.runUnderlying22).up (by decide)) (.cons (by decide) (PartF_agg SA_24 rfl rfl) (PartF_agg SA_24 rfl rfl) ((EQ_24 _ _).up (by decide)) .nil)))))))
theorem EN_34 : En Try.prog 34 := Try.call34
theorem UD_61 : Ud Try.prog 61 (.slice 67) := Try.runUnderlying61
section
variable {α : Type} [Inhabited α] {l m : List α}
theorem eqG_step {k : Nat} (h : ∀ j : Nat, j < k → gd l j = gd m j) (hk : gd l k = gd m k) : ∀ j : Nat, j < k + 1 → gd l j = gd m j := by
  intro j hj
  by_cases e : j = k
  · subst e; exact hk
  · exact h j (by omega)
theorem sameG_yes (hn : l.length = m.length) (h : ∀ j : Nat, j < l.length → gd l j = gd m j) : l = m := by
  apply List.ext_getElem hn
  intro j h1 h2
  have := h j h1
  simpa [gd, h1, h2] using this
end
set_option maxRecDepth 20000 in
set_option maxHeartbeats 4000000 in
theorem eqU_ok (w : World) (a b : Option Addr) (c e : Nat) (l l2 : List Int) (hr : Rd w (.slice a l.length c) 1 (l.map (ic .u16))) (hq : Rd w (.slice b l2.length e) 1 (l2.map (ic .u16))) : Calls Try.prog 35 #[.slice a l.length c, .slice b l2.length e] w (fun e w' => e = .returned (.bool (decide (l = l2))) ∧ Own w no w' []) := by
  refine calls_of_Wn (n := 26) Try.func35 rfl Try.ntmps35 rfl ?_
  have hs := Own.start w
  have hn := hr.sml
  refine W_seq ?_
  refine W_region ?_
  refine RW_op (L_assign (V := .bool false) rfl ?_)
  refine RW_nil ?_
  refine W_seq ?_
  refine W_seq ?_
  refine W_region ?_
  refine RW_op (L_move (V := .slice a l.length c) rfl ?_)
  refine RW_op (L_lenR (n := l.length) UD_72 (Rd.own' hr hs) (by simp) rfl ?_)
  refine RW_op (L_move (V := .slice b l2.length e) rfl ?_)
  refine RW_op (L_lenR (n := l2.length) UD_72 (Rd.own' hq hs) (by simp) rfl ?_)
  refine RW_op (L_neq rfl rfl ?_)
  refine RW_nil ?_
  refine W_cond (t := !decide (((l.length : Nat) : Int) = ((l2.length : Nat) : Int))) rfl (fun c1 => ?_) (fun c1 => ?_)
  ·
    replace c1 := not_t c1
    replace c1 := of_decide_eq_false c1
    refine W_seq ?_
    refine W_region ?_
    refine RW_op (L_assign (V := .bool false) rfl ?_)
    refine RW_nil ?_
    refine W_ret ?_
    refine ⟨_, res_one (V := .bool false) Try.results35 rfl, ?_⟩
    refine ⟨congrArg Ending.returned ?_, hs.take 0⟩
    refine congrArg Value.bool (decide_eq_false fun e => ?_).symm
    subst e
    omega
  ·
    replace c1 := not_f c1
    replace c1 := of_decide_eq_true c1
    refine W_skip ?_
    refine W_seq ?_
    refine W_seq ?_
    refine W_region ?_
    refine RW_op (L_move (V := .slice a l.length c) rfl ?_)
    refine RW_op (L_lenR (n := l.length) UD_72 (Rd.own' hr hs) (by simp) rfl ?_)
    refine RW_op (L_move (V := .int .i64 0) rfl ?_)
    refine RW_nil ?_
    refine W_block ?_
    refine W_loopI (fun ρ m ρ' w' => ∃ (ρo : Env) (k : Nat), ρ' = upd (mix [4, 5, 13, 14, 15, 16, 17, 18, 19, 20, 21, 22, 23, 24, 25] ρo ρ) 13 (.int .i64 (k : Int)) ∧ (k ≤ l.length) ∧ (∀ j : Nat, j < k → gd l j = gd l2 j) ∧ m = l.length - k ∧ Own w no w' []) ?_ ?_
    · exact ⟨_, _, 0, upd_of (mix_of (ds := [4, 5, 13, 14, 15, 16, 17, 18, 19, 20, 21, 22, 23, 24, 25]) (Agr.refl _ _)) rfl, (by omega), (fun j hj => absurd hj (Nat.not_lt_zero j)), rfl, hs⟩
    · rintro m ρ' w2 ⟨ρo, k, rfl, hk, heq, rfl, hs⟩
      refine W_seq ?_
      refine W_region ?_
      refine RW_op (L_lss rfl rfl ?_)
      refine RW_nil ?_
      refine W_seq ?_
      refine W_cond (t := decide ((k : Int) < ((l.length : Nat) : Int))) rfl (fun c3 => ?_) (fun c3 => ?_)
      ·
        replace c3 := of_decide_eq_true c3
        refine W_skip ?_
        refine W_seq ?_
        refine W_block ?_
        refine W_seq ?_
        refine W_region ?_
        refine RW_op (L_move (V := .int .i64 (k : Int)) rfl ?_)
        refine RW_op (L_assign (V := .int .i64 (k : Int)) rfl ?_)
        refine RW_nil ?_
        refine W_seq ?_
        replace hs := hs.drew
        refine W_draw2 HM [16, 17, 18, 19, 20, 21, 22, 23, 24] [[], [], [0, 1], [2], [], [], [4, 5], [6], [3, 7]] (fun D ρ wx => Own w no wx [] ∧ (D 0 = true → ρ 16 = .slice a l.length c) ∧ (D 1 = true → ρ 17 = .int .i64 (k : Int)) ∧ (D 2 = true → ρ 18 = .pointer (some ⟨bkS (.slice a l.length c), ofS (.slice a l.length c) + (k : Int).toNat * 1, none⟩)) ∧ (D 3 = true → ρ 19 = .int .u16 (gd l k)) ∧ (D 4 = true → ρ 20 = .slice b l2.length e) ∧ (D 5 = true → ρ 21 = .int .i64 (k : Int)) ∧ (D 6 = true → ρ 22 = .pointer (some ⟨bkS (.slice b l2.length e), ofS (.slice b l2.length e) + (k : Int).toNat * 1, none⟩)) ∧ (D 7 = true → ρ 23 = .int .u16 (gd l2 k)) ∧ (D 8 = true → ρ 24 = .bool (!decide (gd l k = gd l2 k)))) rfl rfl rfl ⟨hs, fun h => absurd h Bool.false_ne_true, fun h => absurd h Bool.false_ne_true, fun h => absurd h Bool.false_ne_true, fun h => absurd h Bool.false_ne_true, fun h => absurd h Bool.false_ne_true, fun h => absurd h Bool.false_ne_true, fun h => absurd h Bool.false_ne_true, fun h => absurd h Bool.false_ne_true, fun h => absurd h Bool.false_ne_true⟩ ⟨?_, ?_, ?_, ?_, ?_, ?_, ?_, ?_, ?_, trivial⟩ ?_
        · rintro D ρ wx hD hd hdc hf ⟨hs, f0, f1, f2, f3, f4, f5, f6, f7, f8⟩
          have r0 : ρ 0 = .slice a l.length c := outD hf 0 rfl
          exact .inl ⟨rfl, L_move (V := .slice a l.length c) r0 ⟨hs, fun _ => rfl, f1, f2, f3, f4, f5, f6, f7, f8⟩⟩
        · rintro D ρ wx hD hd hdc hf ⟨hs, f0, f1, f2, f3, f4, f5, f6, f7, f8⟩
          have r5 : ρ 5 = .int .i64 (k : Int) := outD hf 5 rfl
          exact .inl ⟨rfl, L_move (V := .int .i64 (k : Int)) r5 ⟨hs, f0, fun _ => rfl, f2, f3, f4, f5, f6, f7, f8⟩⟩
        · rintro D ρ wx hD hd hdc hf ⟨hs, f0, f1, f2, f3, f4, f5, f6, f7, f8⟩
          have g0 := f0 (doneD hd 0 rfl)
          have g1 := f1 (doneD hd 1 rfl)
          exact .inl ⟨rfl, L_ixR UD_72 S1_57.1 (Rd.own' hr hs) g0 g1 (by omega) (by rw [List.length_map]; omega) ⟨hs, f0, f1, fun _ => rfl, f3, f4, f5, f6, f7, f8⟩⟩
        · rintro D ρ wx hD hd hdc hf ⟨hs, f0, f1, f2, f3, f4, f5, f6, f7, f8⟩
          have g2 := f2 (doneD hd 2 rfl)
          exact .inl ⟨rfl, L_ldR (j := 0) (V := .int .u16 (gd l k)) k S1_57 (Rd.own' hr hs) (gd_at (by omega)) rfl g2 (by omega) ⟨hs, f0, f1, f2, fun _ => rfl, f4, f5, f6, f7, f8⟩⟩
        · rintro D ρ wx hD hd hdc hf ⟨hs, f0, f1, f2, f3, f4, f5, f6, f7, f8⟩
          have r1 : ρ 1 = .slice b l2.length e := outD hf 1 rfl
          exact .inl ⟨rfl, L_move (V := .slice b l2.length e) r1 ⟨hs, f0, f1, f2, f3, fun _ => rfl, f5, f6, f7, f8⟩⟩
        · rintro D ρ wx hD hd hdc hf ⟨hs, f0, f1, f2, f3, f4, f5, f6, f7, f8⟩
          have r5 : ρ 5 = .int .i64 (k : Int) := outD hf 5 rfl
          exact .inl ⟨rfl, L_move (V := .int .i64 (k : Int)) r5 ⟨hs, f0, f1, f2, f3, f4, fun _ => rfl, f6, f7, f8⟩⟩
        · rintro D ρ wx hD hd hdc hf ⟨hs, f0, f1, f2, f3, f4, f5, f6, f7, f8⟩
          have g4 := f4 (doneD hd 4 rfl)
          have g5 := f5 (doneD hd 5 rfl)
          exact .inl ⟨rfl, L_ixR UD_72 S1_57.1 (Rd.own' hq hs) g4 g5 (by omega) (by rw [List.length_map]; omega) ⟨hs, f0, f1, f2, f3, f4, f5, fun _ => rfl, f7, f8⟩⟩
        · rintro D ρ wx hD hd hdc hf ⟨hs, f0, f1, f2, f3, f4, f5, f6, f7, f8⟩
          have g6 := f6 (doneD hd 6 rfl)
          exact .inl ⟨rfl, L_ldR (j := 0) (V := .int .u16 (gd l2 k)) k S1_57 (Rd.own' hq hs) (gd_at (by omega)) rfl g6 (by omega) ⟨hs, f0, f1, f2, f3, f4, f5, f6, fun _ => rfl, f8⟩⟩
        · rintro D ρ wx hD hd hdc hf ⟨hs, f0, f1, f2, f3, f4, f5, f6, f7, f8⟩
          have g3 := f3 (doneD hd 3 rfl)
          have g7 := f7 (doneD hd 7 rfl)
          exact .inl ⟨rfl, L_neq g3 g7 ⟨hs, f0, f1, f2, f3, f4, f5, f6, f7, fun _ => rfl⟩⟩
        · rintro ρ1 w1 D hD hf ⟨hs, f0, f1, f2, f3, f4, f5, f6, f7, f8⟩
          have e8 := f8 (hD 8 rfl)
          clear f0 f1 f2 f3 f4 f5 f6 f7 f8
          obtain ⟨ρ2, hρ⟩ : ∃ ρ2, ρ1 = upd (mix [16, 17, 18, 19, 20, 21, 22, 23, 24] ρ2 _) 24 (.bool (!decide (gd l k = gd l2 k))) := ⟨ρ1, upd_of (mix_of (ds := [16, 17, 18, 19, 20, 21, 22, 23, 24]) hf) e8⟩
          clear hf hD e8
          subst hρ
          refine W_cond (t := !decide (gd l k = gd l2 k)) rfl (fun c5 => ?_) (fun c5 => ?_)
          ·
            replace c5 := not_t c5
            replace c5 := of_decide_eq_false c5
            refine W_seq ?_
            refine W_region ?_
            refine RW_op (L_assign (V := .bool false) rfl ?_)
            refine RW_nil ?_
            refine W_ret ?_
            refine ⟨_, res_one (V := .bool false) Try.results35 rfl, ?_⟩
            refine ⟨congrArg Ending.returned ?_, hs.take 0⟩
            refine congrArg Value.bool (decide_eq_false fun e => ?_).symm
            subst e
            exact c5 rfl
          ·
            replace c5 := not_f c5
            replace c5 := of_decide_eq_true c5
            refine W_skip ?_
            refine W_region ?_
            refine RW_op (L_add (a := (k : Int)) (b := 1) (c := (k : Int) + 1) rfl rfl (wr_i64 (by omega) (by omega)) ?_)
            refine RW_op (L_move (V := .int .i64 ((k : Int) + 1)) rfl ?_)
            refine RW_nil ?_
            refine ⟨_, ?_, _, k + 1, upd_of (mix_of (ds := [4, 5, 13, 14, 15, 16, 17, 18, 19, 20, 21, 22, 23, 24, 25]) (by repeat (first | exact Agr.refl _ _ | refine Agr.upd ?_ rfl | refine Agr.mix ?_ rfl))) rfl, (by omega), (eqG_step heq c5), rfl, hs.take 0⟩
            omega
      ·
        replace c3 := of_decide_eq_false c3
        refine W_exit ?_
        refine W_seq ?_
        refine W_region ?_
        refine RW_op (L_assign (V := .bool true) rfl ?_)
        refine RW_nil ?_
        refine W_ret ?_
        refine ⟨_, res_one (V := .bool true) Try.results35 rfl, ?_⟩
        refine ⟨congrArg Ending.returned ?_, hs.take 0⟩
        exact congrArg Value.bool (decide_eq_true (sameG_yes (by omega) fun j hj => heq j (by omega))).symm
set_option maxRecDepth 20000 in
set_option maxHeartbeats 4000000 in
theorem eqO_ok (w : World) (a b : Option Addr) (c e : Nat) (l l2 : List Opn) (hr : Rd w (.slice a l.length c) 23 (l.map oc)) (hq : Rd w (.slice b l2.length e) 23 (l2.map oc)) : Calls Try.prog 40 #[.slice a l.length c, .slice b l2.length e] w (fun e w' => e = .returned (.bool (decide (l = l2))) ∧ Own w no w' []) := by
  refine calls_of_Wn (n := 26) Try.func40 rfl Try.ntmps40 rfl ?_
  have hs := Own.start w
  have hn := hr.sml
  refine W_seq ?_
  refine W_region ?_
  refine RW_op (L_assign (V := .bool false) rfl ?_)
  refine RW_nil ?_
  refine W_seq ?_
  refine W_seq ?_
  refine W_region ?_
  refine RW_op (L_move (V := .slice a l.length c) rfl ?_)
  refine RW_op (L_lenR (n := l.length) UD_56 (Rd.own' hr hs) (by simp) rfl ?_)
  refine RW_op (L_move (V := .slice b l2.length e) rfl ?_)
  refine RW_op (L_lenR (n := l2.length) UD_56 (Rd.own' hq hs) (by simp) rfl ?_)
  refine RW_op (L_neq rfl rfl ?_)
  refine RW_nil ?_
  refine W_cond (t := !decide (((l.length : Nat) : Int) = ((l2.length : Nat) : Int))) rfl (fun c1 => ?_) (fun c1 => ?_)
  ·
    replace c1 := not_t c1
    replace c1 := of_decide_eq_false c1
    refine W_seq ?_
    refine W_region ?_
    refine RW_op (L_assign (V := .bool false) rfl ?_)
    refine RW_nil ?_
    refine W_ret ?_
    refine ⟨_, res_one (V := .bool false) Try.results40 rfl, ?_⟩
    refine ⟨congrArg Ending.returned ?_, hs.take 0⟩
    refine congrArg Value.bool (decide_eq_false fun e => ?_).symm
    subst e
    omega
  ·
    replace c1 := not_f c1
    replace c1 := of_decide_eq_true c1
    refine W_skip ?_
    refine W_seq ?_
    refine W_seq ?_
    refine W_region ?_
    refine RW_op (L_move (V := .slice a l.length c) rfl ?_)
    refine RW_op (L_lenR (n := l.length) UD_56 (Rd.own' hr hs) (by simp) rfl ?_)
    refine RW_op (L_move (V := .int .i64 0) rfl ?_)
    refine RW_nil ?_
    refine W_block ?_
    refine W_loopI (fun ρ m ρ' w' => ∃ (ρo : Env) (k : Nat), ρ' = upd (mix [4, 5, 13, 14, 15, 16, 17, 18, 19, 20, 21, 22, 23, 24, 25] ρo ρ) 13 (.int .i64 (k : Int)) ∧ (k ≤ l.length) ∧ (∀ j : Nat, j < k → gd l j = gd l2 j) ∧ m = l.length - k ∧ Own w no w' []) ?_ ?_
    · exact ⟨_, _, 0, upd_of (mix_of (ds := [4, 5, 13, 14, 15, 16, 17, 18, 19, 20, 21, 22, 23, 24, 25]) (Agr.refl _ _)) rfl, (by omega), (fun j hj => absurd hj (Nat.not_lt_zero j)), rfl, hs⟩
    · rintro m ρ' w2 ⟨ρo, k, rfl, hk, heq, rfl, hs⟩
      refine W_seq ?_
      refine W_region ?_
      refine RW_op (L_lss rfl rfl ?_)
      refine RW_nil ?_
      refine W_seq ?_
      refine W_cond (t := decide ((k : Int) < ((l.length : Nat) : Int))) rfl (fun c3 => ?_) (fun c3 => ?_)
      ·
        replace c3 := of_decide_eq_true c3
        refine W_skip ?_
        refine W_seq ?_
        refine W_block ?_
        refine W_seq ?_
        refine W_region ?_
        refine RW_op (L_move (V := .int .i64 (k : Int)) rfl ?_)
        refine RW_op (L_assign (V := .int .i64 (k : Int)) rfl ?_)
        refine RW_nil ?_
        refine W_seq ?_
        replace hs := hs.drew
        refine W_draw2 HM [16, 17, 18, 19, 20, 21, 22, 23, 24] [[], [], [0, 1], [2], [], [], [4, 5], [6], [3, 7]] (fun D ρ wx => Own w no wx [] ∧ (D 0 = true → ρ 16 = .slice a l.length c) ∧ (D 1 = true → ρ 17 = .int .i64 (k : Int)) ∧ (D 2 = true → ρ 18 = .pointer (some ⟨bkS (.slice a l.length c), ofS (.slice a l.length c) + (k : Int).toNat * 23, none⟩)) ∧ (D 3 = true → ρ 19 = .agg (oc (gd l k)).toArray) ∧ (D 4 = true → ρ 20 = .slice b l2.length e) ∧ (D 5 = true → ρ 21 = .int .i64 (k : Int)) ∧ (D 6 = true → ρ 22 = .pointer (some ⟨bkS (.slice b l2.length e), ofS (.slice b l2.length e) + (k : Int).toNat * 23, none⟩)) ∧ (D 7 = true → ρ 23 = .agg (oc (gd l2 k)).toArray) ∧ (D 8 = true → ρ 24 = .bool (!decide (gd l k = gd l2 k)))) rfl rfl rfl ⟨hs, fun h => absurd h Bool.false_ne_true, fun h => absurd h Bool.false_ne_true, fun h => absurd h Bool.false_ne_true, fun h => absurd h Bool.false_ne_true, fun h => absurd h Bool.false_ne_true, fun h => absurd h Bool.false_ne_true, fun h => absurd h Bool.false_ne_true, fun h => absurd h Bool.false_ne_true, fun h => absurd h Bool.false_ne_true⟩ ⟨?_, ?_, ?_, ?_, ?_, ?_, ?_, ?_, ?_, trivial⟩ ?_
        · rintro D ρ wx hD hd hdc hf ⟨hs, f0, f1, f2, f3, f4, f5, f6, f7, f8⟩
          have r0 : ρ 0 = .slice a l.length c := outD hf 0 rfl
          exact .inl ⟨rfl, L_move (V := .slice a l.length c) r0 ⟨hs, fun _ => rfl, f1, f2, f3, f4, f5, f6, f7, f8⟩⟩
        · rintro D ρ wx hD hd hdc hf ⟨hs, f0, f1, f2, f3, f4, f5, f6, f7, f8⟩
          have r5 : ρ 5 = .int .i64 (k : Int) := outD hf 5 rfl
          exact .inl ⟨rfl, L_move (V := .int .i64 (k : Int)) r5 ⟨hs, f0, fun _ => rfl, f2, f3, f4, f5, f6, f7, f8⟩⟩
        · rintro D ρ wx hD hd hdc hf ⟨hs, f0, f1, f2, f3, f4, f5, f6, f7, f8⟩
          have g0 := f0 (doneD hd 0 rfl)
          have g1 := f1 (doneD hd 1 rfl)
          exact .inl ⟨rfl, L_ixR UD_56 SA_59.1 (Rd.own' hr hs) g0 g1 (by omega) (by rw [List.length_map]; omega) ⟨hs, f0, f1, fun _ => rfl, f3, f4, f5, f6, f7, f8⟩⟩
        · rintro D ρ wx hD hd hdc hf ⟨hs, f0, f1, f2, f3, f4, f5, f6, f7, f8⟩
          have g2 := f2 (doneD hd 2 rfl)
          exact .inl ⟨rfl, L_ldRA (j := 0) (vs := oc (gd l k)) k SA_59 (Rd.own' hr hs) (gd_at (by omega)) rfl rfl g2 (by omega) ⟨hs, f0, f1, f2, fun _ => rfl, f4, f5, f6, f7, f8⟩⟩
        · rintro D ρ wx hD hd hdc hf ⟨hs, f0, f1, f2, f3, f4, f5, f6, f7, f8⟩
          have r1 : ρ 1 = .slice b l2.length e := outD hf 1 rfl
          exact .inl ⟨rfl, L_move (V := .slice b l2.length e) r1 ⟨hs, f0, f1, f2, f3, fun _ => rfl, f5, f6, f7, f8⟩⟩
        · rintro D ρ wx hD hd hdc hf ⟨hs, f0, f1, f2, f3, f4, f5, f6, f7, f8⟩
          have r5 : ρ 5 = .int .i64 (k : Int) := outD hf 5 rfl
          exact .inl ⟨rfl, L_move (V := .int .i64 (k : Int)) r5 ⟨hs, f0, f1, f2, f3, f4, fun _ => rfl, f6, f7, f8⟩⟩
        · rintro D ρ wx hD hd hdc hf ⟨hs, f0, f1, f2, f3, f4, f5, f6, f7, f8⟩
          have g4 := f4 (doneD hd 4 rfl)
          have g5 := f5 (doneD hd 5 rfl)
          exact .inl ⟨rfl, L_ixR UD_56 SA_59.1 (Rd.own' hq hs) g4 g5 (by omega) (by rw [List.length_map]; omega) ⟨hs, f0, f1, f2, f3, f4, f5, fun _ => rfl, f7, f8⟩⟩
        · rintro D ρ wx hD hd hdc hf ⟨hs, f0, f1, f2, f3, f4, f5, f6, f7, f8⟩
          have g6 := f6 (doneD hd 6 rfl)
          exact .inl ⟨rfl, L_ldRA (j := 0) (vs := oc (gd l2 k)) k SA_59 (Rd.own' hq hs) (gd_at (by omega)) rfl rfl g6 (by omega) ⟨hs, f0, f1, f2, f3, f4, f5, f6, fun _ => rfl, f8⟩⟩
        · rintro D ρ wx hD hd hdc hf ⟨hs, f0, f1, f2, f3, f4, f5, f6, f7, f8⟩
          have g3 := f3 (doneD hd 3 rfl)
          have g7 := f7 (doneD hd 7 rfl)
          exact .inl ⟨rfl, L_neA (xs := oc (gd l k)) (ys := oc (gd l2 k)) Try.eqGuardType59 (EQ_59 (gd l k) (gd l2 k)) rfl g3 g7 ⟨hs, f0, f1, f2, f3, f4, f5, f6, f7, fun _ => rfl⟩⟩
        · rintro ρ1 w1 D hD hf ⟨hs, f0, f1, f2, f3, f4, f5, f6, f7, f8⟩
          have e8 := f8 (hD 8 rfl)
          clear f0 f1 f2 f3 f4 f5 f6 f7 f8
          obtain ⟨ρ2, hρ⟩ : ∃ ρ2, ρ1 = upd (mix [16, 17, 18, 19, 20, 21, 22, 23, 24] ρ2 _) 24 (.bool (!decide (gd l k = gd l2 k))) := ⟨ρ1, upd_of (mix_of (ds := [16, 17, 18, 19, 20, 21, 22, 23, 24]) hf) e8⟩
          clear hf hD e8
          subst hρ
          refine W_cond (t := !decide (gd l k = gd l2 k)) rfl (fun c5 => ?_) (fun c5 => ?_)
          ·
            replace c5 := not_t c5
            replace c5 := of_decide_eq_false c5
            refine W_seq ?_
            refine W_region ?_
            refine RW_op (L_assign (V := .bool false) rfl ?_)
            refine RW_nil ?_
            refine W_ret ?_
            refine ⟨_, res_one (V := .bool false) Try.results40 rfl, ?_⟩
            refine ⟨congrArg Ending.returned ?_, hs.take 0⟩
            refine congrArg Value.bool (decide_eq_false fun e => ?_).symm
            subst e
            exact c5 rfl
          ·
            replace c5 := not_f c5
            replace c5 := of_decide_eq_true c5
            refine W_skip ?_
            refine W_region ?_
            refine RW_op (L_add (a := (k : Int)) (b := 1) (c := (k : Int) + 1) rfl rfl (wr_i64 (by omega) (by omega)) ?_)
            refine RW_op (L_move (V := .int .i64 ((k : Int) + 1)) rfl ?_)
            refine RW_nil ?_
            refine ⟨_, ?_, _, k + 1, upd_of (mix_of (ds := [4, 5, 13, 14, 15, 16, 17, 18, 19, 20, 21, 22, 23, 24, 25]) (by repeat (first | exact Agr.refl _ _ | refine Agr.upd ?_ rfl | refine Agr.mix ?_ rfl))) rfl, (by omega), (eqG_step heq c5), rfl, hs.take 0⟩
            omega
      ·
        replace c3 := of_decide_eq_false c3
        refine W_exit ?_
        refine W_seq ?_
        refine W_region ?_
        refine RW_op (L_assign (V := .bool true) rfl ?_)
        refine RW_nil ?_
        refine W_ret ?_
        refine ⟨_, res_one (V := .bool true) Try.results40 rfl, ?_⟩
        refine ⟨congrArg Ending.returned ?_, hs.take 0⟩
        exact congrArg Value.bool (decide_eq_true (sameG_yes (by omega) fun j hj => heq j (by omega))).symm
theorem fViewE_ok (w : World) (a : Option Addr) (c : Nat) (l : List Opn) (cart : Int) (V : Vw) (hV : viewP l cart = V) (hl : ∀ o ∈ l, OpnOk o) (hlen : l.length ≤ 1000) (hr : Rd w (.slice a l.length c) 23 (l.map oc)) (hsortU : SortI Try.prog 76 .u16 57) : Calls Try.prog 34 #[.slice a l.length c, .int .u16 cart] w (fun e w' => ∃ x : Option Addr × Nat, e = .returned (.agg [.int .u16 (V).cart, .slice x.1 (V).lines.length x.2, .bool (V).out, .int .u32 (V).tick].toArray) ∧ Own w no w' [row (.slice x.1 (V).lines.length x.2) ((V).lines.map lc) 67 2] ∧ True) := by
  subst hV; exact fView_ok w a c l cart hl hlen hr hsortU
end Tf
end Go.Proofs
namespace Go.Proofs
open Go Go.Vx Go.RowKit
open Tt
namespace Tf
set_option maxRecDepth 20000 in
theorem BT_59 : Bt Try.prog 59 [(0, 2), (2, 1), (3, 1), (4, 1), (5, 1), (6, 1), (7, 16)] (oc (⟨(⟨0, 0⟩ : Dot), 0, 0, 0, 0, 0, vzero⟩ : Opn)) := Bt_struct Try.type59 rfl rfl Try.underlying59 (by kernel_rfl)
theorem EN_37 : En Try.prog 37 := Try.call37
theorem EN_53 : En Try.prog 53 := Try.call53
theorem FA_67_1 : FA Try.prog 67 1 1 := fun b o w => by simp [Instr.fieldAt, Instr.sureAddr, fieldPlace, add_eq]
theorem UD_90 : Ud Try.prog 90 (.slice 4) := Try.runUnderlying90
theorem alive_all {o : Opn} (h : o = aliveA ∨ o = aliveB ∨ o = aliveC) : OpnOk o := by
  obtain ⟨h1, h2, h3⟩ := alive_ok
  rcases h with rfl | rfl | rfl <;> assumption
set_option maxRecDepth 20000 in
set_option maxHeartbeats 4000000 in
theorem alive7_ok (w : World) (hsortU : SortI Try.prog 76 .u16 57) : Calls Try.prog 32 #[] w (fun e w' => e = .returned (.bool true) ∧ Own w no w' []) := by
  refine calls_of_Wn (n := 80) Try.func32 rfl Try.ntmps32 rfl ?_
  have hs := Own.start w
  have ⟨hoA, hoB, hoC⟩ := alive_ok
  refine W_seq ?_
  refine W_region ?_
  refine RW_op (L_assign (V := .bool false) rfl ?_)
  refine RW_nil ?_
  refine W_seq ?_
  refine W_region ?_
  refine RW_op (L_build (vs := [(1, .int .u32 1)]) (cs := dc (⟨0, 1⟩ : Dot)) BT_34 (rfl) rfl ?_)
  refine RW_op (opW_to (V := .agg (oc (⟨(⟨0, 1⟩ : Dot), 1, 3, 4, 2, 5, vzero⟩ : Opn)).toArray) (V' := .agg (oc aliveA).toArray) (L_build (vs := [(0, .agg (dc (⟨0, 1⟩ : Dot)).toArray), (1, .int .u8 1), (2, .int .u16 3), (3, .int .u16 4), (4, .int .u16 2), (5, .int .u32 5)]) (cs := oc (⟨(⟨0, 1⟩ : Dot), 1, 3, 4, 2, 5, vzero⟩ : Opn)) BT_59 (rfl) rfl ⟨rfl, rfl⟩) rfl ?_)
  refine RW_op (L_alloc (cs := oc (⟨(⟨0, 0⟩ : Dot), 0, 0, 0, 0, 0, vzero⟩ : Opn)) ZV_59 rfl hs fun b1 w2 hs => ?_)
  refine RW_op (L_st (V := .agg (oc aliveA).toArray) (vs := oc aliveA) (cs' := oc aliveA) SA_59.1 hs 0 rfl rfl rfl rfl rfl (Nat.le_of_ble_eq_true rfl) (oc_one _) (spl_whole rfl) fun w3 hs => ?_)
  refine RW_nil ?_
  refine W_seq ?_
  refine W_region ?_
  refine RW_op (L_build (vs := [(0, .int .u8 1), (1, .int .u32 1)]) (cs := dc (⟨1, 1⟩ : Dot)) BT_34 (rfl) rfl ?_)
  refine RW_op (opW_to (V := .agg (oc (⟨(⟨1, 1⟩ : Dot), 1, 3, 4, 3, 9, vzero⟩ : Opn)).toArray) (V' := .agg (oc aliveB).toArray) (L_build (vs := [(0, .agg (dc (⟨1, 1⟩ : Dot)).toArray), (1, .int .u8 1), (2, .int .u16 3), (3, .int .u16 4), (4, .int .u16 3), (5, .int .u32 9)]) (cs := oc (⟨(⟨1, 1⟩ : Dot), 1, 3, 4, 3, 9, vzero⟩ : Opn)) BT_59 (rfl) rfl ⟨rfl, rfl⟩) rfl ?_)
  refine RW_op (L_alloc (cs := oc (⟨(⟨0, 0⟩ : Dot), 0, 0, 0, 0, 0, vzero⟩ : Opn)) ZV_59 rfl hs fun b4 w5 hs => ?_)
  replace hs : Own w no w5 [blk b1 (oc aliveA) 59, blk b4 (oc (⟨(⟨0, 0⟩ : Dot), 0, 0, 0, 0, 0, vzero⟩ : Opn)) 59] := hs
  refine RW_op (L_st (V := .agg (oc aliveB).toArray) (vs := oc aliveB) (cs' := oc aliveB) SA_59.1 hs 1 rfl rfl rfl rfl rfl (Nat.le_of_ble_eq_true rfl) (oc_one _) (spl_whole rfl) fun w6 hs => ?_)
  refine RW_nil ?_
  refine W_seq ?_
  refine W_region ?_
  refine RW_op (L_build (vs := [(0, .int .u8 2), (1, .int .u32 1)]) (cs := dc (⟨2, 1⟩ : Dot)) BT_34 (rfl) rfl ?_)
  refine RW_op (L_build (vs := [(0, .int .u32 1)]) (cs := vc (vset vzero 0 1)) BT_24 (rfl) rfl ?_)
  refine RW_op (opW_to (V := .agg (oc (⟨(⟨2, 1⟩ : Dot), 2, 3, 4, 1, 7, vset vzero 0 1⟩ : Opn)).toArray) (V' := .agg (oc aliveC).toArray) (L_build (vs := [(0, .agg (dc (⟨2, 1⟩ : Dot)).toArray), (1, .int .u8 2), (2, .int .u16 3), (3, .int .u16 4), (4, .int .u16 1), (5, .int .u32 7), (6, .agg (vc (vset vzero 0 1)).toArray)]) (cs := oc (⟨(⟨2, 1⟩ : Dot), 2, 3, 4, 1, 7, vset vzero 0 1⟩ : Opn)) BT_59 (rfl) rfl ⟨rfl, rfl⟩) rfl ?_)
  refine RW_op (L_alloc (cs := oc (⟨(⟨0, 0⟩ : Dot), 0, 0, 0, 0, 0, vzero⟩ : Opn)) ZV_59 rfl hs fun b7 w8 hs => ?_)
  refine RW_op (L_st (V := .agg (oc aliveC).toArray) (vs := oc aliveC) (cs' := oc aliveC) SA_59.1 hs 2 rfl rfl rfl rfl rfl (Nat.le_of_ble_eq_true rfl) (oc_one _) (spl_whole rfl) fun w9 hs => ?_)
  replace hs : Own w no w9 [blk b1 (oc aliveA) 59, blk b4 (oc aliveB) 59, blk b7 (oc aliveC) 59] := hs
  refine RW_nil ?_
  refine W_seq ?_
  refine W_region ?_
  refine RW_op (L_ldW (cs := oc aliveA) SA_59 hs 0 rfl rfl rfl ?_)
  refine RW_op (L_ldW (cs := oc aliveB) SA_59 hs 1 rfl rfl rfl ?_)
  refine RW_op (L_bs (vals := [.agg (oc aliveA).toArray, .agg (oc aliveB).toArray]) (ls := List.map oc ([aliveA, aliveB] : List Opn)) EL_56 rfl rfl rfl (len_map (enc := oc) (fun _ => rfl) _) (one_map oc_one _) (Nat.le_of_ble_eq_true rfl) hs fun b10 w11 hs => ?_)
  refine RW_op (L_callX (α := Option Addr × Nat) (vs := [.slice (some ⟨b10, 0, none⟩) 2 2, .int .u16 3]) (V := fun x => .agg ([.int .u16 (((⟨3, [⟨4, 5⟩], false, 9⟩ : Vw)).cart), .slice x.1 ([(⟨4, 5⟩ : Line)].length) x.2, .bool false, .int .u32 9]).toArray) (Lo := fun x => [row (.slice x.1 [(⟨4, 5⟩ : Line)].length x.2) ([(⟨4, 5⟩ : Line)].map lc) 67 2]) (F := fun _ _ => True) EN_34 rfl rfl ?hc hs fun x13 w12 hs _ => ?_)
  case hc => exact (fViewE_ok _ (some ⟨b10, 0, none⟩) 2 [aliveA, aliveB] 3 (⟨3, [⟨4, 5⟩], false, 9⟩ : Vw) (aliveV1) (fun o ho => alive_all (by simp only [List.mem_cons, List.not_mem_nil, or_false] at ho; grind)) (by decide) (hs.rd 3 rfl) hsortU)
  refine RW_op (L_alloc (cs := [.int .u16 0, .slice none 0 0, .bool false, .int .u32 0]) ZV_63 rfl hs fun b14 w15 hs => ?_)
  replace hs : Own w no w15 [blk b1 (oc aliveA) 59, blk b4 (oc aliveB) 59, blk b7 (oc aliveC) 59, row (.slice (some ⟨b10, 0, none⟩) 2 2) ([aliveA, aliveB].map oc) 59 23, row (.slice x13.1 ([(⟨4, 5⟩ : Line)].length) x13.2) ([(⟨4, 5⟩ : Line)].map lc) 67 2, blk b14 [.int .u16 0, .slice none 0 0, .bool false, .int .u32 0] 63] := hs
  refine RW_op (L_st (V := .agg ([.int .u16 (((⟨3, [⟨4, 5⟩], false, 9⟩ : Vw)).cart), .slice x13.1 ([(⟨4, 5⟩ : Line)].length) x13.2, .bool false, .int .u32 9]).toArray) (vs := [.int .u16 (((⟨3, [⟨4, 5⟩], false, 9⟩ : Vw)).cart), .slice x13.1 ([(⟨4, 5⟩ : Line)].length) x13.2, .bool false, .int .u32 9]) (cs' := [.int .u16 (((⟨3, [⟨4, 5⟩], false, 9⟩ : Vw)).cart), .slice x13.1 ([(⟨4, 5⟩ : Line)].length) x13.2, .bool false, .int .u32 9]) SA_63.1 hs 5 rfl rfl rfl rfl rfl (Nat.le_of_ble_eq_true rfl) (one_cons rfl (one_cons rfl (one_cons rfl (one_cons rfl one_nil)))) (spl_whole rfl) fun w16 hs => ?_)
  refine RW_nil ?_
  refine W_seq ?_
  refine W_region ?_
  refine RW_op (L_ldW (cs := oc aliveA) SA_59 hs 0 rfl rfl rfl ?_)
  refine RW_op (L_ldW (cs := oc aliveB) SA_59 hs 1 rfl rfl rfl ?_)
  refine RW_op (L_ldW (cs := oc aliveC) SA_59 hs 2 rfl rfl rfl ?_)
  refine RW_op (L_bs (vals := [.agg (oc aliveA).toArray, .agg (oc aliveB).toArray, .agg (oc aliveC).toArray]) (ls := List.map oc ([aliveA, aliveB, aliveC] : List Opn)) EL_56 rfl rfl rfl (len_map (enc := oc) (fun _ => rfl) _) (one_map oc_one _) (Nat.le_of_ble_eq_true rfl) hs fun b17 w18 hs => ?_)
  refine RW_op (L_callX (α := Option Addr × Nat) (vs := [.slice (some ⟨b17, 0, none⟩) 3 3, .int .u16 3]) (V := fun x => .agg ([.int .u16 (((⟨3, [⟨4, 4⟩], false, 9⟩ : Vw)).cart), .slice x.1 ([(⟨4, 4⟩ : Line)].length) x.2, .bool false, .int .u32 9]).toArray) (Lo := fun x => [row (.slice x.1 [(⟨4, 4⟩ : Line)].length x.2) ([(⟨4, 4⟩ : Line)].map lc) 67 2]) (F := fun _ _ => True) EN_34 rfl rfl ?hc hs fun x20 w19 hs _ => ?_)
  case hc => exact (fViewE_ok _ (some ⟨b17, 0, none⟩) 3 [aliveA, aliveB, aliveC] 3 (⟨3, [⟨4, 4⟩], false, 9⟩ : Vw) (aliveV2) (fun o ho => alive_all (by simp only [List.mem_cons, List.not_mem_nil, or_false] at ho; grind)) (by decide) (hs.rd 6 rfl) hsortU)
  replace hs : Own w no w19 [blk b1 (oc aliveA) 59, blk b4 (oc aliveB) 59, blk b7 (oc aliveC) 59, row (.slice (some ⟨b10, 0, none⟩) 2 2) ([aliveA, aliveB].map oc) 59 23, row (.slice x13.1 ([(⟨4, 5⟩ : Line)].length) x13.2) ([(⟨4, 5⟩ : Line)].map lc) 67 2, blk b14 [.int .u16 (((⟨3, [⟨4, 5⟩], false, 9⟩ : Vw)).cart), .slice x13.1 ([(⟨4, 5⟩ : Line)].length) x13.2, .bool false, .int .u32 9] 63, row (.slice (some ⟨b17, 0, none⟩) 3 3) ([aliveA, aliveB, aliveC].map oc) 59 23, row (.slice x20.1 ([(⟨4, 4⟩ : Line)].length) x20.2) ([(⟨4, 4⟩ : Line)].map lc) 67 2] := hs
  refine RW_op (L_alloc (cs := [.int .u16 0, .slice none 0 0, .bool false, .int .u32 0]) ZV_63 rfl hs fun b21 w22 hs => ?_)
  refine RW_op (L_st (V := .agg ([.int .u16 (((⟨3, [⟨4, 4⟩], false, 9⟩ : Vw)).cart), .slice x20.1 ([(⟨4, 4⟩ : Line)].length) x20.2, .bool false, .int .u32 9]).toArray) (vs := [.int .u16 (((⟨3, [⟨4, 4⟩], false, 9⟩ : Vw)).cart), .slice x20.1 ([(⟨4, 4⟩ : Line)].length) x20.2, .bool false, .int .u32 9]) (cs' := [.int .u16 (((⟨3, [⟨4, 4⟩], false, 9⟩ : Vw)).cart), .slice x20.1 ([(⟨4, 4⟩ : Line)].length) x20.2, .bool false, .int .u32 9]) SA_63.1 hs 8 rfl rfl rfl rfl rfl (Nat.le_of_ble_eq_true rfl) (one_cons rfl (one_cons rfl (one_cons rfl (one_cons rfl one_nil)))) (spl_whole rfl) fun w23 hs => ?_)
  refine RW_nil ?_
  refine W_seq ?_
  refine W_region ?_
  refine RW_op (L_fieldAddr FA_63_1 rfl ?_)
  refine RW_op (L_ld (V := .slice x13.1 ([(⟨4, 5⟩ : Line)].length) x13.2) S1_61 hs 5 rfl rfl rfl ?_)
  refine RW_op (L_lenR (n := [(⟨4, 5⟩ : Line)].length) UD_61 (hs.rd 4 rfl) (by simp) rfl ?_)
  refine RW_op (opW_to (V := .bool (decide ((([(⟨4, 5⟩ : Line)].length : Nat) : Int) = 1))) (V' := .bool true) (L_eql rfl rfl ⟨rfl, rfl⟩) (congrArg Value.bool (by decide)) ?_)
  refine RW_op (L_move (V := .bool true) rfl ?_)
  refine RW_gy rfl (L_fieldAddr FA_63_1 rfl ?_)
  refine RW_gy rfl (L_ld (V := .slice x13.1 ([(⟨4, 5⟩ : Line)].length) x13.2) S1_61 hs 5 rfl rfl rfl ?_)
  refine RW_gy rfl (L_ixR UD_61 SA_67.1 (hs.rd 4 rfl) rfl rfl (by decide) (by simp only [List.length_map, List.length_cons, List.length_nil]; omega) ?_)
  refine RW_gy rfl (L_ldRA (j := 0) (vs := lc (gd [(⟨4, 5⟩ : Line)] 0)) 0 SA_67 (hs.rd 4 rfl) (gd_at (by simp only [List.length_cons, List.length_nil]; omega)) rfl rfl rfl (by omega) ?_)
  refine RW_gy rfl (L_build (vs := [(0, .int .u16 4), (1, .int .u32 5)]) (cs := lc (⟨4, 5⟩ : Line)) BT_67 (rfl) rfl ?_)
  refine RW_gy rfl (opW_to (V := .bool (decide (gd [(⟨4, 5⟩ : Line)] 0 = (⟨4, 5⟩ : Line)))) (V' := .bool true) (L_eqA (xs := lc (gd [(⟨4, 5⟩ : Line)] 0)) (ys := lc (⟨4, 5⟩ : Line)) Try.eqGuardType67 (EQ_67 (gd [(⟨4, 5⟩ : Line)] 0) (⟨4, 5⟩ : Line)) rfl rfl rfl ⟨rfl, rfl⟩) (congrArg Value.bool (by decide)) ?_)
  refine RW_op (L_pick (V := .bool true) rfl rfl ?_)
  refine RW_op (L_move (V := .bool true) rfl ?_)
  refine RW_gy rfl (L_fieldAddr FA_63_3 rfl ?_)
  refine RW_gy rfl (L_ld (V := .int .u32 9) S1_22 hs 5 rfl rfl rfl ?_)
  refine RW_gy rfl (opW_to (V := .bool (decide ((9 : Int) = 9))) (V' := .bool true) (L_eql rfl rfl ⟨rfl, rfl⟩) (congrArg Value.bool (by decide)) ?_)
  refine RW_op (L_pick (V := .bool true) rfl rfl ?_)
  refine RW_op (L_move (V := .bool true) rfl ?_)
  refine RW_gy rfl (L_fieldAddr FA_63_1 rfl ?_)
  refine RW_gy rfl (L_ld (V := .slice x20.1 ([(⟨4, 4⟩ : Line)].length) x20.2) S1_61 hs 8 rfl rfl rfl ?_)
  refine RW_gy rfl (L_lenR (n := [(⟨4, 4⟩ : Line)].length) UD_61 (hs.rd 7 rfl) (by simp) rfl ?_)
  refine RW_gy rfl (opW_to (V := .bool (decide ((([(⟨4, 4⟩ : Line)].length : Nat) : Int) = 1))) (V' := .bool true) (L_eql rfl rfl ⟨rfl, rfl⟩) (congrArg Value.bool (by decide)) ?_)
  refine RW_op (L_pick (V := .bool true) rfl rfl ?_)
  refine RW_op (L_move (V := .bool true) rfl ?_)
  refine RW_gy rfl (L_fieldAddr FA_63_1 rfl ?_)
  refine RW_gy rfl (L_ld (V := .slice x20.1 ([(⟨4, 4⟩ : Line)].length) x20.2) S1_61 hs 8 rfl rfl rfl ?_)
  refine RW_gy rfl (L_ixR UD_61 SA_67.1 (hs.rd 7 rfl) rfl rfl (by decide) (by simp only [List.length_map, List.length_cons, List.length_nil]; omega) ?_)
  refine RW_gy rfl (L_fieldAddr FA_67_1 rfl ?_)
  refine RW_gy rfl (L_ldR (j := 1) (V := .int .u32 ((gd [(⟨4, 4⟩ : Line)] 0).qty)) 0 S1_22 (hs.rd 7 rfl) (gd_at (by simp only [List.length_cons, List.length_nil]; omega)) rfl rfl (by omega) ?_)
  refine RW_gy rfl (opW_to (V := .bool (decide ((gd [(⟨4, 4⟩ : Line)] 0).qty = 4))) (V' := .bool true) (L_eql rfl rfl ⟨rfl, rfl⟩) (congrArg Value.bool (by decide)) ?_)
  refine RW_op (L_pick (V := .bool true) rfl rfl ?_)
  refine RW_op (L_move (V := .bool true) rfl ?_)
  refine RW_gy rfl (L_ldW (cs := oc aliveA) SA_59 hs 0 rfl rfl rfl ?_)
  refine RW_gy rfl (L_bs (vals := [.agg (oc aliveA).toArray]) (ls := List.map oc ([aliveA] : List Opn)) EL_56 rfl rfl rfl (len_map (enc := oc) (fun _ => rfl) _) (one_map oc_one _) (Nat.le_of_ble_eq_true rfl) hs fun b24 w25 hs => ?_)
  replace hs : Own w no w25 [blk b1 (oc aliveA) 59, blk b4 (oc aliveB) 59, blk b7 (oc aliveC) 59, row (.slice (some ⟨b10, 0, none⟩) 2 2) ([aliveA, aliveB].map oc) 59 23, row (.slice x13.1 ([(⟨4, 5⟩ : Line)].length) x13.2) ([(⟨4, 5⟩ : Line)].map lc) 67 2, blk b14 [.int .u16 (((⟨3, [⟨4, 5⟩], false, 9⟩ : Vw)).cart), .slice x13.1 ([(⟨4, 5⟩ : Line)].length) x13.2, .bool false, .int .u32 9] 63, row (.slice (some ⟨b17, 0, none⟩) 3 3) ([aliveA, aliveB, aliveC].map oc) 59 23, row (.slice x20.1 ([(⟨4, 4⟩ : Line)].length) x20.2) ([(⟨4, 4⟩ : Line)].map lc) 67 2, blk b21 [.int .u16 (((⟨3, [⟨4, 4⟩], false, 9⟩ : Vw)).cart), .slice x20.1 ([(⟨4, 4⟩ : Line)].length) x20.2, .bool false, .int .u32 9] 63, row (.slice (some ⟨b24, 0, none⟩) 1 1) ([aliveA].map oc) 59 23] := hs
  refine RW_gy rfl (L_callX (α := Option Addr × Nat) (vs := [.slice (some ⟨b24, 0, none⟩) 1 1, .int .u16 2]) (V := fun x => .agg ([.int .u16 (((⟨2, [], false, 0⟩ : Vw)).cart), .slice x.1 (([] : List Line).length) x.2, .bool false, .int .u32 0]).toArray) (Lo := fun x => [row (.slice x.1 ([] : List Line).length x.2) (([] : List Line).map lc) 67 2]) (F := fun _ _ => True) EN_34 rfl rfl ?hc hs fun x27 w26 hs _ => ?_)
  case hc => exact (fViewE_ok _ (some ⟨b24, 0, none⟩) 1 [aliveA] 2 (⟨2, [], false, 0⟩ : Vw) (aliveV3) (fun o ho => alive_all (by simp only [List.mem_cons, List.not_mem_nil, or_false] at ho; grind)) (by decide) (hs.rd 9 rfl) hsortU)
  refine RW_gy rfl (L_fieldV (V := .bool false) (fun w => by simp [Instr.field, part, asAgg]) rfl ?_)
  refine RW_gy rfl (L_not rfl ?_)
  refine RW_op (L_pick (V := .bool true) rfl rfl ?_)
  refine RW_op (L_move (V := .bool true) rfl ?_)
  refine RW_gy rfl (L_ldW (cs := oc aliveC) SA_59 hs 2 rfl rfl rfl ?_)
  refine RW_gy rfl (L_ldW (cs := oc aliveA) SA_59 hs 0 rfl rfl rfl ?_)
  refine RW_gy rfl (L_bs (vals := [.agg (oc aliveC).toArray, .agg (oc aliveA).toArray]) (ls := List.map oc ([aliveC, aliveA] : List Opn)) EL_56 rfl rfl rfl (len_map (enc := oc) (fun _ => rfl) _) (one_map oc_one _) (Nat.le_of_ble_eq_true rfl) hs fun b28 w29 hs => ?_)
  refine RW_gy rfl (L_callPV (V' := .bool true) (congrArg Value.bool (aliveC1)) (vs := [.slice (some ⟨b28, 0, none⟩) 2 2]) (V := .bool (closedP [aliveC, aliveA])) EN_37 rfl rfl ?hc hs fun w30 hs => ?_)
  case hc => exact (fClosed_ok _ (some ⟨b28, 0, none⟩) 2 [aliveC, aliveA] (fun o ho => alive_all (by simp only [List.mem_cons, List.not_mem_nil, or_false] at ho; grind)) (by decide) (hs.rd 11 rfl))
  refine RW_op (L_pick (V := .bool true) rfl rfl ?_)
  refine RW_op (L_move (V := .bool true) rfl ?_)
  refine RW_gy rfl (L_ldW (cs := oc aliveC) SA_59 hs 2 rfl rfl rfl ?_)
  refine RW_gy rfl (L_bs (vals := [.agg (oc aliveC).toArray]) (ls := List.map oc ([aliveC] : List Opn)) EL_56 rfl rfl rfl (len_map (enc := oc) (fun _ => rfl) _) (one_map oc_one _) (Nat.le_of_ble_eq_true rfl) hs fun b31 w32 hs => ?_)
  replace hs : Own w no w32 [blk b1 (oc aliveA) 59, blk b4 (oc aliveB) 59, blk b7 (oc aliveC) 59, row (.slice (some ⟨b10, 0, none⟩) 2 2) ([aliveA, aliveB].map oc) 59 23, row (.slice x13.1 ([(⟨4, 5⟩ : Line)].length) x13.2) ([(⟨4, 5⟩ : Line)].map lc) 67 2, blk b14 [.int .u16 (((⟨3, [⟨4, 5⟩], false, 9⟩ : Vw)).cart), .slice x13.1 ([(⟨4, 5⟩ : Line)].length) x13.2, .bool false, .int .u32 9] 63, row (.slice (some ⟨b17, 0, none⟩) 3 3) ([aliveA, aliveB, aliveC].map oc) 59 23, row (.slice x20.1 ([(⟨4, 4⟩ : Line)].length) x20.2) ([(⟨4, 4⟩ : Line)].map lc) 67 2, blk b21 [.int .u16 (((⟨3, [⟨4, 4⟩], false, 9⟩ : Vw)).cart), .slice x20.1 ([(⟨4, 4⟩ : Line)].length) x20.2, .bool false, .int .u32 9] 63, row (.slice (some ⟨b24, 0, none⟩) 1 1) ([aliveA].map oc) 59 23, row (.slice x27.1 (([] : List Line).length) x27.2) (([] : List Line).map lc) 67 2, row (.slice (some ⟨b28, 0, none⟩) 2 2) ([aliveC, aliveA].map oc) 59 23, row (.slice (some ⟨b31, 0, none⟩) 1 1) ([aliveC].map oc) 59 23] := hs
  refine RW_gy rfl (L_callPV (V' := .bool false) (congrArg Value.bool aliveC2) (vs := [.slice (some ⟨b31, 0, none⟩) 1 1]) (V := .bool (closedP [aliveC])) EN_37 rfl rfl ?hc hs fun w33 hs => ?_)
  case hc => exact (fClosed_ok _ (some ⟨b31, 0, none⟩) 1 [aliveC] (fun o ho => alive_all (by simp only [List.mem_cons, List.not_mem_nil, or_false] at ho; grind)) (by decide) (hs.rd 12 rfl))
  refine RW_gy rfl (L_not rfl ?_)
  refine RW_op (L_pick (V := .bool true) rfl rfl ?_)
  refine RW_op (L_move (V := .bool true) rfl ?_)
  refine RW_gy rfl (L_ldW (cs := oc aliveA) SA_59 hs 0 rfl rfl rfl ?_)
  refine RW_gy rfl (L_ldW (cs := oc aliveC) SA_59 hs 2 rfl rfl rfl ?_)
  refine RW_gy rfl (L_bs (vals := [.agg (oc aliveA).toArray, .agg (oc aliveC).toArray]) (ls := List.map oc ([aliveA, aliveC] : List Opn)) EL_56 rfl rfl rfl (len_map (enc := oc) (fun _ => rfl) _) (one_map oc_one _) (Nat.le_of_ble_eq_true rfl) hs fun b34 w35 hs => ?_)
  refine RW_gy rfl (L_callX (vs := [.slice (some ⟨b34, 0, none⟩) 2 2]) EN_53 rfl rfl (fLives_ok _ (some ⟨b34, 0, none⟩) 2 [aliveA, aliveC] (fun o ho => alive_all (by simp only [List.mem_cons, List.not_mem_nil, or_false] at ho; grind)) (by decide) (hs.rd 13 rfl) ) hs fun x37 w36 hs _ => ?_)
  refine RW_gy rfl (L_lenR (n := ([aliveA, aliveC].map (liveB [aliveA, aliveC])).length) UD_90 (hs.rd 14 rfl) (by simp) rfl ?_)
  refine RW_gy rfl (opW_to (V := .bool (decide (((([aliveA, aliveC].map (liveB [aliveA, aliveC])).length : Nat) : Int) = 2))) (V' := .bool true) (L_eql rfl rfl ⟨rfl, rfl⟩) (congrArg Value.bool (by decide)) ?_)
  refine RW_op (L_pick (V := .bool true) rfl rfl ?_)
  refine RW_op (L_assign (V := .bool true) rfl ?_)
  refine RW_nil ?_
  refine W_ret ?_
  refine ⟨_, res_one (V := .bool true) Try.results32 rfl, ?_⟩
  refine ⟨congrArg Ending.returned ?_, hs.take 0⟩
  rfl
end Tf
end Go.Proofs
namespace Go.Proofs
open Go Go.Vx Go.RowKit
open Tt
namespace Tf
theorem EN_32 : En Try.prog 32 := Try.call32
theorem EN_35 : En Try.prog 35 := Try.call35
theorem EN_36 : En Try.prog 36 := Try.call36
theorem EN_38 : En Try.prog 38 := Try.call38
theorem EN_39 : En Try.prog 39 := Try.call39
theorem EN_40 : En Try.prog 40 := Try.call40
theorem EN_41 : En Try.prog 41 := Try.call41
theorem EN_42 : En Try.prog 42 := Try.call42
set_option maxRecDepth 20000 in
set_option maxHeartbeats 4000000 in
theorem foldParts_ok (w : World) (v : Vec) (a : Option Addr) (c : Nat) (l : List Opn) (hl : ∀ o ∈ l, OpnOk o) (hr : Rd w (.slice a l.length c) 23 (l.map oc)) (hsortU : SortI Try.prog 76 .u16 57) : Calls Try.prog 14 #[.slice a l.length c, .agg (vc v).toArray] w (fun e w' => e = .returned (.bool true) ∧ Own w no w' []) := by
  refine calls_of_Wn (n := 31) Try.func14 rfl Try.ntmps14 rfl ?_
  have hs := Own.start w
  have hn := hr.sml
  refine W_seq ?_
  refine W_region ?_
  refine RW_op (L_box (V := .agg (vc v).toArray) (cs := vc v) rfl rfl hs fun b1 w2 hs => ?_)
  refine RW_op (L_assign (V := .bool false) rfl ?_)
  refine RW_nil ?_
  refine W_seq ?_
  refine W_seq ?_
  refine W_region ?_
  refine RW_op (L_callP (vs := []) (V := .bool true) EN_32 rfl rfl ?hc hs fun w3 hs => ?_)
  case hc => exact (alive7_ok _ hsortU)
  refine RW_op (L_not rfl ?_)
  refine RW_nil ?_
  refine W_condF rfl ?_
  refine W_skip ?_
  refine W_seq ?_
  refine W_seq ?_
  refine W_region ?_
  refine RW_op (L_move (V := .slice a l.length c) rfl ?_)
  refine RW_op (L_lenR (n := l.length) UD_56 (Rd.own' hr hs) (by simp) rfl ?_)
  refine RW_op (L_gtr rfl rfl ?_)
  refine RW_nil ?_
  refine W_cond (t := decide (40 < ((l.length : Nat) : Int))) rfl (fun c4 => ?_) (fun c4 => ?_)
  ·
    replace c4 := of_decide_eq_true c4
    refine W_seq ?_
    refine W_region ?_
    refine RW_op (L_assign (V := .bool true) rfl ?_)
    refine RW_nil ?_
    refine W_ret ?_
    refine ⟨_, res_one (V := .bool true) Try.results14 rfl, ?_⟩
    refine ⟨congrArg Ending.returned ?_, hs.take 0⟩
    rfl
  ·
    replace c4 := of_decide_eq_false c4
    refine W_skip ?_
    refine W_seq ?_
    have hlen : l.length ≤ 1000 := by omega
    have hce := closedP_eq hl
    replace hs := hs.more emp trivial
    replace hs := hs.more emp trivial
    replace hs := hs.more emp trivial
    replace hs := hs.more emp trivial
    replace hs := hs.drew
    refine W_draw2 HM [10, 11, 12, 13, 14, 15, 16, 17, 18, 19, 20, 21, 22, 23, 24, 25, 26, 27, 28, 29, 30, 4] [[], [0], [], [2, 1], [1, 3, 3], [4, 4], [5], [5], [6, 7, 5, 5], [5], [5], [9, 10, 8, 5], [8, 11, 11, 5], [5, 12], [13, 12], [14], [15, 14, 14], [14], [17, 16, 14], [16, 18, 14], [14, 19], [20, 18, 0, 1, 2, 3, 4, 5, 6, 7, 8, 9, 10, 11, 12, 13, 14, 15, 16, 17, 18, 19, 20]] (fun D ρ wx => Own w no wx [blk b1 (vc v) 24, cond (D 1) (row (.slice (aOf (ρ 11)) ((cartsP l).length) (cOf (ρ 11))) ((cartsP l).map (ic .u16)) 57 1) (emp), cond (D 3) (row (.slice (aOf (ρ 13)) ((cartsP l).length) (cOf (ρ 13))) ((cartsP l).map (ic .u16)) 57 1) (emp), cond (D 8) (row (.slice (aOf (ρ 18)) ((underP l v).length) (cOf (ρ 18))) ((underP l v).map oc) 59 23) (emp), cond (D 11) (row (.slice (aOf (ρ 21)) ((underP l v).length) (cOf (ρ 21))) ((underP l v).map oc) 59 23) (emp)] ∧ (D 0 = true → ρ 10 = .slice a l.length c) ∧ (D 1 = true → ρ 11 = .slice (aOf (ρ 11)) ((cartsP l).length) (cOf (ρ 11))) ∧ (D 2 = true → ρ 12 = .slice a l.length c) ∧ (D 3 = true → ρ 13 = .slice (aOf (ρ 13)) ((cartsP l).length) (cOf (ρ 13))) ∧ (D 4 = true → ρ 14 = .bool true) ∧ (D 5 = true → ρ 15 = .bool true) ∧ (D 6 = true → ρ 16 = .slice a l.length c) ∧ (D 7 = true → ρ 17 = .agg (vc v).toArray) ∧ (D 8 = true → ρ 18 = .slice (aOf (ρ 18)) ((underP l v).length) (cOf (ρ 18))) ∧ (D 9 = true → ρ 19 = .slice a l.length c) ∧ (D 10 = true → ρ 20 = .agg (vc v).toArray) ∧ (D 11 = true → ρ 21 = .slice (aOf (ρ 21)) ((underP l v).length) (cOf (ρ 21))) ∧ (D 12 = true → ρ 22 = .bool true) ∧ (D 13 = true → ρ 23 = .bool true) ∧ (D 14 = true → ρ 24 = .bool true) ∧ (D 15 = true → ρ 25 = .slice a l.length c) ∧ (D 16 = true → ρ 26 = .bool (closedP l)) ∧ (D 17 = true → ρ 27 = .slice a l.length c) ∧ (D 18 = true → ρ 28 = .bool (closedR l)) ∧ (D 19 = true → ρ 29 = .bool true) ∧ (D 20 = true → ρ 30 = .bool true) ∧ (D 21 = true → ρ 4 = .bool true)) rfl rfl rfl ⟨hs, fun h => absurd h Bool.false_ne_true, fun h => absurd h Bool.false_ne_true, fun h => absurd h Bool.false_ne_true, fun h => absurd h Bool.false_ne_true, fun h => absurd h Bool.false_ne_true, fun h => absurd h Bool.false_ne_true, fun h => absurd h Bool.false_ne_true, fun h => absurd h Bool.false_ne_true, fun h => absurd h Bool.false_ne_true, fun h => absurd h Bool.false_ne_true, fun h => absurd h Bool.false_ne_true, fun h => absurd h Bool.false_ne_true, fun h => absurd h Bool.false_ne_true, fun h => absurd h Bool.false_ne_true, fun h => absurd h Bool.false_ne_true, fun h => absurd h Bool.false_ne_true, fun h => absurd h Bool.false_ne_true, fun h => absurd h Bool.false_ne_true, fun h => absurd h Bool.false_ne_true, fun h => absurd h Bool.false_ne_true, fun h => absurd h Bool.false_ne_true, fun h => absurd h Bool.false_ne_true⟩ ⟨?_, ?_, ?_, ?_, ?_, ?_, ?_, ?_, ?_, ?_, ?_, ?_, ?_, ?_, ?_, ?_, ?_, ?_, ?_, ?_, ?_, ?_, trivial⟩ ?_
    · rintro D ρ wx hD hd hdc hf ⟨hs, f0, f1, f2, f3, f4, f5, f6, f7, f8, f9, f10, f11, f12, f13, f14, f15, f16, f17, f18, f19, f20, f21⟩
      have r0 : ρ 0 = .slice a l.length c := outD hf 0 rfl
      exact .inl ⟨rfl, L_move (V := .slice a l.length c) r0 ⟨hs, fun _ => rfl, f1, f2, f3, f4, f5, f6, f7, f8, f9, f10, f11, f12, f13, f14, f15, f16, f17, f18, f19, f20, f21⟩⟩
    · rintro D ρ wx hD hd hdc hf ⟨hs, f0, f1, f2, f3, f4, f5, f6, f7, f8, f9, f10, f11, f12, f13, f14, f15, f16, f17, f18, f19, f20, f21⟩
      have g0 := f0 (doneD hd 0 rfl)
      refine .inl ⟨rfl, L_callX (vs := [.slice a l.length c]) EN_36 rfl (mapc g0 rfl) (fCarts_ok _ a c l hl (by omega) (Rd.own' hr hs) hsortU) hs fun b _ hs0 _ => ⟨?_, f0, fun _ => rfl, f2, f3, f4, f5, f6, f7, f8, f9, f10, f11, f12, f13, f14, f15, f16, f17, f18, f19, f20, f21⟩⟩
      exact hs0.put 1 (Nat.le_of_ble_eq_true rfl)
    · rintro D ρ wx hD hd hdc hf ⟨hs, f0, f1, f2, f3, f4, f5, f6, f7, f8, f9, f10, f11, f12, f13, f14, f15, f16, f17, f18, f19, f20, f21⟩
      have r0 : ρ 0 = .slice a l.length c := outD hf 0 rfl
      exact .inl ⟨rfl, L_move (V := .slice a l.length c) r0 ⟨hs, f0, f1, fun _ => rfl, f3, f4, f5, f6, f7, f8, f9, f10, f11, f12, f13, f14, f15, f16, f17, f18, f19, f20, f21⟩⟩
    · rintro D ρ wx hD hd hdc hf ⟨hs, f0, f1, f2, f3, f4, f5, f6, f7, f8, f9, f10, f11, f12, f13, f14, f15, f16, f17, f18, f19, f20, f21⟩
      have g2 := f2 (doneD hd 2 rfl)
      refine .inl ⟨rfl, L_callX (vs := [.slice a l.length c]) EN_39 rfl (mapc g2 rfl) (rCarts_ok _ a c l hl (by omega) (Rd.own' hr hs) ) hs fun b _ hs0 _ => ⟨?_, f0, f1, f2, fun _ => rfl, f4, f5, f6, f7, f8, f9, f10, f11, f12, f13, f14, f15, f16, f17, f18, f19, f20, f21⟩⟩
      exact hs0.put 2 (Nat.le_of_ble_eq_true rfl)
    · rintro D ρ wx hD hd hdc hf ⟨hs, f0, f1, f2, f3, f4, f5, f6, f7, f8, f9, f10, f11, f12, f13, f14, f15, f16, f17, f18, f19, f20, f21⟩
      have g1 := f1 (doneD hd 1 rfl)
      have g3 := f3 (doneD hd 3 rfl)
      have d1 : D 1 = true := doneD hd 1 rfl
      have d3 : D 3 = true := doneD hd 3 rfl
      have hs0 := hs; rw [d1, d3] at hs0
      refine .inl ⟨rfl, L_callPV (V' := .bool true) (congrArg Value.bool (decide_eq_true rfl)) (vs := [.slice (aOf (ρ 11)) ((cartsP l).length) (cOf (ρ 11)), .slice (aOf (ρ 13)) ((cartsP l).length) (cOf (ρ 13))]) (V := .bool (decide (cartsP l = cartsP l))) EN_35 rfl (mapc g1 (mapc g3 rfl)) (eqU_ok _ (aOf (ρ 11)) (aOf (ρ 13)) (cOf (ρ 11)) (cOf (ρ 13)) (cartsP l) (cartsP l) (hs0.rd 1 rfl) (hs0.rd 2 rfl)) hs0 fun _ hs0 => ⟨?_, f0, f1, f2, f3, fun _ => rfl, f5, f6, f7, f8, f9, f10, f11, f12, f13, f14, f15, f16, f17, f18, f19, f20, f21⟩⟩
      rw [show Go.Vx.mark D 4 1 = true from d1, show Go.Vx.mark D 4 3 = true from d3]
      exact hs0
    · rintro D ρ wx hD hd hdc hf ⟨hs, f0, f1, f2, f3, f4, f5, f6, f7, f8, f9, f10, f11, f12, f13, f14, f15, f16, f17, f18, f19, f20, f21⟩
      have g4 := f4 (doneD hd 4 rfl)
      exact .inl ⟨rfl, L_move (V := .bool true) g4 ⟨hs, f0, f1, f2, f3, f4, fun _ => rfl, f6, f7, f8, f9, f10, f11, f12, f13, f14, f15, f16, f17, f18, f19, f20, f21⟩⟩
    · rintro D ρ wx hD hd hdc hf ⟨hs, f0, f1, f2, f3, f4, f5, f6, f7, f8, f9, f10, f11, f12, f13, f14, f15, f16, f17, f18, f19, f20, f21⟩
      have r0 : ρ 0 = .slice a l.length c := outD hf 0 rfl
      exact .inl ⟨(Eq.trans (wantG1 (j := 5) rfl (f5 (doneD hd 5 rfl))) rfl), L_move (V := .slice a l.length c) r0 ⟨hs, f0, f1, f2, f3, f4, f5, fun _ => rfl, f7, f8, f9, f10, f11, f12, f13, f14, f15, f16, f17, f18, f19, f20, f21⟩⟩
    · rintro D ρ wx hD hd hdc hf ⟨hs, f0, f1, f2, f3, f4, f5, f6, f7, f8, f9, f10, f11, f12, f13, f14, f15, f16, f17, f18, f19, f20, f21⟩
      have r3 : ρ 3 = .pointer (some ⟨b1, 0, none⟩) := outD hf 3 rfl
      exact .inl ⟨(Eq.trans (wantG1 (j := 5) rfl (f5 (doneD hd 5 rfl))) rfl), L_ldW (cs := vc v) SA_24 hs 0 rfl r3 rfl ⟨hs, f0, f1, f2, f3, f4, f5, f6, fun _ => rfl, f8, f9, f10, f11, f12, f13, f14, f15, f16, f17, f18, f19, f20, f21⟩⟩
    · rintro D ρ wx hD hd hdc hf ⟨hs, f0, f1, f2, f3, f4, f5, f6, f7, f8, f9, f10, f11, f12, f13, f14, f15, f16, f17, f18, f19, f20, f21⟩
      have g6 := f6 (doneD hd 6 rfl)
      have g7 := f7 (doneD hd 7 rfl)
      refine .inl ⟨(Eq.trans (wantG1 (j := 5) rfl (f5 (doneD hd 5 rfl))) rfl), L_callX (vs := [.slice a l.length c, .agg (vc v).toArray]) EN_38 rfl (mapc g6 (mapc g7 rfl)) (fUnder_ok _ v a c l hl (by omega) (Rd.own' hr hs) ) hs fun b _ hs0 _ => ⟨?_, f0, f1, f2, f3, f4, f5, f6, f7, fun _ => rfl, f9, f10, f11, f12, f13, f14, f15, f16, f17, f18, f19, f20, f21⟩⟩
      exact hs0.put 3 (Nat.le_of_ble_eq_true rfl)
    · rintro D ρ wx hD hd hdc hf ⟨hs, f0, f1, f2, f3, f4, f5, f6, f7, f8, f9, f10, f11, f12, f13, f14, f15, f16, f17, f18, f19, f20, f21⟩
      have r0 : ρ 0 = .slice a l.length c := outD hf 0 rfl
      exact .inl ⟨(Eq.trans (wantG1 (j := 5) rfl (f5 (doneD hd 5 rfl))) rfl), L_move (V := .slice a l.length c) r0 ⟨hs, f0, f1, f2, f3, f4, f5, f6, f7, f8, fun _ => rfl, f10, f11, f12, f13, f14, f15, f16, f17, f18, f19, f20, f21⟩⟩
    · rintro D ρ wx hD hd hdc hf ⟨hs, f0, f1, f2, f3, f4, f5, f6, f7, f8, f9, f10, f11, f12, f13, f14, f15, f16, f17, f18, f19, f20, f21⟩
      have r3 : ρ 3 = .pointer (some ⟨b1, 0, none⟩) := outD hf 3 rfl
      exact .inl ⟨(Eq.trans (wantG1 (j := 5) rfl (f5 (doneD hd 5 rfl))) rfl), L_ldW (cs := vc v) SA_24 hs 0 rfl r3 rfl ⟨hs, f0, f1, f2, f3, f4, f5, f6, f7, f8, f9, fun _ => rfl, f11, f12, f13, f14, f15, f16, f17, f18, f19, f20, f21⟩⟩
    · rintro D ρ wx hD hd hdc hf ⟨hs, f0, f1, f2, f3, f4, f5, f6, f7, f8, f9, f10, f11, f12, f13, f14, f15, f16, f17, f18, f19, f20, f21⟩
      have g9 := f9 (doneD hd 9 rfl)
      have g10 := f10 (doneD hd 10 rfl)
      refine .inl ⟨(Eq.trans (wantG1 (j := 5) rfl (f5 (doneD hd 5 rfl))) rfl), L_callX (vs := [.slice a l.length c, .agg (vc v).toArray]) EN_41 rfl (mapc g9 (mapc g10 rfl)) (rUnder_ok _ v a c l hl (by omega) (Rd.own' hr hs) ) hs fun b _ hs0 _ => ⟨?_, f0, f1, f2, f3, f4, f5, f6, f7, f8, f9, f10, fun _ => rfl, f12, f13, f14, f15, f16, f17, f18, f19, f20, f21⟩⟩
      exact hs0.put 4 (Nat.le_of_ble_eq_true rfl)
    · rintro D ρ wx hD hd hdc hf ⟨hs, f0, f1, f2, f3, f4, f5, f6, f7, f8, f9, f10, f11, f12, f13, f14, f15, f16, f17, f18, f19, f20, f21⟩
      have g8 := f8 (doneD hd 8 rfl)
      have g11 := f11 (doneD hd 11 rfl)
      have d8 : D 8 = true := doneD hd 8 rfl
      have d11 : D 11 = true := doneD hd 11 rfl
      have hs0 := hs; rw [d8, d11] at hs0
      refine .inl ⟨(Eq.trans (wantG1 (j := 5) rfl (f5 (doneD hd 5 rfl))) rfl), L_callPV (V' := .bool true) (congrArg Value.bool (decide_eq_true rfl)) (vs := [.slice (aOf (ρ 18)) ((underP l v).length) (cOf (ρ 18)), .slice (aOf (ρ 21)) ((underP l v).length) (cOf (ρ 21))]) (V := .bool (decide (underP l v = underP l v))) EN_40 rfl (mapc g8 (mapc g11 rfl)) (eqO_ok _ (aOf (ρ 18)) (aOf (ρ 21)) (cOf (ρ 18)) (cOf (ρ 21)) (underP l v) (underP l v) (hs0.rd 3 rfl) (hs0.rd 4 rfl)) hs0 fun _ hs0 => ⟨?_, f0, f1, f2, f3, f4, f5, f6, f7, f8, f9, f10, f11, fun _ => rfl, f13, f14, f15, f16, f17, f18, f19, f20, f21⟩⟩
      rw [show Go.Vx.mark D 12 8 = true from d8, show Go.Vx.mark D 12 11 = true from d11]
      exact hs0
    · rintro D ρ wx hD hd hdc hf ⟨hs, f0, f1, f2, f3, f4, f5, f6, f7, f8, f9, f10, f11, f12, f13, f14, f15, f16, f17, f18, f19, f20, f21⟩
      have g5 := f5 (doneD hd 5 rfl)
      have g12 := f12 (doneD hd 12 rfl)
      exact .inl ⟨rfl, L_pick (V := .bool true) g5 g12 ⟨hs, f0, f1, f2, f3, f4, f5, f6, f7, f8, f9, f10, f11, f12, fun _ => rfl, f14, f15, f16, f17, f18, f19, f20, f21⟩⟩
    · rintro D ρ wx hD hd hdc hf ⟨hs, f0, f1, f2, f3, f4, f5, f6, f7, f8, f9, f10, f11, f12, f13, f14, f15, f16, f17, f18, f19, f20, f21⟩
      have g13 := f13 (doneD hd 13 rfl)
      exact .inl ⟨rfl, L_move (V := .bool true) g13 ⟨hs, f0, f1, f2, f3, f4, f5, f6, f7, f8, f9, f10, f11, f12, f13, fun _ => rfl, f15, f16, f17, f18, f19, f20, f21⟩⟩
    · rintro D ρ wx hD hd hdc hf ⟨hs, f0, f1, f2, f3, f4, f5, f6, f7, f8, f9, f10, f11, f12, f13, f14, f15, f16, f17, f18, f19, f20, f21⟩
      have r0 : ρ 0 = .slice a l.length c := outD hf 0 rfl
      exact .inl ⟨(Eq.trans (wantG1 (j := 14) rfl (f14 (doneD hd 14 rfl))) rfl), L_move (V := .slice a l.length c) r0 ⟨hs, f0, f1, f2, f3, f4, f5, f6, f7, f8, f9, f10, f11, f12, f13, f14, fun _ => rfl, f16, f17, f18, f19, f20, f21⟩⟩
    · rintro D ρ wx hD hd hdc hf ⟨hs, f0, f1, f2, f3, f4, f5, f6, f7, f8, f9, f10, f11, f12, f13, f14, f15, f16, f17, f18, f19, f20, f21⟩
      have g15 := f15 (doneD hd 15 rfl)
      exact .inl ⟨(Eq.trans (wantG1 (j := 14) rfl (f14 (doneD hd 14 rfl))) rfl), L_callP (vs := [.slice a l.length c]) (V := .bool (closedP l)) EN_37 rfl (mapc g15 rfl) (fClosed_ok _ a c l hl (by omega) (Rd.own' hr hs)) hs fun _ hs0 => ⟨hs0, f0, f1, f2, f3, f4, f5, f6, f7, f8, f9, f10, f11, f12, f13, f14, f15, fun _ => rfl, f17, f18, f19, f20, f21⟩⟩
    · rintro D ρ wx hD hd hdc hf ⟨hs, f0, f1, f2, f3, f4, f5, f6, f7, f8, f9, f10, f11, f12, f13, f14, f15, f16, f17, f18, f19, f20, f21⟩
      have r0 : ρ 0 = .slice a l.length c := outD hf 0 rfl
      exact .inl ⟨(Eq.trans (wantG1 (j := 14) rfl (f14 (doneD hd 14 rfl))) rfl), L_move (V := .slice a l.length c) r0 ⟨hs, f0, f1, f2, f3, f4, f5, f6, f7, f8, f9, f10, f11, f12, f13, f14, f15, f16, fun _ => rfl, f18, f19, f20, f21⟩⟩
    · rintro D ρ wx hD hd hdc hf ⟨hs, f0, f1, f2, f3, f4, f5, f6, f7, f8, f9, f10, f11, f12, f13, f14, f15, f16, f17, f18, f19, f20, f21⟩
      have g17 := f17 (doneD hd 17 rfl)
      exact .inl ⟨(Eq.trans (wantG1 (j := 14) rfl (f14 (doneD hd 14 rfl))) rfl), L_callP (vs := [.slice a l.length c]) (V := .bool (closedR l)) EN_42 rfl (mapc g17 rfl) (rClosedO_ok _ a c l hl (by omega) (Rd.own' hr hs)) hs fun _ hs0 => ⟨hs0, f0, f1, f2, f3, f4, f5, f6, f7, f8, f9, f10, f11, f12, f13, f14, f15, f16, f17, fun _ => rfl, f19, f20, f21⟩⟩
    · rintro D ρ wx hD hd hdc hf ⟨hs, f0, f1, f2, f3, f4, f5, f6, f7, f8, f9, f10, f11, f12, f13, f14, f15, f16, f17, f18, f19, f20, f21⟩
      have g16 := f16 (doneD hd 16 rfl)
      have g18 := f18 (doneD hd 18 rfl)
      exact .inl ⟨(Eq.trans (wantG1 (j := 14) rfl (f14 (doneD hd 14 rfl))) rfl), opW_to (V := .bool ((closedP l) == (closedR l))) (V' := .bool true) (L_eqb UDR_4 g16 g18 ⟨rfl, rfl⟩) (congrArg Value.bool (by rw [hce]; exact beqT rfl)) ⟨hs, f0, f1, f2, f3, f4, f5, f6, f7, f8, f9, f10, f11, f12, f13, f14, f15, f16, f17, f18, fun _ => rfl, f20, f21⟩⟩
    · rintro D ρ wx hD hd hdc hf ⟨hs, f0, f1, f2, f3, f4, f5, f6, f7, f8, f9, f10, f11, f12, f13, f14, f15, f16, f17, f18, f19, f20, f21⟩
      have g14 := f14 (doneD hd 14 rfl)
      have g19 := f19 (doneD hd 19 rfl)
      exact .inl ⟨rfl, L_pick (V := .bool true) g14 g19 ⟨hs, f0, f1, f2, f3, f4, f5, f6, f7, f8, f9, f10, f11, f12, f13, f14, f15, f16, f17, f18, f19, fun _ => rfl, f21⟩⟩
    · rintro D ρ wx hD hd hdc hf ⟨hs, f0, f1, f2, f3, f4, f5, f6, f7, f8, f9, f10, f11, f12, f13, f14, f15, f16, f17, f18, f19, f20, f21⟩
      have g20 := f20 (doneD hd 20 rfl)
      exact .inl ⟨rfl, L_assign (V := .bool true) g20 ⟨hs, f0, f1, f2, f3, f4, f5, f6, f7, f8, f9, f10, f11, f12, f13, f14, f15, f16, f17, f18, f19, f20, fun _ => rfl⟩⟩
    · rintro ρ1 w1 D hD hf ⟨hs, f0, f1, f2, f3, f4, f5, f6, f7, f8, f9, f10, f11, f12, f13, f14, f15, f16, f17, f18, f19, f20, f21⟩
      rw [hD 1 rfl, hD 3 rfl, hD 8 rfl, hD 11 rfl] at hs
      have e21 := f21 (hD 21 rfl)
      clear f0 f1 f2 f3 f4 f5 f6 f7 f8 f9 f10 f11 f12 f13 f14 f15 f16 f17 f18 f19 f20 f21
      obtain ⟨ρ2, hρ⟩ : ∃ ρ2, ρ1 = upd (mix [10, 11, 12, 13, 14, 15, 16, 17, 18, 19, 20, 21, 22, 23, 24, 25, 26, 27, 28, 29, 30, 4] ρ2 _) 4 (.bool true) := ⟨ρ1, upd_of (mix_of (ds := [10, 11, 12, 13, 14, 15, 16, 17, 18, 19, 20, 21, 22, 23, 24, 25, 26, 27, 28, 29, 30, 4]) hf) e21⟩
      clear hf hD e21
      subst hρ
      refine W_ret ?_
      refine ⟨_, res_one (V := .bool true) Try.results14 rfl, ?_⟩
      refine ⟨congrArg Ending.returned ?_, hs.take 0⟩
      rfl
end Tf
end Go.Proofs
namespace Go.Proofs
open Go.Shelf
def Try.sortD_ren : Go.Shelf.Ren := ⟨fun | 6 => 64 | 15 => 81 | 14 => 80 | 28 => 98 | 29 => 99 | 20 => 90 | 21 => 91 | 22 => 92 | 23 => 93 | 24 => 94 | 25 => 95 | 26 => 96 | 27 => 97 | 46 => 111 | 47 => 112 | 48 => 113 | 49 => 114 | 50 => 115 | 57 => 120 | n => n, fun | 22 => 25 | 24 => 34 | 25 => 88 | 3 => 3 | 39 => 119 | 0 => 0 | 53 => 22 | 55 => 54 | 4 => 4 | 46 => 130 | 45 => 129 | 50 => 134 | 5 => 5 | 9 => 9 | 66 => 145 | 70 => 149 | 76 => 153 | 77 => 154 | n => n, fun | n => n⟩
theorem Try.sortD : Go.Proofs.SlLaysF0.n6 Try.prog Try.sortD_ren := {
  mixed := by kernel_rfl
  f6 := ⟨Try.f64.name, by decide, Try.func64.trans (congrArg some (by kernel_rfl))⟩
  f14 := ⟨Try.f80.name, by decide, Try.func80.trans (congrArg some (by kernel_rfl))⟩
  f15 := Try.func81.trans (congrArg some (by kernel_rfl))
  f20 := ⟨Try.f90.name, by decide, Try.func90.trans (congrArg some (by kernel_rfl))⟩
  f21 := ⟨Try.f91.name, by decide, Try.func91.trans (congrArg some (by kernel_rfl))⟩
  f22 := ⟨Try.f92.name, by decide, Try.func92.trans (congrArg some (by kernel_rfl))⟩
  f23 := ⟨Try.f93.name, by decide, Try.func93.trans (congrArg some (by kernel_rfl))⟩
  f24 := ⟨Try.f94.name, by decide, Try.func94.trans (congrArg some (by kernel_rfl))⟩
  f25 := ⟨Try.f95.name, by decide, Try.func95.trans (congrArg some (by kernel_rfl))⟩
  f26 := ⟨Try.f96.name, by decide, Try.func96.trans (congrArg some (by kernel_rfl))⟩
  f27 := ⟨Try.f97.name, by decide, Try.func97.trans (congrArg some (by kernel_rfl))⟩
  f28 := Try.func98.trans (congrArg some (by kernel_rfl))
  f29 := Try.func99.trans (congrArg some (by kernel_rfl))
  f46 := ⟨Try.f111.name, by decide, Try.func111.trans (congrArg some (by kernel_rfl))⟩
  f47 := Try.func112.trans (congrArg some (by kernel_rfl))
  f48 := Try.func113.trans (congrArg some (by kernel_rfl))
  f49 := ⟨Try.f114.name, by decide, Try.func114.trans (congrArg some (by kernel_rfl))⟩
  f50 := ⟨Try.f115.name, by decide, Try.func115.trans (congrArg some (by kernel_rfl))⟩
  f57 := ⟨Try.f120.name, by decide, Try.func120.trans (congrArg some (by kernel_rfl))⟩
  t0 := Try.underlying0
  a0 := Try.isAgg0
  z0 := Try.sizeOf0
  v0 := Try.zeroValue0
  t3 := Try.underlying3
  a3 := Try.isAgg3
  z3 := Try.sizeOf3
  v3 := Try.zeroValue3
  t4 := Try.underlying4
  a4 := Try.isAgg4
  z4 := Try.sizeOf4
  v4 := Try.zeroValue4
  t5 := Try.underlying5
  a5 := Try.isAgg5
  z5 := Try.sizeOf5
  v5 := Try.zeroValue5
  t9 := Try.underlying9
  a9 := Try.isAgg9
  z9 := Try.sizeOf9
  v9 := Try.zeroValue9
  t22 := Try.underlying25
  a22 := Try.isAgg25
  z22 := Try.sizeOf25
  v22 := Try.zeroValue25
  t25 := Try.underlying88
  a25 := Try.isAgg88
  z25 := Try.sizeOf88
  v25 := Try.zeroValue88
  t39 := Try.underlying119
  a39 := Try.isAgg119
  z39 := Try.sizeOf119
  v39 := Try.zeroValue119
  t45 := Try.underlying129
  a45 := Try.isAgg129
  z45 := Try.sizeOf129
  v45 := Try.zeroValue129
  t46 := Try.underlying130
  a46 := Try.isAgg130
  z46 := Try.sizeOf130
  v46 := Try.zeroValue130
  t50 := Try.underlying134
  a50 := Try.isAgg134
  z50 := Try.sizeOf134
  v50 := Try.zeroValue134
  t53 := Try.underlying22
  a53 := Try.isAgg22
  z53 := Try.sizeOf22
  v53 := Try.zeroValue22
  t55 := Try.underlying54
  a55 := Try.isAgg54
  z55 := Try.sizeOf54
  v55 := Try.zeroValue54
  t66 := Try.underlying145
  a66 := Try.isAgg145
  z66 := Try.sizeOf145
  v66 := Try.zeroValue145
  t70 := Try.underlying149
  a70 := Try.isAgg149
  z70 := Try.sizeOf149
  v70 := Try.zeroValue149
  t76 := Try.underlying153
  a76 := Try.isAgg153
  z76 := Try.sizeOf153
  v76 := Try.zeroValue153
  t77 := Try.underlying154
  a77 := Try.isAgg154
  z77 := Try.sizeOf154
  v77 := Try.zeroValue154 }
end Go.Proofs
namespace Go.Proofs.Ytnanhhiofnohbaa
open Go.Vx Go.Sort Go.Proofs
theorem lenU : LenC Try.prog 81 := fun w n hn => by
  have h := Any.bits_Len (SlLaysF0.n15.bits (P := Try.prog) (ρ := Try.sortD_ren) { Try.sortD with }) (n : Int) w (by omega) (by omega)
  rw [Int.toNat_natCast, bitLen_eq _ (by omega)] at h
  exact h.mono fun e w' ⟨he, hw⟩ => by subst hw; exact ⟨he, Own.start _⟩
theorem xorU : XorC Try.prog 113 145 := fun w S rb X hX hR hlt => xor_ok (P := Try.prog) (ρ := Try.sortD_ren) { Try.sortD with } 145 w S rb X hX hR hlt
theorem powU : PowC Try.prog 112 := fun w n hn => pow_ok (P := Try.prog) (ρ := Try.sortD_ren) { Try.sortD with } w n hn
theorem sortsU : SortI Try.prog 76 .u16 57 := Ts.sort_ok xorU powU lenU
end Go.Proofs.Ytnanhhiofnohbaa
namespace Go.Proofs.Ytnanhhiofnohbaa
open Go.RowKit Go.Vx
theorem Try.own : ownKnob Try.prog.godebug = none := by kernel_rfl
theorem Try.laidOut : laidOutB Try.prog = true := by kernel_rfl
theorem O24 : OpenT Try.prog 24 vc VecOk := O_vec Try.underlying24 Try.underlying22 (by kernel_rfl) (by kernel_rfl)
theorem O34 : OpenT Try.prog 34 dc DotOk := O_dot Try.underlying34 rfl rfl Try.underlying5 Try.underlying22 (by kernel_rfl) (by kernel_rfl) (by kernel_rfl)
end Go.Proofs.Ytnanhhiofnohbaa
namespace Go.Proofs.Ytnanhhiofnohbaa
open Go.RowKit Go.Vx
theorem O59 : OpenT Try.prog 59 oc OpnOk := O_opn Try.underlying59 rfl rfl O34 O24 Try.underlying5 Try.underlying57 Try.underlying57 Try.underlying57 Try.underlying22 (by kernel_rfl) (by kernel_rfl)
end Go.Proofs.Ytnanhhiofnohbaa
