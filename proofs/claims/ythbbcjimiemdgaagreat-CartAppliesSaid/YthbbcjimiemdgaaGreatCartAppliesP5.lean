/- A part of a proof: what functions of the program compute, and plain facts on that. -/
import Derived.Test.YthbbcjimiemdgaaGreatCartAppliesP4
set_option linter.unusedVariables false
set_option linter.unusedSimpArgs false
namespace Go.Proofs
open Go Go.Vx Go.RowKit
namespace Tt
set_option maxRecDepth 20000 in
set_option maxHeartbeats 4000000 in
theorem symS_step (d : Nat) (g : Nat) (hg : En Tryz.prog g) (cf : Cen → Cen → Int) (hc : CmpO cf) (hcmp : ∀ (w : World) (x y : Cen), Calls Tryz.prog g #[.agg (cec x).toArray, .agg (cec y).toArray] w (fun e w' => e = .returned (.int .i64 (cf x y)) ∧ Own w no w' [])) (ih : SymAt Tryz.prog 111 g 59 7 cec cf d) (w : World) (S : Nat → Prop) (a : Option Addr) (N c : Nat) (l : List Cen) (lo mid hi : Nat) (hz : l.length = N) (hN : N ≤ 2305843009213693951) (hd : hi - lo ≤ d + 1) (h1 : lo < mid) (h2 : mid < hi) (h3 : hi ≤ N) (ho1 : OrdSeg cf l lo mid) (ho2 : OrdSeg cf l mid hi) (hR : (row (.slice a N c) (l.map cec) 59 7).holds w S) (hlt : ∀ b, S b → b < w.heap.size) : Calls Tryz.prog 111 #[.slice a N c, .int .i64 ((lo : Nat) : Int), .int .i64 ((mid : Nat) : Int), .int .i64 ((hi : Nat) : Int), .func (.func g) #[] #[]] w (fun e w' => ∃ x : List Cen, e = .returned (.tuple #[]) ∧ Own w S w' [row (.slice a N c) (x.map cec) 59 7] ∧ (x.length = N ∧ Merged cf l x lo hi)) := by
  refine calls_of_Wn (n := 220) Tryz.func111 rfl Tryz.ntmps111 rfl ?_
  have hs := Own.lent hR hlt
  refine W_seq ?_
  refine W_seq ?_
  refine W_region ?_
  refine RW_op (L_move (V := .int .i64 ((mid : Nat) : Int)) rfl ?_)
  refine RW_op (L_move (V := .int .i64 ((lo : Nat) : Int)) rfl ?_)
  refine RW_op (L_sub (a := ((mid : Nat) : Int)) (b := ((lo : Nat) : Int)) (c := ((mid - lo : Nat) : Int)) rfl rfl (nat_i64 (by omega) (by omega)) ?_)
  refine RW_op (L_eql rfl rfl ?_)
  refine RW_nil ?_
  refine W_cond (t := decide (((mid - lo : Nat) : Int) = 1)) rfl (fun c1 => ?_) (fun c1 => ?_)
  ·
    replace c1 := of_decide_eq_true c1
    refine W_seq ?_
    refine W_region ?_
    refine RW_op (L_move (V := .int .i64 ((mid : Nat) : Int)) rfl ?_)
    refine RW_op (L_assign (V := .int .i64 ((mid : Nat) : Int)) rfl ?_)
    refine RW_nil ?_
    refine W_seq ?_
    refine W_region ?_
    refine RW_op (L_move (V := .int .i64 ((hi : Nat) : Int)) rfl ?_)
    refine RW_op (L_assign (V := .int .i64 ((hi : Nat) : Int)) rfl ?_)
    refine RW_nil ?_
    refine W_seq ?_
    refine W_block ?_
    refine W_loopI (fun ρ μ ρ' w' => ∃ (ρo : Env) (i : Nat) (j : Nat), ρ' = upd (upd (mix [10, 11, 12, 31, 32, 33, 34, 35, 36, 37, 38, 39, 40, 41, 42, 43, 44, 45, 46, 47, 48, 49, 50, 51, 52, 53] ρo ρ) 10 (.int .i64 ((i : Nat) : Int))) 11 (.int .i64 ((j : Nat) : Int)) ∧ (mid ≤ i) ∧ (i ≤ j) ∧ (j ≤ hi) ∧ (i = mid ∨ cf (gd l (i - 1)) (gd l lo) < 0) ∧ (j = hi ∨ ¬ cf (gd l j) (gd l lo) < 0) ∧ μ = j - i ∧ Own w S w' [row (.slice a N c) (l.map cec) 59 7]) ?_ ?_
    · exact ⟨_, _, mid, hi, upd_of (upd_of (mix_of (ds := [10, 11, 12, 31, 32, 33, 34, 35, 36, 37, 38, 39, 40, 41, 42, 43, 44, 45, 46, 47, 48, 49, 50, 51, 52, 53]) (Agr.refl _ _)) rfl) rfl, (Nat.le_refl _), (by omega), (Nat.le_refl _), (Or.inl rfl), (Or.inl rfl), rfl, hs⟩
    · rintro μ ρ' w2 ⟨ρo, i, j, rfl, hi1, hij, hj1, hi2, hj2, rfl, hs⟩
      refine W_seq ?_
      refine W_seq ?_
      refine W_region ?_
      refine RW_op (L_move (V := .int .i64 ((i : Nat) : Int)) rfl ?_)
      refine RW_op (L_move (V := .int .i64 ((j : Nat) : Int)) rfl ?_)
      refine RW_op (L_lss rfl rfl ?_)
      refine RW_nil ?_
      refine W_cond (t := decide (((i : Nat) : Int) < ((j : Nat) : Int))) rfl (fun c3 => ?_) (fun c3 => ?_)
      ·
        replace c3 := of_decide_eq_true c3
        refine W_skip ?_
        refine W_block ?_
        refine W_seq ?_
        refine W_region ?_
        refine RW_op (L_move (V := .int .i64 ((i : Nat) : Int)) rfl ?_)
        refine RW_op (L_move (V := .int .i64 ((j : Nat) : Int)) rfl ?_)
        refine RW_op (L_add (a := ((i : Nat) : Int)) (b := ((j : Nat) : Int)) (c := ((i + j : Nat) : Int)) rfl rfl (nat_i64 (by omega) (by omega)) ?_)
        refine RW_op (L_conv UD_3 UD_127 rfl (wr_u64 (by omega) (by omega)) ?_)
        refine RW_op (L_shrN rfl rfl ?_)
        refine RW_op (L_conv UD_127 UD_3 rfl (wr_i64 (by omega) (by omega)) ?_)
        refine RW_op (L_assign (V := .int .i64 (((i + j) / 2 : Nat) : Int)) rfl ?_)
        refine RW_nil ?_
        refine W_seq ?_
        refine W_regD HM [some 40, some 41, some 42, some 43, some 44, some 45, some 46, some 47, some 48, some 49, some 50] [] [0, 0, 0, 6, 14, 0, 0, 96, 224, 511, 1023] [pv (.func (.func g) #[] #[]), pv (.slice a N c), pv (.int .i64 (((i + j) / 2 : Nat) : Int)), pv (.pointer (some ⟨bkS (.slice a N c), ofS (.slice a N c) + (((i + j) / 2 : Nat) : Int).toNat * 7, none⟩)), pv (.agg (cec (gd l ((i + j) / 2))).toArray), pv (.slice a N c), pv (.int .i64 ((lo : Nat) : Int)), pv (.pointer (some ⟨bkS (.slice a N c), ofS (.slice a N c) + ((lo : Nat) : Int).toNat * 7, none⟩)), pv (.agg (cec (gd l lo)).toArray), pv (.int .i64 (cf (gd l ((i + j) / 2)) (gd l lo))), pv (.bool (decide (cf (gd l ((i + j) / 2)) (gd l lo) < 0)))] (fun _ _ => _) [10] (by kernel_rfl) hs ⟨?_, ?_, ?_, ?_, ?_, ?_, ?_, ?_, ?_, ?_, ?_, trivial⟩ ?_
        · exact ob [] [] rfl rfl fun D ρ w hs => L_move (V := .func (.func g) #[] #[]) rfl ⟨rfl, hs⟩
        · exact ob [] [] rfl rfl fun D ρ w hs => L_move (V := .slice a N c) rfl ⟨rfl, hs⟩
        · exact ob [] [] rfl rfl fun D ρ w hs => L_move (V := .int .i64 (((i + j) / 2 : Nat) : Int)) rfl ⟨rfl, hs⟩
        · exact ob [1, 2] [] rfl rfl fun D ρ w hs => L_ixR UD_36 SA_59.1 (hs.rd 0 rfl) rfl rfl (by omega) (by rw [List.length_map]; omega) ⟨rfl, hs⟩
        · exact ob [3] [] rfl rfl fun D ρ w hs => L_ldRA (j := 0) (vs := cec (gd l ((i + j) / 2))) ((i + j) / 2) SA_59 (hs.rd 0 rfl) (gd_at (by omega)) rfl rfl rfl (by omega) ⟨rfl, hs⟩
        · exact ob [] [] rfl rfl fun D ρ w hs => L_move (V := .slice a N c) rfl ⟨rfl, hs⟩
        · exact ob [] [] rfl rfl fun D ρ w hs => L_move (V := .int .i64 ((lo : Nat) : Int)) rfl ⟨rfl, hs⟩
        · exact ob [5, 6] [] rfl rfl fun D ρ w hs => L_ixR UD_36 SA_59.1 (hs.rd 0 rfl) rfl rfl (by omega) (by rw [List.length_map]; omega) ⟨rfl, hs⟩
        · exact ob [7] [] rfl rfl fun D ρ w hs => L_ldRA (j := 0) (vs := cec (gd l lo)) lo SA_59 (hs.rd 0 rfl) (gd_at (by omega)) rfl rfl rfl (by omega) ⟨rfl, hs⟩
        · exact ob [0, 4, 8] [] rfl rfl fun D ρ w hs => L_fnP (vs := [.agg (cec (gd l ((i + j) / 2))).toArray, .agg (cec (gd l lo)).toArray]) (cs := []) (V := .int .i64 (cf (gd l ((i + j) / 2)) (gd l lo))) hg rfl rfl (hcmp _ (gd l ((i + j) / 2)) (gd l lo)) hs fun _ hs => ⟨rfl, hs⟩
        · exact ob [9] [] rfl rfl fun D ρ w hs => L_lss rfl rfl ⟨rfl, hs⟩
        rintro ρ1 w5 ρ2 hρ hs
        replace hρ : ρ2 = upd (mix [40, 41, 42, 43, 44, 45, 46, 47, 48, 49, 50] ρ1 _) 50 (.bool (decide (cf (gd l ((i + j) / 2)) (gd l lo) < 0))) := hρ
        subst hρ
        refine W_cond (t := decide (cf (gd l ((i + j) / 2)) (gd l lo) < 0)) rfl (fun c6 => ?_) (fun c6 => ?_)
        ·
          replace c6 := of_decide_eq_true c6
          refine W_region ?_
          refine RW_op (L_move (V := .int .i64 (((i + j) / 2 : Nat) : Int)) rfl ?_)
          refine RW_op (L_add (a := (((i + j) / 2 : Nat) : Int)) (b := 1) (c := ((((i + j) / 2) + 1 : Nat) : Int)) rfl rfl (nat_i64 (by omega) (by omega)) ?_)
          refine RW_op (L_assign (V := .int .i64 ((((i + j) / 2) + 1 : Nat) : Int)) rfl ?_)
          refine RW_nil ?_
          refine ⟨_, ?_, _, ((i + j) / 2) + 1, j, upd_of (upd_of (mix_of (ds := [10, 11, 12, 31, 32, 33, 34, 35, 36, 37, 38, 39, 40, 41, 42, 43, 44, 45, 46, 47, 48, 49, 50, 51, 52, 53]) (by repeat (first | exact Agr.refl _ _ | refine Agr.upd ?_ rfl | refine Agr.mix ?_ rfl))) rfl) rfl, (by omega), (by omega), (by omega), (Or.inr (by rw [Nat.add_sub_cancel]; exact c6)), hj2, rfl, hs.take 1⟩
          omega
        ·
          replace c6 := of_decide_eq_false c6
          refine W_region ?_
          refine RW_op (L_move (V := .int .i64 (((i + j) / 2 : Nat) : Int)) rfl ?_)
          refine RW_op (L_assign (V := .int .i64 (((i + j) / 2 : Nat) : Int)) rfl ?_)
          refine RW_nil ?_
          refine ⟨_, ?_, _, i, (i + j) / 2, upd_of (upd_of (mix_of (ds := [10, 11, 12, 31, 32, 33, 34, 35, 36, 37, 38, 39, 40, 41, 42, 43, 44, 45, 46, 47, 48, 49, 50, 51, 52, 53]) (by repeat (first | exact Agr.refl _ _ | refine Agr.upd ?_ rfl | refine Agr.mix ?_ rfl))) rfl) rfl, (by omega), (by omega), (by omega), hi2, (Or.inr c6), rfl, hs.take 1⟩
          omega
      ·
        replace c3 := of_decide_eq_false c3
        refine W_exit ?_
        refine W_seq ?_
        refine W_seq ?_
        refine W_region ?_
        refine RW_op (L_move (V := .int .i64 ((lo : Nat) : Int)) rfl ?_)
        refine RW_op (L_assign (V := .int .i64 ((lo : Nat) : Int)) rfl ?_)
        refine RW_nil ?_
        refine W_block ?_
        have hie : i = j := by omega
        refine W_loopI (fun ρ μ ρ' w' => ∃ (ρo : Env) (k : Nat) (m : List Cen), ρ' = upd (mix [13, 55, 56, 57, 58, 59, 60, 61, 62, 63, 64, 65, 66, 67, 68, 69, 70, 71, 72, 73, 74, 75, 76] ρo ρ) 13 (.int .i64 ((k : Nat) : Int)) ∧ (lo ≤ k) ∧ (k + 1 ≤ i) ∧ (m.length = N) ∧ (RotSeg l m lo (lo + 1) (k + 1)) ∧ μ = i - k ∧ Own w S w' [row (.slice a N c) (m.map cec) 59 7]) ?_ ?_
        · exact ⟨_, _, lo, l, upd_of (mix_of (ds := [13, 55, 56, 57, 58, 59, 60, 61, 62, 63, 64, 65, 66, 67, 68, 69, 70, 71, 72, 73, 74, 75, 76]) (Agr.refl _ _)) rfl, (Nat.le_refl _), (by omega), hz, (RotSeg.refl (by omega) (by omega) (by omega) (Or.inr rfl)), rfl, hs⟩
        · rintro μ ρ' w7 ⟨ρo, k, m, rfl, hk1, hk2, hz1, hro, rfl, hs⟩
          refine W_seq ?_
          refine W_seq ?_
          refine W_region ?_
          refine RW_op (L_move (V := .int .i64 ((k : Nat) : Int)) rfl ?_)
          refine RW_op (L_move (V := .int .i64 ((i : Nat) : Int)) rfl ?_)
          refine RW_op (L_sub (a := ((i : Nat) : Int)) (b := 1) (c := ((i - 1 : Nat) : Int)) rfl rfl (nat_i64 (by omega) (by omega)) ?_)
          refine RW_op (L_lss rfl rfl ?_)
          refine RW_nil ?_
          refine W_cond (t := decide (((k : Nat) : Int) < ((i - 1 : Nat) : Int))) rfl (fun c8 => ?_) (fun c8 => ?_)
          ·
            replace c8 := of_decide_eq_true c8
            refine W_skip ?_
            refine W_seq ?_
            refine W_block ?_
            refine W_regD HM [some 61, some 62, some 63, some 64, some 65, some 66, some 67, some 68, some 69, some 70, some 71, some 72, some 73, some 74, some 75, none, some 76, none] [] [0, 0, 0, 0, 8, 0, 0, 64, 224, 480, 0, 0, 3072, 7168, 16355, 32739, 65535, 131071] [pv (.slice a N c), pv (.int .i64 ((k : Nat) : Int)), pv (.slice a N c), pv (.int .i64 ((k : Nat) : Int)), pv (.int .i64 ((k + 1 : Nat) : Int)), pv (.slice a N c), pv (.int .i64 ((k : Nat) : Int)), pv (.int .i64 ((k + 1 : Nat) : Int)), pv (.pointer (some ⟨bkS (.slice a N c), ofS (.slice a N c) + ((k + 1 : Nat) : Int).toNat * 7, none⟩)), pv (.agg (cec (gd m (k + 1))).toArray), pv (.slice a N c), pv (.int .i64 ((k : Nat) : Int)), pv (.pointer (some ⟨bkS (.slice a N c), ofS (.slice a N c) + ((k : Nat) : Int).toNat * 7, none⟩)), pv (.agg (cec (gd m k)).toArray), pv (.pointer (some ⟨bkS (.slice a N c), ofS (.slice a N c) + ((k : Nat) : Int).toNat * 7, none⟩)), pn, pv (.pointer (some ⟨bkS (.slice a N c), ofS (.slice a N c) + ((k + 1 : Nat) : Int).toNat * 7, none⟩)), pn] (fun D ρ => [cond (D 17) (row (.slice a N c) (((m.set k (gd m (k + 1))).set (k + 1) (gd m k)).map cec) 59 7) (cond (D 15) (row (.slice a N c) ((m.set k (gd m (k + 1))).map cec) 59 7) (row (.slice a N c) (m.map cec) 59 7))]) [] (by kernel_rfl) hs ⟨?_, ?_, ?_, ?_, ?_, ?_, ?_, ?_, ?_, ?_, ?_, ?_, ?_, ?_, ?_, ?_, ?_, ?_, trivial⟩ ?_
            · exact ob [] [] rfl rfl fun D ρ w hs => L_move (V := .slice a N c) rfl ⟨rfl, hs⟩
            · exact ob [] [] rfl rfl fun D ρ w hs => L_move (V := .int .i64 ((k : Nat) : Int)) rfl ⟨rfl, hs⟩
            · exact ob [] [] rfl rfl fun D ρ w hs => L_move (V := .slice a N c) rfl ⟨rfl, hs⟩
            · exact ob [] [] rfl rfl fun D ρ w hs => L_move (V := .int .i64 ((k : Nat) : Int)) rfl ⟨rfl, hs⟩
            · exact ob [3] [] rfl rfl fun D ρ w hs => L_add (a := ((k : Nat) : Int)) (b := 1) (c := ((k + 1 : Nat) : Int)) rfl rfl (nat_i64 (by omega) (by omega)) ⟨rfl, hs⟩
            · exact ob [] [] rfl rfl fun D ρ w hs => L_move (V := .slice a N c) rfl ⟨rfl, hs⟩
            · exact ob [] [] rfl rfl fun D ρ w hs => L_move (V := .int .i64 ((k : Nat) : Int)) rfl ⟨rfl, hs⟩
            · exact ob [6] [] rfl rfl fun D ρ w hs => L_add (a := ((k : Nat) : Int)) (b := 1) (c := ((k + 1 : Nat) : Int)) rfl rfl (nat_i64 (by omega) (by omega)) ⟨rfl, hs⟩
            · exact ob [5, 7] [15, 17] rfl rfl fun D ρ w hs => L_ixR UD_36 SA_59.1 (hs.rd 0 rfl) rfl rfl (by omega) (by rw [List.length_map]; omega) ⟨rfl, hs⟩
            · exact ob [8] [15, 17] rfl rfl fun D ρ w hs => L_ldRA (j := 0) (vs := cec (gd m (k + 1))) (k + 1) SA_59 (hs.rd 0 rfl) (gd_at (by omega)) rfl rfl rfl (by omega) ⟨rfl, hs⟩
            · exact ob [] [] rfl rfl fun D ρ w hs => L_move (V := .slice a N c) rfl ⟨rfl, hs⟩
            · exact ob [] [] rfl rfl fun D ρ w hs => L_move (V := .int .i64 ((k : Nat) : Int)) rfl ⟨rfl, hs⟩
            · exact ob [10, 11] [15, 17] rfl rfl fun D ρ w hs => L_ixR UD_36 SA_59.1 (hs.rd 0 rfl) rfl rfl (by omega) (by rw [List.length_map]; omega) ⟨rfl, hs⟩
            · exact ob [12] [15, 17] rfl rfl fun D ρ w hs => L_ldRA (j := 0) (vs := cec (gd m k)) k SA_59 (hs.rd 0 rfl) (gd_at (by omega)) rfl rfl rfl (by omega) ⟨rfl, hs⟩
            · exact ob [0, 1] [15, 17] rfl rfl fun D ρ w hs => L_ixR UD_36 SA_59.1 (hs.rd 0 rfl) rfl rfl (by omega) (by rw [List.length_map]; omega) ⟨rfl, hs⟩
            · exact ob [9, 14] [17] rfl rfl fun D ρ w hs => L_stE (z := gd m (k + 1)) k SA_59.1 hs 0 rfl rfl rfl (by first | omega | (simp only [List.length_set]; omega)) rfl rfl rfl (cec_one _) fun _ hs => ⟨trivial, hs⟩
            · exact ob [2, 4, 15] [17] rfl rfl fun D ρ w hs => L_ixR UD_36 SA_59.1 (hs.rd 0 rfl) rfl rfl (by omega) (by simp only [List.length_map, List.length_set]; omega) ⟨rfl, hs⟩
            · exact ob [13, 15, 16] [] rfl rfl fun D ρ w hs => L_stE (z := gd m k) (k + 1) SA_59.1 hs 0 rfl rfl rfl (by first | omega | (simp only [List.length_set]; omega)) rfl rfl rfl (cec_one _) fun _ hs => ⟨trivial, hs⟩
            rintro ρ1 w11 ρ2 hρ hs
            replace hρ : ρ2 = mix [61, 62, 63, 64, 65, 66, 67, 68, 69, 70, 71, 72, 73, 74, 75, 76] ρ1 _ := hρ
            replace hs : Own w S w11 [row (.slice a N c) (((m.set k (gd m (k + 1))).set (k + 1) (gd m k)).map cec) 59 7] := hs
            subst hρ
            replace hs : Own w S _ [row (.slice a N c) ((swL m k (k + 1)).map cec) 59 7] := hs.take 1
            refine W_region ?_
            refine RW_op (L_move (V := .int .i64 ((k : Nat) : Int)) rfl ?_)
            refine RW_op (L_add (a := ((k : Nat) : Int)) (b := 1) (c := ((k + 1 : Nat) : Int)) rfl rfl (nat_i64 (by omega) (by omega)) ?_)
            refine RW_op (L_assign (V := .int .i64 ((k + 1 : Nat) : Int)) rfl ?_)
            refine RW_nil ?_
            refine ⟨_, ?_, _, k + 1, swL m k (k + 1), upd_of (mix_of (ds := [13, 55, 56, 57, 58, 59, 60, 61, 62, 63, 64, 65, 66, 67, 68, 69, 70, 71, 72, 73, 74, 75, 76]) (by repeat (first | exact Agr.refl _ _ | refine Agr.upd ?_ rfl | refine Agr.mix ?_ rfl))) rfl, (by omega), (by omega), (by rw [swL_len]; exact hz1), (rot_up hro (by omega)), rfl, hs.take 1⟩
            omega
          ·
            replace c8 := of_decide_eq_false c8
            refine W_exit ?_
            refine W_ret ?_
            refine ⟨_, res_none Tryz.results111, ?_⟩
            have hke : k + 1 = i := by omega
            rw [hke] at hro
            exact ⟨m, rfl, hs.take 1, hz1, sym_up hc (by rw [show lo + 1 = mid by omega]; exact ho2) (by omega) (by omega) (by omega) hro (by rw [hie]; exact hj2) (by rw [show lo + 1 = mid by omega]; exact hi2)⟩
  ·
    replace c1 := of_decide_eq_false c1
    refine W_skip ?_
    refine W_seq ?_
    refine W_seq ?_
    refine W_region ?_
    refine RW_op (L_move (V := .int .i64 ((hi : Nat) : Int)) rfl ?_)
    refine RW_op (L_move (V := .int .i64 ((mid : Nat) : Int)) rfl ?_)
    refine RW_op (L_sub (a := ((hi : Nat) : Int)) (b := ((mid : Nat) : Int)) (c := ((hi - mid : Nat) : Int)) rfl rfl (nat_i64 (by omega) (by omega)) ?_)
    refine RW_op (L_eql rfl rfl ?_)
    refine RW_nil ?_
    refine W_cond (t := decide (((hi - mid : Nat) : Int) = 1)) rfl (fun c12 => ?_) (fun c12 => ?_)
    ·
      replace c12 := of_decide_eq_true c12
      refine W_seq ?_
      refine W_region ?_
      refine RW_op (L_move (V := .int .i64 ((lo : Nat) : Int)) rfl ?_)
      refine RW_op (L_assign (V := .int .i64 ((lo : Nat) : Int)) rfl ?_)
      refine RW_nil ?_
      refine W_seq ?_
      refine W_region ?_
      refine RW_op (L_move (V := .int .i64 ((mid : Nat) : Int)) rfl ?_)
      refine RW_op (L_assign (V := .int .i64 ((mid : Nat) : Int)) rfl ?_)
      refine RW_nil ?_
      refine W_seq ?_
      refine W_block ?_
      refine W_loopI (fun ρ μ ρ' w' => ∃ (ρo : Env) (i : Nat) (j : Nat), ρ' = upd (upd (mix [14, 15, 16, 83, 84, 85, 86, 87, 88, 89, 90, 91, 92, 93, 94, 95, 96, 97, 98, 99, 100, 101, 102, 103, 104, 105, 106] ρo ρ) 14 (.int .i64 ((i : Nat) : Int))) 15 (.int .i64 ((j : Nat) : Int)) ∧ (lo ≤ i) ∧ (i ≤ j) ∧ (j ≤ mid) ∧ (i = lo ∨ ¬ cf (gd l mid) (gd l (i - 1)) < 0) ∧ (j = mid ∨ cf (gd l mid) (gd l j) < 0) ∧ μ = j - i ∧ Own w S w' [row (.slice a N c) (l.map cec) 59 7]) ?_ ?_
      · exact ⟨_, _, lo, mid, upd_of (upd_of (mix_of (ds := [14, 15, 16, 83, 84, 85, 86, 87, 88, 89, 90, 91, 92, 93, 94, 95, 96, 97, 98, 99, 100, 101, 102, 103, 104, 105, 106]) (Agr.refl _ _)) rfl) rfl, (Nat.le_refl _), (by omega), (Nat.le_refl _), (Or.inl rfl), (Or.inl rfl), rfl, hs⟩
      · rintro μ ρ' w13 ⟨ρo, i, j, rfl, hi1, hij, hj1, hi2, hj2, rfl, hs⟩
        refine W_seq ?_
        refine W_seq ?_
        refine W_region ?_
        refine RW_op (L_move (V := .int .i64 ((i : Nat) : Int)) rfl ?_)
        refine RW_op (L_move (V := .int .i64 ((j : Nat) : Int)) rfl ?_)
        refine RW_op (L_lss rfl rfl ?_)
        refine RW_nil ?_
        refine W_cond (t := decide (((i : Nat) : Int) < ((j : Nat) : Int))) rfl (fun c14 => ?_) (fun c14 => ?_)
        ·
          replace c14 := of_decide_eq_true c14
          refine W_skip ?_
          refine W_block ?_
          refine W_seq ?_
          refine W_region ?_
          refine RW_op (L_move (V := .int .i64 ((i : Nat) : Int)) rfl ?_)
          refine RW_op (L_move (V := .int .i64 ((j : Nat) : Int)) rfl ?_)
          refine RW_op (L_add (a := ((i : Nat) : Int)) (b := ((j : Nat) : Int)) (c := ((i + j : Nat) : Int)) rfl rfl (nat_i64 (by omega) (by omega)) ?_)
          refine RW_op (L_conv UD_3 UD_127 rfl (wr_u64 (by omega) (by omega)) ?_)
          refine RW_op (L_shrN rfl rfl ?_)
          refine RW_op (L_conv UD_127 UD_3 rfl (wr_i64 (by omega) (by omega)) ?_)
          refine RW_op (L_assign (V := .int .i64 (((i + j) / 2 : Nat) : Int)) rfl ?_)
          refine RW_nil ?_
          refine W_seq ?_
          refine W_regD HM [some 92, some 93, some 94, some 95, some 96, some 97, some 98, some 99, some 100, some 101, some 102, some 103] [] [0, 0, 0, 6, 14, 0, 0, 96, 224, 511, 1023, 2047] [pv (.func (.func g) #[] #[]), pv (.slice a N c), pv (.int .i64 ((mid : Nat) : Int)), pv (.pointer (some ⟨bkS (.slice a N c), ofS (.slice a N c) + ((mid : Nat) : Int).toNat * 7, none⟩)), pv (.agg (cec (gd l mid)).toArray), pv (.slice a N c), pv (.int .i64 (((i + j) / 2 : Nat) : Int)), pv (.pointer (some ⟨bkS (.slice a N c), ofS (.slice a N c) + (((i + j) / 2 : Nat) : Int).toNat * 7, none⟩)), pv (.agg (cec (gd l ((i + j) / 2))).toArray), pv (.int .i64 (cf (gd l mid) (gd l ((i + j) / 2)))), pv (.bool (decide (cf (gd l mid) (gd l ((i + j) / 2)) < 0))), pv (.bool (!decide (cf (gd l mid) (gd l ((i + j) / 2)) < 0)))] (fun _ _ => _) [11] (by kernel_rfl) hs ⟨?_, ?_, ?_, ?_, ?_, ?_, ?_, ?_, ?_, ?_, ?_, ?_, trivial⟩ ?_
          · exact ob [] [] rfl rfl fun D ρ w hs => L_move (V := .func (.func g) #[] #[]) rfl ⟨rfl, hs⟩
          · exact ob [] [] rfl rfl fun D ρ w hs => L_move (V := .slice a N c) rfl ⟨rfl, hs⟩
          · exact ob [] [] rfl rfl fun D ρ w hs => L_move (V := .int .i64 ((mid : Nat) : Int)) rfl ⟨rfl, hs⟩
          · exact ob [1, 2] [] rfl rfl fun D ρ w hs => L_ixR UD_36 SA_59.1 (hs.rd 0 rfl) rfl rfl (by omega) (by rw [List.length_map]; omega) ⟨rfl, hs⟩
          · exact ob [3] [] rfl rfl fun D ρ w hs => L_ldRA (j := 0) (vs := cec (gd l mid)) mid SA_59 (hs.rd 0 rfl) (gd_at (by omega)) rfl rfl rfl (by omega) ⟨rfl, hs⟩
          · exact ob [] [] rfl rfl fun D ρ w hs => L_move (V := .slice a N c) rfl ⟨rfl, hs⟩
          · exact ob [] [] rfl rfl fun D ρ w hs => L_move (V := .int .i64 (((i + j) / 2 : Nat) : Int)) rfl ⟨rfl, hs⟩
          · exact ob [5, 6] [] rfl rfl fun D ρ w hs => L_ixR UD_36 SA_59.1 (hs.rd 0 rfl) rfl rfl (by omega) (by rw [List.length_map]; omega) ⟨rfl, hs⟩
          · exact ob [7] [] rfl rfl fun D ρ w hs => L_ldRA (j := 0) (vs := cec (gd l ((i + j) / 2))) ((i + j) / 2) SA_59 (hs.rd 0 rfl) (gd_at (by omega)) rfl rfl rfl (by omega) ⟨rfl, hs⟩
          · exact ob [0, 4, 8] [] rfl rfl fun D ρ w hs => L_fnP (vs := [.agg (cec (gd l mid)).toArray, .agg (cec (gd l ((i + j) / 2))).toArray]) (cs := []) (V := .int .i64 (cf (gd l mid) (gd l ((i + j) / 2)))) hg rfl rfl (hcmp _ (gd l mid) (gd l ((i + j) / 2))) hs fun _ hs => ⟨rfl, hs⟩
          · exact ob [9] [] rfl rfl fun D ρ w hs => L_lss rfl rfl ⟨rfl, hs⟩
          · exact ob [10] [] rfl rfl fun D ρ w hs => L_not rfl ⟨rfl, hs⟩
          rintro ρ1 w16 ρ2 hρ hs
          replace hρ : ρ2 = upd (mix [92, 93, 94, 95, 96, 97, 98, 99, 100, 101, 102, 103] ρ1 _) 103 (.bool (!decide (cf (gd l mid) (gd l ((i + j) / 2)) < 0))) := hρ
          subst hρ
          refine W_cond (t := !decide (cf (gd l mid) (gd l ((i + j) / 2)) < 0)) rfl (fun c17 => ?_) (fun c17 => ?_)
          ·
            replace c17 := not_t c17
            replace c17 := of_decide_eq_false c17
            refine W_region ?_
            refine RW_op (L_move (V := .int .i64 (((i + j) / 2 : Nat) : Int)) rfl ?_)
            refine RW_op (L_add (a := (((i + j) / 2 : Nat) : Int)) (b := 1) (c := ((((i + j) / 2) + 1 : Nat) : Int)) rfl rfl (nat_i64 (by omega) (by omega)) ?_)
            refine RW_op (L_assign (V := .int .i64 ((((i + j) / 2) + 1 : Nat) : Int)) rfl ?_)
            refine RW_nil ?_
            refine ⟨_, ?_, _, ((i + j) / 2) + 1, j, upd_of (upd_of (mix_of (ds := [14, 15, 16, 83, 84, 85, 86, 87, 88, 89, 90, 91, 92, 93, 94, 95, 96, 97, 98, 99, 100, 101, 102, 103, 104, 105, 106]) (by repeat (first | exact Agr.refl _ _ | refine Agr.upd ?_ rfl | refine Agr.mix ?_ rfl))) rfl) rfl, (by omega), (by omega), (by omega), (Or.inr (by rw [Nat.add_sub_cancel]; exact c17)), hj2, rfl, hs.take 1⟩
            omega
          ·
            replace c17 := not_f c17
            replace c17 := of_decide_eq_true c17
            refine W_region ?_
            refine RW_op (L_move (V := .int .i64 (((i + j) / 2 : Nat) : Int)) rfl ?_)
            refine RW_op (L_assign (V := .int .i64 (((i + j) / 2 : Nat) : Int)) rfl ?_)
            refine RW_nil ?_
            refine ⟨_, ?_, _, i, (i + j) / 2, upd_of (upd_of (mix_of (ds := [14, 15, 16, 83, 84, 85, 86, 87, 88, 89, 90, 91, 92, 93, 94, 95, 96, 97, 98, 99, 100, 101, 102, 103, 104, 105, 106]) (by repeat (first | exact Agr.refl _ _ | refine Agr.upd ?_ rfl | refine Agr.mix ?_ rfl))) rfl) rfl, (by omega), (by omega), (by omega), hi2, (Or.inr c17), rfl, hs.take 1⟩
            omega
        ·
          replace c14 := of_decide_eq_false c14
          refine W_exit ?_
          refine W_seq ?_
          refine W_seq ?_
          refine W_region ?_
          refine RW_op (L_move (V := .int .i64 ((mid : Nat) : Int)) rfl ?_)
          refine RW_op (L_assign (V := .int .i64 ((mid : Nat) : Int)) rfl ?_)
          refine RW_nil ?_
          refine W_block ?_
          have hie : i = j := by omega
          refine W_loopI (fun ρ μ ρ' w' => ∃ (ρo : Env) (k : Nat) (m : List Cen), ρ' = upd (mix [17, 108, 109, 110, 111, 112, 113, 114, 115, 116, 117, 118, 119, 120, 121, 122, 123, 124, 125, 126, 127, 128] ρo ρ) 17 (.int .i64 ((k : Nat) : Int)) ∧ (i ≤ k) ∧ (k ≤ mid) ∧ (m.length = N) ∧ (RotSeg l m k mid (mid + 1)) ∧ μ = k + 1 ∧ Own w S w' [row (.slice a N c) (m.map cec) 59 7]) ?_ ?_
          · exact ⟨_, _, mid, l, upd_of (mix_of (ds := [17, 108, 109, 110, 111, 112, 113, 114, 115, 116, 117, 118, 119, 120, 121, 122, 123, 124, 125, 126, 127, 128]) (Agr.refl _ _)) rfl, (by omega), (Nat.le_refl _), hz, (RotSeg.refl (by omega) (by omega) (by omega) (Or.inl rfl)), rfl, hs⟩
          · rintro μ ρ' w18 ⟨ρo, k, m, rfl, hk1, hk2, hz1, hro, rfl, hs⟩
            refine W_seq ?_
            refine W_seq ?_
            refine W_region ?_
            refine RW_op (L_move (V := .int .i64 ((k : Nat) : Int)) rfl ?_)
            refine RW_op (L_move (V := .int .i64 ((i : Nat) : Int)) rfl ?_)
            refine RW_op (L_gtr rfl rfl ?_)
            refine RW_nil ?_
            refine W_cond (t := decide (((i : Nat) : Int) < ((k : Nat) : Int))) rfl (fun c19 => ?_) (fun c19 => ?_)
            ·
              replace c19 := of_decide_eq_true c19
              refine W_skip ?_
              refine W_seq ?_
              refine W_block ?_
              refine W_regD HM [some 113, some 114, some 115, some 116, some 117, some 118, some 119, some 120, some 121, some 122, some 123, some 124, some 125, some 126, some 127, none, some 128, none] [] [0, 0, 0, 0, 8, 0, 0, 64, 224, 480, 0, 0, 3072, 7168, 16355, 32739, 65535, 131071] [pv (.slice a N c), pv (.int .i64 ((k : Nat) : Int)), pv (.slice a N c), pv (.int .i64 ((k : Nat) : Int)), pv (.int .i64 ((k - 1 : Nat) : Int)), pv (.slice a N c), pv (.int .i64 ((k : Nat) : Int)), pv (.int .i64 ((k - 1 : Nat) : Int)), pv (.pointer (some ⟨bkS (.slice a N c), ofS (.slice a N c) + ((k - 1 : Nat) : Int).toNat * 7, none⟩)), pv (.agg (cec (gd m (k - 1))).toArray), pv (.slice a N c), pv (.int .i64 ((k : Nat) : Int)), pv (.pointer (some ⟨bkS (.slice a N c), ofS (.slice a N c) + ((k : Nat) : Int).toNat * 7, none⟩)), pv (.agg (cec (gd m k)).toArray), pv (.pointer (some ⟨bkS (.slice a N c), ofS (.slice a N c) + ((k : Nat) : Int).toNat * 7, none⟩)), pn, pv (.pointer (some ⟨bkS (.slice a N c), ofS (.slice a N c) + ((k - 1 : Nat) : Int).toNat * 7, none⟩)), pn] (fun D ρ => [cond (D 17) (row (.slice a N c) (((m.set k (gd m (k - 1))).set (k - 1) (gd m k)).map cec) 59 7) (cond (D 15) (row (.slice a N c) ((m.set k (gd m (k - 1))).map cec) 59 7) (row (.slice a N c) (m.map cec) 59 7))]) [] (by kernel_rfl) hs ⟨?_, ?_, ?_, ?_, ?_, ?_, ?_, ?_, ?_, ?_, ?_, ?_, ?_, ?_, ?_, ?_, ?_, ?_, trivial⟩ ?_
              · exact ob [] [] rfl rfl fun D ρ w hs => L_move (V := .slice a N c) rfl ⟨rfl, hs⟩
              · exact ob [] [] rfl rfl fun D ρ w hs => L_move (V := .int .i64 ((k : Nat) : Int)) rfl ⟨rfl, hs⟩
              · exact ob [] [] rfl rfl fun D ρ w hs => L_move (V := .slice a N c) rfl ⟨rfl, hs⟩
              · exact ob [] [] rfl rfl fun D ρ w hs => L_move (V := .int .i64 ((k : Nat) : Int)) rfl ⟨rfl, hs⟩
              · exact ob [3] [] rfl rfl fun D ρ w hs => L_sub (a := ((k : Nat) : Int)) (b := 1) (c := ((k - 1 : Nat) : Int)) rfl rfl (nat_i64 (by omega) (by omega)) ⟨rfl, hs⟩
              · exact ob [] [] rfl rfl fun D ρ w hs => L_move (V := .slice a N c) rfl ⟨rfl, hs⟩
              · exact ob [] [] rfl rfl fun D ρ w hs => L_move (V := .int .i64 ((k : Nat) : Int)) rfl ⟨rfl, hs⟩
              · exact ob [6] [] rfl rfl fun D ρ w hs => L_sub (a := ((k : Nat) : Int)) (b := 1) (c := ((k - 1 : Nat) : Int)) rfl rfl (nat_i64 (by omega) (by omega)) ⟨rfl, hs⟩
              · exact ob [5, 7] [15, 17] rfl rfl fun D ρ w hs => L_ixR UD_36 SA_59.1 (hs.rd 0 rfl) rfl rfl (by omega) (by rw [List.length_map]; omega) ⟨rfl, hs⟩
              · exact ob [8] [15, 17] rfl rfl fun D ρ w hs => L_ldRA (j := 0) (vs := cec (gd m (k - 1))) (k - 1) SA_59 (hs.rd 0 rfl) (gd_at (by omega)) rfl rfl rfl (by omega) ⟨rfl, hs⟩
              · exact ob [] [] rfl rfl fun D ρ w hs => L_move (V := .slice a N c) rfl ⟨rfl, hs⟩
              · exact ob [] [] rfl rfl fun D ρ w hs => L_move (V := .int .i64 ((k : Nat) : Int)) rfl ⟨rfl, hs⟩
              · exact ob [10, 11] [15, 17] rfl rfl fun D ρ w hs => L_ixR UD_36 SA_59.1 (hs.rd 0 rfl) rfl rfl (by omega) (by rw [List.length_map]; omega) ⟨rfl, hs⟩
              · exact ob [12] [15, 17] rfl rfl fun D ρ w hs => L_ldRA (j := 0) (vs := cec (gd m k)) k SA_59 (hs.rd 0 rfl) (gd_at (by omega)) rfl rfl rfl (by omega) ⟨rfl, hs⟩
              · exact ob [0, 1] [15, 17] rfl rfl fun D ρ w hs => L_ixR UD_36 SA_59.1 (hs.rd 0 rfl) rfl rfl (by omega) (by rw [List.length_map]; omega) ⟨rfl, hs⟩
              · exact ob [9, 14] [17] rfl rfl fun D ρ w hs => L_stE (z := gd m (k - 1)) k SA_59.1 hs 0 rfl rfl rfl (by first | omega | (simp only [List.length_set]; omega)) rfl rfl rfl (cec_one _) fun _ hs => ⟨trivial, hs⟩
              · exact ob [2, 4, 15] [17] rfl rfl fun D ρ w hs => L_ixR UD_36 SA_59.1 (hs.rd 0 rfl) rfl rfl (by omega) (by simp only [List.length_map, List.length_set]; omega) ⟨rfl, hs⟩
              · exact ob [13, 15, 16] [] rfl rfl fun D ρ w hs => L_stE (z := gd m k) (k - 1) SA_59.1 hs 0 rfl rfl rfl (by first | omega | (simp only [List.length_set]; omega)) rfl rfl rfl (cec_one _) fun _ hs => ⟨trivial, hs⟩
              rintro ρ1 w22 ρ2 hρ hs
              replace hρ : ρ2 = mix [113, 114, 115, 116, 117, 118, 119, 120, 121, 122, 123, 124, 125, 126, 127, 128] ρ1 _ := hρ
              replace hs : Own w S w22 [row (.slice a N c) (((m.set k (gd m (k - 1))).set (k - 1) (gd m k)).map cec) 59 7] := hs
              subst hρ
              replace hs : Own w S _ [row (.slice a N c) ((swL m k (k - 1)).map cec) 59 7] := hs.take 1
              refine W_region ?_
              refine RW_op (L_move (V := .int .i64 ((k : Nat) : Int)) rfl ?_)
              refine RW_op (L_sub (a := ((k : Nat) : Int)) (b := 1) (c := ((k - 1 : Nat) : Int)) rfl rfl (nat_i64 (by omega) (by omega)) ?_)
              refine RW_op (L_assign (V := .int .i64 ((k - 1 : Nat) : Int)) rfl ?_)
              refine RW_nil ?_
              refine ⟨_, ?_, _, k - 1, swL m k (k - 1), upd_of (mix_of (ds := [17, 108, 109, 110, 111, 112, 113, 114, 115, 116, 117, 118, 119, 120, 121, 122, 123, 124, 125, 126, 127, 128]) (by repeat (first | exact Agr.refl _ _ | refine Agr.upd ?_ rfl | refine Agr.mix ?_ rfl))) rfl, (by omega), (by omega), (by rw [swL_len]; exact hz1), (rot_down hro (by omega)), rfl, hs.take 1⟩
              omega
            ·
              replace c19 := of_decide_eq_false c19
              refine W_exit ?_
              refine W_ret ?_
              refine ⟨_, res_none Tryz.results111, ?_⟩
              have hke : k = i := by omega
              rw [hke] at hro
              have hm := sym_down hc ho1 hi1 (by omega) (by omega) hro hi2 (by rw [hie]; exact hj2)
              rw [show mid + 1 = hi by omega] at hm
              exact ⟨m, rfl, hs.take 1, hz1, hm⟩
    ·
      replace c12 := of_decide_eq_false c12
      refine W_skip ?_
      refine W_seq ?_
      refine W_region ?_
      refine RW_op (L_move (V := .int .i64 ((lo : Nat) : Int)) rfl ?_)
      refine RW_op (L_move (V := .int .i64 ((hi : Nat) : Int)) rfl ?_)
      refine RW_op (L_add (a := ((lo : Nat) : Int)) (b := ((hi : Nat) : Int)) (c := ((lo + hi : Nat) : Int)) rfl rfl (nat_i64 (by omega) (by omega)) ?_)
      refine RW_op (L_conv UD_3 UD_127 rfl (wr_u64 (by omega) (by omega)) ?_)
      refine RW_op (L_shrN rfl rfl ?_)
      refine RW_op (L_conv UD_127 UD_3 rfl (wr_i64 (by omega) (by omega)) ?_)
      refine RW_op (L_assign (V := .int .i64 (((lo + hi) / 2 : Nat) : Int)) rfl ?_)
      refine RW_nil ?_
      refine W_seq ?_
      refine W_region ?_
      refine RW_op (L_move (V := .int .i64 (((lo + hi) / 2 : Nat) : Int)) rfl ?_)
      refine RW_op (L_move (V := .int .i64 ((mid : Nat) : Int)) rfl ?_)
      refine RW_op (L_add (a := (((lo + hi) / 2 : Nat) : Int)) (b := ((mid : Nat) : Int)) (c := ((((lo + hi) / 2) + mid : Nat) : Int)) rfl rfl (nat_i64 (by omega) (by omega)) ?_)
      refine RW_op (L_assign (V := .int .i64 ((((lo + hi) / 2) + mid : Nat) : Int)) rfl ?_)
      refine RW_nil ?_
      refine W_seq ?_
      refine W_region ?_
      refine RW_op (L_assign (V := .int .i64 0) rfl ?_)
      refine RW_op (L_assign (V := .int .i64 0) rfl ?_)
      refine RW_nil ?_
      refine W_seq ?_
      refine W_seq ?_
      refine W_region ?_
      refine RW_op (L_move (V := .int .i64 ((mid : Nat) : Int)) rfl ?_)
      refine RW_op (L_move (V := .int .i64 (((lo + hi) / 2 : Nat) : Int)) rfl ?_)
      refine RW_op (L_gtr rfl rfl ?_)
      refine RW_nil ?_
      refine W_mid (fun ρ ρ' w' => ∃ (ρo : Env) (s0 : Nat) (r0 : Nat), ρ' = upd (upd (mix [20, 21, 141, 142, 143, 144, 145, 146] ρo ρ) 20 (.int .i64 ((s0 : Nat) : Int))) 21 (.int .i64 ((r0 : Nat) : Int)) ∧ (lo ≤ s0) ∧ (s0 ≤ r0) ∧ (r0 ≤ mid) ∧ (r0 ≤ (lo + hi) / 2) ∧ ((lo + hi) / 2 + mid ≤ hi + s0) ∧ (s0 = lo ∨ (lo + hi) / 2 + mid = hi + s0) ∧ (r0 = mid ∨ r0 = (lo + hi) / 2) ∧ Own w S w' [row (.slice a N c) (l.map cec) 59 7]) ?_ ?_
      ·
        refine W_cond (t := decide ((((lo + hi) / 2 : Nat) : Int) < ((mid : Nat) : Int))) rfl (fun c23 => ?_) (fun c23 => ?_)
        ·
          replace c23 := of_decide_eq_true c23
          refine W_seq ?_
          refine W_region ?_
          refine RW_op (L_move (V := .int .i64 ((((lo + hi) / 2) + mid : Nat) : Int)) rfl ?_)
          refine RW_op (L_move (V := .int .i64 ((hi : Nat) : Int)) rfl ?_)
          refine RW_op (L_sub (a := ((((lo + hi) / 2) + mid : Nat) : Int)) (b := ((hi : Nat) : Int)) (c := (((((lo + hi) / 2) + mid) - hi : Nat) : Int)) rfl rfl (nat_i64 (by omega) (by omega)) ?_)
          refine RW_op (L_assign (V := .int .i64 (((((lo + hi) / 2) + mid) - hi : Nat) : Int)) rfl ?_)
          refine RW_nil ?_
          refine W_region ?_
          refine RW_op (L_move (V := .int .i64 (((lo + hi) / 2 : Nat) : Int)) rfl ?_)
          refine RW_op (L_assign (V := .int .i64 (((lo + hi) / 2 : Nat) : Int)) rfl ?_)
          refine RW_nil ?_
          exact ⟨_, (((lo + hi) / 2) + mid) - hi, (lo + hi) / 2, upd_of (upd_of (mix_of (ds := [20, 21, 141, 142, 143, 144, 145, 146]) (by repeat (first | exact Agr.refl _ _ | refine Agr.upd ?_ rfl | refine Agr.mix ?_ rfl))) rfl) rfl, (by omega), (by omega), (by omega), (by omega), (by omega), (by omega), (by omega), hs.take 1⟩
        ·
          replace c23 := of_decide_eq_false c23
          refine W_seq ?_
          refine W_region ?_
          refine RW_op (L_move (V := .int .i64 ((lo : Nat) : Int)) rfl ?_)
          refine RW_op (L_assign (V := .int .i64 ((lo : Nat) : Int)) rfl ?_)
          refine RW_nil ?_
          refine W_region ?_
          refine RW_op (L_move (V := .int .i64 ((mid : Nat) : Int)) rfl ?_)
          refine RW_op (L_assign (V := .int .i64 ((mid : Nat) : Int)) rfl ?_)
          refine RW_nil ?_
          exact ⟨_, lo, mid, upd_of (upd_of (mix_of (ds := [20, 21, 141, 142, 143, 144, 145, 146]) (by repeat (first | exact Agr.refl _ _ | refine Agr.upd ?_ rfl | refine Agr.mix ?_ rfl))) rfl) rfl, (by omega), (by omega), (by omega), (by omega), (by omega), (by omega), (by omega), hs.take 1⟩
      · rintro ρ' w24 ⟨ρo, s0, r0, rfl, q1, q2, q3, q4, q5, q6, q7, hs⟩
        refine W_seq ?_
        refine W_region ?_
        refine RW_op (L_move (V := .int .i64 ((((lo + hi) / 2) + mid : Nat) : Int)) rfl ?_)
        refine RW_op (L_sub (a := ((((lo + hi) / 2) + mid : Nat) : Int)) (b := 1) (c := (((((lo + hi) / 2) + mid) - 1 : Nat) : Int)) rfl rfl (nat_i64 (by omega) (by omega)) ?_)
        refine RW_op (L_assign (V := .int .i64 (((((lo + hi) / 2) + mid) - 1 : Nat) : Int)) rfl ?_)
        refine RW_nil ?_
        refine W_seq ?_
        refine W_block ?_
        refine W_loopI (fun ρ μ ρ' w' => ∃ (ρo : Env) (s : Nat) (r : Nat), ρ' = upd (upd (mix [20, 21, 23, 149, 150, 151, 152, 153, 154, 155, 156, 157, 158, 159, 160, 161, 162, 163, 164, 165, 166, 167, 168, 169, 170, 171, 172, 173, 174] ρo ρ) 20 (.int .i64 ((s : Nat) : Int))) 21 (.int .i64 ((r : Nat) : Int)) ∧ (s0 ≤ s) ∧ (s ≤ r) ∧ (r ≤ r0) ∧ (s = s0 ∨ ¬ cf (gd l ((lo + hi) / 2 + mid - 1 - (s - 1))) (gd l (s - 1)) < 0) ∧ (r = r0 ∨ cf (gd l ((lo + hi) / 2 + mid - 1 - r)) (gd l r) < 0) ∧ μ = r - s ∧ Own w S w' [row (.slice a N c) (l.map cec) 59 7]) ?_ ?_
        · exact ⟨_, _, s0, r0, upd_of (upd_of (mix_of (ds := [20, 21, 23, 149, 150, 151, 152, 153, 154, 155, 156, 157, 158, 159, 160, 161, 162, 163, 164, 165, 166, 167, 168, 169, 170, 171, 172, 173, 174]) (Agr.refl _ _)) rfl) rfl, (Nat.le_refl _), (by omega), (Nat.le_refl _), (Or.inl rfl), (Or.inl rfl), rfl, hs⟩
        · rintro μ ρ' w25 ⟨ρo, s, r, rfl, hs1, hsr, hr1, hs2, hr2, rfl, hs⟩
          refine W_seq ?_
          refine W_seq ?_
          refine W_region ?_
          refine RW_op (L_move (V := .int .i64 ((s : Nat) : Int)) rfl ?_)
          refine RW_op (L_move (V := .int .i64 ((r : Nat) : Int)) rfl ?_)
          refine RW_op (L_lss rfl rfl ?_)
          refine RW_nil ?_
          refine W_cond (t := decide (((s : Nat) : Int) < ((r : Nat) : Int))) rfl (fun c26 => ?_) (fun c26 => ?_)
          ·
            replace c26 := of_decide_eq_true c26
            refine W_skip ?_
            refine W_block ?_
            refine W_seq ?_
            refine W_region ?_
            refine RW_op (L_move (V := .int .i64 ((s : Nat) : Int)) rfl ?_)
            refine RW_op (L_move (V := .int .i64 ((r : Nat) : Int)) rfl ?_)
            refine RW_op (L_add (a := ((s : Nat) : Int)) (b := ((r : Nat) : Int)) (c := ((s + r : Nat) : Int)) rfl rfl (nat_i64 (by omega) (by omega)) ?_)
            refine RW_op (L_conv UD_3 UD_127 rfl (wr_u64 (by omega) (by omega)) ?_)
            refine RW_op (L_shrN rfl rfl ?_)
            refine RW_op (L_conv UD_127 UD_3 rfl (wr_i64 (by omega) (by omega)) ?_)
            refine RW_op (L_assign (V := .int .i64 (((s + r) / 2 : Nat) : Int)) rfl ?_)
            refine RW_nil ?_
            refine W_seq ?_
            refine W_regD HM [some 158, some 159, some 160, some 161, some 162, some 163, some 164, some 165, some 166, some 167, some 168, some 169, some 170, some 171] [] [0, 0, 0, 0, 12, 30, 62, 0, 0, 384, 896, 2047, 4095, 8191] [pv (.func (.func g) #[] #[]), pv (.slice a N c), pv (.int .i64 (((((lo + hi) / 2) + mid) - 1 : Nat) : Int)), pv (.int .i64 (((s + r) / 2 : Nat) : Int)), pv (.int .i64 ((((((lo + hi) / 2) + mid) - 1) - ((s + r) / 2) : Nat) : Int)), pv (.pointer (some ⟨bkS (.slice a N c), ofS (.slice a N c) + ((((((lo + hi) / 2) + mid) - 1) - ((s + r) / 2) : Nat) : Int).toNat * 7, none⟩)), pv (.agg (cec (gd l (((((lo + hi) / 2) + mid) - 1) - ((s + r) / 2)))).toArray), pv (.slice a N c), pv (.int .i64 (((s + r) / 2 : Nat) : Int)), pv (.pointer (some ⟨bkS (.slice a N c), ofS (.slice a N c) + (((s + r) / 2 : Nat) : Int).toNat * 7, none⟩)), pv (.agg (cec (gd l ((s + r) / 2))).toArray), pv (.int .i64 (cf (gd l (((((lo + hi) / 2) + mid) - 1) - ((s + r) / 2))) (gd l ((s + r) / 2)))), pv (.bool (decide (cf (gd l (((((lo + hi) / 2) + mid) - 1) - ((s + r) / 2))) (gd l ((s + r) / 2)) < 0))), pv (.bool (!decide (cf (gd l (((((lo + hi) / 2) + mid) - 1) - ((s + r) / 2))) (gd l ((s + r) / 2)) < 0)))] (fun _ _ => _) [13] (by kernel_rfl) hs ⟨?_, ?_, ?_, ?_, ?_, ?_, ?_, ?_, ?_, ?_, ?_, ?_, ?_, ?_, trivial⟩ ?_
            · exact ob [] [] rfl rfl fun D ρ w hs => L_move (V := .func (.func g) #[] #[]) rfl ⟨rfl, hs⟩
            · exact ob [] [] rfl rfl fun D ρ w hs => L_move (V := .slice a N c) rfl ⟨rfl, hs⟩
            · exact ob [] [] rfl rfl fun D ρ w hs => L_move (V := .int .i64 (((((lo + hi) / 2) + mid) - 1 : Nat) : Int)) rfl ⟨rfl, hs⟩
            · exact ob [] [] rfl rfl fun D ρ w hs => L_move (V := .int .i64 (((s + r) / 2 : Nat) : Int)) rfl ⟨rfl, hs⟩
            · exact ob [2, 3] [] rfl rfl fun D ρ w hs => L_sub (a := (((((lo + hi) / 2) + mid) - 1 : Nat) : Int)) (b := (((s + r) / 2 : Nat) : Int)) (c := ((((((lo + hi) / 2) + mid) - 1) - ((s + r) / 2) : Nat) : Int)) rfl rfl (nat_i64 (by omega) (by omega)) ⟨rfl, hs⟩
            · exact ob [1, 4] [] rfl rfl fun D ρ w hs => L_ixR UD_36 SA_59.1 (hs.rd 0 rfl) rfl rfl (by omega) (by rw [List.length_map]; omega) ⟨rfl, hs⟩
            · exact ob [5] [] rfl rfl fun D ρ w hs => L_ldRA (j := 0) (vs := cec (gd l (((((lo + hi) / 2) + mid) - 1) - ((s + r) / 2)))) (((((lo + hi) / 2) + mid) - 1) - ((s + r) / 2)) SA_59 (hs.rd 0 rfl) (gd_at (by omega)) rfl rfl rfl (by omega) ⟨rfl, hs⟩
            · exact ob [] [] rfl rfl fun D ρ w hs => L_move (V := .slice a N c) rfl ⟨rfl, hs⟩
            · exact ob [] [] rfl rfl fun D ρ w hs => L_move (V := .int .i64 (((s + r) / 2 : Nat) : Int)) rfl ⟨rfl, hs⟩
            · exact ob [7, 8] [] rfl rfl fun D ρ w hs => L_ixR UD_36 SA_59.1 (hs.rd 0 rfl) rfl rfl (by omega) (by rw [List.length_map]; omega) ⟨rfl, hs⟩
            · exact ob [9] [] rfl rfl fun D ρ w hs => L_ldRA (j := 0) (vs := cec (gd l ((s + r) / 2))) ((s + r) / 2) SA_59 (hs.rd 0 rfl) (gd_at (by omega)) rfl rfl rfl (by omega) ⟨rfl, hs⟩
            · exact ob [0, 6, 10] [] rfl rfl fun D ρ w hs => L_fnP (vs := [.agg (cec (gd l (((((lo + hi) / 2) + mid) - 1) - ((s + r) / 2)))).toArray, .agg (cec (gd l ((s + r) / 2))).toArray]) (cs := []) (V := .int .i64 (cf (gd l (((((lo + hi) / 2) + mid) - 1) - ((s + r) / 2))) (gd l ((s + r) / 2)))) hg rfl rfl (hcmp _ (gd l (((((lo + hi) / 2) + mid) - 1) - ((s + r) / 2))) (gd l ((s + r) / 2))) hs fun _ hs => ⟨rfl, hs⟩
            · exact ob [11] [] rfl rfl fun D ρ w hs => L_lss rfl rfl ⟨rfl, hs⟩
            · exact ob [12] [] rfl rfl fun D ρ w hs => L_not rfl ⟨rfl, hs⟩
            rintro ρ1 w28 ρ2 hρ hs
            replace hρ : ρ2 = upd (mix [158, 159, 160, 161, 162, 163, 164, 165, 166, 167, 168, 169, 170, 171] ρ1 _) 171 (.bool (!decide (cf (gd l (((((lo + hi) / 2) + mid) - 1) - ((s + r) / 2))) (gd l ((s + r) / 2)) < 0))) := hρ
            subst hρ
            refine W_cond (t := !decide (cf (gd l (((((lo + hi) / 2) + mid) - 1) - ((s + r) / 2))) (gd l ((s + r) / 2)) < 0)) rfl (fun c29 => ?_) (fun c29 => ?_)
            ·
              replace c29 := not_t c29
              replace c29 := of_decide_eq_false c29
              refine W_region ?_
              refine RW_op (L_move (V := .int .i64 (((s + r) / 2 : Nat) : Int)) rfl ?_)
              refine RW_op (L_add (a := (((s + r) / 2 : Nat) : Int)) (b := 1) (c := ((((s + r) / 2) + 1 : Nat) : Int)) rfl rfl (nat_i64 (by omega) (by omega)) ?_)
              refine RW_op (L_assign (V := .int .i64 ((((s + r) / 2) + 1 : Nat) : Int)) rfl ?_)
              refine RW_nil ?_
              refine ⟨_, ?_, _, ((s + r) / 2) + 1, r, upd_of (upd_of (mix_of (ds := [20, 21, 23, 149, 150, 151, 152, 153, 154, 155, 156, 157, 158, 159, 160, 161, 162, 163, 164, 165, 166, 167, 168, 169, 170, 171, 172, 173, 174]) (by repeat (first | exact Agr.refl _ _ | refine Agr.upd ?_ rfl | refine Agr.mix ?_ rfl))) rfl) rfl, (by omega), (by omega), (by omega), (Or.inr (by rw [Nat.add_sub_cancel]; exact c29)), hr2, rfl, hs.take 1⟩
              omega
            ·
              replace c29 := not_f c29
              replace c29 := of_decide_eq_true c29
              refine W_region ?_
              refine RW_op (L_move (V := .int .i64 (((s + r) / 2 : Nat) : Int)) rfl ?_)
              refine RW_op (L_assign (V := .int .i64 (((s + r) / 2 : Nat) : Int)) rfl ?_)
              refine RW_nil ?_
              refine ⟨_, ?_, _, s, (s + r) / 2, upd_of (upd_of (mix_of (ds := [20, 21, 23, 149, 150, 151, 152, 153, 154, 155, 156, 157, 158, 159, 160, 161, 162, 163, 164, 165, 166, 167, 168, 169, 170, 171, 172, 173, 174]) (by repeat (first | exact Agr.refl _ _ | refine Agr.upd ?_ rfl | refine Agr.mix ?_ rfl))) rfl) rfl, (by omega), (by omega), (by omega), hs2, (Or.inr c29), rfl, hs.take 1⟩
              omega
          ·
            replace c26 := of_decide_eq_false c26
            refine W_exit ?_
            refine W_seq ?_
            refine W_region ?_
            refine RW_op (L_move (V := .int .i64 ((((lo + hi) / 2) + mid : Nat) : Int)) rfl ?_)
            refine RW_op (L_move (V := .int .i64 ((s : Nat) : Int)) rfl ?_)
            refine RW_op (L_sub (a := ((((lo + hi) / 2) + mid : Nat) : Int)) (b := ((s : Nat) : Int)) (c := (((((lo + hi) / 2) + mid) - s : Nat) : Int)) rfl rfl (nat_i64 (by omega) (by omega)) ?_)
            refine RW_op (L_assign (V := .int .i64 (((((lo + hi) / 2) + mid) - s : Nat) : Int)) rfl ?_)
            refine RW_nil ?_
            refine W_seq ?_
            refine W_seq ?_
            refine W_regO [some 178, some 179, some 180, some 181, some 182, some 183, some 184, some 185] [] [0, 0, 3, 7, 15, 15, 63, 127] [pv (.int .i64 ((s : Nat) : Int)), pv (.int .i64 ((mid : Nat) : Int)), pv (.bool (decide (((s : Nat) : Int) < ((mid : Nat) : Int)))), pv (.bool (decide (((s : Nat) : Int) < ((mid : Nat) : Int)))), pg ((decide (((s : Nat) : Int) < ((mid : Nat) : Int))) == true) (.int .i64 ((mid : Nat) : Int)), pg ((decide (((s : Nat) : Int) < ((mid : Nat) : Int))) == true) (.int .i64 (((((lo + hi) / 2) + mid) - s : Nat) : Int)), pg ((decide (((s : Nat) : Int) < ((mid : Nat) : Int))) == true) (.bool (decide (((mid : Nat) : Int) < (((((lo + hi) / 2) + mid) - s : Nat) : Int)))), pv (.bool ((decide (((s : Nat) : Int) < ((mid : Nat) : Int))) && (decide (((mid : Nat) : Int) < (((((lo + hi) / 2) + mid) - s : Nat) : Int)))))] (fun _ _ => _) [7] (by kernel_rfl) hs ⟨?_, ?_, ?_, ?_, ?_, ?_, ?_, ?_, trivial⟩ ?_
            · exact ob [] [] rfl rfl fun D ρ w hs => L_move (V := .int .i64 ((s : Nat) : Int)) rfl ⟨rfl, hs⟩
            · exact ob [] [] rfl rfl fun D ρ w hs => L_move (V := .int .i64 ((mid : Nat) : Int)) rfl ⟨rfl, hs⟩
            · exact ob [0, 1] [] rfl rfl fun D ρ w hs => L_lss rfl rfl ⟨rfl, hs⟩
            · exact ob [2] [] rfl rfl fun D ρ w hs => L_move (V := .bool (decide (((s : Nat) : Int) < ((mid : Nat) : Int)))) rfl ⟨rfl, hs⟩
            · exact obg [3] [] (decide (((s : Nat) : Int) < ((mid : Nat) : Int))) rfl (fun _ => rfl) rfl (fun _ _ _ _ h => h) fun D ρ w hG hs => L_move (V := .int .i64 ((mid : Nat) : Int)) rfl ⟨rfl, hs⟩
            · exact obg [3] [] (decide (((s : Nat) : Int) < ((mid : Nat) : Int))) rfl (fun _ => rfl) rfl (fun _ _ _ _ h => h) fun D ρ w hG hs => L_move (V := .int .i64 (((((lo + hi) / 2) + mid) - s : Nat) : Int)) rfl ⟨rfl, hs⟩
            · exact obgy [3, 4, 5] [] [4, 5] (decide (((s : Nat) : Int) < ((mid : Nat) : Int))) rfl (fun _ => rfl) rfl (fun _ _ _ _ h => h) (fun hG => ⟨hG, hG, trivial⟩) fun D ρ w hG hs => L_lss rfl rfl ⟨rfl, hs⟩
            · exact ob [3, 6] [] rfl rfl fun D ρ w hs => L_andC (h' := decide (((mid : Nat) : Int) < (((((lo + hi) / 2) + mid) - s : Nat) : Int))) rfl rfl rfl ⟨rfl, hs⟩
            rintro ρ1 w30 ρ2 hρ hs
            replace hρ : ρ2 = upd (mix [178, 179, 180, 181, 182, 183, 184, 185] ρ1 _) 185 (.bool ((decide (((s : Nat) : Int) < ((mid : Nat) : Int))) && (decide (((mid : Nat) : Int) < (((((lo + hi) / 2) + mid) - s : Nat) : Int))))) := hρ
            subst hρ
            have hse : s = r := by omega
            rw [← hse] at hr2
            have hg1 := sym_g1 (lo := lo) (hi := hi) (e := (lo + hi) / 2 + mid - s) hs2 q6 hs1 rfl
            have hg2 := sym_g2 (md := (lo + hi) / 2) (e := (lo + hi) / 2 + mid - s) hr2 q7 rfl rfl (by omega)
            refine W_mid (fun ρ ρ' w' => ∃ (ρo : Env) (m1 : List Cen), ρ' = mix [186, 187, 188, 189, 190, 191] ρo ρ ∧ (m1.length = N) ∧ (RotSeg l m1 s mid ((lo + hi) / 2 + mid - s)) ∧ Own w S w' [row (.slice a N c) (m1.map cec) 59 7]) ?_ ?_
            ·
              refine W_cond (t := (decide (((s : Nat) : Int) < ((mid : Nat) : Int))) && (decide (((mid : Nat) : Int) < (((((lo + hi) / 2) + mid) - s : Nat) : Int)))) rfl (fun c31 => ?_) (fun c31 => ?_)
              ·
                have c31r := and_r c31
                replace c31 := and_l c31
                replace c31 := of_decide_eq_true c31
                replace c31r := of_decide_eq_true c31r
                refine W_region ?_
                refine RW_op (L_move (V := .slice a N c) rfl ?_)
                refine RW_op (L_move (V := .int .i64 ((s : Nat) : Int)) rfl ?_)
                refine RW_op (L_move (V := .int .i64 ((mid : Nat) : Int)) rfl ?_)
                refine RW_op (L_move (V := .int .i64 (((((lo + hi) / 2) + mid) - s : Nat) : Int)) rfl ?_)
                refine RW_op (L_move (V := .func (.func g) #[] #[]) rfl ?_)
                refine RW_op (L_callB (α := List Cen) (vs := [.slice a N c, .int .i64 ((s : Nat) : Int), .int .i64 ((mid : Nat) : Int), .int .i64 (((((lo + hi) / 2) + mid) - s : Nat) : Int), .func (.func g) #[] #[]]) (V := fun _ => .tuple #[]) (R := row (.slice a N c) (l.map cec) 59 7) (R' := fun x => row (.slice a N c) (x.map cec) 59 7) (Lo := fun _ => []) (F := fun x _ => x.length = N ∧ RotSeg l x s mid ((((lo + hi) / 2) + mid) - s)) EN_127 rfl rfl hs 0 rfl (fun S hS hlt => rtS_ok _ S a N c l hz hN s mid ((((lo + hi) / 2) + mid) - s) (by omega) (by omega) (by omega) g hg cf hc hcmp hS hlt) fun mz32 w33 hs hF34 => ?_)
                refine RW_nil ?_
                exact ⟨_, mz32, mix_of (ds := [186, 187, 188, 189, 190, 191]) (by repeat (first | exact Agr.refl _ _ | refine Agr.upd ?_ rfl | refine Agr.mix ?_ rfl)), hF34.1, hF34.2, hs.take 1⟩
              ·
                refine W_skip ?_
                exact ⟨_, l, mix_of (ds := [186, 187, 188, 189, 190, 191]) (by repeat (first | exact Agr.refl _ _ | refine Agr.upd ?_ rfl | refine Agr.mix ?_ rfl)), hz, (RotSeg.refl (by omega) (by omega) (by omega) (by
  have ht := c31
  rcases Nat.lt_or_ge s mid with q | q
  · right; simp [q] at ht; omega
  · left; omega)), hs.take 1⟩
            · rintro ρ' w35 ⟨ρo, m1, rfl, hz1, hro, hs⟩
              have hmd : s + ((lo + hi) / 2 + mid - s - mid) = (lo + hi) / 2 := by omega
              have hh := sym_halves hc ho1 ho2 (by omega) (by omega) (by omega) (by omega) hro hg1 hg2
              rw [hmd] at hh
              obtain ⟨k1, k2, k3, k4, k5⟩ := hh
              refine W_seq ?_
              refine W_seq ?_
              refine W_regO [some 192, some 193, some 194, some 195, some 196, some 197, some 198, some 199] [] [0, 0, 3, 7, 15, 15, 63, 127] [pv (.int .i64 ((lo : Nat) : Int)), pv (.int .i64 ((s : Nat) : Int)), pv (.bool (decide (((lo : Nat) : Int) < ((s : Nat) : Int)))), pv (.bool (decide (((lo : Nat) : Int) < ((s : Nat) : Int)))), pg ((decide (((lo : Nat) : Int) < ((s : Nat) : Int))) == true) (.int .i64 ((s : Nat) : Int)), pg ((decide (((lo : Nat) : Int) < ((s : Nat) : Int))) == true) (.int .i64 (((lo + hi) / 2 : Nat) : Int)), pg ((decide (((lo : Nat) : Int) < ((s : Nat) : Int))) == true) (.bool (decide (((s : Nat) : Int) < (((lo + hi) / 2 : Nat) : Int)))), pv (.bool ((decide (((lo : Nat) : Int) < ((s : Nat) : Int))) && (decide (((s : Nat) : Int) < (((lo + hi) / 2 : Nat) : Int)))))] (fun _ _ => _) [7] (by kernel_rfl) hs ⟨?_, ?_, ?_, ?_, ?_, ?_, ?_, ?_, trivial⟩ ?_
              · exact ob [] [] rfl rfl fun D ρ w hs => L_move (V := .int .i64 ((lo : Nat) : Int)) rfl ⟨rfl, hs⟩
              · exact ob [] [] rfl rfl fun D ρ w hs => L_move (V := .int .i64 ((s : Nat) : Int)) rfl ⟨rfl, hs⟩
              · exact ob [0, 1] [] rfl rfl fun D ρ w hs => L_lss rfl rfl ⟨rfl, hs⟩
              · exact ob [2] [] rfl rfl fun D ρ w hs => L_move (V := .bool (decide (((lo : Nat) : Int) < ((s : Nat) : Int)))) rfl ⟨rfl, hs⟩
              · exact obg [3] [] (decide (((lo : Nat) : Int) < ((s : Nat) : Int))) rfl (fun _ => rfl) rfl (fun _ _ _ _ h => h) fun D ρ w hG hs => L_move (V := .int .i64 ((s : Nat) : Int)) rfl ⟨rfl, hs⟩
              · exact obg [3] [] (decide (((lo : Nat) : Int) < ((s : Nat) : Int))) rfl (fun _ => rfl) rfl (fun _ _ _ _ h => h) fun D ρ w hG hs => L_move (V := .int .i64 (((lo + hi) / 2 : Nat) : Int)) rfl ⟨rfl, hs⟩
              · exact obgy [3, 4, 5] [] [4, 5] (decide (((lo : Nat) : Int) < ((s : Nat) : Int))) rfl (fun _ => rfl) rfl (fun _ _ _ _ h => h) (fun hG => ⟨hG, hG, trivial⟩) fun D ρ w hG hs => L_lss rfl rfl ⟨rfl, hs⟩
              · exact ob [3, 6] [] rfl rfl fun D ρ w hs => L_andC (h' := decide (((s : Nat) : Int) < (((lo + hi) / 2 : Nat) : Int))) rfl rfl rfl ⟨rfl, hs⟩
              rintro ρ1 w36 ρ2 hρ hs
              replace hρ : ρ2 = upd (mix [192, 193, 194, 195, 196, 197, 198, 199] ρ1 _) 199 (.bool ((decide (((lo : Nat) : Int) < ((s : Nat) : Int))) && (decide (((s : Nat) : Int) < (((lo + hi) / 2 : Nat) : Int))))) := hρ
              subst hρ
              refine W_mid (fun ρ ρ' w' => ∃ (ρo : Env) (m2 : List Cen), ρ' = mix [200, 201, 202, 203, 204, 205] ρo ρ ∧ (m2.length = N) ∧ (Merged cf m1 m2 lo ((lo + hi) / 2)) ∧ Own w S w' [row (.slice a N c) (m2.map cec) 59 7]) ?_ ?_
              ·
                refine W_cond (t := (decide (((lo : Nat) : Int) < ((s : Nat) : Int))) && (decide (((s : Nat) : Int) < (((lo + hi) / 2 : Nat) : Int)))) rfl (fun c37 => ?_) (fun c37 => ?_)
                ·
                  have c37r := and_r c37
                  replace c37 := and_l c37
                  replace c37 := of_decide_eq_true c37
                  replace c37r := of_decide_eq_true c37r
                  refine W_region ?_
                  refine RW_op (L_move (V := .slice a N c) rfl ?_)
                  refine RW_op (L_move (V := .int .i64 ((lo : Nat) : Int)) rfl ?_)
                  refine RW_op (L_move (V := .int .i64 ((s : Nat) : Int)) rfl ?_)
                  refine RW_op (L_move (V := .int .i64 (((lo + hi) / 2 : Nat) : Int)) rfl ?_)
                  refine RW_op (L_move (V := .func (.func g) #[] #[]) rfl ?_)
                  refine RW_op (L_callB (α := List Cen) (vs := [.slice a N c, .int .i64 ((lo : Nat) : Int), .int .i64 ((s : Nat) : Int), .int .i64 (((lo + hi) / 2 : Nat) : Int), .func (.func g) #[] #[]]) (V := fun _ => .tuple #[]) (R := row (.slice a N c) (m1.map cec) 59 7) (R' := fun x => row (.slice a N c) (x.map cec) 59 7) (Lo := fun _ => []) (F := fun x _ => x.length = N ∧ Merged cf m1 x lo ((lo + hi) / 2)) EN_111 rfl rfl hs 0 rfl (fun S hS hlt => ih _ S a N c m1 lo s ((lo + hi) / 2) hz1 hN (by omega) (by omega) (by omega) (by omega) k1 k2 hS hlt) fun mz38 w39 hs hF40 => ?_)
                  refine RW_nil ?_
                  exact ⟨_, mz38, mix_of (ds := [200, 201, 202, 203, 204, 205]) (by repeat (first | exact Agr.refl _ _ | refine Agr.upd ?_ rfl | refine Agr.mix ?_ rfl)), hF40.1, hF40.2, hs.take 1⟩
                ·
                  refine W_skip ?_
                  exact ⟨_, m1, mix_of (ds := [200, 201, 202, 203, 204, 205]) (by repeat (first | exact Agr.refl _ _ | refine Agr.upd ?_ rfl | refine Agr.mix ?_ rfl)), hz1, (⟨PermSeg.refl m1 (by omega) (by omega), by
  have ht := c37
  rcases Nat.lt_or_ge lo s with q | q
  · have q2 : (lo + hi) / 2 ≤ s := by simp [q] at ht; omega
    exact k1.sub (Nat.le_refl _) q2
  · exact k2.sub q (Nat.le_refl _)⟩), hs.take 1⟩
              · rintro ρ' w41 ⟨ρo, m2, rfl, hz2, hmg, hs⟩
                have k3b := k3.out hmg.1 (.inr (Nat.le_refl _))
                have k4b := k4.out hmg.1 (.inr (by omega))
                refine W_seq ?_
                refine W_regO [some 206, some 207, some 208, some 209, some 210, some 211, some 212, some 213] [] [0, 0, 3, 7, 15, 15, 63, 127] [pv (.int .i64 (((lo + hi) / 2 : Nat) : Int)), pv (.int .i64 (((((lo + hi) / 2) + mid) - s : Nat) : Int)), pv (.bool (decide ((((lo + hi) / 2 : Nat) : Int) < (((((lo + hi) / 2) + mid) - s : Nat) : Int)))), pv (.bool (decide ((((lo + hi) / 2 : Nat) : Int) < (((((lo + hi) / 2) + mid) - s : Nat) : Int)))), pg ((decide ((((lo + hi) / 2 : Nat) : Int) < (((((lo + hi) / 2) + mid) - s : Nat) : Int))) == true) (.int .i64 (((((lo + hi) / 2) + mid) - s : Nat) : Int)), pg ((decide ((((lo + hi) / 2 : Nat) : Int) < (((((lo + hi) / 2) + mid) - s : Nat) : Int))) == true) (.int .i64 ((hi : Nat) : Int)), pg ((decide ((((lo + hi) / 2 : Nat) : Int) < (((((lo + hi) / 2) + mid) - s : Nat) : Int))) == true) (.bool (decide ((((((lo + hi) / 2) + mid) - s : Nat) : Int) < ((hi : Nat) : Int)))), pv (.bool ((decide ((((lo + hi) / 2 : Nat) : Int) < (((((lo + hi) / 2) + mid) - s : Nat) : Int))) && (decide ((((((lo + hi) / 2) + mid) - s : Nat) : Int) < ((hi : Nat) : Int)))))] (fun _ _ => _) [7] (by kernel_rfl) hs ⟨?_, ?_, ?_, ?_, ?_, ?_, ?_, ?_, trivial⟩ ?_
                · exact ob [] [] rfl rfl fun D ρ w hs => L_move (V := .int .i64 (((lo + hi) / 2 : Nat) : Int)) rfl ⟨rfl, hs⟩
                · exact ob [] [] rfl rfl fun D ρ w hs => L_move (V := .int .i64 (((((lo + hi) / 2) + mid) - s : Nat) : Int)) rfl ⟨rfl, hs⟩
                · exact ob [0, 1] [] rfl rfl fun D ρ w hs => L_lss rfl rfl ⟨rfl, hs⟩
                · exact ob [2] [] rfl rfl fun D ρ w hs => L_move (V := .bool (decide ((((lo + hi) / 2 : Nat) : Int) < (((((lo + hi) / 2) + mid) - s : Nat) : Int)))) rfl ⟨rfl, hs⟩
                · exact obg [3] [] (decide ((((lo + hi) / 2 : Nat) : Int) < (((((lo + hi) / 2) + mid) - s : Nat) : Int))) rfl (fun _ => rfl) rfl (fun _ _ _ _ h => h) fun D ρ w hG hs => L_move (V := .int .i64 (((((lo + hi) / 2) + mid) - s : Nat) : Int)) rfl ⟨rfl, hs⟩
                · exact obg [3] [] (decide ((((lo + hi) / 2 : Nat) : Int) < (((((lo + hi) / 2) + mid) - s : Nat) : Int))) rfl (fun _ => rfl) rfl (fun _ _ _ _ h => h) fun D ρ w hG hs => L_move (V := .int .i64 ((hi : Nat) : Int)) rfl ⟨rfl, hs⟩
                · exact obgy [3, 4, 5] [] [4, 5] (decide ((((lo + hi) / 2 : Nat) : Int) < (((((lo + hi) / 2) + mid) - s : Nat) : Int))) rfl (fun _ => rfl) rfl (fun _ _ _ _ h => h) (fun hG => ⟨hG, hG, trivial⟩) fun D ρ w hG hs => L_lss rfl rfl ⟨rfl, hs⟩
                · exact ob [3, 6] [] rfl rfl fun D ρ w hs => L_andC (h' := decide ((((((lo + hi) / 2) + mid) - s : Nat) : Int) < ((hi : Nat) : Int))) rfl rfl rfl ⟨rfl, hs⟩
                rintro ρ1 w42 ρ2 hρ hs
                replace hρ : ρ2 = upd (mix [206, 207, 208, 209, 210, 211, 212, 213] ρ1 _) 213 (.bool ((decide ((((lo + hi) / 2 : Nat) : Int) < (((((lo + hi) / 2) + mid) - s : Nat) : Int))) && (decide ((((((lo + hi) / 2) + mid) - s : Nat) : Int) < ((hi : Nat) : Int))))) := hρ
                subst hρ
                refine W_mid (fun ρ ρ' w' => ∃ (ρo : Env) (m3 : List Cen), ρ' = mix [214, 215, 216, 217, 218, 219] ρo ρ ∧ (m3.length = N) ∧ (Merged cf m2 m3 ((lo + hi) / 2) hi) ∧ Own w S w' [row (.slice a N c) (m3.map cec) 59 7]) ?_ ?_
                ·
                  refine W_cond (t := (decide ((((lo + hi) / 2 : Nat) : Int) < (((((lo + hi) / 2) + mid) - s : Nat) : Int))) && (decide ((((((lo + hi) / 2) + mid) - s : Nat) : Int) < ((hi : Nat) : Int)))) rfl (fun c43 => ?_) (fun c43 => ?_)
                  ·
                    have c43r := and_r c43
                    replace c43 := and_l c43
                    replace c43 := of_decide_eq_true c43
                    replace c43r := of_decide_eq_true c43r
                    refine W_region ?_
                    refine RW_op (L_move (V := .slice a N c) rfl ?_)
                    refine RW_op (L_move (V := .int .i64 (((lo + hi) / 2 : Nat) : Int)) rfl ?_)
                    refine RW_op (L_move (V := .int .i64 (((((lo + hi) / 2) + mid) - s : Nat) : Int)) rfl ?_)
                    refine RW_op (L_move (V := .int .i64 ((hi : Nat) : Int)) rfl ?_)
                    refine RW_op (L_move (V := .func (.func g) #[] #[]) rfl ?_)
                    refine RW_op (L_callB (α := List Cen) (vs := [.slice a N c, .int .i64 (((lo + hi) / 2 : Nat) : Int), .int .i64 (((((lo + hi) / 2) + mid) - s : Nat) : Int), .int .i64 ((hi : Nat) : Int), .func (.func g) #[] #[]]) (V := fun _ => .tuple #[]) (R := row (.slice a N c) (m2.map cec) 59 7) (R' := fun x => row (.slice a N c) (x.map cec) 59 7) (Lo := fun _ => []) (F := fun x _ => x.length = N ∧ Merged cf m2 x ((lo + hi) / 2) hi) EN_111 rfl rfl hs 0 rfl (fun S hS hlt => ih _ S a N c m2 ((lo + hi) / 2) ((((lo + hi) / 2) + mid) - s) hi hz2 hN (by omega) (by omega) (by omega) (by omega) k3b k4b hS hlt) fun mz44 w45 hs hF46 => ?_)
                    refine RW_nil ?_
                    exact ⟨_, mz44, mix_of (ds := [214, 215, 216, 217, 218, 219]) (by repeat (first | exact Agr.refl _ _ | refine Agr.upd ?_ rfl | refine Agr.mix ?_ rfl)), hF46.1, hF46.2, hs.take 1⟩
                  ·
                    refine W_skip ?_
                    exact ⟨_, m2, mix_of (ds := [214, 215, 216, 217, 218, 219]) (by repeat (first | exact Agr.refl _ _ | refine Agr.upd ?_ rfl | refine Agr.mix ?_ rfl)), hz2, (⟨PermSeg.refl m2 (by omega) (by omega), by
  have ht := c43
  rcases Nat.lt_or_ge ((lo + hi) / 2) ((lo + hi) / 2 + mid - s) with q | q
  · have q2 : hi ≤ (lo + hi) / 2 + mid - s := by simp [q] at ht; omega
    exact k3b.sub (Nat.le_refl _) q2
  · exact k4b.sub q (Nat.le_refl _)⟩), hs.take 1⟩
                · rintro ρ' w47 ⟨ρo, m3, rfl, hz3, hmg2, hs⟩
                  refine ⟨_, res_none Tryz.results111, ?_⟩
                  exact ⟨m3, rfl, hs.take 1, hz3, sym_done (hro.perm.wide (by omega) (by omega) (by omega)) hmg hmg2 (by omega) (by omega) (by omega) k5⟩
theorem symS_all (g : Nat) (hg : En Tryz.prog g) (cf : Cen → Cen → Int) (hc : CmpO cf) (hcmp : ∀ (w : World) (x y : Cen), Calls Tryz.prog g #[.agg (cec x).toArray, .agg (cec y).toArray] w (fun e w' => e = .returned (.int .i64 (cf x y)) ∧ Own w no w' [])) (d : Nat) : SymAt Tryz.prog 111 g 59 7 cec cf d := by
  induction d with
  | zero => intro w S a N c l lo mid hi hz hN hd h1 h2; omega
  | succ d ih => intro w S a N c l lo mid hi hz hN hd h1 h2 h3 ho1 ho2 hR hlt; exact symS_step d g hg cf hc hcmp ih w S a N c l lo mid hi hz hN hd h1 h2 h3 ho1 ho2 hR hlt
end Tt
end Go.Proofs
namespace Go.Proofs
open Go Go.Vx Go.RowKit
namespace Tt
set_option maxRecDepth 20000 in
set_option maxHeartbeats 4000000 in
theorem stS_ok (w : World) (S : Nat → Prop) (a : Option Addr) (N c : Nat) (l : List Cen) (hz : l.length = N) (hN : N ≤ 1152921504606846975) (g : Nat) (hg : En Tryz.prog g) (cf : Cen → Cen → Int) (hc : CmpO cf) (hcmp : ∀ (w : World) (x y : Cen), Calls Tryz.prog g #[.agg (cec x).toArray, .agg (cec y).toArray] w (fun e w' => e = .returned (.int .i64 (cf x y)) ∧ Own w no w' [])) (hR : (row (.slice a N c) (l.map cec) 59 7).holds w S) (hlt : ∀ b, S b → b < w.heap.size) : Calls Tryz.prog 90 #[.slice a N c, .int .i64 ((N : Nat) : Int), .func (.func g) #[] #[]] w (fun e w' => ∃ x : List Cen, e = .returned (.tuple #[]) ∧ Own w S w' [row (.slice a N c) (x.map cec) 59 7] ∧ (x.length = N ∧ x.Perm l ∧ SrtL cf x)) := by
  refine calls_of_Wn (n := 63) Tryz.func90 rfl Tryz.ntmps90 rfl ?_
  have hN0 := hN
  replace hN : N ≤ 2305843009213693951 := by omega
  have hs := Own.lent hR hlt
  refine W_seq ?_
  refine W_region ?_
  refine RW_op (L_assign (V := .int .i64 20) rfl ?_)
  refine RW_nil ?_
  refine W_seq ?_
  refine W_region ?_
  refine RW_op (L_move (V := .int .i64 20) rfl ?_)
  refine RW_op (L_assign (V := .int .i64 0) rfl ?_)
  refine RW_op (L_assign (V := .int .i64 20) rfl ?_)
  refine RW_nil ?_
  refine W_seq ?_
  refine W_block ?_
  refine W_loopI (fun ρ μ ρ' w' => ∃ (ρo : Env) (t : Nat) (m : List Cen), ρ' = upd (upd (mix [7, 8, 11, 12, 13, 14, 15, 16, 17, 18, 19, 20, 21, 22] ρo ρ) 7 (.int .i64 ((t * 20 : Nat) : Int))) 8 (.int .i64 ((t * 20 + 20 : Nat) : Int)) ∧ (t * 20 ≤ N) ∧ (m.length = N) ∧ (PermSeg l m 0 N) ∧ (Blk cf m 20 (t * 20)) ∧ μ = N - t * 20 ∧ Own w S w' [row (.slice a N c) (m.map cec) 59 7]) ?_ ?_
  · exact ⟨_, _, 0, l, upd_of (upd_of (mix_of (ds := [7, 8, 11, 12, 13, 14, 15, 16, 17, 18, 19, 20, 21, 22]) (Agr.refl _ _)) rfl) rfl, (by omega), hz, (PermSeg.refl l (Nat.zero_le _) (by omega)), blk_zero, rfl, hs⟩
  · rintro μ ρ' w1 ⟨ρo, t, m, rfl, ht, hz1, hpm, hbl, rfl, hs⟩
    refine W_seq ?_
    refine W_seq ?_
    refine W_region ?_
    refine RW_op (L_move (V := .int .i64 ((t * 20 + 20 : Nat) : Int)) rfl ?_)
    refine RW_op (L_move (V := .int .i64 ((N : Nat) : Int)) rfl ?_)
    refine RW_op (L_leq rfl rfl ?_)
    refine RW_nil ?_
    refine W_cond (t := decide (((t * 20 + 20 : Nat) : Int) ≤ ((N : Nat) : Int))) rfl (fun c2 => ?_) (fun c2 => ?_)
    ·
      replace c2 := of_decide_eq_true c2
      refine W_skip ?_
      refine W_block ?_
      refine W_seq ?_
      refine W_region ?_
      refine RW_op (L_move (V := .slice a N c) rfl ?_)
      refine RW_op (L_move (V := .int .i64 ((t * 20 : Nat) : Int)) rfl ?_)
      refine RW_op (L_move (V := .int .i64 ((t * 20 + 20 : Nat) : Int)) rfl ?_)
      refine RW_op (L_move (V := .func (.func g) #[] #[]) rfl ?_)
      refine RW_op (L_callB (α := List Cen) (vs := [.slice a N c, .int .i64 ((t * 20 : Nat) : Int), .int .i64 ((t * 20 + 20 : Nat) : Int), .func (.func g) #[] #[]]) (V := fun _ => .tuple #[]) (R := row (.slice a N c) (m.map cec) 59 7) (R' := fun x => row (.slice a N c) (x.map cec) 59 7) (Lo := fun _ => []) (F := fun x _ => x.length = N ∧ Merged cf m x (t * 20) (t * 20 + 20)) EN_110 rfl rfl hs 0 rfl (fun S hS hlt => isS_ok _ S a N c m hz1 hN (t * 20) (t * 20 + 20) (by omega) (by omega) g hg cf hc hcmp hS hlt) fun mz3 w4 hs hF5 => ?_)
      refine RW_nil ?_
      refine W_seq ?_
      refine W_region ?_
      refine RW_op (L_move (V := .int .i64 ((t * 20 + 20 : Nat) : Int)) rfl ?_)
      refine RW_op (L_assign (V := .int .i64 ((t * 20 + 20 : Nat) : Int)) rfl ?_)
      refine RW_nil ?_
      refine W_region ?_
      refine RW_op (L_move (V := .int .i64 ((t * 20 + 20 : Nat) : Int)) rfl ?_)
      refine RW_op (L_move (V := .int .i64 20) rfl ?_)
      refine RW_op (L_add (a := ((t * 20 + 20 : Nat) : Int)) (b := 20) (c := (((t * 20 + 20) + 20 : Nat) : Int)) rfl rfl (nat_i64 (by omega) (by omega)) ?_)
      refine RW_op (L_assign (V := .int .i64 (((t * 20 + 20) + 20 : Nat) : Int)) rfl ?_)
      refine RW_nil ?_
      refine ⟨_, ?_, _, t + 1, mz3, upd_of (upd_of (mix_of (ds := [7, 8, 11, 12, 13, 14, 15, 16, 17, 18, 19, 20, 21, 22]) (by repeat (first | exact Agr.refl _ _ | refine Agr.upd ?_ rfl | refine Agr.mix ?_ rfl))) (congrArg (Value.int .i64) (by omega))) (congrArg (Value.int .i64) (by omega)), (by omega), hF5.1, (hpm.trans (hF5.2.1.wide (by omega) (by omega) (by omega))), (by rw [show (t + 1) * 20 = t * 20 + 20 by omega]; exact blk_step hbl hF5.2.1 hF5.2.2 (Nat.le_refl _)), rfl, hs.take 1⟩
      omega
    ·
      replace c2 := of_decide_eq_false c2
      refine W_exit ?_
      refine W_seq ?_
      refine W_region ?_
      refine RW_op (L_move (V := .slice a N c) rfl ?_)
      refine RW_op (L_move (V := .int .i64 ((t * 20 : Nat) : Int)) rfl ?_)
      refine RW_op (L_move (V := .int .i64 ((N : Nat) : Int)) rfl ?_)
      refine RW_op (L_move (V := .func (.func g) #[] #[]) rfl ?_)
      refine RW_op (L_callB (α := List Cen) (vs := [.slice a N c, .int .i64 ((t * 20 : Nat) : Int), .int .i64 ((N : Nat) : Int), .func (.func g) #[] #[]]) (V := fun _ => .tuple #[]) (R := row (.slice a N c) (m.map cec) 59 7) (R' := fun x => row (.slice a N c) (x.map cec) 59 7) (Lo := fun _ => []) (F := fun x _ => x.length = N ∧ Merged cf m x (t * 20) N) EN_110 rfl rfl hs 0 rfl (fun S hS hlt => isS_ok _ S a N c m hz1 hN (t * 20) N (by omega) (by omega) g hg cf hc hcmp hS hlt) fun mz6 w7 hs hF8 => ?_)
      refine RW_nil ?_
      refine W_block ?_
      have hb0 : Blk cf mz6 20 N := blk_step hbl hF8.2.1 hF8.2.2 (by omega)
      have hp0 := hpm.trans (hF8.2.1.wide (by omega) (by omega) (by omega))
      refine W_loopI (fun ρ μ ρ' w' => ∃ (ρo : Env) (s : Nat) (m2 : List Cen), ρ' = upd (mix [6, 7, 8, 9, 28, 29, 30, 31, 32, 33, 34, 35, 36, 37, 38, 39, 40, 41, 42, 43, 44, 45, 46, 47, 48, 49, 50, 51, 52, 53, 54, 55, 56, 57, 58, 59, 60, 61, 62] ρo ρ) 6 (.int .i64 ((s : Nat) : Int)) ∧ (0 < s) ∧ (s ≤ 2 * N + 20) ∧ (m2.length = N) ∧ (PermSeg l m2 0 N) ∧ (Blk cf m2 s N) ∧ μ = N - s ∧ Own w S w' [row (.slice a N c) (m2.map cec) 59 7]) ?_ ?_
      · exact ⟨_, _, 20, mz6, upd_of (mix_of (ds := [6, 7, 8, 9, 28, 29, 30, 31, 32, 33, 34, 35, 36, 37, 38, 39, 40, 41, 42, 43, 44, 45, 46, 47, 48, 49, 50, 51, 52, 53, 54, 55, 56, 57, 58, 59, 60, 61, 62]) (Agr.refl _ _)) rfl, (by omega), (by omega), hF8.1, hp0, hb0, rfl, hs⟩
      · rintro μ ρ' w9 ⟨ρo, s, m2, rfl, hs0, hsN, hz2, hpm2, hb2, rfl, hs⟩
        refine W_seq ?_
        refine W_seq ?_
        refine W_region ?_
        refine RW_op (L_move (V := .int .i64 ((s : Nat) : Int)) rfl ?_)
        refine RW_op (L_move (V := .int .i64 ((N : Nat) : Int)) rfl ?_)
        refine RW_op (L_lss rfl rfl ?_)
        refine RW_nil ?_
        refine W_cond (t := decide (((s : Nat) : Int) < ((N : Nat) : Int))) rfl (fun c10 => ?_) (fun c10 => ?_)
        ·
          replace c10 := of_decide_eq_true c10
          refine W_skip ?_
          refine W_block ?_
          refine W_seq ?_
          refine W_region ?_
          refine RW_op (L_move (V := .int .i64 ((s : Nat) : Int)) rfl ?_)
          refine RW_op (L_mul (a := 2) (b := ((s : Nat) : Int)) (c := ((2 * s : Nat) : Int)) rfl rfl (nat_i64 (by omega) (by omega)) ?_)
          refine RW_op (L_assign (V := .int .i64 0) rfl ?_)
          refine RW_op (L_assign (V := .int .i64 ((2 * s : Nat) : Int)) rfl ?_)
          refine RW_nil ?_
          refine W_seq ?_
          refine W_block ?_
          refine W_loopI (fun ρ μ ρ' w' => ∃ (ρo : Env) (t : Nat) (A : Nat) (m3 : List Cen), ρ' = upd (upd (mix [7, 8, 33, 34, 35, 36, 37, 38, 39, 40, 41, 42, 43, 44, 45, 46, 47, 48] ρo ρ) 7 (.int .i64 ((A : Nat) : Int))) 8 (.int .i64 ((A + 2 * s : Nat) : Int)) ∧ (A = t * (2 * s)) ∧ (A ≤ N) ∧ (m3.length = N) ∧ (PermSeg l m3 0 N) ∧ (Mrg cf m3 s t N) ∧ μ = N - A ∧ Own w S w' [row (.slice a N c) (m3.map cec) 59 7]) ?_ ?_
          · exact ⟨_, _, 0, 0, m2, upd_of (upd_of (mix_of (ds := [7, 8, 33, 34, 35, 36, 37, 38, 39, 40, 41, 42, 43, 44, 45, 46, 47, 48]) (Agr.refl _ _)) rfl) (congrArg (Value.int .i64) (by omega)), (by rw [Nat.zero_mul]), (by omega), hz2, hpm2, (mrg_start hb2), rfl, hs⟩
          · rintro μ ρ' w11 ⟨ρo, t, A, m3, rfl, hA, hAN, hz3, hpm3, hmr, rfl, hs⟩
            refine W_seq ?_
            refine W_seq ?_
            refine W_region ?_
            refine RW_op (L_move (V := .int .i64 ((A + 2 * s : Nat) : Int)) rfl ?_)
            refine RW_op (L_move (V := .int .i64 ((N : Nat) : Int)) rfl ?_)
            refine RW_op (L_leq rfl rfl ?_)
            refine RW_nil ?_
            refine W_cond (t := decide (((A + 2 * s : Nat) : Int) ≤ ((N : Nat) : Int))) rfl (fun c12 => ?_) (fun c12 => ?_)
            ·
              replace c12 := of_decide_eq_true c12
              refine W_skip ?_
              refine W_block ?_
              refine W_seq ?_
              have hpp := mrg_parts hmr
              rw [← hA] at hpp
              have hp1 := hpp.1.sub (Nat.le_refl _) (show A + s ≤ min (A + s) N by omega)
              have hp2 := hpp.2.sub (Nat.le_refl _) (show A + 2 * s ≤ min (A + 2 * s) N by omega)
              refine W_region ?_
              refine RW_op (L_move (V := .slice a N c) rfl ?_)
              refine RW_op (L_move (V := .int .i64 ((A : Nat) : Int)) rfl ?_)
              refine RW_op (L_move (V := .int .i64 ((A : Nat) : Int)) rfl ?_)
              refine RW_op (L_move (V := .int .i64 ((s : Nat) : Int)) rfl ?_)
              refine RW_op (L_add (a := ((A : Nat) : Int)) (b := ((s : Nat) : Int)) (c := ((A + s : Nat) : Int)) rfl rfl (nat_i64 (by omega) (by omega)) ?_)
              refine RW_op (L_move (V := .int .i64 ((A + 2 * s : Nat) : Int)) rfl ?_)
              refine RW_op (L_move (V := .func (.func g) #[] #[]) rfl ?_)
              refine RW_op (L_callB (α := List Cen) (vs := [.slice a N c, .int .i64 ((A : Nat) : Int), .int .i64 ((A + s : Nat) : Int), .int .i64 ((A + 2 * s : Nat) : Int), .func (.func g) #[] #[]]) (V := fun _ => .tuple #[]) (R := row (.slice a N c) (m3.map cec) 59 7) (R' := fun x => row (.slice a N c) (x.map cec) 59 7) (Lo := fun _ => []) (F := fun x _ => x.length = N ∧ Merged cf m3 x A (A + 2 * s)) EN_111 rfl rfl hs 0 rfl (fun S hS hlt => symS_all g hg cf hc hcmp N _ S a N c m3 A (A + s) (A + 2 * s) hz3 hN (by omega) (by omega) (by omega) (by omega) hp1 hp2 hS hlt) fun mz13 w14 hs hF15 => ?_)
              refine RW_nil ?_
              refine W_seq ?_
              refine W_region ?_
              refine RW_op (L_move (V := .int .i64 ((A + 2 * s : Nat) : Int)) rfl ?_)
              refine RW_op (L_assign (V := .int .i64 ((A + 2 * s : Nat) : Int)) rfl ?_)
              refine RW_nil ?_
              refine W_region ?_
              refine RW_op (L_move (V := .int .i64 ((A + 2 * s : Nat) : Int)) rfl ?_)
              refine RW_op (L_move (V := .int .i64 ((s : Nat) : Int)) rfl ?_)
              refine RW_op (L_mul (a := 2) (b := ((s : Nat) : Int)) (c := ((2 * s : Nat) : Int)) rfl rfl (nat_i64 (by omega) (by omega)) ?_)
              refine RW_op (L_add (a := ((A + 2 * s : Nat) : Int)) (b := ((2 * s : Nat) : Int)) (c := (((A + 2 * s) + (2 * s) : Nat) : Int)) rfl rfl (nat_i64 (by omega) (by omega)) ?_)
              refine RW_op (L_assign (V := .int .i64 (((A + 2 * s) + (2 * s) : Nat) : Int)) rfl ?_)
              refine RW_nil ?_
              refine ⟨_, ?_, _, t + 1, A + 2 * s, mz13, upd_of (upd_of (mix_of (ds := [7, 8, 33, 34, 35, 36, 37, 38, 39, 40, 41, 42, 43, 44, 45, 46, 47, 48]) (by repeat (first | exact Agr.refl _ _ | refine Agr.upd ?_ rfl | refine Agr.mix ?_ rfl))) rfl) (congrArg (Value.int .i64) (by omega)), (by rw [hA, Nat.add_mul, Nat.one_mul]), (by omega), hF15.1, (hpm3.trans (hF15.2.1.wide (by omega) (by omega) (by omega))), (mrg_step hmr (by rw [← hA]; exact hF15.2.1) (by rw [← hA]; exact hF15.2.2) (by omega)), rfl, hs.take 1⟩
              omega
            ·
              replace c12 := of_decide_eq_false c12
              refine W_exit ?_
              refine W_seq ?_
              refine W_seq ?_
              refine W_region ?_
              refine RW_op (L_move (V := .int .i64 ((A : Nat) : Int)) rfl ?_)
              refine RW_op (L_move (V := .int .i64 ((s : Nat) : Int)) rfl ?_)
              refine RW_op (L_add (a := ((A : Nat) : Int)) (b := ((s : Nat) : Int)) (c := ((A + s : Nat) : Int)) rfl rfl (nat_i64 (by omega) (by omega)) ?_)
              refine RW_op (L_assign (V := .int .i64 ((A + s : Nat) : Int)) rfl ?_)
              refine RW_nil ?_
              refine W_seq ?_
              refine W_region ?_
              refine RW_op (L_move (V := .int .i64 ((A + s : Nat) : Int)) rfl ?_)
              refine RW_op (L_move (V := .int .i64 ((N : Nat) : Int)) rfl ?_)
              refine RW_op (L_lss rfl rfl ?_)
              refine RW_nil ?_
              refine W_cond (t := decide (((A + s : Nat) : Int) < ((N : Nat) : Int))) rfl (fun c16 => ?_) (fun c16 => ?_)
              ·
                replace c16 := of_decide_eq_true c16
                have hpp := mrg_parts hmr
                rw [← hA] at hpp
                have hp1 := hpp.1.sub (Nat.le_refl _) (show A + s ≤ min (A + s) N by omega)
                have hp2 := hpp.2.sub (Nat.le_refl _) (show N ≤ min (A + 2 * s) N by omega)
                refine W_region ?_
                refine RW_op (L_move (V := .slice a N c) rfl ?_)
                refine RW_op (L_move (V := .int .i64 ((A : Nat) : Int)) rfl ?_)
                refine RW_op (L_move (V := .int .i64 ((A + s : Nat) : Int)) rfl ?_)
                refine RW_op (L_move (V := .int .i64 ((N : Nat) : Int)) rfl ?_)
                refine RW_op (L_move (V := .func (.func g) #[] #[]) rfl ?_)
                refine RW_op (L_callB (α := List Cen) (vs := [.slice a N c, .int .i64 ((A : Nat) : Int), .int .i64 ((A + s : Nat) : Int), .int .i64 ((N : Nat) : Int), .func (.func g) #[] #[]]) (V := fun _ => .tuple #[]) (R := row (.slice a N c) (m3.map cec) 59 7) (R' := fun x => row (.slice a N c) (x.map cec) 59 7) (Lo := fun _ => []) (F := fun x _ => x.length = N ∧ Merged cf m3 x A N) EN_111 rfl rfl hs 0 rfl (fun S hS hlt => symS_all g hg cf hc hcmp N _ S a N c m3 A (A + s) N hz3 hN (by omega) (by omega) (by omega) (by omega) hp1 hp2 hS hlt) fun mz17 w18 hs hF19 => ?_)
                refine RW_nil ?_
                refine W_region ?_
                refine RW_op (L_move (V := .int .i64 ((s : Nat) : Int)) rfl ?_)
                refine RW_op (L_mul (a := ((s : Nat) : Int)) (b := 2) (c := ((s * 2 : Nat) : Int)) rfl rfl (nat_i64 (by omega) (by omega)) ?_)
                refine RW_op (L_assign (V := .int .i64 ((s * 2 : Nat) : Int)) rfl ?_)
                refine RW_nil ?_
                refine ⟨_, ?_, _, s * 2, mz17, upd_of (mix_of (ds := [6, 7, 8, 9, 28, 29, 30, 31, 32, 33, 34, 35, 36, 37, 38, 39, 40, 41, 42, 43, 44, 45, 46, 47, 48, 49, 50, 51, 52, 53, 54, 55, 56, 57, 58, 59, 60, 61, 62]) (by repeat (first | exact Agr.refl _ _ | refine Agr.upd ?_ rfl | refine Agr.mix ?_ rfl))) rfl, (by omega), (by omega), hF19.1, (hpm3.trans (hF19.2.1.wide (by omega) (by omega) (by omega))), (by
  have hq := mrg_step hmr (by rw [← hA]; exact hF19.2.1) (by rw [← hA]; exact hF19.2.2) (by omega)
  have hq2 := mrg_end hq (by rw [Nat.add_mul, Nat.one_mul, ← hA]; omega)
  rw [Nat.mul_comm s 2]; exact hq2), rfl, hs.take 1⟩
                omega
              ·
                replace c16 := of_decide_eq_false c16
                refine W_skip ?_
                refine W_region ?_
                refine RW_op (L_move (V := .int .i64 ((s : Nat) : Int)) rfl ?_)
                refine RW_op (L_mul (a := ((s : Nat) : Int)) (b := 2) (c := ((s * 2 : Nat) : Int)) rfl rfl (nat_i64 (by omega) (by omega)) ?_)
                refine RW_op (L_assign (V := .int .i64 ((s * 2 : Nat) : Int)) rfl ?_)
                refine RW_nil ?_
                refine ⟨_, ?_, _, s * 2, m3, upd_of (mix_of (ds := [6, 7, 8, 9, 28, 29, 30, 31, 32, 33, 34, 35, 36, 37, 38, 39, 40, 41, 42, 43, 44, 45, 46, 47, 48, 49, 50, 51, 52, 53, 54, 55, 56, 57, 58, 59, 60, 61, 62]) (by repeat (first | exact Agr.refl _ _ | refine Agr.upd ?_ rfl | refine Agr.mix ?_ rfl))) rfl, (by omega), (by omega), hz3, hpm3, (by rw [Nat.mul_comm s 2]; exact mrg_last hmr (by omega)), rfl, hs.take 1⟩
                omega
        ·
          replace c10 := of_decide_eq_false c10
          refine W_exit ?_
          refine ⟨_, res_none Tryz.results90, ?_⟩
          exact ⟨m2, rfl, hs.take 1, hz2, hpm2.perm, ord_all (blk_all hb2 (by omega)) (by omega)⟩
set_option maxRecDepth 20000 in
set_option maxHeartbeats 4000000 in
theorem ssS_ok (w : World) (S : Nat → Prop) (a : Option Addr) (N c : Nat) (l : List Cen) (hz : l.length = N) (hN : N ≤ 1152921504606846975) (g : Nat) (hg : En Tryz.prog g) (cf : Cen → Cen → Int) (hc : CmpO cf) (hcmp : ∀ (w : World) (x y : Cen), Calls Tryz.prog g #[.agg (cec x).toArray, .agg (cec y).toArray] w (fun e w' => e = .returned (.int .i64 (cf x y)) ∧ Own w no w' [])) (hR : (row (.slice a N c) (l.map cec) 59 7).holds w S) (hlt : ∀ b, S b → b < w.heap.size) : Calls Tryz.prog 55 #[.slice a N c, .func (.func g) #[] #[]] w (fun e w' => ∃ x : List Cen, e = .returned (.tuple #[]) ∧ Own w S w' [row (.slice a N c) (x.map cec) 59 7] ∧ (x.length = N ∧ x.Perm l ∧ SrtL cf x)) := by
  refine calls_of_Wn (n := 9) Tryz.func55 rfl Tryz.ntmps55 rfl ?_
  have hs := Own.lent hR hlt
  refine W_region ?_
  refine RW_op (L_move (V := .slice a N c) rfl ?_)
  refine RW_op (L_move (V := .slice a N c) rfl ?_)
  refine RW_op (L_lenR (n := N) UD_36 (hs.rd 0 rfl) (by simp [hz]) rfl ?_)
  refine RW_op (L_move (V := .func (.func g) #[] #[]) rfl ?_)
  refine RW_op (L_callB (α := List Cen) (vs := [.slice a N c, .int .i64 ((N : Nat) : Int), .func (.func g) #[] #[]]) (V := fun _ => .tuple #[]) (R := row (.slice a N c) (l.map cec) 59 7) (R' := fun x => row (.slice a N c) (x.map cec) 59 7) (Lo := fun _ => []) (F := fun x _ => x.length = N ∧ x.Perm l ∧ SrtL cf x) EN_90 rfl rfl hs 0 rfl (fun S hS hlt => stS_ok _ S a N c l hz hN g hg cf hc hcmp hS hlt) fun mz1 w2 hs hF3 => ?_)
  refine RW_nil ?_
  refine ⟨_, res_none Tryz.results55, ?_⟩
  exact ⟨mz1, rfl, hs.take 1, hF3⟩
end Tt
end Go.Proofs
namespace Go.Proofs
open Go Go.Vx Go.RowKit
namespace Tt
set_option maxRecDepth 20000 in
set_option maxHeartbeats 4000000 in
theorem cView_ok (w : World) (s : Sta) (a1 : Option Addr) (c1 : Nat) (a2 : Option Addr) (c2 : Nat) (n : Int) (hok : StaOk s) (hle : s.ents.length ≤ 1000) (hlt : s.ticks.length ≤ 1000) (hr1 : Rd w (.slice a1 s.ents.length c1) 7 (s.ents.map cec)) (hr2 : Rd w (.slice a2 s.ticks.length c2) 2 (s.ticks.map lsc)) : Calls Tryz.prog 20 #[.agg ((vc s.known) ++ [(.slice a1 s.ents.length c1 : Value), (.slice a2 s.ticks.length c2 : Value) ]).toArray, .int .u16 n] w (fun e w' => ∃ x : Option Addr × Nat, e = .returned (.agg [.int .u16 (viewC s n (rightS s)).cart, .slice x.1 (viewC s n (rightS s)).lines.length x.2, .bool (viewC s n (rightS s)).out, .int .u32 (viewC s n (rightS s)).tick].toArray) ∧ Own w no w' [row (.slice x.1 (viewC s n (rightS s)).lines.length x.2) ((viewC s n (rightS s)).lines.map lc) 74 2] ∧ True) := by
  refine calls_of_Wn (n := 94) Tryz.func20 rfl Tryz.ntmps20 rfl ?_
  have hs := Own.start w
  have ⟨hv0, hE0, hT0⟩ := hok
  refine W_seq ?_
  refine W_region ?_
  refine RW_op (L_box (V := .agg ((vc s.known) ++ [(.slice a1 s.ents.length c1 : Value), (.slice a2 s.ticks.length c2 : Value) ]).toArray) (cs := (vc s.known) ++ [(.slice a1 s.ents.length c1 : Value), (.slice a2 s.ticks.length c2 : Value) ]) rfl rfl hs fun b1 w2 hs => ?_)
  refine RW_op (L_alloc (cs := [.int .u16 0, .slice none 0 0, .bool false, .int .u32 0]) ZV_64 rfl hs fun b3 w4 hs => ?_)
  refine RW_nil ?_
  refine W_seq ?_
  refine W_region ?_
  refine RW_op (L_move (V := .int .u16 n) rfl ?_)
  refine RW_op (L_build (vs := [(0, .int .u16 n)]) (cs := [.int .u16 n, .slice none 0 0, .bool false, .int .u32 0]) BT_64 (rfl) rfl ?_)
  refine RW_op (L_alloc (cs := [.int .u16 0, .slice none 0 0, .bool false, .int .u32 0]) ZV_64 rfl hs fun b5 w6 hs => ?_)
  refine RW_op (L_st (V := .agg #[.int .u16 n, .slice none 0 0, .bool false, .int .u32 0]) (vs := [.int .u16 n, .slice none 0 0, .bool false, .int .u32 0]) (cs' := [.int .u16 n, .slice none 0 0, .bool false, .int .u32 0]) SA_64.1 hs 2 rfl rfl rfl rfl rfl (Nat.le_of_ble_eq_true rfl) (one_cons rfl (one_cons rfl (one_cons rfl (one_cons rfl one_nil)))) (spl_whole rfl) fun w7 hs => ?_)
  replace hs : Own w no w7 [blk b1 ((vc s.known) ++ [(.slice a1 s.ents.length c1 : Value), (.slice a2 s.ticks.length c2 : Value) ]) 39, blk b3 [.int .u16 0, .slice none 0 0, .bool false, .int .u32 0] 64, blk b5 [.int .u16 n, .slice none 0 0, .bool false, .int .u32 0] 64] := hs
  refine RW_nil ?_
  refine W_seq ?_
  refine W_seq ?_
  refine W_region ?_
  refine RW_op (L_ldW (cs := (vc s.known) ++ [(.slice a1 s.ents.length c1 : Value), (.slice a2 s.ticks.length c2 : Value) ]) SA_39 hs 0 rfl rfl rfl ?_)
  refine RW_op (L_callP (vs := [.agg ((vc s.known) ++ [(.slice a1 s.ents.length c1 : Value), (.slice a2 s.ticks.length c2 : Value) ]).toArray]) (V := .bool (rightS s)) EN_10 rfl rfl ?hc hs fun w8 hs => ?_)
  case hc => exact (cRight_ok _ s a1 c1 a2 c2 hok (by omega) (by omega) (Rd.own' hr1 hs) (Rd.own' hr2 hs))
  refine RW_op (L_not rfl ?_)
  refine RW_nil ?_
  refine W_cond (t := !(rightS s)) rfl (fun c9 => ?_) (fun c9 => ?_)
  ·
    replace c9 := not_t c9
    refine W_seq ?_
    refine W_region ?_
    refine RW_op (L_ldW (cs := [.int .u16 n, .slice none 0 0, .bool false, .int .u32 0]) SA_64 hs 2 rfl rfl rfl ?_)
    refine RW_op (L_st (V := .agg #[.int .u16 n, .slice none 0 0, .bool false, .int .u32 0]) (vs := [.int .u16 n, .slice none 0 0, .bool false, .int .u32 0]) (cs' := [.int .u16 n, .slice none 0 0, .bool false, .int .u32 0]) SA_64.1 hs 1 rfl rfl rfl rfl rfl (Nat.le_of_ble_eq_true rfl) (one_cons rfl (one_cons rfl (one_cons rfl (one_cons rfl one_nil)))) (spl_whole rfl) fun w10 hs => ?_)
    refine RW_nil ?_
    refine W_ret ?_
    refine ⟨_, res_cell (cs := [.int .u16 n, .slice none 0 0, .bool false, .int .u32 0]) Tryz.results20 SA_64 hs 1 rfl rfl rfl, ?_⟩
    rw [c9]
    exact ⟨(none, 0), rfl, (hs.take 0).more _ (row_nil _ _ 74 2), trivial⟩
  ·
    replace c9 := not_f c9
    refine W_skip ?_
    refine W_seq ?_
    refine W_seq ?_
    have hrc := rightS_iff.1 c9
    refine W_region ?_
    refine RW_op (L_ldW (cs := (vc s.known) ++ [(.slice a1 s.ents.length c1 : Value), (.slice a2 s.ticks.length c2 : Value) ]) SA_39 hs 0 rfl rfl rfl ?_)
    refine RW_op (L_move (V := .int .u16 n) rfl ?_)
    refine RW_op (L_callP (vs := [.agg ((vc s.known) ++ [(.slice a1 s.ents.length c1 : Value), (.slice a2 s.ticks.length c2 : Value) ]).toArray, .int .u16 n]) (V := .tuple #[.int .i64 ((posT s.ticks n : Nat) : Int), .bool ((tickP s.ticks n).isSome)]) EN_45 rfl rfl ?hc hs fun w11 hs => ?_)
    case hc => exact (sFind_ok _ s.known (.slice a1 s.ents.length c1) a2 c2 s.ticks n (by omega) hrc.rt (Rd.own' hr2 hs))
    refine RW_op (L_move (V := .tuple #[.int .i64 ((posT s.ticks n : Nat) : Int), .bool ((tickP s.ticks n).isSome)]) rfl ?_)
    refine RW_op (L_extract (V := .int .i64 ((posT s.ticks n : Nat) : Int)) rfl rfl ?_)
    refine RW_op (L_extract (V := .bool ((tickP s.ticks n).isSome)) rfl rfl ?_)
    refine RW_op (L_assign (V := .int .i64 ((posT s.ticks n : Nat) : Int)) rfl ?_)
    refine RW_op (L_assign (V := .bool ((tickP s.ticks n).isSome)) rfl ?_)
    refine RW_nil ?_
    refine W_seq ?_
    refine W_region ?_
    refine RW_op (L_move (V := .bool ((tickP s.ticks n).isSome)) rfl ?_)
    refine RW_nil ?_
    refine W_mid (fun ρ ρ' w' => ∃ (ρo : Env) (tk : Int), ρ' = mix [25, 26, 27, 28, 29, 30, 31] ρo ρ ∧ (tk = (tickP s.ticks n).getD 0) ∧ Own w no w' [blk b1 ((vc s.known) ++ [(.slice a1 s.ents.length c1 : Value), (.slice a2 s.ticks.length c2 : Value) ]) 39, blk b3 [.int .u16 0, .slice none 0 0, .bool false, .int .u32 0] 64, blk b5 [.int .u16 n, .slice none 0 0, .bool false, .int .u32 tk] 64]) ?_ ?_
    ·
      refine W_cond (t := (tickP s.ticks n).isSome) rfl (fun c12 => ?_) (fun c12 => ?_)
      ·
        have hfa := (find_at hrc.rt c12).1
        refine W_region ?_
        refine RW_op (L_fieldAddr FA_39_2 rfl ?_)
        refine RW_op (L_ld (V := .slice a2 s.ticks.length c2) S1_37 hs 0 rfl rfl rfl ?_)
        refine RW_op (L_move (V := .int .i64 ((posT s.ticks n : Nat) : Int)) rfl ?_)
        refine RW_op (L_ixR UD_37 SA_87.1 (Rd.own' hr2 hs) rfl rfl (by omega) (by rw [List.length_map]; omega) ?_)
        refine RW_op (L_fieldAddr FA_87_1 rfl ?_)
        refine RW_op (L_ldR (j := 1) (V := .int .u32 ((gd s.ticks (posT s.ticks n)).tick)) (posT s.ticks n) S1_22 (Rd.own' hr2 hs) (gd_at (by omega)) rfl rfl (by omega) ?_)
        refine RW_op (L_fieldAddr FA_64_3 rfl ?_)
        refine RW_op (L_st1 (V := .int .u32 ((gd s.ticks (posT s.ticks n)).tick)) (cs' := [.int .u16 n, .slice none 0 0, .bool false, .int .u32 ((gd s.ticks (posT s.ticks n)).tick)]) S1_22 hs 2 rfl rfl rfl rfl (Nat.le_of_ble_eq_true rfl) rfl fun w13 hs => ?_)
        refine RW_nil ?_
        exact ⟨_, (gd s.ticks (posT s.ticks n)).tick, mix_of (ds := [25, 26, 27, 28, 29, 30, 31]) (by repeat (first | exact Agr.refl _ _ | refine Agr.upd ?_ rfl | refine Agr.mix ?_ rfl)), (by rw [(find_at hrc.rt c12).2.2]; rfl), hs.take 3⟩
      ·
        refine W_skip ?_
        exact ⟨_, 0, mix_of (ds := [25, 26, 27, 28, 29, 30, 31]) (by repeat (first | exact Agr.refl _ _ | refine Agr.upd ?_ rfl | refine Agr.mix ?_ rfl)), (tick_no c12), hs.take 3⟩
    · rintro ρ' w14 ⟨ρo, tk, rfl, htk, hs⟩
      refine W_seq ?_
      refine W_region ?_
      refine RW_op (L_assign (V := .slice none 0 0) rfl ?_)
      refine RW_nil ?_
      refine W_seq ?_
      refine W_seq ?_
      refine W_region ?_
      refine RW_op (L_fieldAddr FA_39_1 rfl ?_)
      refine RW_op (L_ld (V := .slice a1 s.ents.length c1) S1_36 hs 0 rfl rfl rfl ?_)
      refine RW_op (L_lenR (n := s.ents.length) UD_36 (Rd.own' hr1 hs) (by simp) rfl ?_)
      refine RW_op (L_move (V := .int .i64 0) rfl ?_)
      refine RW_nil ?_
      refine W_block ?_
      replace hs := hs.more (row (.slice none 0 0) (List.map cec []) 59 7) (row_nil _ _ _ _)
      refine W_loopI (fun ρ μ ρ' w' => ∃ (ρo : Env) (k : Nat) (an9 : Option Addr) (cn9 : Nat) (L9 : List Cen) (ou : Bool), ρ' = upd (upd (mix [8, 10, 35, 36, 37, 38, 39, 40, 41, 42, 43, 44, 45, 46, 47, 48, 49, 50, 51, 52, 53] ρo ρ) 35 (.int .i64 ((k : Nat) : Int))) 8 (.slice an9 L9.length cn9) ∧ (k ≤ s.ents.length) ∧ (L9 = (s.ents.take k).filter (fun e : Cen => decide (e.cart = n) && !decide (e.kind = 4))) ∧ (ou = (s.ents.take k).any (fun e : Cen => decide (e.cart = n) && decide (e.kind = 4))) ∧ (L9.length ≤ k) ∧ μ = s.ents.length - k ∧ Own w no w' [blk b1 ((vc s.known) ++ [(.slice a1 s.ents.length c1 : Value), (.slice a2 s.ticks.length c2 : Value) ]) 39, blk b3 [.int .u16 0, .slice none 0 0, .bool false, .int .u32 0] 64, blk b5 [.int .u16 n, .slice none 0 0, .bool ou, .int .u32 tk] 64, row (.slice an9 L9.length cn9) (L9.map cec) 59 7]) ?_ ?_
      · exact ⟨_, _, 0, none, 0, [], false, upd_of (upd_of (mix_of (ds := [8, 10, 35, 36, 37, 38, 39, 40, 41, 42, 43, 44, 45, 46, 47, 48, 49, 50, 51, 52, 53]) (Agr.refl _ _)) rfl) rfl, (by omega), rfl, rfl, (Nat.le_refl _), rfl, hs⟩
      · rintro μ ρ' w15 ⟨ρo, k, an9, cn9, L9, ou, rfl, hk, hL9, hob, hl9, rfl, hs⟩
        refine W_seq ?_
        refine W_region ?_
        refine RW_op (L_lss rfl rfl ?_)
        refine RW_nil ?_
        refine W_seq ?_
        refine W_cond (t := decide (((k : Nat) : Int) < ((s.ents.length : Nat) : Int))) rfl (fun c16 => ?_) (fun c16 => ?_)
        ·
          replace c16 := of_decide_eq_true c16
          refine W_skip ?_
          refine W_seq ?_
          refine W_block ?_
          refine W_seq ?_
          refine W_region ?_
          refine RW_op (L_ixR UD_36 SA_59.1 (Rd.own' hr1 hs) rfl rfl (by omega) (by rw [List.length_map]; omega) ?_)
          refine RW_op (L_ldRA (j := 0) (vs := cec (gd s.ents k)) k SA_59 (Rd.own' hr1 hs) (gd_at (by omega)) rfl rfl rfl (by omega) ?_)
          refine RW_op (L_alloc (cs := cec (⟨0, 0, 0, 0, (⟨0, 0⟩ : Dot), 0⟩ : Cen)) ZV_59 rfl hs fun b17 w18 hs => ?_)
          refine RW_op (L_st (V := .agg (cec (gd s.ents k)).toArray) (vs := cec (gd s.ents k)) (cs' := cec (gd s.ents k)) SA_59.1 hs 4 rfl rfl rfl rfl rfl (Nat.le_of_ble_eq_true rfl) (cec_one _) (spl_whole rfl) fun w19 hs => ?_)
          refine RW_nil ?_
          refine W_block ?_
          refine W_seq ?_
          refine W_region ?_
          refine RW_op (L_fieldAddr FA_59_0 rfl ?_)
          refine RW_op (L_ld (V := .int .u16 ((gd s.ents k).cart)) S1_31 hs 4 rfl rfl rfl ?_)
          refine RW_op (L_move (V := .int .u16 n) rfl ?_)
          refine RW_op (L_neq rfl rfl ?_)
          refine RW_op (L_assign (V := .bool (!decide ((gd s.ents k).cart = n))) rfl ?_)
          refine RW_nil ?_
          refine W_cond (t := !decide ((gd s.ents k).cart = n)) rfl (fun c20 => ?_) (fun c20 => ?_)
          ·
            replace c20 := not_t c20
            replace c20 := of_decide_eq_false c20
            refine W_skip ?_
            refine W_region ?_
            refine RW_op (L_add (a := ((k : Nat) : Int)) (b := 1) (c := ((k + 1 : Nat) : Int)) rfl rfl (nat_i64 (by omega) (by omega)) ?_)
            refine RW_op (L_move (V := .int .i64 ((k + 1 : Nat) : Int)) rfl ?_)
            refine RW_nil ?_
            refine ⟨_, ?_, _, k + 1, an9, cn9, L9, ou, upd_of (upd_of (mix_of (ds := [8, 10, 35, 36, 37, 38, 39, 40, 41, 42, 43, 44, 45, 46, 47, 48, 49, 50, 51, 52, 53]) (by repeat (first | exact Agr.refl _ _ | refine Agr.upd ?_ rfl | refine Agr.mix ?_ rfl))) rfl) rfl, (by omega), (filt_next_no (p := (fun e : Cen => decide (e.cart = n) && !decide (e.kind = 4))) hL9 (by omega) (by simp [c20])), (by rw [← anyT_next (p := (fun e : Cen => decide (e.cart = n) && decide (e.kind = 4))) hob (by omega)]; simp [c20]), (by omega), rfl, hs.take 4⟩
            omega
          ·
            replace c20 := not_f c20
            replace c20 := of_decide_eq_true c20
            refine W_seq ?_
            refine W_region ?_
            refine RW_op (L_fieldAddr FA_59_3 rfl ?_)
            refine RW_op (L_ld (V := .int .u8 ((gd s.ents k).kind)) S1_5 hs 4 rfl rfl rfl ?_)
            refine RW_op (L_eql rfl rfl ?_)
            refine RW_op (L_assign (V := .bool (decide ((gd s.ents k).kind = 4))) rfl ?_)
            refine RW_nil ?_
            refine W_cond (t := decide ((gd s.ents k).kind = 4)) rfl (fun c21 => ?_) (fun c21 => ?_)
            ·
              replace c21 := of_decide_eq_true c21
              refine W_region ?_
              refine RW_op (L_fieldAddr FA_64_2 rfl ?_)
              refine RW_op (L_st1 (V := .bool true) (cs' := [.int .u16 n, .slice none 0 0, .bool true, .int .u32 tk]) S1_4 hs 2 rfl rfl rfl rfl (Nat.le_of_ble_eq_true rfl) rfl fun w22 hs => ?_)
              refine RW_nil ?_
              refine W_region ?_
              refine RW_op (L_add (a := ((k : Nat) : Int)) (b := 1) (c := ((k + 1 : Nat) : Int)) rfl rfl (nat_i64 (by omega) (by omega)) ?_)
              refine RW_op (L_move (V := .int .i64 ((k + 1 : Nat) : Int)) rfl ?_)
              refine RW_nil ?_
              refine ⟨_, ?_, _, k + 1, an9, cn9, L9, true, upd_of (upd_of (mix_of (ds := [8, 10, 35, 36, 37, 38, 39, 40, 41, 42, 43, 44, 45, 46, 47, 48, 49, 50, 51, 52, 53]) (by repeat (first | exact Agr.refl _ _ | refine Agr.upd ?_ rfl | refine Agr.mix ?_ rfl))) rfl) rfl, (by omega), (filt_next_no (p := (fun e : Cen => decide (e.cart = n) && !decide (e.kind = 4))) hL9 (by omega) (by simp [c20, c21])), (by rw [← anyT_next (p := (fun e : Cen => decide (e.cart = n) && decide (e.kind = 4))) hob (by omega)]; simp [c20, c21]), (by omega), rfl, hs.take 4⟩
              omega
            ·
              replace c21 := of_decide_eq_false c21
              refine W_region ?_
              refine RW_op (L_move (V := .slice an9 L9.length cn9) rfl ?_)
              refine RW_op (L_ldW (cs := cec (gd s.ents k)) SA_59 hs 4 rfl rfl rfl ?_)
              refine RW_op (L_bs (vals := [.agg (cec (gd s.ents k)).toArray]) (ls := List.map cec ([gd s.ents k] : List Cen)) EL_36 rfl rfl rfl (len_map (enc := cec) (fun _ => rfl) _) (one_map cec_one _) (Nat.le_of_ble_eq_true rfl) hs fun b23 w24 hs => ?_)
              refine RW_op (L_appN (ls' := (L9 ++ [gd s.ents k]).map cec) (n := (L9 ++ [gd s.ents k]).length) EL_36 hs 3 rfl rfl rfl (hs.rd 5 rfl) (one_map cec_one _) (by simp only [List.length_map, List.length_append, List.length_cons, List.length_nil]; omega) (by simp) (by simp) fun a25 c25 w26 hs => ?_)
              replace hs : Own w no w26 [blk b1 ((vc s.known) ++ [(.slice a1 s.ents.length c1 : Value), (.slice a2 s.ticks.length c2 : Value) ]) 39, blk b3 [.int .u16 0, .slice none 0 0, .bool false, .int .u32 0] 64, blk b5 [.int .u16 n, .slice none 0 0, .bool ou, .int .u32 tk] 64, row (.slice a25 ((L9 ++ [gd s.ents k]).length) c25) ((L9 ++ [gd s.ents k]).map cec) 59 7, blk b17 (cec (gd s.ents k)) 59, row (.slice (some ⟨b23, 0, none⟩) 1 1) ([gd s.ents k].map cec) 59 7] := hs
              refine RW_op (L_assign (V := .slice a25 ((L9 ++ [gd s.ents k]).length) c25) rfl ?_)
              refine RW_nil ?_
              refine W_region ?_
              refine RW_op (L_add (a := ((k : Nat) : Int)) (b := 1) (c := ((k + 1 : Nat) : Int)) rfl rfl (nat_i64 (by omega) (by omega)) ?_)
              refine RW_op (L_move (V := .int .i64 ((k + 1 : Nat) : Int)) rfl ?_)
              refine RW_nil ?_
              refine ⟨_, ?_, _, k + 1, a25, c25, L9 ++ [gd s.ents k], ou, upd_of (upd_of (mix_of (ds := [8, 10, 35, 36, 37, 38, 39, 40, 41, 42, 43, 44, 45, 46, 47, 48, 49, 50, 51, 52, 53]) (by repeat (first | exact Agr.refl _ _ | refine Agr.upd ?_ rfl | refine Agr.mix ?_ rfl))) rfl) rfl, (by omega), (filt_next_yes (p := (fun e : Cen => decide (e.cart = n) && !decide (e.kind = 4))) hL9 (by omega) (by simp [c20, c21])), (by rw [← anyT_next (p := (fun e : Cen => decide (e.cart = n) && decide (e.kind = 4))) hob (by omega)]; simp [c20, c21]), (by rw [List.length_append, List.length_singleton]; omega), rfl, hs.take 4⟩
              omega
        ·
          replace c16 := of_decide_eq_false c16
          refine W_exit ?_
          refine W_seq ?_
          refine W_region ?_
          refine RW_op (L_move (V := .slice an9 L9.length cn9) rfl ?_)
          refine RW_op (L_callB (α := List Cen) (vs := [.slice an9 L9.length cn9, .func (.func 56) #[] #[]]) (V := fun _ => .tuple #[]) (R := row (.slice an9 L9.length cn9) (L9.map cec) 59 7) (R' := fun x => row (.slice an9 L9.length cn9) (x.map cec) 59 7) (Lo := fun _ => []) (F := fun x _ => x.length = L9.length ∧ x.Perm L9 ∧ SrtL (fun x y : Cen => cmpI x.item y.item) x) EN_55 rfl rfl hs 3 rfl (fun S hS hlt => ssS_ok _ S an9 L9.length cn9 L9 rfl (by omega) 56 EN_56 (fun x y : Cen => cmpI x.item y.item) (cmpO_key (fun x : Cen => x.item)) (fun w x y => view1_ok w x y) hS hlt) fun sx28 w27 hs hF29 => ?_)
          refine RW_nil ?_
          refine W_seq ?_
          refine W_block ?_
          replace hs := hs.more (row (.slice none 0 0) (List.map lc []) 74 2) (row_nil _ _ _ _)
          obtain ⟨hQl, hQp, hQs⟩ := hF29
          have hLE : L9 = mineE s n := by rw [hL9, take_all (by omega)]; rfl
          rw [hLE] at hQp
          have hobE := hob
          rw [take_all (by omega)] at hobE
          have hQok : ∀ e ∈ sx28, CenOk e ∧ 1 ≤ e.count := fun e he => by
            have hq := mine_ent hrc (hQp.mem_iff.1 he)
            exact ⟨hE0 e hq.1, hq.2⟩
          refine W_loopI (fun ρ μ ρ' w' => ∃ (ρo : Env) (R : List Cen) (I : List Int) (an3 : Option Addr) (cn3 : Nat) (an6 : Option Addr) (cn6 : Nat) (ol : List Line), ρ' = upd (mix [8, 11, 56, 57, 58, 59, 60, 61, 62, 63, 64, 65, 66, 67, 68, 69, 70, 71, 72, 73, 74, 75, 76, 77, 78, 79, 80, 81, 82, 83, 84, 85, 86, 87, 88, 89, 90, 91, 92] ρo ρ) 8 (.slice an3 R.length cn3) ∧ (Grps sx28 R I) ∧ (ol = I.map (lineS s n)) ∧ (ol.length + R.length ≤ sx28.length) ∧ (∀ w' : World, Rd w' (.slice an9 L9.length cn9) 7 (sx28.map cec) → Rd w' (.slice an3 R.length cn3) 7 (R.map cec)) ∧ μ = R.length + 0 ∧ Own w no w' [blk b1 ((vc s.known) ++ [(.slice a1 s.ents.length c1 : Value), (.slice a2 s.ticks.length c2 : Value) ]) 39, blk b3 [.int .u16 0, .slice none 0 0, .bool false, .int .u32 0] 64, blk b5 [.int .u16 n, .slice an6 ol.length cn6, .bool ou, .int .u32 tk] 64, row (.slice an9 L9.length cn9) (sx28.map cec) 59 7, row (.slice an6 ol.length cn6) (ol.map lc) 74 2]) ?_ ?_
          · exact ⟨_, _, sx28, [], an9, cn9, none, 0, [], upd_of (mix_of (ds := [8, 11, 56, 57, 58, 59, 60, 61, 62, 63, 64, 65, 66, 67, 68, 69, 70, 71, 72, 73, 74, 75, 76, 77, 78, 79, 80, 81, 82, 83, 84, 85, 86, 87, 88, 89, 90, 91, 92]) (Agr.refl _ _)) (congrArg (fun n => Value.slice an9 n cn9) hQl.symm), (grps_start _), rfl, (by simp), (fun w' h => by rw [hQl]; exact h), rfl, hs⟩
          · rintro μ ρ' w30 ⟨ρo, R, I, an3, cn3, an6, cn6, ol, rfl, hgr, hol, hll, hvia, rfl, hs⟩
            refine W_seq ?_
            refine W_seq ?_
            refine W_region ?_
            refine RW_op (L_move (V := .slice an3 R.length cn3) rfl ?_)
            refine RW_op (L_lenR (n := R.length) UD_36 (hvia _ (hs.rd 3 rfl)) (by simp) rfl ?_)
            refine RW_op (L_gtr rfl rfl ?_)
            refine RW_nil ?_
            refine W_cond (t := decide (0 < ((R.length : Nat) : Int))) rfl (fun c31 => ?_) (fun c31 => ?_)
            ·
              replace c31 := of_decide_eq_true c31
              refine W_skip ?_
              refine W_block ?_
              refine W_seq ?_
              refine W_region ?_
              refine RW_op (L_assign (V := .int .i64 1) rfl ?_)
              refine RW_nil ?_
              refine W_seq ?_
              refine W_block ?_
              refine W_loopI (fun ρ μ ρ' w' => ∃ (ρo : Env) (j : Nat), ρ' = upd (mix [11, 59, 60, 61, 62, 63, 64, 65, 66, 67, 68, 69, 70, 71, 72, 73, 74, 75, 76] ρo ρ) 11 (.int .i64 ((j : Nat) : Int)) ∧ (1 ≤ j) ∧ (j ≤ R.length) ∧ (∀ i, i < j → (gd R i).item = (gd R 0).item) ∧ μ = R.length - j ∧ Own w no w' [blk b1 ((vc s.known) ++ [(.slice a1 s.ents.length c1 : Value), (.slice a2 s.ticks.length c2 : Value) ]) 39, blk b3 [.int .u16 0, .slice none 0 0, .bool false, .int .u32 0] 64, blk b5 [.int .u16 n, .slice an6 ol.length cn6, .bool ou, .int .u32 tk] 64, row (.slice an9 L9.length cn9) (sx28.map cec) 59 7, row (.slice an6 ol.length cn6) (ol.map lc) 74 2]) ?_ ?_
              · exact ⟨_, _, 1, upd_of (mix_of (ds := [11, 59, 60, 61, 62, 63, 64, 65, 66, 67, 68, 69, 70, 71, 72, 73, 74, 75, 76]) (Agr.refl _ _)) rfl, (Nat.le_refl _), (by omega), (fun i hi => by rw [show i = 0 by omega]), rfl, hs⟩
              · rintro μ ρ' w32 ⟨ρo, j, rfl, hj1, hj2, hji, rfl, hs⟩
                refine W_seq ?_
                refine W_seq ?_
                refine W_regD HM [some 59, some 60, some 61, some 62, some 63, some 64, some 65, some 66, some 67, some 68, some 69, some 70, some 71, some 72, some 73, some 74] [] [0, 0, 2, 7, 15, 31, 31, 127, 255, 511, 31, 1055, 3103, 7199, 16383, 32767] [pv (.int .i64 ((j : Nat) : Int)), pv (.slice an3 R.length cn3), pv (.int .i64 ((R.length : Nat) : Int)), pv (.bool (decide (((j : Nat) : Int) < ((R.length : Nat) : Int)))), pv (.bool (decide (((j : Nat) : Int) < ((R.length : Nat) : Int)))), pg ((decide (((j : Nat) : Int) < ((R.length : Nat) : Int))) == true) (.slice an3 R.length cn3), pg ((decide (((j : Nat) : Int) < ((R.length : Nat) : Int))) == true) (.int .i64 ((j : Nat) : Int)), pg ((decide (((j : Nat) : Int) < ((R.length : Nat) : Int))) == true) (.pointer (some ⟨bkS (.slice an3 R.length cn3), ofS (.slice an3 R.length cn3) + ((j : Nat) : Int).toNat * 7, none⟩)), pg ((decide (((j : Nat) : Int) < ((R.length : Nat) : Int))) == true) (.pointer (some ⟨bkS (.slice an3 R.length cn3), ofS (.slice an3 R.length cn3) + ((j : Nat) : Int).toNat * 7 + 1, none⟩)), pg ((decide (((j : Nat) : Int) < ((R.length : Nat) : Int))) == true) (.int .u16 ((gd R j).item)), pg ((decide (((j : Nat) : Int) < ((R.length : Nat) : Int))) == true) (.slice an3 R.length cn3), pg ((decide (((j : Nat) : Int) < ((R.length : Nat) : Int))) == true) (.pointer (some ⟨bkS (.slice an3 R.length cn3), ofS (.slice an3 R.length cn3) + (0 : Int).toNat * 7, none⟩)), pg ((decide (((j : Nat) : Int) < ((R.length : Nat) : Int))) == true) (.pointer (some ⟨bkS (.slice an3 R.length cn3), ofS (.slice an3 R.length cn3) + (0 : Int).toNat * 7 + 1, none⟩)), pg ((decide (((j : Nat) : Int) < ((R.length : Nat) : Int))) == true) (.int .u16 ((gd R 0).item)), pg ((decide (((j : Nat) : Int) < ((R.length : Nat) : Int))) == true) (.bool (decide ((gd R j).item = (gd R 0).item))), pv (.bool ((decide (((j : Nat) : Int) < ((R.length : Nat) : Int))) && (decide ((gd R j).item = (gd R 0).item))))] (fun _ _ => _) [15] (by kernel_rfl) hs ⟨?_, ?_, ?_, ?_, ?_, ?_, ?_, ?_, ?_, ?_, ?_, ?_, ?_, ?_, ?_, ?_, trivial⟩ ?_
                · exact ob [] [] rfl rfl fun D ρ w hs => L_move (V := .int .i64 ((j : Nat) : Int)) rfl ⟨rfl, hs⟩
                · exact ob [] [] rfl rfl fun D ρ w hs => L_move (V := .slice an3 R.length cn3) rfl ⟨rfl, hs⟩
                · exact ob [1] [] rfl rfl fun D ρ w hs => L_lenR (n := R.length) UD_36 (hvia _ (hs.rd 3 rfl)) (by simp) rfl ⟨rfl, hs⟩
                · exact ob [0, 2] [] rfl rfl fun D ρ w hs => L_lss rfl rfl ⟨rfl, hs⟩
                · exact ob [3] [] rfl rfl fun D ρ w hs => L_move (V := .bool (decide (((j : Nat) : Int) < ((R.length : Nat) : Int)))) rfl ⟨rfl, hs⟩
                · exact obg [4] [] (decide (((j : Nat) : Int) < ((R.length : Nat) : Int))) rfl (fun _ => rfl) rfl (fun _ _ _ _ h => h) fun D ρ w hG hs => L_move (V := .slice an3 R.length cn3) rfl ⟨rfl, hs⟩
                · exact obg [4] [] (decide (((j : Nat) : Int) < ((R.length : Nat) : Int))) rfl (fun _ => rfl) rfl (fun _ _ _ _ h => h) fun D ρ w hG hs => L_move (V := .int .i64 ((j : Nat) : Int)) rfl ⟨rfl, hs⟩
                · refine obgy [4, 5, 6] [] [5, 6] (decide (((j : Nat) : Int) < ((R.length : Nat) : Int))) rfl (fun _ => rfl) rfl (fun _ _ _ _ h => h) (fun hG => ⟨hG, hG, trivial⟩) fun D ρ w hG hs => ?_
                  have hgd := of_decide_eq_true (eq_of_beq (hG))
                  exact L_ixR UD_36 SA_59.1 (hvia _ (hs.rd 3 rfl)) rfl rfl (by omega) (by rw [List.length_map]; omega) ⟨rfl, hs⟩
                · exact obgy [4, 7] [] [7] (decide (((j : Nat) : Int) < ((R.length : Nat) : Int))) rfl (fun _ => rfl) rfl (fun _ _ _ _ h => h) (fun hG => ⟨hG, trivial⟩) fun D ρ w hG hs => L_fieldAddr FA_59_1 rfl ⟨rfl, hs⟩
                · refine obgy [4, 8] [] [8] (decide (((j : Nat) : Int) < ((R.length : Nat) : Int))) rfl (fun _ => rfl) rfl (fun _ _ _ _ h => h) (fun hG => ⟨hG, trivial⟩) fun D ρ w hG hs => ?_
                  have hgd := of_decide_eq_true (eq_of_beq (hG))
                  exact L_ldR (j := 1) (V := .int .u16 ((gd R j).item)) j S1_31 (hvia _ (hs.rd 3 rfl)) (gd_at (by omega)) rfl rfl (by omega) ⟨rfl, hs⟩
                · exact obg [4] [] (decide (((j : Nat) : Int) < ((R.length : Nat) : Int))) rfl (fun _ => rfl) rfl (fun _ _ _ _ h => h) fun D ρ w hG hs => L_move (V := .slice an3 R.length cn3) rfl ⟨rfl, hs⟩
                · refine obgy [4, 10] [] [10] (decide (((j : Nat) : Int) < ((R.length : Nat) : Int))) rfl (fun _ => rfl) rfl (fun _ _ _ _ h => h) (fun hG => ⟨hG, trivial⟩) fun D ρ w hG hs => ?_
                  have hgd := of_decide_eq_true (eq_of_beq (hG))
                  exact L_ixR UD_36 SA_59.1 (hvia _ (hs.rd 3 rfl)) rfl rfl (by decide) (by rw [List.length_map]; omega) ⟨rfl, hs⟩
                · exact obgy [4, 11] [] [11] (decide (((j : Nat) : Int) < ((R.length : Nat) : Int))) rfl (fun _ => rfl) rfl (fun _ _ _ _ h => h) (fun hG => ⟨hG, trivial⟩) fun D ρ w hG hs => L_fieldAddr FA_59_1 rfl ⟨rfl, hs⟩
                · refine obgy [4, 12] [] [12] (decide (((j : Nat) : Int) < ((R.length : Nat) : Int))) rfl (fun _ => rfl) rfl (fun _ _ _ _ h => h) (fun hG => ⟨hG, trivial⟩) fun D ρ w hG hs => ?_
                  have hgd := of_decide_eq_true (eq_of_beq (hG))
                  exact L_ldR (j := 1) (V := .int .u16 ((gd R 0).item)) 0 S1_31 (hvia _ (hs.rd 3 rfl)) (gd_at (by omega)) rfl rfl (by omega) ⟨rfl, hs⟩
                · exact obgy [4, 9, 13] [] [9, 13] (decide (((j : Nat) : Int) < ((R.length : Nat) : Int))) rfl (fun _ => rfl) rfl (fun _ _ _ _ h => h) (fun hG => ⟨hG, hG, trivial⟩) fun D ρ w hG hs => L_eql rfl rfl ⟨rfl, hs⟩
                · exact ob [4, 14] [] rfl rfl fun D ρ w hs => L_andC (h' := decide ((gd R j).item = (gd R 0).item)) rfl rfl rfl ⟨rfl, hs⟩
                rintro ρ1 w33 ρ2 hρ hs
                replace hρ : ρ2 = upd (mix [59, 60, 61, 62, 63, 64, 65, 66, 67, 68, 69, 70, 71, 72, 73, 74] ρ1 _) 74 (.bool ((decide (((j : Nat) : Int) < ((R.length : Nat) : Int))) && (decide ((gd R j).item = (gd R 0).item)))) := hρ
                subst hρ
                refine W_cond (t := (decide (((j : Nat) : Int) < ((R.length : Nat) : Int))) && (decide ((gd R j).item = (gd R 0).item))) rfl (fun c34 => ?_) (fun c34 => ?_)
                ·
                  have c34r := and_r c34
                  replace c34 := and_l c34
                  replace c34 := of_decide_eq_true c34
                  replace c34r := of_decide_eq_true c34r
                  refine W_skip ?_
                  refine W_block ?_
                  refine W_region ?_
                  refine RW_op (L_move (V := .int .i64 ((j : Nat) : Int)) rfl ?_)
                  refine RW_op (L_add (a := ((j : Nat) : Int)) (b := 1) (c := ((j + 1 : Nat) : Int)) rfl rfl (nat_i64 (by omega) (by omega)) ?_)
                  refine RW_op (L_assign (V := .int .i64 ((j + 1 : Nat) : Int)) rfl ?_)
                  refine RW_nil ?_
                  refine ⟨_, ?_, _, j + 1, upd_of (mix_of (ds := [11, 59, 60, 61, 62, 63, 64, 65, 66, 67, 68, 69, 70, 71, 72, 73, 74, 75, 76]) (by repeat (first | exact Agr.refl _ _ | refine Agr.upd ?_ rfl | refine Agr.mix ?_ rfl))) rfl, (by omega), (by omega), (fun i hi => by
  rcases Nat.lt_or_eq_of_le (Nat.le_of_lt_succ hi) with q | q
  · exact hji i q
  · subst q; exact c34r), rfl, hs.take 5⟩
                  omega
                ·
                  refine W_exit ?_
                  refine W_seq ?_
                  have hga := grp_all hrc hQp hgr hQs hj1 hj2 hji (by
                    have ht := c34
                    rcases Nat.lt_or_ge j R.length with q | q
                    · right; intro h; simp [q, h] at ht
                    · left; omega)
                  have hGok : ∀ e ∈ R.take j, CenOk e ∧ 1 ≤ e.count := fun e he => hQok e (grps_sub hgr e (List.mem_of_mem_take he))
                  replace hs := hs.more emp trivial
                  refine W_regD HM [some 77, some 78, some 79, some 80, some 81, some 82, some 83, some 84, some 85, some 86, some 87, some 88, some 89, none] [[], [], [], [], [], [], [], [], [], [], [87], [88]] [0, 1, 0, 4, 12, 28, 0, 0, 192, 508, 1020, 2047, 4095, 8191] [pv (.pointer (some ⟨b5, 0 + 1, none⟩)), pv (.slice an6 ol.length cn6), pv (.slice an3 R.length cn3), pv (.pointer (some ⟨bkS (.slice an3 R.length cn3), ofS (.slice an3 R.length cn3) + (0 : Int).toNat * 7, none⟩)), pv (.pointer (some ⟨bkS (.slice an3 R.length cn3), ofS (.slice an3 R.length cn3) + (0 : Int).toNat * 7 + 1, none⟩)), pv (.int .u16 ((gd R 0).item)), pv (.slice an3 R.length cn3), pv (.int .i64 ((j : Nat) : Int)), pv (.slice (sla an3 0 cn3 7) ((R.take j).length) (cn3 - 0)), pv (.agg (lc (⟨(gd R 0).item, qtyL (R.take j)⟩ : Line)).toArray), (true, fun ρ => .slice (some ⟨(bOf (ρ 87)), 0, none⟩) 1 1), (true, fun ρ => .slice (aOf (ρ 88)) ((ol ++ [(⟨(gd R 0).item, qtyL (R.take j)⟩ : Line)]).length) (cOf (ρ 88))), pv (.pointer (some ⟨b5, 0 + 1, none⟩)), pn] (fun D ρ => [blk b1 ((vc s.known) ++ [(.slice a1 s.ents.length c1 : Value), (.slice a2 s.ticks.length c2 : Value) ]) 39, blk b3 [.int .u16 0, .slice none 0 0, .bool false, .int .u32 0] 64, cond (D 13) (blk b5 [.int .u16 n, .slice (aOf (ρ 88)) ((ol ++ [(⟨(gd R 0).item, qtyL (R.take j)⟩ : Line)]).length) (cOf (ρ 88)), .bool ou, .int .u32 tk] 64) (blk b5 [.int .u16 n, .slice an6 ol.length cn6, .bool ou, .int .u32 tk] 64), row (.slice an9 L9.length cn9) (sx28.map cec) 59 7, cond (D 11) (row (.slice (aOf (ρ 88)) ((ol ++ [(⟨(gd R 0).item, qtyL (R.take j)⟩ : Line)]).length) (cOf (ρ 88))) ((ol ++ [(⟨(gd R 0).item, qtyL (R.take j)⟩ : Line)]).map lc) 74 2) (row (.slice an6 ol.length cn6) (ol.map lc) 74 2), cond (D 10) (row (.slice (some ⟨(bOf (ρ 87)), 0, none⟩) 1 1) ([(⟨(gd R 0).item, qtyL (R.take j)⟩ : Line)].map lc) 74 2) (emp)]) [] (by kernel_rfl) hs ⟨?_, ?_, ?_, ?_, ?_, ?_, ?_, ?_, ?_, ?_, ?_, ?_, ?_, ?_, trivial⟩ ?_
                  · exact ob [] [] rfl rfl fun D ρ w hs => L_fieldAddr FA_64_1 rfl ⟨rfl, hs⟩
                  · exact ob [0] [13] rfl rfl fun D ρ w hs => L_ld (V := .slice an6 ol.length cn6) S1_62 hs 2 rfl rfl rfl ⟨rfl, hs⟩
                  · exact ob [] [] rfl rfl fun D ρ w hs => L_move (V := .slice an3 R.length cn3) rfl ⟨rfl, hs⟩
                  · exact ob [2] [] rfl rfl fun D ρ w hs => L_ixR UD_36 SA_59.1 (hvia _ (hs.rd 3 rfl)) rfl rfl (by decide) (by rw [List.length_map]; omega) ⟨rfl, hs⟩
                  · exact ob [3] [] rfl rfl fun D ρ w hs => L_fieldAddr FA_59_1 rfl ⟨rfl, hs⟩
                  · exact ob [4] [] rfl rfl fun D ρ w hs => L_ldR (j := 1) (V := .int .u16 ((gd R 0).item)) 0 S1_31 (hvia _ (hs.rd 3 rfl)) (gd_at (by omega)) rfl rfl (by omega) ⟨rfl, hs⟩
                  · exact ob [] [] rfl rfl fun D ρ w hs => L_move (V := .slice an3 R.length cn3) rfl ⟨rfl, hs⟩
                  · exact ob [] [] rfl rfl fun D ρ w hs => L_move (V := .int .i64 ((j : Nat) : Int)) rfl ⟨rfl, hs⟩
                  · exact ob [6, 7] [] rfl rfl fun D ρ w hs => L_sl (l := 0) (h := j) (m := cn3) (n' := (R.take j).length) UDR_36 SA_59.1 (hvia _ (hs.rd 3 rfl)) rfl (.inl ⟨rfl, rfl⟩) (.inr ⟨_, _, rfl, rfl⟩) (.inl ⟨rfl, rfl⟩) (by omega) (by omega) (Nat.le_trans (show j ≤ R.length by omega) (Rd.roomM (hvia _ (hs.rd 3 rfl)))) (Nat.le_refl _) (by simp only [List.length_take, List.length_drop] <;> omega) ⟨rfl, hs⟩
                  · exact ob [5, 8] [] rfl rfl fun D ρ w hs => L_callP (vs := [.int .u16 ((gd R 0).item), .slice (sla an3 0 cn3 7) ((R.take j).length) (cn3 - 0)]) (V := .agg (lc (⟨(gd R 0).item, qtyL (R.take j)⟩ : Line)).toArray) EN_58 rfl rfl (line_ok _ ((gd R 0).item) (sla an3 0 cn3 7) (cn3 - 0) (R.take j) hGok (Rd.subM (hvia _ (hs.rd 3 rfl)) 0 j cn3 (by omega) (by omega) (Nat.le_trans (show j ≤ R.length by omega) (Rd.roomM (hvia _ (hs.rd 3 rfl)))) (Nat.le_refl _) _ (by simp only [List.length_take, List.length_drop] <;> omega))) hs fun _ hs => ⟨rfl, hs⟩
                  · exact ob [9] [] rfl rfl fun D ρ w hs => L_bs (vals := [.agg (lc (⟨(gd R 0).item, qtyL (R.take j)⟩ : Line)).toArray]) (ls := List.map lc ([(⟨(gd R 0).item, qtyL (R.take j)⟩ : Line)] : List Line)) EL_62 rfl rfl rfl (len_map (enc := lc) (fun _ => rfl) _) (one_map lc_one _) (Nat.le_of_ble_eq_true rfl) hs fun _ _ hs => ⟨rfl, hs.put 5 (Nat.le_of_ble_eq_true rfl)⟩
                  · exact ob [1, 10] [13] rfl rfl fun D ρ w hs => L_appN (ls' := (ol ++ [(⟨(gd R 0).item, qtyL (R.take j)⟩ : Line)]).map lc) (n := (ol ++ [(⟨(gd R 0).item, qtyL (R.take j)⟩ : Line)]).length) EL_62 hs 4 rfl rfl rfl (hs.rd 5 rfl) (one_map lc_one _) (by simp only [List.length_map, List.length_append, List.length_cons, List.length_nil]; omega) (by simp) (by simp) fun _ _ _ hs => ⟨rfl, hs⟩
                  · exact ob [] [] rfl rfl fun D ρ w hs => L_fieldAddr FA_64_1 rfl ⟨rfl, hs⟩
                  · exact ob [11, 12] [] rfl rfl fun D ρ w hs => L_st1 (V := .slice (aOf (ρ 88)) ((ol ++ [(⟨(gd R 0).item, qtyL (R.take j)⟩ : Line)]).length) (cOf (ρ 88))) (cs' := [.int .u16 n, .slice (aOf (ρ 88)) ((ol ++ [(⟨(gd R 0).item, qtyL (R.take j)⟩ : Line)]).length) (cOf (ρ 88)), .bool ou, .int .u32 tk]) S1_62 hs 2 rfl rfl rfl rfl (Nat.le_of_ble_eq_true rfl) rfl fun _ hs => ⟨trivial, hs⟩
                  rintro ρ1 w39 ρ2 hρ hs
                  replace hρ : ρ2 = mix [77, 78, 79, 80, 81, 82, 83, 84, 85, 86, 87, 88, 89] ρ1 _ := hρ
                  replace hs : Own w no w39 [blk b1 ((vc s.known) ++ [(.slice a1 s.ents.length c1 : Value), (.slice a2 s.ticks.length c2 : Value) ]) 39, blk b3 [.int .u16 0, .slice none 0 0, .bool false, .int .u32 0] 64, blk b5 [.int .u16 n, .slice (aOf (ρ1 88)) ((ol ++ [(⟨(gd R 0).item, qtyL (R.take j)⟩ : Line)]).length) (cOf (ρ1 88)), .bool ou, .int .u32 tk] 64, row (.slice an9 L9.length cn9) (sx28.map cec) 59 7, row (.slice (aOf (ρ1 88)) ((ol ++ [(⟨(gd R 0).item, qtyL (R.take j)⟩ : Line)]).length) (cOf (ρ1 88))) ((ol ++ [(⟨(gd R 0).item, qtyL (R.take j)⟩ : Line)]).map lc) 74 2, row (.slice (some ⟨(bOf (ρ1 87)), 0, none⟩) 1 1) ([(⟨(gd R 0).item, qtyL (R.take j)⟩ : Line)].map lc) 74 2] := hs
                  generalize (bOf (ρ1 87)) = b40 at hs
                  generalize (aOf (ρ1 88)) = a41 at hs
                  generalize (cOf (ρ1 88)) = c42 at hs
                  subst hρ
                  refine W_region ?_
                  refine RW_op (L_move (V := .slice an3 R.length cn3) rfl ?_)
                  refine RW_op (L_move (V := .int .i64 ((j : Nat) : Int)) rfl ?_)
                  refine RW_op (L_sl (l := j) (h := R.length) (m := cn3) (n' := (R.drop j).length) UDR_36 SA_59.1 (hvia _ (hs.rd 3 rfl)) rfl (.inr ⟨_, _, rfl, rfl⟩) (.inl ⟨rfl, rfl⟩) (.inl ⟨rfl, rfl⟩) (by omega) (by omega) (Nat.le_trans (show R.length ≤ R.length by omega) (Rd.roomM (hvia _ (hs.rd 3 rfl)))) (Nat.le_refl _) (by simp only [List.length_take, List.length_drop] <;> omega) ?_)
                  refine RW_op (L_assign (V := .slice (sla an3 j cn3 7) ((R.drop j).length) (cn3 - j)) rfl ?_)
                  refine RW_nil ?_
                  refine ⟨_, ?_, _, R.drop j, I ++ [(gd R 0).item], (sla an3 j cn3 7), cn3 - j, a41, c42, ol ++ [(⟨(gd R 0).item, qtyL (R.take j)⟩ : Line)], upd_of (mix_of (ds := [8, 11, 56, 57, 58, 59, 60, 61, 62, 63, 64, 65, 66, 67, 68, 69, 70, 71, 72, 73, 74, 75, 76, 77, 78, 79, 80, 81, 82, 83, 84, 85, 86, 87, 88, 89, 90, 91, 92]) (by repeat (first | exact Agr.refl _ _ | refine Agr.upd ?_ rfl | refine Agr.mix ?_ rfl))) rfl, hga.1, (line_step hol hga.2), (by simp only [List.length_append, List.length_singleton, List.length_drop]; omega), (fun w' h => Rd.dropM (hvia w' h) j (by omega) _ (by rw [List.length_drop])), rfl, hs.take 5⟩
                  (rw [List.length_drop]; omega)
            ·
              replace c31 := of_decide_eq_false c31
              refine W_exit ?_
              refine W_seq ?_
              refine W_region ?_
              refine RW_op (L_ldW (cs := [.int .u16 n, .slice an6 ol.length cn6, .bool ou, .int .u32 tk]) SA_64 hs 2 rfl rfl rfl ?_)
              refine RW_op (L_st (V := .agg #[.int .u16 n, .slice an6 ol.length cn6, .bool ou, .int .u32 tk]) (vs := [.int .u16 n, .slice an6 ol.length cn6, .bool ou, .int .u32 tk]) (cs' := [.int .u16 n, .slice an6 ol.length cn6, .bool ou, .int .u32 tk]) SA_64.1 hs 1 rfl rfl rfl rfl rfl (Nat.le_of_ble_eq_true rfl) (one_cons rfl (one_cons rfl (one_cons rfl (one_cons rfl one_nil)))) (spl_whole rfl) fun w43 hs => ?_)
              refine RW_nil ?_
              refine W_ret ?_
              refine ⟨_, res_cell (cs := [.int .u16 n, .slice an6 ol.length cn6, .bool ou, .int .u32 tk]) Tryz.results20 SA_64 hs 1 rfl rfl rfl, ?_⟩
              have hV := view_of c9 htk hobE hQp hgr (by omega) hol
              rw [hV]
              exact ⟨(an6, cn6), rfl, hs.only 4 rfl, trivial⟩
end Tt
end Go.Proofs
namespace Go.Proofs
open Go Go.Vx Go.RowKit
namespace Tt
set_option maxRecDepth 20000 in
set_option maxHeartbeats 4000000 in
theorem cCarts_ok (w : World) (s : Sta) (a1 : Option Addr) (c1 : Nat) (a2 : Option Addr) (c2 : Nat) (hok : StaOk s) (hle : s.ents.length ≤ 1000) (hlt : s.ticks.length ≤ 1000) (hr1 : Rd w (.slice a1 s.ents.length c1) 7 (s.ents.map cec)) (hr2 : Rd w (.slice a2 s.ticks.length c2) 2 (s.ticks.map lsc)) : Calls Tryz.prog 24 #[.agg ((vc s.known) ++ [(.slice a1 s.ents.length c1 : Value), (.slice a2 s.ticks.length c2 : Value) ]).toArray] w (fun e w' => ∃ x : Option Addr × Nat, e = .returned (.slice x.1 (cartsS s).length x.2) ∧ Own w no w' [row (.slice x.1 (cartsS s).length x.2) ((cartsS s).map (ic .u16)) 31 1] ∧ True) := by
  refine calls_of_Wn (n := 23) Tryz.func24 rfl Tryz.ntmps24 rfl ?_
  have hs := Own.start w
  have ⟨hv0, hE0, hT0⟩ := hok
  refine W_seq ?_
  refine W_region ?_
  refine RW_op (L_box (V := .agg ((vc s.known) ++ [(.slice a1 s.ents.length c1 : Value), (.slice a2 s.ticks.length c2 : Value) ]).toArray) (cs := (vc s.known) ++ [(.slice a1 s.ents.length c1 : Value), (.slice a2 s.ticks.length c2 : Value) ]) rfl rfl hs fun b1 w2 hs => ?_)
  refine RW_op (L_assign (V := .slice none 0 0) rfl ?_)
  refine RW_nil ?_
  refine W_seq ?_
  refine W_seq ?_
  refine W_region ?_
  refine RW_op (L_ldW (cs := (vc s.known) ++ [(.slice a1 s.ents.length c1 : Value), (.slice a2 s.ticks.length c2 : Value) ]) SA_39 hs 0 rfl rfl rfl ?_)
  refine RW_op (L_callP (vs := [.agg ((vc s.known) ++ [(.slice a1 s.ents.length c1 : Value), (.slice a2 s.ticks.length c2 : Value) ]).toArray]) (V := .bool (rightS s)) EN_10 rfl rfl ?hc hs fun w3 hs => ?_)
  case hc => exact (cRight_ok _ s a1 c1 a2 c2 hok (by omega) (by omega) (Rd.own' hr1 hs) (Rd.own' hr2 hs))
  refine RW_op (L_not rfl ?_)
  refine RW_nil ?_
  refine W_cond (t := !(rightS s)) rfl (fun c4 => ?_) (fun c4 => ?_)
  ·
    replace c4 := not_t c4
    refine W_seq ?_
    refine W_region ?_
    refine RW_op (L_assign (V := .slice none 0 0) rfl ?_)
    refine RW_nil ?_
    refine W_ret ?_
    refine ⟨_, res_one (V := .slice none 0 0) Tryz.results24 rfl, ?_⟩
    have hX : cartsS s = [] := by unfold cartsS; rw [if_neg (by rw [c4]; decide)]
    rw [hX]
    exact ⟨(none, 0), rfl, (hs.take 0).more _ (row_nil _ _ _ _), trivial⟩
  ·
    replace c4 := not_f c4
    refine W_skip ?_
    refine W_seq ?_
    refine W_region ?_
    refine RW_op (L_assign (V := .slice none 0 0) rfl ?_)
    refine RW_nil ?_
    refine W_seq ?_
    refine W_seq ?_
    refine W_region ?_
    refine RW_op (L_fieldAddr FA_39_2 rfl ?_)
    refine RW_op (L_ld (V := .slice a2 s.ticks.length c2) S1_37 hs 0 rfl rfl rfl ?_)
    refine RW_op (L_lenR (n := s.ticks.length) UD_37 (Rd.own' hr2 hs) (by simp) rfl ?_)
    refine RW_op (L_move (V := .int .i64 0) rfl ?_)
    refine RW_nil ?_
    refine W_block ?_
    replace hs := hs.more (row (.slice none 0 0) (List.map (ic .u16) []) 31 1) (row_nil _ _ _ _)
    refine W_loopI (fun ρ μ ρ' w' => ∃ (ρo : Env) (k : Nat) (a9 : Option Addr) (c9 : Nat) (L9 : List Int), ρ' = upd (upd (mix [3, 5, 12, 13, 14, 15, 16, 17, 18, 19, 20, 21] ρo ρ) 12 (.int .i64 ((k : Nat) : Int))) 3 (.slice a9 L9.length c9) ∧ (k ≤ s.ticks.length) ∧ (L9 = (s.ticks.take k).map (·.cart)) ∧ (L9.length ≤ k) ∧ μ = s.ticks.length - k ∧ Own w no w' [blk b1 ((vc s.known) ++ [(.slice a1 s.ents.length c1 : Value), (.slice a2 s.ticks.length c2 : Value) ]) 39, row (.slice a9 L9.length c9) (L9.map (ic .u16)) 31 1]) ?_ ?_
    · exact ⟨_, _, 0, none, 0, [], upd_of (upd_of (mix_of (ds := [3, 5, 12, 13, 14, 15, 16, 17, 18, 19, 20, 21]) (Agr.refl _ _)) rfl) rfl, (by omega), rfl, (Nat.le_refl _), rfl, hs⟩
    · rintro μ ρ' w5 ⟨ρo, k, a9, c9, L9, rfl, hk, hL9, hl9, rfl, hs⟩
      refine W_seq ?_
      refine W_region ?_
      refine RW_op (L_lss rfl rfl ?_)
      refine RW_nil ?_
      refine W_seq ?_
      refine W_cond (t := decide (((k : Nat) : Int) < ((s.ticks.length : Nat) : Int))) rfl (fun c6 => ?_) (fun c6 => ?_)
      ·
        replace c6 := of_decide_eq_true c6
        refine W_skip ?_
        refine W_seq ?_
        refine W_block ?_
        refine W_seq ?_
        refine W_region ?_
        refine RW_op (L_ixR UD_37 SA_87.1 (Rd.own' hr2 hs) rfl rfl (by omega) (by rw [List.length_map]; omega) ?_)
        refine RW_op (L_ldRA (j := 0) (vs := lsc (gd s.ticks k)) k SA_87 (Rd.own' hr2 hs) (gd_at (by omega)) rfl rfl rfl (by omega) ?_)
        refine RW_op (L_alloc (cs := lsc (⟨0, 0⟩ : Lst)) ZV_87 rfl hs fun b7 w8 hs => ?_)
        refine RW_op (L_st (V := .agg (lsc (gd s.ticks k)).toArray) (vs := lsc (gd s.ticks k)) (cs' := lsc (gd s.ticks k)) SA_87.1 hs 2 rfl rfl rfl rfl rfl (Nat.le_of_ble_eq_true rfl) (lsc_one _) (spl_whole rfl) fun w9 hs => ?_)
        refine RW_nil ?_
        refine W_region ?_
        refine RW_op (L_move (V := .slice a9 L9.length c9) rfl ?_)
        refine RW_op (L_fieldAddr FA_87_0 rfl ?_)
        refine RW_op (L_ld (V := .int .u16 ((gd s.ticks k).cart)) S1_31 hs 2 rfl rfl rfl ?_)
        refine RW_op (L_bs (vals := [.int .u16 ((gd s.ticks k).cart)]) (ls := List.map (ic .u16) ([(gd s.ticks k).cart] : List Int)) EL_68 rfl rfl rfl (len_map (enc := (ic .u16)) (fun _ => rfl) _) (one_map (ic_one .u16) _) (Nat.le_of_ble_eq_true rfl) hs fun b10 w11 hs => ?_)
        replace hs : Own w no w11 [blk b1 ((vc s.known) ++ [(.slice a1 s.ents.length c1 : Value), (.slice a2 s.ticks.length c2 : Value) ]) 39, row (.slice a9 L9.length c9) (L9.map (ic .u16)) 31 1, blk b7 (lsc (gd s.ticks k)) 87, row (.slice (some ⟨b10, 0, none⟩) 1 1) ([(gd s.ticks k).cart].map (ic .u16)) 31 1] := hs
        refine RW_op (L_appN (ls' := (L9 ++ [(gd s.ticks k).cart]).map (ic .u16)) (n := (L9 ++ [(gd s.ticks k).cart]).length) EL_68 hs 1 rfl rfl rfl (hs.rd 3 rfl) (one_map (ic_one .u16) _) (by simp only [List.length_map, List.length_append, List.length_cons, List.length_nil]; omega) (by simp) (by simp) fun a12 c12 w13 hs => ?_)
        refine RW_op (L_assign (V := .slice a12 ((L9 ++ [(gd s.ticks k).cart]).length) c12) rfl ?_)
        refine RW_nil ?_
        refine W_region ?_
        refine RW_op (L_add (a := ((k : Nat) : Int)) (b := 1) (c := ((k + 1 : Nat) : Int)) rfl rfl (nat_i64 (by omega) (by omega)) ?_)
        refine RW_op (L_move (V := .int .i64 ((k + 1 : Nat) : Int)) rfl ?_)
        refine RW_nil ?_
        refine ⟨_, ?_, _, k + 1, a12, c12, L9 ++ [(gd s.ticks k).cart], upd_of (upd_of (mix_of (ds := [3, 5, 12, 13, 14, 15, 16, 17, 18, 19, 20, 21]) (by repeat (first | exact Agr.refl _ _ | refine Agr.upd ?_ rfl | refine Agr.mix ?_ rfl))) rfl) rfl, (by omega), (map_next (f := fun x : Lst => x.cart) hL9 (by omega)), (by rw [List.length_append, List.length_singleton]; omega), rfl, hs.take 2⟩
        omega
      ·
        replace c6 := of_decide_eq_false c6
        refine W_exit ?_
        refine W_seq ?_
        refine W_region ?_
        refine RW_op (L_move (V := .slice a9 L9.length c9) rfl ?_)
        refine RW_op (L_assign (V := .slice a9 L9.length c9) rfl ?_)
        refine RW_nil ?_
        refine W_ret ?_
        refine ⟨_, res_one (V := .slice a9 L9.length c9) Tryz.results24 rfl, ?_⟩
        have hX : L9 = cartsS s := by unfold cartsS; rw [if_pos c4, hL9, take_all (by omega)]
        rw [hX] at hs ⊢
        exact ⟨(a9, c9), rfl, hs.only 1 rfl, trivial⟩
end Tt
end Go.Proofs
namespace Go.Proofs
open Go Go.Vx Go.RowKit
namespace Tt
set_option maxRecDepth 20000 in
set_option maxHeartbeats 4000000 in
theorem sDots_ok (w : World) (s : Sta) (a1 : Option Addr) (c1 : Nat) (a2 : Option Addr) (c2 : Nat) (hr1 : Rd w (.slice a1 s.ents.length c1) 7 (s.ents.map cec)) (hr2 : Rd w (.slice a2 s.ticks.length c2) 2 (s.ticks.map lsc)) : Calls Tryz.prog 65 #[.agg ((vc s.known) ++ [(.slice a1 s.ents.length c1 : Value), (.slice a2 s.ticks.length c2 : Value) ]).toArray] w (fun e w' => ∃ x : Nat, e = .returned (.map (some x)) ∧ Own w no w' [mapR x dv cv (dotsM s.ents)] ∧ True) := by
  refine calls_of_Wn (n := 20) Tryz.func65 rfl Tryz.ntmps65 rfl ?_
  have hs := Own.start w
  have hn1 := hr1.sml
  refine W_seq ?_
  refine W_region ?_
  refine RW_op (L_box (V := .agg ((vc s.known) ++ [(.slice a1 s.ents.length c1 : Value), (.slice a2 s.ticks.length c2 : Value) ]).toArray) (cs := (vc s.known) ++ [(.slice a1 s.ents.length c1 : Value), (.slice a2 s.ticks.length c2 : Value) ]) rfl rfl hs fun b1 w2 hs => ?_)
  refine RW_op (L_assign (V := .map none) rfl ?_)
  refine RW_nil ?_
  refine W_seq ?_
  refine W_region ?_
  refine RW_op (L_makeMap rfl hs dv cv fun mr3 w4 hs => ?_)
  refine RW_op (L_assign (V := .map (some mr3)) rfl ?_)
  refine RW_nil ?_
  refine W_seq ?_
  refine W_seq ?_
  refine W_region ?_
  refine RW_op (L_fieldAddr FA_39_1 rfl ?_)
  refine RW_op (L_ld (V := .slice a1 s.ents.length c1) S1_36 hs 0 rfl rfl rfl ?_)
  refine RW_op (L_lenR (n := s.ents.length) UD_36 (Rd.own' hr1 hs) (by simp) rfl ?_)
  refine RW_op (L_move (V := .int .i64 0) rfl ?_)
  refine RW_nil ?_
  refine W_block ?_
  refine W_loopI (fun ρ μ ρ' w' => ∃ (ρo : Env) (k : Nat) (sm : List (Dot × Cen)), ρ' = upd (mix [5, 10, 11, 12, 13, 14, 15, 16, 17, 18] ρo ρ) 10 (.int .i64 ((k : Nat) : Int)) ∧ (k ≤ s.ents.length) ∧ (sm = dotsM (s.ents.take k)) ∧ μ = s.ents.length - k ∧ Own w no w' [blk b1 ((vc s.known) ++ [(.slice a1 s.ents.length c1 : Value), (.slice a2 s.ticks.length c2 : Value) ]) 39, mapR mr3 dv cv sm]) ?_ ?_
  · exact ⟨_, _, 0, [], upd_of (mix_of (ds := [5, 10, 11, 12, 13, 14, 15, 16, 17, 18]) (Agr.refl _ _)) rfl, (by omega), rfl, rfl, hs⟩
  · rintro μ ρ' w5 ⟨ρo, k, sm, rfl, hk, hsm, rfl, hs⟩
    refine W_seq ?_
    refine W_region ?_
    refine RW_op (L_lss rfl rfl ?_)
    refine RW_nil ?_
    refine W_seq ?_
    refine W_cond (t := decide (((k : Nat) : Int) < ((s.ents.length : Nat) : Int))) rfl (fun c6 => ?_) (fun c6 => ?_)
    ·
      replace c6 := of_decide_eq_true c6
      refine W_skip ?_
      refine W_seq ?_
      refine W_block ?_
      refine W_seq ?_
      refine W_region ?_
      refine RW_op (L_ixR UD_36 SA_59.1 (Rd.own' hr1 hs) rfl rfl (by omega) (by rw [List.length_map]; omega) ?_)
      refine RW_op (L_ldRA (j := 0) (vs := cec (gd s.ents k)) k SA_59 (Rd.own' hr1 hs) (gd_at (by omega)) rfl rfl rfl (by omega) ?_)
      refine RW_op (L_alloc (cs := cec (⟨0, 0, 0, 0, (⟨0, 0⟩ : Dot), 0⟩ : Cen)) ZV_59 rfl hs fun b7 w8 hs => ?_)
      refine RW_op (L_st (V := .agg (cec (gd s.ents k)).toArray) (vs := cec (gd s.ents k)) (cs' := cec (gd s.ents k)) SA_59.1 hs 2 rfl rfl rfl rfl rfl (Nat.le_of_ble_eq_true rfl) (cec_one _) (spl_whole rfl) fun w9 hs => ?_)
      replace hs : Own w no w9 [blk b1 ((vc s.known) ++ [(.slice a1 s.ents.length c1 : Value), (.slice a2 s.ticks.length c2 : Value) ]) 39, mapR mr3 dv cv sm, blk b7 (cec (gd s.ents k)) 59] := hs
      refine RW_nil ?_
      refine W_region ?_
      refine RW_op (L_move (V := .map (some mr3)) rfl ?_)
      refine RW_op (L_fieldAddr FA_59_4 rfl ?_)
      refine RW_op (L_ldA (vs := dc ((gd s.ents k).dot)) SA_30 hs 2 rfl rfl rfl rfl ?_)
      refine RW_op (L_ldW (cs := cec (gd s.ents k)) SA_59 hs 2 rfl rfl rfl ?_)
      refine RW_op (L_mapSet (k := (gd s.ents k).dot) (v := gd s.ents k) UD_119 KO_30 hs 1 rfl rfl rfl rfl fun w10 hs => ?_)
      refine RW_nil ?_
      refine W_region ?_
      refine RW_op (L_add (a := ((k : Nat) : Int)) (b := 1) (c := ((k + 1 : Nat) : Int)) rfl rfl (nat_i64 (by omega) (by omega)) ?_)
      refine RW_op (L_move (V := .int .i64 ((k + 1 : Nat) : Int)) rfl ?_)
      refine RW_nil ?_
      refine ⟨_, ?_, _, k + 1, mput ((gd s.ents k).dot) (gd s.ents k) sm, upd_of (mix_of (ds := [5, 10, 11, 12, 13, 14, 15, 16, 17, 18]) (by repeat (first | exact Agr.refl _ _ | refine Agr.upd ?_ rfl | refine Agr.mix ?_ rfl))) rfl, (by omega), (by rw [dotsM_next (by omega), ← hsm]), rfl, hs.take 2⟩
      omega
    ·
      replace c6 := of_decide_eq_false c6
      refine W_exit ?_
      refine W_seq ?_
      refine W_region ?_
      refine RW_op (L_move (V := .map (some mr3)) rfl ?_)
      refine RW_op (L_assign (V := .map (some mr3)) rfl ?_)
      refine RW_nil ?_
      refine W_ret ?_
      refine ⟨_, res_one (V := .map (some mr3)) Tryz.results65 rfl, ?_⟩
      have hE : sm = dotsM s.ents := by rw [hsm, take_all (by omega)]
      rw [hE] at hs
      exact ⟨mr3, rfl, hs.only 1 rfl, trivial⟩
end Tt
end Go.Proofs
namespace Go.Proofs
open Go Go.Vx Go.RowKit
namespace Tt
set_option maxRecDepth 20000 in
set_option maxHeartbeats 4000000 in
theorem cMerge_ok (w : World) (p : Sta) (a1p : Option Addr) (c1p : Nat) (a2p : Option Addr) (c2p : Nat) (q : Sta) (a1q : Option Addr) (c1q : Nat) (a2q : Option Addr) (c2q : Nat) (hsortE : SortC Tryz.prog 68 35 cec 59 7 srtE) (hokp : StaOk p) (hlep : p.ents.length ≤ 1000) (hltp : p.ticks.length ≤ 1000) (hokq : StaOk q) (hleq : q.ents.length ≤ 1000) (hltq : q.ticks.length ≤ 1000) (hr1p : Rd w (.slice a1p p.ents.length c1p) 7 (p.ents.map cec)) (hr2p : Rd w (.slice a2p p.ticks.length c2p) 2 (p.ticks.map lsc)) (hr1q : Rd w (.slice a1q q.ents.length c1q) 7 (q.ents.map cec)) (hr2q : Rd w (.slice a2q q.ticks.length c2q) 2 (q.ticks.map lsc)) : Calls Tryz.prog 26 #[.agg ((vc p.known) ++ [(.slice a1p p.ents.length c1p : Value), (.slice a2p p.ticks.length c2p : Value) ]).toArray, .agg ((vc q.known) ++ [(.slice a1q q.ents.length c1q : Value), (.slice a2q q.ticks.length c2q : Value) ]).toArray] w (fun e w' => ∃ x : (Option Addr × Nat) × (Option Addr × Nat), e = .returned (.tuple #[.agg (vc (mergeR p q).known ++ [(.slice x.1.1 (mergeR p q).ents.length x.1.2 : Value), (.slice x.2.1 (mergeR p q).ticks.length x.2.2 : Value)]).toArray, .int .i64 (mergeI p q)]) ∧ Own w no w' [row (.slice x.1.1 (mergeR p q).ents.length x.1.2) ((mergeR p q).ents.map cec) 59 7, row (.slice x.2.1 (mergeR p q).ticks.length x.2.2) ((mergeR p q).ticks.map lsc) 87 2] ∧ True) := by
  refine calls_of_Wn (n := 123) Tryz.func26 rfl Tryz.ntmps26 rfl ?_
  have hs := Own.start w
  have ⟨hpv, hpE, hpT⟩ := hokp
  have ⟨hqv, hqE, hqT⟩ := hokq
  refine W_seq ?_
  refine W_region ?_
  refine RW_op (L_box (V := .agg ((vc p.known) ++ [(.slice a1p p.ents.length c1p : Value), (.slice a2p p.ticks.length c2p : Value) ]).toArray) (cs := (vc p.known) ++ [(.slice a1p p.ents.length c1p : Value), (.slice a2p p.ticks.length c2p : Value) ]) rfl rfl hs fun b1 w2 hs => ?_)
  refine RW_op (L_box (V := .agg ((vc q.known) ++ [(.slice a1q q.ents.length c1q : Value), (.slice a2q q.ticks.length c2q : Value) ]).toArray) (cs := (vc q.known) ++ [(.slice a1q q.ents.length c1q : Value), (.slice a2q q.ticks.length c2q : Value) ]) rfl rfl hs fun b3 w4 hs => ?_)
  refine RW_op (L_alloc (cs := (vc vzero) ++ [(.slice none 0 0 : Value), (.slice none 0 0 : Value) ]) ZV_39 rfl hs fun b5 w6 hs => ?_)
  refine RW_op (L_assign (V := .int .i64 0) rfl ?_)
  refine RW_nil ?_
  refine W_seq ?_
  refine W_seq ?_
  refine W_regO [some 19, some 20, some 21, some 22, some 23, some 24, some 25, some 26] [] [0, 1, 3, 7, 15, 31, 63, 127] [pv (.agg ((vc p.known) ++ [(.slice a1p p.ents.length c1p : Value), (.slice a2p p.ticks.length c2p : Value) ]).toArray), pv (.bool (rightS p)), pv (.bool (!(rightS p))), pv (.bool (!(rightS p))), pg ((!(rightS p)) == false) (.agg ((vc q.known) ++ [(.slice a1q q.ents.length c1q : Value), (.slice a2q q.ticks.length c2q : Value) ]).toArray), pg ((!(rightS p)) == false) (.bool (rightS q)), pg ((!(rightS p)) == false) (.bool (!(rightS q))), pv (.bool ((!(rightS p)) || (!(rightS q))))] (fun _ _ => _) [7] (by kernel_rfl) hs ⟨?_, ?_, ?_, ?_, ?_, ?_, ?_, ?_, trivial⟩ ?_
  · exact ob [] [] rfl rfl fun D ρ w hs => L_ldW (cs := (vc p.known) ++ [(.slice a1p p.ents.length c1p : Value), (.slice a2p p.ticks.length c2p : Value) ]) SA_39 hs 0 rfl rfl rfl ⟨rfl, hs⟩
  · exact ob [0] [] rfl rfl fun D ρ w hs => L_callP (vs := [.agg ((vc p.known) ++ [(.slice a1p p.ents.length c1p : Value), (.slice a2p p.ticks.length c2p : Value) ]).toArray]) (V := .bool (rightS p)) EN_10 rfl rfl (cRight_ok _ p a1p c1p a2p c2p hokp (by omega) (by omega) (Rd.own' hr1p hs) (Rd.own' hr2p hs)) hs fun _ hs => ⟨rfl, hs⟩
  · exact ob [1] [] rfl rfl fun D ρ w hs => L_not rfl ⟨rfl, hs⟩
  · exact ob [2] [] rfl rfl fun D ρ w hs => L_move (V := .bool (!(rightS p))) rfl ⟨rfl, hs⟩
  · exact obg [3] [] (!(rightS p)) rfl (fun _ => rfl) rfl (fun _ _ _ _ h => h) fun D ρ w hG hs => L_ldW (cs := (vc q.known) ++ [(.slice a1q q.ents.length c1q : Value), (.slice a2q q.ticks.length c2q : Value) ]) SA_39 hs 1 rfl rfl rfl ⟨rfl, hs⟩
  · exact obgy [3, 4] [] [4] (!(rightS p)) rfl (fun _ => rfl) rfl (fun _ _ _ _ h => h) (fun hG => ⟨hG, trivial⟩) fun D ρ w hG hs => L_callP (vs := [.agg ((vc q.known) ++ [(.slice a1q q.ents.length c1q : Value), (.slice a2q q.ticks.length c2q : Value) ]).toArray]) (V := .bool (rightS q)) EN_10 rfl rfl (cRight_ok _ q a1q c1q a2q c2q hokq (by omega) (by omega) (Rd.own' hr1q hs) (Rd.own' hr2q hs)) hs fun _ hs => ⟨rfl, hs⟩
  · exact obgy [3, 5] [] [5] (!(rightS p)) rfl (fun _ => rfl) rfl (fun _ _ _ _ h => h) (fun hG => ⟨hG, trivial⟩) fun D ρ w hG hs => L_not rfl ⟨rfl, hs⟩
  · exact ob [3, 6] [] rfl rfl fun D ρ w hs => L_orC (h' := !(rightS q)) rfl rfl rfl ⟨rfl, hs⟩
  rintro ρ1 w9 ρ2 hρ hs
  replace hρ : ρ2 = upd (mix [19, 20, 21, 22, 23, 24, 25, 26] ρ1 _) 26 (.bool ((!(rightS p)) || (!(rightS q)))) := hρ
  subst hρ
  refine W_cond (t := (!(rightS p)) || (!(rightS q))) rfl (fun c10 => ?_) (fun c10 => ?_)
  ·
    refine W_seq ?_
    refine W_region ?_
    refine RW_op (L_buildP (vs := []) (cs := (vc vzero) ++ [(.slice none 0 0 : Value), (.slice none 0 0 : Value) ]) [vc vzero, [(.slice none 0 0 : Value)], [(.slice none 0 0 : Value)]] [vc vzero, [(.slice none 0 0 : Value)], [(.slice none 0 0 : Value)]] BT_39 rfl (rfl) rfl rfl ?_)
    refine RW_op (L_st (V := .agg ((vc vzero) ++ [(.slice none 0 0 : Value), (.slice none 0 0 : Value) ]).toArray) (vs := (vc vzero) ++ [(.slice none 0 0 : Value), (.slice none 0 0 : Value) ]) (cs' := (vc vzero) ++ [(.slice none 0 0 : Value), (.slice none 0 0 : Value) ]) SA_39.1 hs 2 rfl rfl rfl rfl rfl (Nat.le_of_ble_eq_true rfl) (one_app (vc_one _) (one_cons rfl (one_cons rfl one_nil))) (spl_whole rfl) fun w11 hs => ?_)
    replace hs : Own w no w11 [blk b1 ((vc p.known) ++ [(.slice a1p p.ents.length c1p : Value), (.slice a2p p.ticks.length c2p : Value) ]) 39, blk b3 ((vc q.known) ++ [(.slice a1q q.ents.length c1q : Value), (.slice a2q q.ticks.length c2q : Value) ]) 39, blk b5 ((vc vzero) ++ [(.slice none 0 0 : Value), (.slice none 0 0 : Value) ]) 39] := hs
    refine RW_op (L_assign (V := .int .i64 2) rfl ?_)
    refine RW_nil ?_
    refine W_ret ?_
    refine ⟨_, res_cell2 (cs := (vc vzero) ++ [(.slice none 0 0 : Value), (.slice none 0 0 : Value) ]) (V := .int .i64 2) Tryz.results26 SA_39 hs 2 rfl rfl rfl rfl, ?_⟩
    obtain ⟨hI, hR⟩ := mergeR_no (a := p) (b := q) (by have hz := c10; revert hz; cases rightS p <;> cases rightS q <;> decide)
    rw [hI, hR]
    exact ⟨((none, 0), (none, 0)), rfl, ((hs.take 0).more _ (row_nil _ _ 59 7)).more _ (row_nil _ _ 87 2), trivial⟩
  ·
    have c10r := or_r c10
    replace c10 := or_l c10
    replace c10 := not_f c10
    replace c10r := not_f c10r
    refine W_skip ?_
    refine W_seq ?_
    have hra := rightS_iff.1 c10
    have hrb := rightS_iff.1 c10r
    replace hs := hs.more emp trivial
    replace hs := hs.more emp trivial
    refine W_regD HM [some 28, some 29, some 30, some 31, some 6, some 7] [[], [29], [], [31], [29], [31]] [0, 1, 0, 7, 15, 31] [pv (.agg ((vc p.known) ++ [(.slice a1p p.ents.length c1p : Value), (.slice a2p p.ticks.length c2p : Value) ]).toArray), (true, fun ρ => .map (some (mOf (ρ 29)))), pv (.agg ((vc q.known) ++ [(.slice a1q q.ents.length c1q : Value), (.slice a2q q.ticks.length c2q : Value) ]).toArray), (true, fun ρ => .map (some (mOf (ρ 31)))), (true, fun ρ => .map (some (mOf (ρ 29)))), (true, fun ρ => .map (some (mOf (ρ 31))))] (fun D ρ => [blk b1 ((vc p.known) ++ [(.slice a1p p.ents.length c1p : Value), (.slice a2p p.ticks.length c2p : Value) ]) 39, blk b3 ((vc q.known) ++ [(.slice a1q q.ents.length c1q : Value), (.slice a2q q.ticks.length c2q : Value) ]) 39, blk b5 ((vc vzero) ++ [(.slice none 0 0 : Value), (.slice none 0 0 : Value) ]) 39, cond (D 1) (mapR (mOf (ρ 29)) dv cv (dotsM p.ents)) (emp), cond (D 3) (mapR (mOf (ρ 31)) dv cv (dotsM q.ents)) (emp)]) [5, 4] (by kernel_rfl) hs ⟨?_, ?_, ?_, ?_, ?_, ?_, trivial⟩ ?_
    · exact ob [] [] rfl rfl fun D ρ w hs => L_ldW (cs := (vc p.known) ++ [(.slice a1p p.ents.length c1p : Value), (.slice a2p p.ticks.length c2p : Value) ]) SA_39 hs 0 rfl rfl rfl ⟨rfl, hs⟩
    · exact ob [0] [] rfl rfl fun D ρ w hs => L_callX (α := Nat) (vs := [.agg ((vc p.known) ++ [(.slice a1p p.ents.length c1p : Value), (.slice a2p p.ticks.length c2p : Value) ]).toArray]) (V := fun x => .map (some x)) EN_65 rfl rfl (sDots_ok _ p a1p c1p a2p c2p (Rd.own' hr1p hs) (Rd.own' hr2p hs)) hs fun _ _ hs _ => ⟨rfl, hs.put 3 (Nat.le_of_ble_eq_true rfl)⟩
    · exact ob [] [] rfl rfl fun D ρ w hs => L_ldW (cs := (vc q.known) ++ [(.slice a1q q.ents.length c1q : Value), (.slice a2q q.ticks.length c2q : Value) ]) SA_39 hs 1 rfl rfl rfl ⟨rfl, hs⟩
    · exact ob [2] [] rfl rfl fun D ρ w hs => L_callX (α := Nat) (vs := [.agg ((vc q.known) ++ [(.slice a1q q.ents.length c1q : Value), (.slice a2q q.ticks.length c2q : Value) ]).toArray]) (V := fun x => .map (some x)) EN_65 rfl rfl (sDots_ok _ q a1q c1q a2q c2q (Rd.own' hr1q hs) (Rd.own' hr2q hs)) hs fun _ _ hs _ => ⟨rfl, hs.put 4 (Nat.le_of_ble_eq_true rfl)⟩
    · exact ob [1] [] rfl rfl fun D ρ w hs => L_assign (V := .map (some (mOf (ρ 29)))) rfl ⟨rfl, hs⟩
    · exact ob [3] [] rfl rfl fun D ρ w hs => L_assign (V := .map (some (mOf (ρ 31)))) rfl ⟨rfl, hs⟩
    rintro ρ1 w14 ρ2 hρ hs
    replace hρ : ρ2 = upd (upd (mix [28, 29, 30, 31, 6, 7] ρ1 _) 6 (.map (some (mOf (ρ1 29))))) 7 (.map (some (mOf (ρ1 31)))) := hρ
    replace hs : Own w no w14 [blk b1 ((vc p.known) ++ [(.slice a1p p.ents.length c1p : Value), (.slice a2p p.ticks.length c2p : Value) ]) 39, blk b3 ((vc q.known) ++ [(.slice a1q q.ents.length c1q : Value), (.slice a2q q.ticks.length c2q : Value) ]) 39, blk b5 ((vc vzero) ++ [(.slice none 0 0 : Value), (.slice none 0 0 : Value) ]) 39, mapR (mOf (ρ1 29)) dv cv (dotsM p.ents), mapR (mOf (ρ1 31)) dv cv (dotsM q.ents)] := hs
    generalize (mOf (ρ1 29)) = r15 at hρ hs
    generalize (mOf (ρ1 31)) = r16 at hρ hs
    subst hρ
    refine W_seq ?_
    replace hs := hs.more emp trivial
    replace hs := hs.more emp trivial
    refine W_regD HM [some 32, some 33, some 34, some 35, some 36, some 37, some 38, some 39, some 40, some 8, none] [[], [], [], [], [], [], [], [39], [39], [8]] [0, 1, 0, 4, 15, 0, 32, 127, 255, 0, 1023] [pv (.pointer (some ⟨b1, 0 + 0, none⟩)), pv (.agg (vc p.known).toArray), pv (.pointer (some ⟨b3, 0 + 0, none⟩)), pv (.agg (vc q.known).toArray), pv (.agg (vc (vjoin p.known q.known)).toArray), pv (.pointer (some ⟨b1, 0 + 17, none⟩)), pv (.slice a2p p.ticks.length c2p), (true, fun ρ => .slice (aOf (ρ 39)) ((p.ticks).length) (cOf (ρ 39))), (true, fun ρ => .agg ((vc (vjoin p.known q.known)) ++ [(.slice none 0 0 : Value), (.slice (aOf (ρ 39)) ((p.ticks).length) (cOf (ρ 39)) : Value) ]).toArray), (true, fun ρ => .pointer (some ⟨(bOf (ρ 8)), 0, none⟩)), pn] (fun D ρ => [blk b1 ((vc p.known) ++ [(.slice a1p p.ents.length c1p : Value), (.slice a2p p.ticks.length c2p : Value) ]) 39, blk b3 ((vc q.known) ++ [(.slice a1q q.ents.length c1q : Value), (.slice a2q q.ticks.length c2q : Value) ]) 39, blk b5 ((vc vzero) ++ [(.slice none 0 0 : Value), (.slice none 0 0 : Value) ]) 39, mapR r15 dv cv (dotsM p.ents), mapR r16 dv cv (dotsM q.ents), cond (D 7) (row (.slice (aOf (ρ 39)) ((p.ticks).length) (cOf (ρ 39))) (p.ticks.map lsc) 87 2) (emp), cond (D 10) (blk (bOf (ρ 8)) ((vc (vjoin p.known q.known)) ++ [(.slice none 0 0 : Value), (.slice (aOf (ρ 39)) ((p.ticks).length) (cOf (ρ 39)) : Value) ]) 39) (cond (D 9) (blk (bOf (ρ 8)) ((vc vzero) ++ [(.slice none 0 0 : Value), (.slice none 0 0 : Value) ]) 39) (emp))]) [9] (by kernel_rfl) hs ⟨?_, ?_, ?_, ?_, ?_, ?_, ?_, ?_, ?_, ?_, ?_, trivial⟩ ?_
    · exact ob [] [] rfl rfl fun D ρ w hs => L_fieldAddr FA_39_0 rfl ⟨rfl, hs⟩
    · exact ob [0] [] rfl rfl fun D ρ w hs => L_ldA (vs := vc p.known) SA_24 hs 0 rfl rfl rfl rfl ⟨rfl, hs⟩
    · exact ob [] [] rfl rfl fun D ρ w hs => L_fieldAddr FA_39_0 rfl ⟨rfl, hs⟩
    · exact ob [2] [] rfl rfl fun D ρ w hs => L_ldA (vs := vc q.known) SA_24 hs 1 rfl rfl rfl rfl ⟨rfl, hs⟩
    · exact ob [1, 3] [] rfl rfl fun D ρ w hs => L_callP (vs := [.agg (vc p.known).toArray, .agg (vc q.known).toArray]) (V := .agg (vc (vjoin p.known q.known)).toArray) EN_66 rfl rfl (vJoin_ok _ p.known q.known) hs fun _ hs => ⟨rfl, hs⟩
    · exact ob [] [] rfl rfl fun D ρ w hs => L_fieldAddr FA_39_2 rfl ⟨rfl, hs⟩
    · exact ob [5] [] rfl rfl fun D ρ w hs => L_ld (V := .slice a2p p.ticks.length c2p) S1_37 hs 0 rfl rfl rfl ⟨rfl, hs⟩
    · exact ob [6] [10] rfl rfl fun D ρ w hs => L_callX (vs := [.slice a2p p.ticks.length c2p]) (V := fun x : Option Addr × Nat => .slice x.1 (p.ticks).length x.2) EN_67 rfl rfl (cln87_ok _ a2p c2p p.ticks (by omega) (Rd.own' hr2p hs)) hs fun _ _ hs _ => ⟨rfl, hs.put 5 (Nat.le_of_ble_eq_true rfl)⟩
    · exact ob [4, 7] [] rfl rfl fun D ρ w hs => L_buildP (vs := [(0, .agg (vc (vjoin p.known q.known)).toArray), (2, .slice (aOf (ρ 39)) ((p.ticks).length) (cOf (ρ 39)))]) (cs := (vc (vjoin p.known q.known)) ++ [(.slice none 0 0 : Value), (.slice (aOf (ρ 39)) ((p.ticks).length) (cOf (ρ 39)) : Value) ]) [vc vzero, [(.slice none 0 0 : Value)], [(.slice none 0 0 : Value)]] [vc (vjoin p.known q.known), [(.slice none 0 0 : Value)], [(.slice (aOf (ρ 39)) ((p.ticks).length) (cOf (ρ 39)) : Value)]] BT_39 rfl (rfl) rfl rfl ⟨rfl, hs⟩
    · exact ob [] [10] rfl rfl fun D ρ w hs => L_alloc (cs := (vc vzero) ++ [(.slice none 0 0 : Value), (.slice none 0 0 : Value) ]) ZV_39 rfl hs fun _ _ hs => ⟨rfl, hs.put 6 (Nat.le_of_ble_eq_true rfl)⟩
    · exact ob [8, 9] [] rfl rfl fun D ρ w hs => L_st (V := .agg ((vc (vjoin p.known q.known)) ++ [(.slice none 0 0 : Value), (.slice (aOf (ρ 39)) ((p.ticks).length) (cOf (ρ 39)) : Value) ]).toArray) (vs := (vc (vjoin p.known q.known)) ++ [(.slice none 0 0 : Value), (.slice (aOf (ρ 39)) ((p.ticks).length) (cOf (ρ 39)) : Value) ]) (cs' := (vc (vjoin p.known q.known)) ++ [(.slice none 0 0 : Value), (.slice (aOf (ρ 39)) ((p.ticks).length) (cOf (ρ 39)) : Value) ]) SA_39.1 hs 6 rfl rfl rfl rfl rfl (Nat.le_of_ble_eq_true rfl) (one_app (vc_one _) (one_cons rfl (one_cons rfl one_nil))) (spl_whole rfl) fun _ hs => ⟨trivial, hs⟩
    rintro ρ1 w21 ρ2 hρ hs
    replace hρ : ρ2 = upd (mix [32, 33, 34, 35, 36, 37, 38, 39, 40, 8] ρ1 _) 8 (.pointer (some ⟨(bOf (ρ1 8)), 0, none⟩)) := hρ
    replace hs : Own w no w21 [blk b1 ((vc p.known) ++ [(.slice a1p p.ents.length c1p : Value), (.slice a2p p.ticks.length c2p : Value) ]) 39, blk b3 ((vc q.known) ++ [(.slice a1q q.ents.length c1q : Value), (.slice a2q q.ticks.length c2q : Value) ]) 39, blk b5 ((vc vzero) ++ [(.slice none 0 0 : Value), (.slice none 0 0 : Value) ]) 39, mapR r15 dv cv (dotsM p.ents), mapR r16 dv cv (dotsM q.ents), row (.slice (aOf (ρ1 39)) ((p.ticks).length) (cOf (ρ1 39))) (p.ticks.map lsc) 87 2, blk (bOf (ρ1 8)) ((vc (vjoin p.known q.known)) ++ [(.slice none 0 0 : Value), (.slice (aOf (ρ1 39)) ((p.ticks).length) (cOf (ρ1 39)) : Value) ]) 39] := hs
    generalize (aOf (ρ1 39)) = a22 at hs
    generalize (cOf (ρ1 39)) = c23 at hs
    generalize (bOf (ρ1 8)) = b24 at hρ hs
    subst hρ
    refine W_seq ?_
    refine W_seq ?_
    refine W_region ?_
    refine RW_op (L_fieldAddr FA_39_1 rfl ?_)
    refine RW_op (L_ld (V := .slice a1p p.ents.length c1p) S1_36 hs 0 rfl rfl rfl ?_)
    refine RW_op (L_lenR (n := p.ents.length) UD_36 (Rd.own' hr1p hs) (by simp) rfl ?_)
    refine RW_op (L_move (V := .int .i64 0) rfl ?_)
    refine RW_nil ?_
    refine W_block ?_
    replace hs := hs.more (row (.slice none 0 0) (List.map cec []) 59 7) (row_nil _ _ _ _)
    refine W_loopI (fun ρ μ ρ' w' => ∃ (ρo : Env) (k : Nat) (a9 : Option Addr) (c9 : Nat) (L9 : List Cen), ρ' = upd (mix [5, 10, 11, 12, 44, 45, 46, 47, 48, 49, 50, 51, 52, 53, 54, 55, 56, 57, 58, 59, 60, 61, 62, 63, 64, 65, 66, 67, 68, 69, 70, 71, 72, 73, 74, 75, 76, 77] ρo ρ) 44 (.int .i64 ((k : Nat) : Int)) ∧ (k ≤ p.ents.length) ∧ (L9 = (p.ents.take k).filter (keepA q)) ∧ (L9.length ≤ k) ∧ (∀ j : Nat, j < k → confB q (gd p.ents j) = false) ∧ μ = p.ents.length - k ∧ Own w no w' [blk b1 ((vc p.known) ++ [(.slice a1p p.ents.length c1p : Value), (.slice a2p p.ticks.length c2p : Value) ]) 39, blk b3 ((vc q.known) ++ [(.slice a1q q.ents.length c1q : Value), (.slice a2q q.ticks.length c2q : Value) ]) 39, blk b5 ((vc vzero) ++ [(.slice none 0 0 : Value), (.slice none 0 0 : Value) ]) 39, mapR r15 dv cv (dotsM p.ents), mapR r16 dv cv (dotsM q.ents), row (.slice a22 ((p.ticks).length) c23) (p.ticks.map lsc) 87 2, blk b24 ((vc (vjoin p.known q.known)) ++ [(.slice a9 L9.length c9 : Value), (.slice a22 ((p.ticks).length) c23 : Value) ]) 39, row (.slice a9 L9.length c9) (L9.map cec) 59 7]) ?_ ?_
    · exact ⟨_, _, 0, none, 0, [], upd_of (mix_of (ds := [5, 10, 11, 12, 44, 45, 46, 47, 48, 49, 50, 51, 52, 53, 54, 55, 56, 57, 58, 59, 60, 61, 62, 63, 64, 65, 66, 67, 68, 69, 70, 71, 72, 73, 74, 75, 76, 77]) (Agr.refl _ _)) rfl, (by omega), rfl, (Nat.le_refl _), (fun j hj => absurd hj (Nat.not_lt_zero j)), rfl, hs⟩
    · rintro μ ρ' w25 ⟨ρo, k, a9, c9, L9, rfl, hk, hL9, hl9, hcf, rfl, hs⟩
      refine W_seq ?_
      refine W_region ?_
      refine RW_op (L_lss rfl rfl ?_)
      refine RW_nil ?_
      refine W_seq ?_
      refine W_cond (t := decide (((k : Nat) : Int) < ((p.ents.length : Nat) : Int))) rfl (fun c26 => ?_) (fun c26 => ?_)
      ·
        replace c26 := of_decide_eq_true c26
        refine W_skip ?_
        refine W_seq ?_
        refine W_block ?_
        refine W_seq ?_
        refine W_region ?_
        refine RW_op (L_ixR UD_36 SA_59.1 (Rd.own' hr1p hs) rfl rfl (by omega) (by rw [List.length_map]; omega) ?_)
        refine RW_op (L_ldRA (j := 0) (vs := cec (gd p.ents k)) k SA_59 (Rd.own' hr1p hs) (gd_at (by omega)) rfl rfl rfl (by omega) ?_)
        refine RW_op (L_alloc (cs := cec (⟨0, 0, 0, 0, (⟨0, 0⟩ : Dot), 0⟩ : Cen)) ZV_59 rfl hs fun b27 w28 hs => ?_)
        replace hs : Own w no w28 [blk b1 ((vc p.known) ++ [(.slice a1p p.ents.length c1p : Value), (.slice a2p p.ticks.length c2p : Value) ]) 39, blk b3 ((vc q.known) ++ [(.slice a1q q.ents.length c1q : Value), (.slice a2q q.ticks.length c2q : Value) ]) 39, blk b5 ((vc vzero) ++ [(.slice none 0 0 : Value), (.slice none 0 0 : Value) ]) 39, mapR r15 dv cv (dotsM p.ents), mapR r16 dv cv (dotsM q.ents), row (.slice a22 ((p.ticks).length) c23) (p.ticks.map lsc) 87 2, blk b24 ((vc (vjoin p.known q.known)) ++ [(.slice a9 L9.length c9 : Value), (.slice a22 ((p.ticks).length) c23 : Value) ]) 39, row (.slice a9 L9.length c9) (L9.map cec) 59 7, blk b27 (cec (⟨0, 0, 0, 0, (⟨0, 0⟩ : Dot), 0⟩ : Cen)) 59] := hs
        refine RW_op (L_st (V := .agg (cec (gd p.ents k)).toArray) (vs := cec (gd p.ents k)) (cs' := cec (gd p.ents k)) SA_59.1 hs 8 rfl rfl rfl rfl rfl (Nat.le_of_ble_eq_true rfl) (cec_one _) (spl_whole rfl) fun w29 hs => ?_)
        refine RW_nil ?_
        refine W_seq ?_
        have hce := (hpE _ (gd_mem (l := p.ents) (i := k) (by omega))).2.2.2.2.1
        refine W_region ?_
        refine RW_op (L_move (V := .map (some r16)) rfl ?_)
        refine RW_op (L_fieldAddr FA_59_4 rfl ?_)
        refine RW_op (L_ldA (vs := dc ((gd p.ents k).dot)) SA_30 hs 8 rfl rfl rfl rfl ?_)
        refine RW_op (L_lookupOkV (k := (gd p.ents k).dot) (z := cz) UD_119 KO_30 ZV_59 (hs.mapf 4 rfl) rfl rfl ?_)
        refine RW_op (L_move (V := .tuple #[.agg (cec ((mget ((gd p.ents k).dot) (dotsM q.ents)).getD cz)).toArray, .bool ((mget ((gd p.ents k).dot) (dotsM q.ents)).isSome)]) rfl ?_)
        refine RW_op (L_extract (V := .agg (cec ((mget ((gd p.ents k).dot) (dotsM q.ents)).getD cz)).toArray) rfl rfl ?_)
        refine RW_op (L_extract (V := .bool ((mget ((gd p.ents k).dot) (dotsM q.ents)).isSome)) rfl rfl ?_)
        refine RW_op (L_alloc (cs := cec (⟨0, 0, 0, 0, (⟨0, 0⟩ : Dot), 0⟩ : Cen)) ZV_59 rfl hs fun b30 w31 hs => ?_)
        refine RW_op (L_st (V := .agg (cec ((mget ((gd p.ents k).dot) (dotsM q.ents)).getD cz)).toArray) (vs := cec ((mget ((gd p.ents k).dot) (dotsM q.ents)).getD cz)) (cs' := cec ((mget ((gd p.ents k).dot) (dotsM q.ents)).getD cz)) SA_59.1 hs 9 rfl rfl rfl rfl rfl (Nat.le_of_ble_eq_true rfl) (cec_one _) (spl_whole rfl) fun w32 hs => ?_)
        refine RW_op (L_assign (V := .bool ((mget ((gd p.ents k).dot) (dotsM q.ents)).isSome)) rfl ?_)
        refine RW_nil ?_
        refine W_seq ?_
        refine W_seq ?_
        refine W_regO [some 55, some 56, some 57, some 58, some 59, some 60] [] [0, 1, 3, 3, 15, 31] [pv (.bool ((mget ((gd p.ents k).dot) (dotsM q.ents)).isSome)), pv (.bool ((mget ((gd p.ents k).dot) (dotsM q.ents)).isSome)), pg (((mget ((gd p.ents k).dot) (dotsM q.ents)).isSome) == true) (.agg (cec ((mget ((gd p.ents k).dot) (dotsM q.ents)).getD cz)).toArray), pg (((mget ((gd p.ents k).dot) (dotsM q.ents)).isSome) == true) (.agg (cec (gd p.ents k)).toArray), pg (((mget ((gd p.ents k).dot) (dotsM q.ents)).isSome) == true) (.bool (!decide ((mget ((gd p.ents k).dot) (dotsM q.ents)).getD cz = gd p.ents k))), pv (.bool (confB q (gd p.ents k)))] (fun _ _ => _) [5] (by kernel_rfl) hs ⟨?_, ?_, ?_, ?_, ?_, ?_, trivial⟩ ?_
        · exact ob [] [] rfl rfl fun D ρ w hs => L_move (V := .bool ((mget ((gd p.ents k).dot) (dotsM q.ents)).isSome)) rfl ⟨rfl, hs⟩
        · exact ob [0] [] rfl rfl fun D ρ w hs => L_move (V := .bool ((mget ((gd p.ents k).dot) (dotsM q.ents)).isSome)) rfl ⟨rfl, hs⟩
        · exact obg [1] [] ((mget ((gd p.ents k).dot) (dotsM q.ents)).isSome) rfl (fun _ => rfl) rfl (fun _ _ _ _ h => h) fun D ρ w hG hs => L_ldW (cs := cec ((mget ((gd p.ents k).dot) (dotsM q.ents)).getD cz)) SA_59 hs 9 rfl rfl rfl ⟨rfl, hs⟩
        · exact obg [1] [] ((mget ((gd p.ents k).dot) (dotsM q.ents)).isSome) rfl (fun _ => rfl) rfl (fun _ _ _ _ h => h) fun D ρ w hG hs => L_ldW (cs := cec (gd p.ents k)) SA_59 hs 8 rfl rfl rfl ⟨rfl, hs⟩
        · exact obgy [1, 2, 3] [] [2, 3] ((mget ((gd p.ents k).dot) (dotsM q.ents)).isSome) rfl (fun _ => rfl) rfl (fun _ _ _ _ h => h) (fun hG => ⟨hG, hG, trivial⟩) fun D ρ w hG hs => L_neA (xs := cec ((mget ((gd p.ents k).dot) (dotsM q.ents)).getD cz)) (ys := cec (gd p.ents k)) Tryz.eqGuardType59 (EQ_59 ((mget ((gd p.ents k).dot) (dotsM q.ents)).getD cz) (gd p.ents k)) rfl rfl rfl ⟨rfl, hs⟩
        · exact ob [1, 4] [] rfl rfl fun D ρ w hs => opW_to (V := .bool (((mget ((gd p.ents k).dot) (dotsM q.ents)).isSome) && (!decide ((mget ((gd p.ents k).dot) (dotsM q.ents)).getD cz = gd p.ents k)))) (V' := .bool (confB q (gd p.ents k))) (L_andC (h' := !decide ((mget ((gd p.ents k).dot) (dotsM q.ents)).getD cz = gd p.ents k)) rfl rfl rfl ⟨rfl, rfl⟩) (congrArg Value.bool (conf_get hrb.nd _)) ⟨rfl, hs⟩
        rintro ρ1 w33 ρ2 hρ hs
        replace hρ : ρ2 = upd (mix [55, 56, 57, 58, 59, 60] ρ1 _) 60 (.bool (confB q (gd p.ents k))) := hρ
        subst hρ
        refine W_cond (t := confB q (gd p.ents k)) rfl (fun c34 => ?_) (fun c34 => ?_)
        ·
          refine W_seq ?_
          refine W_region ?_
          refine RW_op (L_buildP (vs := []) (cs := (vc vzero) ++ [(.slice none 0 0 : Value), (.slice none 0 0 : Value) ]) [vc vzero, [(.slice none 0 0 : Value)], [(.slice none 0 0 : Value)]] [vc vzero, [(.slice none 0 0 : Value)], [(.slice none 0 0 : Value)]] BT_39 rfl (rfl) rfl rfl ?_)
          refine RW_op (L_st (V := .agg ((vc vzero) ++ [(.slice none 0 0 : Value), (.slice none 0 0 : Value) ]).toArray) (vs := (vc vzero) ++ [(.slice none 0 0 : Value), (.slice none 0 0 : Value) ]) (cs' := (vc vzero) ++ [(.slice none 0 0 : Value), (.slice none 0 0 : Value) ]) SA_39.1 hs 2 rfl rfl rfl rfl rfl (Nat.le_of_ble_eq_true rfl) (one_app (vc_one _) (one_cons rfl (one_cons rfl one_nil))) (spl_whole rfl) fun w35 hs => ?_)
          replace hs : Own w no w35 [blk b1 ((vc p.known) ++ [(.slice a1p p.ents.length c1p : Value), (.slice a2p p.ticks.length c2p : Value) ]) 39, blk b3 ((vc q.known) ++ [(.slice a1q q.ents.length c1q : Value), (.slice a2q q.ticks.length c2q : Value) ]) 39, blk b5 ((vc vzero) ++ [(.slice none 0 0 : Value), (.slice none 0 0 : Value) ]) 39, mapR r15 dv cv (dotsM p.ents), mapR r16 dv cv (dotsM q.ents), row (.slice a22 ((p.ticks).length) c23) (p.ticks.map lsc) 87 2, blk b24 ((vc (vjoin p.known q.known)) ++ [(.slice a9 L9.length c9 : Value), (.slice a22 ((p.ticks).length) c23 : Value) ]) 39, row (.slice a9 L9.length c9) (L9.map cec) 59 7, blk b27 (cec (gd p.ents k)) 59, blk b30 (cec ((mget ((gd p.ents k).dot) (dotsM q.ents)).getD cz)) 59] := hs
          refine RW_op (L_assign (V := .int .i64 5) rfl ?_)
          refine RW_nil ?_
          refine W_ret ?_
          refine ⟨_, res_cell2 (cs := (vc vzero) ++ [(.slice none 0 0 : Value), (.slice none 0 0 : Value) ]) (V := .int .i64 5) Tryz.results26 SA_39 hs 2 rfl rfl rfl rfl, ?_⟩
          obtain ⟨hI, hR⟩ := mergeR_conf c10 c10r (conf_some (k := k) (by omega) c34)
          rw [hI, hR]
          exact ⟨((none, 0), (none, 0)), rfl, ((hs.take 0).more _ (row_nil _ _ 59 7)).more _ (row_nil _ _ 87 2), trivial⟩
        ·
          refine W_skip ?_
          refine W_seq ?_
          refine W_regO [some 62, some 63, some 64, some 65, some 66, some 67, some 68, some 69, some 70] [] [0, 1, 3, 7, 3, 19, 63, 127, 255] [pv (.bool ((mget ((gd p.ents k).dot) (dotsM q.ents)).isSome)), pv (.bool ((mget ((gd p.ents k).dot) (dotsM q.ents)).isSome)), pg (((mget ((gd p.ents k).dot) (dotsM q.ents)).isSome) == false) (.pointer (some ⟨b3, 0 + 0, none⟩)), pg (((mget ((gd p.ents k).dot) (dotsM q.ents)).isSome) == false) (.agg (vc q.known).toArray), pg (((mget ((gd p.ents k).dot) (dotsM q.ents)).isSome) == false) (.pointer (some ⟨b27, 0 + 4, none⟩)), pg (((mget ((gd p.ents k).dot) (dotsM q.ents)).isSome) == false) (.agg (dc ((gd p.ents k).dot)).toArray), pg (((mget ((gd p.ents k).dot) (dotsM q.ents)).isSome) == false) (.bool (hasB q.known ((gd p.ents k).dot))), pg (((mget ((gd p.ents k).dot) (dotsM q.ents)).isSome) == false) (.bool (!(hasB q.known ((gd p.ents k).dot)))), pv (.bool (keepA q (gd p.ents k)))] (fun _ _ => _) [8] (by kernel_rfl) hs ⟨?_, ?_, ?_, ?_, ?_, ?_, ?_, ?_, ?_, trivial⟩ ?_
          · exact ob [] [] rfl rfl fun D ρ w hs => L_move (V := .bool ((mget ((gd p.ents k).dot) (dotsM q.ents)).isSome)) rfl ⟨rfl, hs⟩
          · exact ob [0] [] rfl rfl fun D ρ w hs => L_move (V := .bool ((mget ((gd p.ents k).dot) (dotsM q.ents)).isSome)) rfl ⟨rfl, hs⟩
          · exact obg [1] [] ((mget ((gd p.ents k).dot) (dotsM q.ents)).isSome) rfl (fun _ => rfl) rfl (fun _ _ _ _ h => h) fun D ρ w hG hs => L_fieldAddr FA_39_0 rfl ⟨rfl, hs⟩
          · exact obgy [1, 2] [] [2] ((mget ((gd p.ents k).dot) (dotsM q.ents)).isSome) rfl (fun _ => rfl) rfl (fun _ _ _ _ h => h) (fun hG => ⟨hG, trivial⟩) fun D ρ w hG hs => L_ldA (vs := vc q.known) SA_24 hs 1 rfl rfl rfl rfl ⟨rfl, hs⟩
          · exact obg [1] [] ((mget ((gd p.ents k).dot) (dotsM q.ents)).isSome) rfl (fun _ => rfl) rfl (fun _ _ _ _ h => h) fun D ρ w hG hs => L_fieldAddr FA_59_4 rfl ⟨rfl, hs⟩
          · exact obgy [1, 4] [] [4] ((mget ((gd p.ents k).dot) (dotsM q.ents)).isSome) rfl (fun _ => rfl) rfl (fun _ _ _ _ h => h) (fun hG => ⟨hG, trivial⟩) fun D ρ w hG hs => L_ldA (vs := dc ((gd p.ents k).dot)) SA_30 hs 8 rfl rfl rfl rfl ⟨rfl, hs⟩
          · exact obgy [1, 3, 5] [] [3, 5] ((mget ((gd p.ents k).dot) (dotsM q.ents)).isSome) rfl (fun _ => rfl) rfl (fun _ _ _ _ h => h) (fun hG => ⟨hG, hG, trivial⟩) fun D ρ w hG hs => L_callP (vs := [.agg (vc q.known).toArray, .agg (dc ((gd p.ents k).dot)).toArray]) (V := .bool (hasB q.known ((gd p.ents k).dot))) EN_47 rfl rfl (vHas_ok _ q.known ((gd p.ents k).dot) (by first | assumption | exact dotOk_mk (by omega) (by omega) (by omega) (by omega))) hs fun _ hs => ⟨rfl, hs⟩
          · exact obgy [1, 6] [] [6] ((mget ((gd p.ents k).dot) (dotsM q.ents)).isSome) rfl (fun _ => rfl) rfl (fun _ _ _ _ h => h) (fun hG => ⟨hG, trivial⟩) fun D ρ w hG hs => L_not rfl ⟨rfl, hs⟩
          · exact ob [1, 7] [] rfl rfl fun D ρ w hs => opW_to (V := .bool (((mget ((gd p.ents k).dot) (dotsM q.ents)).isSome) || (!(hasB q.known ((gd p.ents k).dot))))) (V' := .bool (keepA q (gd p.ents k))) (L_orC (h' := !(hasB q.known ((gd p.ents k).dot))) rfl rfl rfl ⟨rfl, rfl⟩) (congrArg Value.bool (keepA_get _ _)) ⟨rfl, hs⟩
          rintro ρ1 w37 ρ2 hρ hs
          replace hρ : ρ2 = upd (mix [62, 63, 64, 65, 66, 67, 68, 69, 70] ρ1 _) 70 (.bool (keepA q (gd p.ents k))) := hρ
          subst hρ
          refine W_cond (t := keepA q (gd p.ents k)) rfl (fun c38 => ?_) (fun c38 => ?_)
          ·
            refine W_region ?_
            refine RW_op (L_fieldAddr FA_39_1 rfl ?_)
            refine RW_op (L_ld (V := .slice a9 L9.length c9) S1_36 hs 6 rfl rfl rfl ?_)
            refine RW_op (L_ldW (cs := cec (gd p.ents k)) SA_59 hs 8 rfl rfl rfl ?_)
            refine RW_op (L_bs (vals := [.agg (cec (gd p.ents k)).toArray]) (ls := List.map cec ([gd p.ents k] : List Cen)) EL_36 rfl rfl rfl (len_map (enc := cec) (fun _ => rfl) _) (one_map cec_one _) (Nat.le_of_ble_eq_true rfl) hs fun b39 w40 hs => ?_)
            replace hs : Own w no w40 [blk b1 ((vc p.known) ++ [(.slice a1p p.ents.length c1p : Value), (.slice a2p p.ticks.length c2p : Value) ]) 39, blk b3 ((vc q.known) ++ [(.slice a1q q.ents.length c1q : Value), (.slice a2q q.ticks.length c2q : Value) ]) 39, blk b5 ((vc vzero) ++ [(.slice none 0 0 : Value), (.slice none 0 0 : Value) ]) 39, mapR r15 dv cv (dotsM p.ents), mapR r16 dv cv (dotsM q.ents), row (.slice a22 ((p.ticks).length) c23) (p.ticks.map lsc) 87 2, blk b24 ((vc (vjoin p.known q.known)) ++ [(.slice a9 L9.length c9 : Value), (.slice a22 ((p.ticks).length) c23 : Value) ]) 39, row (.slice a9 L9.length c9) (L9.map cec) 59 7, blk b27 (cec (gd p.ents k)) 59, blk b30 (cec ((mget ((gd p.ents k).dot) (dotsM q.ents)).getD cz)) 59, row (.slice (some ⟨b39, 0, none⟩) 1 1) ([gd p.ents k].map cec) 59 7] := hs
            refine RW_op (L_appN (ls' := (L9 ++ [gd p.ents k]).map cec) (n := (L9 ++ [gd p.ents k]).length) EL_36 hs 7 rfl rfl rfl (hs.rd 10 rfl) (one_map cec_one _) (by simp only [List.length_map, List.length_append, List.length_cons, List.length_nil]; omega) (by simp) (by simp) fun a41 c41 w42 hs => ?_)
            refine RW_op (L_fieldAddr FA_39_1 rfl ?_)
            refine RW_op (L_st1 (V := .slice a41 ((L9 ++ [gd p.ents k]).length) c41) (cs' := (vc (vjoin p.known q.known)) ++ [(.slice a41 ((L9 ++ [gd p.ents k]).length) c41 : Value), (.slice a22 ((p.ticks).length) c23 : Value) ]) S1_36 hs 6 rfl rfl rfl rfl (Nat.le_of_ble_eq_true rfl) rfl fun w43 hs => ?_)
            refine RW_nil ?_
            refine W_region ?_
            refine RW_op (L_add (a := ((k : Nat) : Int)) (b := 1) (c := ((k + 1 : Nat) : Int)) rfl rfl (nat_i64 (by omega) (by omega)) ?_)
            refine RW_op (L_move (V := .int .i64 ((k + 1 : Nat) : Int)) rfl ?_)
            refine RW_nil ?_
            refine ⟨_, ?_, _, k + 1, a41, c41, L9 ++ [gd p.ents k], upd_of (mix_of (ds := [5, 10, 11, 12, 44, 45, 46, 47, 48, 49, 50, 51, 52, 53, 54, 55, 56, 57, 58, 59, 60, 61, 62, 63, 64, 65, 66, 67, 68, 69, 70, 71, 72, 73, 74, 75, 76, 77]) (by repeat (first | exact Agr.refl _ _ | refine Agr.upd ?_ rfl | refine Agr.mix ?_ rfl))) rfl, (by omega), (filt_next_yes hL9 (by omega) c38), (by rw [List.length_append, List.length_singleton]; omega), (no_step2 hcf c34), rfl, hs.take 8⟩
            omega
          ·
            refine W_skip ?_
            refine W_region ?_
            refine RW_op (L_add (a := ((k : Nat) : Int)) (b := 1) (c := ((k + 1 : Nat) : Int)) rfl rfl (nat_i64 (by omega) (by omega)) ?_)
            refine RW_op (L_move (V := .int .i64 ((k + 1 : Nat) : Int)) rfl ?_)
            refine RW_nil ?_
            refine ⟨_, ?_, _, k + 1, a9, c9, L9, upd_of (mix_of (ds := [5, 10, 11, 12, 44, 45, 46, 47, 48, 49, 50, 51, 52, 53, 54, 55, 56, 57, 58, 59, 60, 61, 62, 63, 64, 65, 66, 67, 68, 69, 70, 71, 72, 73, 74, 75, 76, 77]) (by repeat (first | exact Agr.refl _ _ | refine Agr.upd ?_ rfl | refine Agr.mix ?_ rfl))) rfl, (by omega), (filt_next_no hL9 (by omega) c38), (by omega), (no_step2 hcf c34), rfl, hs.take 8⟩
            omega
      ·
        replace c26 := of_decide_eq_false c26
        refine W_exit ?_
        refine W_seq ?_
        refine W_seq ?_
        refine W_region ?_
        refine RW_op (L_fieldAddr FA_39_1 rfl ?_)
        refine RW_op (L_ld (V := .slice a1q q.ents.length c1q) S1_36 hs 1 rfl rfl rfl ?_)
        refine RW_op (L_lenR (n := q.ents.length) UD_36 (Rd.own' hr1q hs) (by simp) rfl ?_)
        refine RW_op (L_move (V := .int .i64 0) rfl ?_)
        refine RW_nil ?_
        refine W_block ?_
        refine W_loopI (fun ρ μ ρ' w' => ∃ (ρo : Env) (k2 : Nat) (a7 : Option Addr) (c7 : Nat) (L7 : List Cen), ρ' = upd (mix [14, 15, 16, 81, 82, 83, 84, 85, 86, 87, 88, 89, 90, 91, 92, 93, 94, 95, 96, 97, 98, 99, 100, 101, 102, 103, 104, 105, 106, 107, 108] ρo ρ) 81 (.int .i64 ((k2 : Nat) : Int)) ∧ (k2 ≤ q.ents.length) ∧ (L7 = p.ents.filter (keepA q) ++ (q.ents.take k2).filter (keepB p)) ∧ (L7.length ≤ p.ents.length + k2) ∧ μ = q.ents.length - k2 ∧ Own w no w' [blk b1 ((vc p.known) ++ [(.slice a1p p.ents.length c1p : Value), (.slice a2p p.ticks.length c2p : Value) ]) 39, blk b3 ((vc q.known) ++ [(.slice a1q q.ents.length c1q : Value), (.slice a2q q.ticks.length c2q : Value) ]) 39, blk b5 ((vc vzero) ++ [(.slice none 0 0 : Value), (.slice none 0 0 : Value) ]) 39, mapR r15 dv cv (dotsM p.ents), mapR r16 dv cv (dotsM q.ents), row (.slice a22 ((p.ticks).length) c23) (p.ticks.map lsc) 87 2, blk b24 ((vc (vjoin p.known q.known)) ++ [(.slice a7 L7.length c7 : Value), (.slice a22 ((p.ticks).length) c23 : Value) ]) 39, row (.slice a7 L7.length c7) (L7.map cec) 59 7]) ?_ ?_
        · exact ⟨_, _, 0, a9, c9, L9, upd_of (mix_of (ds := [14, 15, 16, 81, 82, 83, 84, 85, 86, 87, 88, 89, 90, 91, 92, 93, 94, 95, 96, 97, 98, 99, 100, 101, 102, 103, 104, 105, 106, 107, 108]) (Agr.refl _ _)) rfl, (by omega), (by rw [List.take_zero, List.filter_nil, List.append_nil, hL9, take_all (by omega)]), (by omega), rfl, hs⟩
        · rintro μ ρ' w44 ⟨ρo, k2, a7, c7, L7, rfl, hk2, hL7, hl7, rfl, hs⟩
          refine W_seq ?_
          refine W_region ?_
          refine RW_op (L_lss rfl rfl ?_)
          refine RW_nil ?_
          refine W_seq ?_
          refine W_cond (t := decide (((k2 : Nat) : Int) < ((q.ents.length : Nat) : Int))) rfl (fun c45 => ?_) (fun c45 => ?_)
          ·
            replace c45 := of_decide_eq_true c45
            refine W_skip ?_
            refine W_seq ?_
            refine W_block ?_
            refine W_seq ?_
            refine W_region ?_
            refine RW_op (L_ixR UD_36 SA_59.1 (Rd.own' hr1q hs) rfl rfl (by omega) (by rw [List.length_map]; omega) ?_)
            refine RW_op (L_ldRA (j := 0) (vs := cec (gd q.ents k2)) k2 SA_59 (Rd.own' hr1q hs) (gd_at (by omega)) rfl rfl rfl (by omega) ?_)
            refine RW_op (L_alloc (cs := cec (⟨0, 0, 0, 0, (⟨0, 0⟩ : Dot), 0⟩ : Cen)) ZV_59 rfl hs fun b46 w47 hs => ?_)
            replace hs : Own w no w47 [blk b1 ((vc p.known) ++ [(.slice a1p p.ents.length c1p : Value), (.slice a2p p.ticks.length c2p : Value) ]) 39, blk b3 ((vc q.known) ++ [(.slice a1q q.ents.length c1q : Value), (.slice a2q q.ticks.length c2q : Value) ]) 39, blk b5 ((vc vzero) ++ [(.slice none 0 0 : Value), (.slice none 0 0 : Value) ]) 39, mapR r15 dv cv (dotsM p.ents), mapR r16 dv cv (dotsM q.ents), row (.slice a22 ((p.ticks).length) c23) (p.ticks.map lsc) 87 2, blk b24 ((vc (vjoin p.known q.known)) ++ [(.slice a7 L7.length c7 : Value), (.slice a22 ((p.ticks).length) c23 : Value) ]) 39, row (.slice a7 L7.length c7) (L7.map cec) 59 7, blk b46 (cec (⟨0, 0, 0, 0, (⟨0, 0⟩ : Dot), 0⟩ : Cen)) 59] := hs
            refine RW_op (L_st (V := .agg (cec (gd q.ents k2)).toArray) (vs := cec (gd q.ents k2)) (cs' := cec (gd q.ents k2)) SA_59.1 hs 8 rfl rfl rfl rfl rfl (Nat.le_of_ble_eq_true rfl) (cec_one _) (spl_whole rfl) fun w48 hs => ?_)
            refine RW_nil ?_
            refine W_seq ?_
            have hce := (hqE _ (gd_mem (l := q.ents) (i := k2) (by omega))).2.2.2.2.1
            refine W_region ?_
            refine RW_op (L_move (V := .map (some r15)) rfl ?_)
            refine RW_op (L_fieldAddr FA_59_4 rfl ?_)
            refine RW_op (L_ldA (vs := dc ((gd q.ents k2).dot)) SA_30 hs 8 rfl rfl rfl rfl ?_)
            refine RW_op (L_lookupOkV (k := (gd q.ents k2).dot) (z := cz) UD_119 KO_30 ZV_59 (hs.mapf 3 rfl) rfl rfl ?_)
            refine RW_op (L_move (V := .tuple #[.agg (cec ((mget ((gd q.ents k2).dot) (dotsM p.ents)).getD cz)).toArray, .bool ((mget ((gd q.ents k2).dot) (dotsM p.ents)).isSome)]) rfl ?_)
            refine RW_op (L_extract (V := .agg (cec ((mget ((gd q.ents k2).dot) (dotsM p.ents)).getD cz)).toArray) rfl rfl ?_)
            refine RW_op (L_extract (V := .bool ((mget ((gd q.ents k2).dot) (dotsM p.ents)).isSome)) rfl rfl ?_)
            refine RW_op (L_alloc (cs := cec (⟨0, 0, 0, 0, (⟨0, 0⟩ : Dot), 0⟩ : Cen)) ZV_59 rfl hs fun b49 w50 hs => ?_)
            refine RW_op (L_st (V := .agg (cec ((mget ((gd q.ents k2).dot) (dotsM p.ents)).getD cz)).toArray) (vs := cec ((mget ((gd q.ents k2).dot) (dotsM p.ents)).getD cz)) (cs' := cec ((mget ((gd q.ents k2).dot) (dotsM p.ents)).getD cz)) SA_59.1 hs 9 rfl rfl rfl rfl rfl (Nat.le_of_ble_eq_true rfl) (cec_one _) (spl_whole rfl) fun w51 hs => ?_)
            refine RW_op (L_assign (V := .bool ((mget ((gd q.ents k2).dot) (dotsM p.ents)).isSome)) rfl ?_)
            refine RW_nil ?_
            refine W_seq ?_
            refine W_regO [some 92, some 93, some 94, some 95, some 96, some 97, some 98, some 99, some 100, some 101] [] [0, 1, 3, 7, 15, 7, 39, 127, 255, 511] [pv (.bool ((mget ((gd q.ents k2).dot) (dotsM p.ents)).isSome)), pv (.bool (!((mget ((gd q.ents k2).dot) (dotsM p.ents)).isSome))), pv (.bool (!((mget ((gd q.ents k2).dot) (dotsM p.ents)).isSome))), pg ((!((mget ((gd q.ents k2).dot) (dotsM p.ents)).isSome)) == true) (.pointer (some ⟨b1, 0 + 0, none⟩)), pg ((!((mget ((gd q.ents k2).dot) (dotsM p.ents)).isSome)) == true) (.agg (vc p.known).toArray), pg ((!((mget ((gd q.ents k2).dot) (dotsM p.ents)).isSome)) == true) (.pointer (some ⟨b46, 0 + 4, none⟩)), pg ((!((mget ((gd q.ents k2).dot) (dotsM p.ents)).isSome)) == true) (.agg (dc ((gd q.ents k2).dot)).toArray), pg ((!((mget ((gd q.ents k2).dot) (dotsM p.ents)).isSome)) == true) (.bool (hasB p.known ((gd q.ents k2).dot))), pg ((!((mget ((gd q.ents k2).dot) (dotsM p.ents)).isSome)) == true) (.bool (!(hasB p.known ((gd q.ents k2).dot)))), pv (.bool (keepB p (gd q.ents k2)))] (fun _ _ => _) [9] (by kernel_rfl) hs ⟨?_, ?_, ?_, ?_, ?_, ?_, ?_, ?_, ?_, ?_, trivial⟩ ?_
            · exact ob [] [] rfl rfl fun D ρ w hs => L_move (V := .bool ((mget ((gd q.ents k2).dot) (dotsM p.ents)).isSome)) rfl ⟨rfl, hs⟩
            · exact ob [0] [] rfl rfl fun D ρ w hs => L_not rfl ⟨rfl, hs⟩
            · exact ob [1] [] rfl rfl fun D ρ w hs => L_move (V := .bool (!((mget ((gd q.ents k2).dot) (dotsM p.ents)).isSome))) rfl ⟨rfl, hs⟩
            · exact obg [2] [] (!((mget ((gd q.ents k2).dot) (dotsM p.ents)).isSome)) rfl (fun _ => rfl) rfl (fun _ _ _ _ h => h) fun D ρ w hG hs => L_fieldAddr FA_39_0 rfl ⟨rfl, hs⟩
            · exact obgy [2, 3] [] [3] (!((mget ((gd q.ents k2).dot) (dotsM p.ents)).isSome)) rfl (fun _ => rfl) rfl (fun _ _ _ _ h => h) (fun hG => ⟨hG, trivial⟩) fun D ρ w hG hs => L_ldA (vs := vc p.known) SA_24 hs 0 rfl rfl rfl rfl ⟨rfl, hs⟩
            · exact obg [2] [] (!((mget ((gd q.ents k2).dot) (dotsM p.ents)).isSome)) rfl (fun _ => rfl) rfl (fun _ _ _ _ h => h) fun D ρ w hG hs => L_fieldAddr FA_59_4 rfl ⟨rfl, hs⟩
            · exact obgy [2, 5] [] [5] (!((mget ((gd q.ents k2).dot) (dotsM p.ents)).isSome)) rfl (fun _ => rfl) rfl (fun _ _ _ _ h => h) (fun hG => ⟨hG, trivial⟩) fun D ρ w hG hs => L_ldA (vs := dc ((gd q.ents k2).dot)) SA_30 hs 8 rfl rfl rfl rfl ⟨rfl, hs⟩
            · exact obgy [2, 4, 6] [] [4, 6] (!((mget ((gd q.ents k2).dot) (dotsM p.ents)).isSome)) rfl (fun _ => rfl) rfl (fun _ _ _ _ h => h) (fun hG => ⟨hG, hG, trivial⟩) fun D ρ w hG hs => L_callP (vs := [.agg (vc p.known).toArray, .agg (dc ((gd q.ents k2).dot)).toArray]) (V := .bool (hasB p.known ((gd q.ents k2).dot))) EN_47 rfl rfl (vHas_ok _ p.known ((gd q.ents k2).dot) (by first | assumption | exact dotOk_mk (by omega) (by omega) (by omega) (by omega))) hs fun _ hs => ⟨rfl, hs⟩
            · exact obgy [2, 7] [] [7] (!((mget ((gd q.ents k2).dot) (dotsM p.ents)).isSome)) rfl (fun _ => rfl) rfl (fun _ _ _ _ h => h) (fun hG => ⟨hG, trivial⟩) fun D ρ w hG hs => L_not rfl ⟨rfl, hs⟩
            · exact ob [2, 8] [] rfl rfl fun D ρ w hs => opW_to (V := .bool ((!((mget ((gd q.ents k2).dot) (dotsM p.ents)).isSome)) && (!(hasB p.known ((gd q.ents k2).dot))))) (V' := .bool (keepB p (gd q.ents k2))) (L_andC (h' := !(hasB p.known ((gd q.ents k2).dot))) rfl rfl rfl ⟨rfl, rfl⟩) (congrArg Value.bool (keepB_get _ _)) ⟨rfl, hs⟩
            rintro ρ1 w53 ρ2 hρ hs
            replace hρ : ρ2 = upd (mix [92, 93, 94, 95, 96, 97, 98, 99, 100, 101] ρ1 _) 101 (.bool (keepB p (gd q.ents k2))) := hρ
            subst hρ
            refine W_cond (t := keepB p (gd q.ents k2)) rfl (fun c54 => ?_) (fun c54 => ?_)
            ·
              refine W_region ?_
              refine RW_op (L_fieldAddr FA_39_1 rfl ?_)
              refine RW_op (L_ld (V := .slice a7 L7.length c7) S1_36 hs 6 rfl rfl rfl ?_)
              refine RW_op (L_ldW (cs := cec (gd q.ents k2)) SA_59 hs 8 rfl rfl rfl ?_)
              refine RW_op (L_bs (vals := [.agg (cec (gd q.ents k2)).toArray]) (ls := List.map cec ([gd q.ents k2] : List Cen)) EL_36 rfl rfl rfl (len_map (enc := cec) (fun _ => rfl) _) (one_map cec_one _) (Nat.le_of_ble_eq_true rfl) hs fun b55 w56 hs => ?_)
              replace hs : Own w no w56 [blk b1 ((vc p.known) ++ [(.slice a1p p.ents.length c1p : Value), (.slice a2p p.ticks.length c2p : Value) ]) 39, blk b3 ((vc q.known) ++ [(.slice a1q q.ents.length c1q : Value), (.slice a2q q.ticks.length c2q : Value) ]) 39, blk b5 ((vc vzero) ++ [(.slice none 0 0 : Value), (.slice none 0 0 : Value) ]) 39, mapR r15 dv cv (dotsM p.ents), mapR r16 dv cv (dotsM q.ents), row (.slice a22 ((p.ticks).length) c23) (p.ticks.map lsc) 87 2, blk b24 ((vc (vjoin p.known q.known)) ++ [(.slice a7 L7.length c7 : Value), (.slice a22 ((p.ticks).length) c23 : Value) ]) 39, row (.slice a7 L7.length c7) (L7.map cec) 59 7, blk b46 (cec (gd q.ents k2)) 59, blk b49 (cec ((mget ((gd q.ents k2).dot) (dotsM p.ents)).getD cz)) 59, row (.slice (some ⟨b55, 0, none⟩) 1 1) ([gd q.ents k2].map cec) 59 7] := hs
              refine RW_op (L_appN (ls' := (L7 ++ [gd q.ents k2]).map cec) (n := (L7 ++ [gd q.ents k2]).length) EL_36 hs 7 rfl rfl rfl (hs.rd 10 rfl) (one_map cec_one _) (by simp only [List.length_map, List.length_append, List.length_cons, List.length_nil]; omega) (by simp) (by simp) fun a57 c57 w58 hs => ?_)
              refine RW_op (L_fieldAddr FA_39_1 rfl ?_)
              refine RW_op (L_st1 (V := .slice a57 ((L7 ++ [gd q.ents k2]).length) c57) (cs' := (vc (vjoin p.known q.known)) ++ [(.slice a57 ((L7 ++ [gd q.ents k2]).length) c57 : Value), (.slice a22 ((p.ticks).length) c23 : Value) ]) S1_36 hs 6 rfl rfl rfl rfl (Nat.le_of_ble_eq_true rfl) rfl fun w59 hs => ?_)
              refine RW_nil ?_
              refine W_region ?_
              refine RW_op (L_add (a := ((k2 : Nat) : Int)) (b := 1) (c := ((k2 + 1 : Nat) : Int)) rfl rfl (nat_i64 (by omega) (by omega)) ?_)
              refine RW_op (L_move (V := .int .i64 ((k2 + 1 : Nat) : Int)) rfl ?_)
              refine RW_nil ?_
              refine ⟨_, ?_, _, k2 + 1, a57, c57, L7 ++ [gd q.ents k2], upd_of (mix_of (ds := [14, 15, 16, 81, 82, 83, 84, 85, 86, 87, 88, 89, 90, 91, 92, 93, 94, 95, 96, 97, 98, 99, 100, 101, 102, 103, 104, 105, 106, 107, 108]) (by repeat (first | exact Agr.refl _ _ | refine Agr.upd ?_ rfl | refine Agr.mix ?_ rfl))) rfl, (by omega), (filt_nextA_yes hL7 (by omega) c54), (by rw [List.length_append, List.length_singleton]; omega), rfl, hs.take 8⟩
              omega
            ·
              refine W_skip ?_
              refine W_region ?_
              refine RW_op (L_add (a := ((k2 : Nat) : Int)) (b := 1) (c := ((k2 + 1 : Nat) : Int)) rfl rfl (nat_i64 (by omega) (by omega)) ?_)
              refine RW_op (L_move (V := .int .i64 ((k2 + 1 : Nat) : Int)) rfl ?_)
              refine RW_nil ?_
              refine ⟨_, ?_, _, k2 + 1, a7, c7, L7, upd_of (mix_of (ds := [14, 15, 16, 81, 82, 83, 84, 85, 86, 87, 88, 89, 90, 91, 92, 93, 94, 95, 96, 97, 98, 99, 100, 101, 102, 103, 104, 105, 106, 107, 108]) (by repeat (first | exact Agr.refl _ _ | refine Agr.upd ?_ rfl | refine Agr.mix ?_ rfl))) rfl, (by omega), (filt_nextA_no hL7 (by omega) c54), (by omega), rfl, hs.take 8⟩
              omega
          ·
            replace c45 := of_decide_eq_false c45
            refine W_exit ?_
            refine W_seq ?_
            refine W_region ?_
            refine RW_op (L_fieldAddr FA_39_1 rfl ?_)
            refine RW_op (L_ld (V := .slice a7 L7.length c7) S1_36 hs 6 rfl rfl rfl ?_)
            refine RW_op (L_callB (α := { m : List Cen // srtE L7 m }) (vs := [.slice a7 L7.length c7, .func (.func 35) #[] #[]]) (V := fun _ => .tuple #[]) (R := row (.slice a7 L7.length c7) (L7.map cec) 59 7) (R' := fun x => row (.slice a7 L7.length c7) (x.1.map cec) 59 7) (Lo := fun _ => []) (F := fun _ _ => True) EN_68 rfl rfl hs 7 rfl (fun S hS hlt => hsortE _ S _ _ _ hS hlt (by omega)) fun sx61 w60 hs _ => ?_)
            replace hs : Own w no w60 [blk b1 ((vc p.known) ++ [(.slice a1p p.ents.length c1p : Value), (.slice a2p p.ticks.length c2p : Value) ]) 39, blk b3 ((vc q.known) ++ [(.slice a1q q.ents.length c1q : Value), (.slice a2q q.ticks.length c2q : Value) ]) 39, blk b5 ((vc vzero) ++ [(.slice none 0 0 : Value), (.slice none 0 0 : Value) ]) 39, mapR r15 dv cv (dotsM p.ents), mapR r16 dv cv (dotsM q.ents), row (.slice a22 ((p.ticks).length) c23) (p.ticks.map lsc) 87 2, blk b24 ((vc (vjoin p.known q.known)) ++ [(.slice a7 L7.length c7 : Value), (.slice a22 ((p.ticks).length) c23 : Value) ]) 39, row (.slice a7 L7.length c7) (sx61.1.map cec) 59 7] := hs
            refine RW_nil ?_
            refine W_seq ?_
            refine W_seq ?_
            refine W_region ?_
            refine RW_op (L_fieldAddr FA_39_2 rfl ?_)
            refine RW_op (L_ld (V := .slice a2q q.ticks.length c2q) S1_37 hs 1 rfl rfl rfl ?_)
            refine RW_op (L_lenR (n := q.ticks.length) UD_37 (Rd.own' hr2q hs) (by simp) rfl ?_)
            refine RW_op (L_move (V := .int .i64 0) rfl ?_)
            refine RW_nil ?_
            refine W_block ?_
            refine W_loopI (fun ρ μ ρ' w' => ∃ (ρo : Env) (k3 : Nat) (a8 : Option Addr) (c8 : Nat) (L8 : List Lst), ρ' = upd (mix [18, 115, 116, 117, 118, 119, 120, 121] ρo ρ) 115 (.int .i64 ((k3 : Nat) : Int)) ∧ (k3 ≤ q.ticks.length) ∧ (L8 = ticksM p.ticks (q.ticks.take k3)) ∧ μ = q.ticks.length - k3 ∧ Own w no w' [blk b1 ((vc p.known) ++ [(.slice a1p p.ents.length c1p : Value), (.slice a2p p.ticks.length c2p : Value) ]) 39, blk b3 ((vc q.known) ++ [(.slice a1q q.ents.length c1q : Value), (.slice a2q q.ticks.length c2q : Value) ]) 39, blk b5 ((vc vzero) ++ [(.slice none 0 0 : Value), (.slice none 0 0 : Value) ]) 39, mapR r15 dv cv (dotsM p.ents), mapR r16 dv cv (dotsM q.ents), row (.slice a8 L8.length c8) (L8.map lsc) 87 2, blk b24 ((vc (vjoin p.known q.known)) ++ [(.slice a7 L7.length c7 : Value), (.slice a8 L8.length c8 : Value) ]) 39, row (.slice a7 L7.length c7) (sx61.1.map cec) 59 7]) ?_ ?_
            · exact ⟨_, _, 0, a22, c23, p.ticks, upd_of (mix_of (ds := [18, 115, 116, 117, 118, 119, 120, 121]) (Agr.refl _ _)) rfl, (by omega), rfl, rfl, hs⟩
            · rintro μ ρ' w62 ⟨ρo, k3, a8, c8, L8, rfl, hk3, hL8, rfl, hs⟩
              refine W_seq ?_
              refine W_region ?_
              refine RW_op (L_lss rfl rfl ?_)
              refine RW_nil ?_
              refine W_seq ?_
              refine W_cond (t := decide (((k3 : Nat) : Int) < ((q.ticks.length : Nat) : Int))) rfl (fun c63 => ?_) (fun c63 => ?_)
              ·
                replace c63 := of_decide_eq_true c63
                refine W_skip ?_
                refine W_seq ?_
                refine W_block ?_
                refine W_seq ?_
                refine W_region ?_
                refine RW_op (L_ixR UD_37 SA_87.1 (Rd.own' hr2q hs) rfl rfl (by omega) (by rw [List.length_map]; omega) ?_)
                refine RW_op (L_ldRA (j := 0) (vs := lsc (gd q.ticks k3)) k3 SA_87 (Rd.own' hr2q hs) (gd_at (by omega)) rfl rfl rfl (by omega) ?_)
                refine RW_op (L_alloc (cs := lsc (⟨0, 0⟩ : Lst)) ZV_87 rfl hs fun b64 w65 hs => ?_)
                refine RW_op (L_st (V := .agg (lsc (gd q.ticks k3)).toArray) (vs := lsc (gd q.ticks k3)) (cs' := lsc (gd q.ticks k3)) SA_87.1 hs 8 rfl rfl rfl rfl rfl (Nat.le_of_ble_eq_true rfl) (lsc_one _) (spl_whole rfl) fun w66 hs => ?_)
                refine RW_nil ?_
                have hT8 : RisT L8 := by rw [hL8]; exact ticksM_ris hra.rt _
                have hl8 : L8.length ≤ 10000 := by have := ticksM_len (s := p.ticks) (q.ticks.take k3); rw [← hL8, List.length_take] at this; omega
                refine W_region ?_
                refine RW_op (L_ldW (cs := lsc (gd q.ticks k3)) SA_87 hs 8 rfl rfl rfl ?_)
                replace hs := hs.join 6 5 (by decide) rfl rfl
                refine RW_op (L_callB (α := Option Addr × Nat) (vs := [.pointer (some ⟨b24, 0, none⟩), .agg (lsc (gd q.ticks k3)).toArray]) (V := fun _ => .tuple #[]) (R := star [blk b24 (vc (vjoin p.known q.known) ++ [(.slice a7 L7.length c7 : Value), (.slice a8 L8.length c8 : Value)]) 39, row (.slice a8 L8.length c8) (L8.map lsc) 87 2]) (R' := fun x => star [blk b24 (vc (vjoin p.known q.known) ++ [(.slice a7 L7.length c7 : Value), (.slice x.1 (putT ((gd q.ticks k3).cart) ((gd q.ticks k3).tick) L8).length x.2 : Value)]) 39, row (.slice x.1 (putT ((gd q.ticks k3).cart) ((gd q.ticks k3).tick) L8).length x.2) ((putT ((gd q.ticks k3).cart) ((gd q.ticks k3).tick) L8).map lsc) 87 2]) (Lo := fun _ => []) (F := fun _ _ => True) EN_37 rfl rfl hs 6 rfl (fun S hS hlS => tick_ok _ S b24 (vjoin p.known q.known) (.slice a7 L7.length c7) a8 c8 L8 (gd q.ticks k3) (by omega) hT8 hS hlS) fun x67 w68 hs _ => ?_)
                replace hs := hs.split 6 rfl
                replace hs := hs.put 5 (Nat.le_of_ble_eq_true rfl)
                refine RW_nil ?_
                refine W_region ?_
                refine RW_op (L_add (a := ((k3 : Nat) : Int)) (b := 1) (c := ((k3 + 1 : Nat) : Int)) rfl rfl (nat_i64 (by omega) (by omega)) ?_)
                refine RW_op (L_move (V := .int .i64 ((k3 + 1 : Nat) : Int)) rfl ?_)
                refine RW_nil ?_
                refine ⟨_, ?_, _, k3 + 1, x67.1, x67.2, putT ((gd q.ticks k3).cart) ((gd q.ticks k3).tick) L8, upd_of (mix_of (ds := [18, 115, 116, 117, 118, 119, 120, 121]) (by repeat (first | exact Agr.refl _ _ | refine Agr.upd ?_ rfl | refine Agr.mix ?_ rfl))) rfl, (by omega), (by rw [ticksM_next (by omega), ← hL8]), rfl, hs.take 8⟩
                omega
              ·
                replace c63 := of_decide_eq_false c63
                refine W_exit ?_
                refine W_seq ?_
                refine W_region ?_
                refine RW_op (L_ldW (cs := (vc (vjoin p.known q.known)) ++ [(.slice a7 L7.length c7 : Value), (.slice a8 L8.length c8 : Value) ]) SA_39 hs 6 rfl rfl rfl ?_)
                refine RW_op (L_st (V := .agg ((vc (vjoin p.known q.known)) ++ [(.slice a7 L7.length c7 : Value), (.slice a8 L8.length c8 : Value) ]).toArray) (vs := (vc (vjoin p.known q.known)) ++ [(.slice a7 L7.length c7 : Value), (.slice a8 L8.length c8 : Value) ]) (cs' := (vc (vjoin p.known q.known)) ++ [(.slice a7 L7.length c7 : Value), (.slice a8 L8.length c8 : Value) ]) SA_39.1 hs 2 rfl rfl rfl rfl rfl (Nat.le_of_ble_eq_true rfl) (one_app (vc_one _) (one_cons rfl (one_cons rfl one_nil))) (spl_whole rfl) fun w69 hs => ?_)
                refine RW_op (L_assign (V := .int .i64 0) rfl ?_)
                refine RW_nil ?_
                refine W_ret ?_
                refine ⟨_, res_cell2 (cs := (vc (vjoin p.known q.known)) ++ [(.slice a7 L7.length c7 : Value), (.slice a8 L8.length c8 : Value) ]) (V := .int .i64 0) Tryz.results26 SA_39 hs 2 rfl rfl rfl rfl, ?_⟩
                have hcc := conf_none (b := q) (l := p.ents) fun j hj => hcf j (by omega)
                have hLL : L7 = p.ents.filter (keepA q) ++ q.ents.filter (keepB p) := by rw [hL7, take_all (l := q.ents) (by omega)]
                have hsx : srtE (p.ents.filter (keepA q) ++ q.ents.filter (keepB p)) sx61.1 := by rw [← hLL]; exact sx61.2
                obtain ⟨hI, hR⟩ := mergeR_eq hra hrb hcc hsx
                have hml := mergeR_len hra hrb hcc hsx hLL
                have hT : L8 = ticksM p.ticks q.ticks := by rw [hL8, take_all (l := q.ticks) (by omega)]
                rw [hI]
                rw [hR] at hml ⊢
                subst hT
                rw [hml] at hs ⊢
                exact ⟨((a7, c7), (a8, c8)), rfl, hs.two 7 5 (by decide) rfl rfl, trivial⟩
end Tt
end Go.Proofs
namespace Go.Proofs
open Go Go.Vx Go.RowKit
namespace Tt
theorem cApply_okE (R : Sta) (I : Int) (w : World) (s : Sta) (a1 : Option Addr) (c1 : Nat) (a2 : Option Addr) (c2 : Nat) (o : Opn) (hO : OpnOk o) (hok : StaOk s) (hle : s.ents.length ≤ 1000) (hlt : s.ticks.length ≤ 1000) (hr1 : Rd w (.slice a1 s.ents.length c1) 7 (s.ents.map cec)) (hr2 : Rd w (.slice a2 s.ticks.length c2) 2 (s.ticks.map lsc)) (hR : applyR s o = R) (hI : applyI s o = I) : Calls Tryz.prog 7 #[.agg ((vc s.known) ++ [(.slice a1 s.ents.length c1 : Value), (.slice a2 s.ticks.length c2 : Value) ]).toArray, .agg (oc o).toArray] w (fun e w' => ∃ x : (Option Addr × Nat) × (Option Addr × Nat), e = .returned (.tuple #[.agg (vc (R).known ++ [(.slice x.1.1 (R).ents.length x.1.2 : Value), (.slice x.2.1 (R).ticks.length x.2.2 : Value)]).toArray, .int .i64 I]) ∧ Own w no w' [row (.slice x.1.1 (R).ents.length x.1.2) ((R).ents.map cec) 59 7, row (.slice x.2.1 (R).ticks.length x.2.2) ((R).ticks.map lsc) 87 2] ∧ True) := by
  subst hR; subst hI; exact cApply_ok w s a1 c1 a2 c2 o hO hok hle hlt hr1 hr2
theorem cMerge_okE (R : Sta) (I : Int) (w : World) (p : Sta) (a1p : Option Addr) (c1p : Nat) (a2p : Option Addr) (c2p : Nat) (q : Sta) (a1q : Option Addr) (c1q : Nat) (a2q : Option Addr) (c2q : Nat) (hsortE : SortC Tryz.prog 68 35 cec 59 7 srtE) (hokp : StaOk p) (hlep : p.ents.length ≤ 1000) (hltp : p.ticks.length ≤ 1000) (hokq : StaOk q) (hleq : q.ents.length ≤ 1000) (hltq : q.ticks.length ≤ 1000) (hr1p : Rd w (.slice a1p p.ents.length c1p) 7 (p.ents.map cec)) (hr2p : Rd w (.slice a2p p.ticks.length c2p) 2 (p.ticks.map lsc)) (hr1q : Rd w (.slice a1q q.ents.length c1q) 7 (q.ents.map cec)) (hr2q : Rd w (.slice a2q q.ticks.length c2q) 2 (q.ticks.map lsc)) (hR : mergeR p q = R) (hI : mergeI p q = I) : Calls Tryz.prog 26 #[.agg ((vc p.known) ++ [(.slice a1p p.ents.length c1p : Value), (.slice a2p p.ticks.length c2p : Value) ]).toArray, .agg ((vc q.known) ++ [(.slice a1q q.ents.length c1q : Value), (.slice a2q q.ticks.length c2q : Value) ]).toArray] w (fun e w' => ∃ x : (Option Addr × Nat) × (Option Addr × Nat), e = .returned (.tuple #[.agg (vc (R).known ++ [(.slice x.1.1 (R).ents.length x.1.2 : Value), (.slice x.2.1 (R).ticks.length x.2.2 : Value)]).toArray, .int .i64 I]) ∧ Own w no w' [row (.slice x.1.1 (R).ents.length x.1.2) ((R).ents.map cec) 59 7, row (.slice x.2.1 (R).ticks.length x.2.2) ((R).ticks.map lsc) 87 2] ∧ True) := by
  subst hR; subst hI; exact cMerge_ok w p a1p c1p a2p c2p q a1q c1q a2q c2q hsortE hokp hlep hltp hokq hleq hltq hr1p hr2p hr1q hr2q
end Tt
end Go.Proofs
namespace Go.Proofs
open Go Go.Vx Go.RowKit
namespace Tt
theorem cViewE_ok (w : World) (s : Sta) (a1 : Option Addr) (c1 : Nat) (a2 : Option Addr) (c2 : Nat) (n : Int) (V : Vw) (hV : viewC s n (rightS s) = V) (hok : StaOk s) (hle : s.ents.length ≤ 1000) (hlt : s.ticks.length ≤ 1000) (hr1 : Rd w (.slice a1 s.ents.length c1) 7 (s.ents.map cec)) (hr2 : Rd w (.slice a2 s.ticks.length c2) 2 (s.ticks.map lsc)) : Calls Tryz.prog 20 #[.agg ((vc s.known) ++ [(.slice a1 s.ents.length c1 : Value), (.slice a2 s.ticks.length c2 : Value) ]).toArray, .int .u16 n] w (fun e w' => ∃ x : Option Addr × Nat, e = .returned (.agg [.int .u16 (V).cart, .slice x.1 (V).lines.length x.2, .bool (V).out, .int .u32 (V).tick].toArray) ∧ Own w no w' [row (.slice x.1 (V).lines.length x.2) ((V).lines.map lc) 74 2] ∧ True) := by
  subst hV; exact cView_ok w s a1 c1 a2 c2 n hok hle hlt hr1 hr2
set_option maxRecDepth 20000 in
set_option maxHeartbeats 4000000 in
theorem alive8_ok (w : World) (hsortE : SortC Tryz.prog 68 35 cec 59 7 srtE) : Calls Tryz.prog 5 #[] w (fun e w' => e = .returned (.bool true) ∧ Own w no w' []) := by
  refine calls_of_Wn (n := 95) Tryz.func5 rfl Tryz.ntmps5 rfl ?_
  have hs := Own.start w
  have haE := al3E
  refine W_seq ?_
  refine W_region ?_
  refine RW_op (L_assign (V := .bool false) rfl ?_)
  refine RW_nil ?_
  refine W_seq ?_
  refine W_region ?_
  refine RW_op (L_buildP (vs := []) (cs := (vc vzero) ++ [(.slice none 0 0 : Value), (.slice none 0 0 : Value) ]) [vc vzero, [(.slice none 0 0 : Value)], [(.slice none 0 0 : Value)]] [vc vzero, [(.slice none 0 0 : Value)], [(.slice none 0 0 : Value)]] BT_39 rfl (rfl) rfl rfl ?_)
  refine RW_op (L_build (vs := [(1, .int .u32 1)]) (cs := dc (⟨0, 1⟩ : Dot)) BT_30 (rfl) rfl ?_)
  refine RW_op (opW_to (V := .agg (oc (⟨(⟨0, 1⟩ : Dot), 1, 3, 4, 2, 5, vzero⟩ : Opn)).toArray) (V' := .agg (oc alO1).toArray) (L_buildP (vs := [(0, .agg (dc (⟨0, 1⟩ : Dot)).toArray), (1, .int .u8 1), (2, .int .u16 3), (3, .int .u16 4), (4, .int .u16 2), (5, .int .u32 5)]) (cs := oc (⟨(⟨0, 1⟩ : Dot), 1, 3, 4, 2, 5, vzero⟩ : Opn)) [dc (⟨0, 0⟩ : Dot), [(.int .u8 0 : Value)], [(.int .u16 0 : Value)], [(.int .u16 0 : Value)], [(.int .u16 0 : Value)], [(.int .u32 0 : Value)], vc vzero] [dc (⟨0, 1⟩ : Dot), [(.int .u8 1 : Value)], [(.int .u16 3 : Value)], [(.int .u16 4 : Value)], [(.int .u16 2 : Value)], [(.int .u32 5 : Value)], vc vzero] BT_33 rfl (rfl) rfl rfl ⟨rfl, rfl⟩) rfl ?_)
  refine RW_op (L_callX (α := (Option Addr × Nat) × (Option Addr × Nat)) (vs := [.agg ((vc vzero) ++ [(.slice none 0 0 : Value), (.slice none 0 0 : Value) ]).toArray, .agg (oc alO1).toArray]) (V := fun x : (Option Addr × Nat) × (Option Addr × Nat) => .tuple #[.agg (vc alS1.known ++ [(.slice x.1.1 (alS1.ents).length x.1.2 : Value), (.slice x.2.1 (alS1.ticks).length x.2.2 : Value)]).toArray, .int .i64 0]) (Lo := fun x => [row (.slice x.1.1 (alS1.ents).length x.1.2) ((alS1.ents).map cec) 59 7, row (.slice x.2.1 (alS1.ticks).length x.2.2) ((alS1.ticks).map lsc) 87 2]) (F := fun _ _ => True) EN_7 rfl rfl ?hc hs fun x2 w1 hs _ => ?_)
  case hc => exact (cApply_okE alS1 0 _ (⟨vzero, [], []⟩ : Sta) none 0 none 0 alO1 alO1_ok szero_ok (by decide +kernel) (by decide +kernel) (Rd.nil _ 7) (Rd.nil _ 2) al1R al1I)
  refine RW_op (L_move (V := .tuple #[.agg ((vc alS1.known) ++ [(.slice x2.1.1 ((alS1.ents).length) x2.1.2 : Value), (.slice x2.2.1 ((alS1.ticks).length) x2.2.2 : Value) ]).toArray, .int .i64 0]) rfl ?_)
  refine RW_op (L_extract (V := .agg ((vc alS1.known) ++ [(.slice x2.1.1 ((alS1.ents).length) x2.1.2 : Value), (.slice x2.2.1 ((alS1.ticks).length) x2.2.2 : Value) ]).toArray) rfl rfl ?_)
  refine RW_op (L_extract (V := .int .i64 0) rfl rfl ?_)
  refine RW_op (L_alloc (cs := (vc vzero) ++ [(.slice none 0 0 : Value), (.slice none 0 0 : Value) ]) ZV_39 rfl hs fun b3 w4 hs => ?_)
  refine RW_op (L_st (V := .agg ((vc alS1.known) ++ [(.slice x2.1.1 ((alS1.ents).length) x2.1.2 : Value), (.slice x2.2.1 ((alS1.ticks).length) x2.2.2 : Value) ]).toArray) (vs := (vc alS1.known) ++ [(.slice x2.1.1 ((alS1.ents).length) x2.1.2 : Value), (.slice x2.2.1 ((alS1.ticks).length) x2.2.2 : Value) ]) (cs' := (vc alS1.known) ++ [(.slice x2.1.1 ((alS1.ents).length) x2.1.2 : Value), (.slice x2.2.1 ((alS1.ticks).length) x2.2.2 : Value) ]) SA_39.1 hs 2 rfl rfl rfl rfl rfl (Nat.le_of_ble_eq_true rfl) (one_app (vc_one _) (one_cons rfl (one_cons rfl one_nil))) (spl_whole rfl) fun w5 hs => ?_)
  replace hs : Own w no w5 [row (.slice x2.1.1 ((alS1.ents).length) x2.1.2) (alS1.ents.map cec) 59 7, row (.slice x2.2.1 ((alS1.ticks).length) x2.2.2) (alS1.ticks.map lsc) 87 2, blk b3 ((vc alS1.known) ++ [(.slice x2.1.1 ((alS1.ents).length) x2.1.2 : Value), (.slice x2.2.1 ((alS1.ticks).length) x2.2.2 : Value) ]) 39] := hs
  refine RW_op (L_assign (V := .int .i64 0) rfl ?_)
  refine RW_nil ?_
  refine W_seq ?_
  refine W_region ?_
  refine RW_op (L_ldW (cs := (vc alS1.known) ++ [(.slice x2.1.1 ((alS1.ents).length) x2.1.2 : Value), (.slice x2.2.1 ((alS1.ticks).length) x2.2.2 : Value) ]) SA_39 hs 2 rfl rfl rfl ?_)
  refine RW_op (L_build (vs := [(1, .int .u32 2)]) (cs := dc (⟨0, 2⟩ : Dot)) BT_30 (rfl) rfl ?_)
  refine RW_op (L_build (vs := [(0, .int .u32 1)]) (cs := vc (vset vzero 0 1)) BT_24 (rfl) rfl ?_)
  refine RW_op (opW_to (V := .agg (oc (⟨(⟨0, 2⟩ : Dot), 3, 3, 4, 0, 6, vset vzero 0 1⟩ : Opn)).toArray) (V' := .agg (oc alO2).toArray) (L_buildP (vs := [(0, .agg (dc (⟨0, 2⟩ : Dot)).toArray), (1, .int .u8 3), (2, .int .u16 3), (3, .int .u16 4), (5, .int .u32 6), (6, .agg (vc (vset vzero 0 1)).toArray)]) (cs := oc (⟨(⟨0, 2⟩ : Dot), 3, 3, 4, 0, 6, vset vzero 0 1⟩ : Opn)) [dc (⟨0, 0⟩ : Dot), [(.int .u8 0 : Value)], [(.int .u16 0 : Value)], [(.int .u16 0 : Value)], [(.int .u16 0 : Value)], [(.int .u32 0 : Value)], vc vzero] [dc (⟨0, 2⟩ : Dot), [(.int .u8 3 : Value)], [(.int .u16 3 : Value)], [(.int .u16 4 : Value)], [(.int .u16 0 : Value)], [(.int .u32 6 : Value)], vc (vset vzero 0 1)] BT_33 rfl (rfl) rfl rfl ⟨rfl, rfl⟩) rfl ?_)
  refine RW_op (L_callX (α := (Option Addr × Nat) × (Option Addr × Nat)) (vs := [.agg ((vc alS1.known) ++ [(.slice x2.1.1 ((alS1.ents).length) x2.1.2 : Value), (.slice x2.2.1 ((alS1.ticks).length) x2.2.2 : Value) ]).toArray, .agg (oc alO2).toArray]) (V := fun x : (Option Addr × Nat) × (Option Addr × Nat) => .tuple #[.agg (vc alS2.known ++ [(.slice x.1.1 (alS2.ents).length x.1.2 : Value), (.slice x.2.1 (alS2.ticks).length x.2.2 : Value)]).toArray, .int .i64 0]) (Lo := fun x => [row (.slice x.1.1 (alS2.ents).length x.1.2) ((alS2.ents).map cec) 59 7, row (.slice x.2.1 (alS2.ticks).length x.2.2) ((alS2.ticks).map lsc) 87 2]) (F := fun _ _ => True) EN_7 rfl rfl ?hc hs fun x7 w6 hs _ => ?_)
  case hc => exact (cApply_okE alS2 0 _ alS1 x2.1.1 x2.1.2 x2.2.1 x2.2.2 alO2 alO2_ok alS1_ok (by decide +kernel) (by decide +kernel) (hs.rd 0 rfl) (hs.rd 1 rfl) al2R al2I)
  refine RW_op (L_move (V := .tuple #[.agg ((vc alS2.known) ++ [(.slice x7.1.1 ((alS2.ents).length) x7.1.2 : Value), (.slice x7.2.1 ((alS2.ticks).length) x7.2.2 : Value) ]).toArray, .int .i64 0]) rfl ?_)
  refine RW_op (L_extract (V := .agg ((vc alS2.known) ++ [(.slice x7.1.1 ((alS2.ents).length) x7.1.2 : Value), (.slice x7.2.1 ((alS2.ticks).length) x7.2.2 : Value) ]).toArray) rfl rfl ?_)
  refine RW_op (L_extract (V := .int .i64 0) rfl rfl ?_)
  refine RW_op (L_alloc (cs := (vc vzero) ++ [(.slice none 0 0 : Value), (.slice none 0 0 : Value) ]) ZV_39 rfl hs fun b8 w9 hs => ?_)
  refine RW_op (L_st (V := .agg ((vc alS2.known) ++ [(.slice x7.1.1 ((alS2.ents).length) x7.1.2 : Value), (.slice x7.2.1 ((alS2.ticks).length) x7.2.2 : Value) ]).toArray) (vs := (vc alS2.known) ++ [(.slice x7.1.1 ((alS2.ents).length) x7.1.2 : Value), (.slice x7.2.1 ((alS2.ticks).length) x7.2.2 : Value) ]) (cs' := (vc alS2.known) ++ [(.slice x7.1.1 ((alS2.ents).length) x7.1.2 : Value), (.slice x7.2.1 ((alS2.ticks).length) x7.2.2 : Value) ]) SA_39.1 hs 5 rfl rfl rfl rfl rfl (Nat.le_of_ble_eq_true rfl) (one_app (vc_one _) (one_cons rfl (one_cons rfl one_nil))) (spl_whole rfl) fun w10 hs => ?_)
  replace hs : Own w no w10 [row (.slice x2.1.1 ((alS1.ents).length) x2.1.2) (alS1.ents.map cec) 59 7, row (.slice x2.2.1 ((alS1.ticks).length) x2.2.2) (alS1.ticks.map lsc) 87 2, blk b3 ((vc alS1.known) ++ [(.slice x2.1.1 ((alS1.ents).length) x2.1.2 : Value), (.slice x2.2.1 ((alS1.ticks).length) x2.2.2 : Value) ]) 39, row (.slice x7.1.1 ((alS2.ents).length) x7.1.2) (alS2.ents.map cec) 59 7, row (.slice x7.2.1 ((alS2.ticks).length) x7.2.2) (alS2.ticks.map lsc) 87 2, blk b8 ((vc alS2.known) ++ [(.slice x7.1.1 ((alS2.ents).length) x7.1.2 : Value), (.slice x7.2.1 ((alS2.ticks).length) x7.2.2 : Value) ]) 39] := hs
  refine RW_op (L_assign (V := .int .i64 0) rfl ?_)
  refine RW_nil ?_
  refine W_seq ?_
  refine W_region ?_
  refine RW_op (L_ldW (cs := (vc alS1.known) ++ [(.slice x2.1.1 ((alS1.ents).length) x2.1.2 : Value), (.slice x2.2.1 ((alS1.ticks).length) x2.2.2 : Value) ]) SA_39 hs 2 rfl rfl rfl ?_)
  refine RW_op (L_ldW (cs := (vc alS2.known) ++ [(.slice x7.1.1 ((alS2.ents).length) x7.1.2 : Value), (.slice x7.2.1 ((alS2.ticks).length) x7.2.2 : Value) ]) SA_39 hs 5 rfl rfl rfl ?_)
  refine RW_op (L_callX (α := (Option Addr × Nat) × (Option Addr × Nat)) (vs := [.agg ((vc alS1.known) ++ [(.slice x2.1.1 ((alS1.ents).length) x2.1.2 : Value), (.slice x2.2.1 ((alS1.ticks).length) x2.2.2 : Value) ]).toArray, .agg ((vc alS2.known) ++ [(.slice x7.1.1 ((alS2.ents).length) x7.1.2 : Value), (.slice x7.2.1 ((alS2.ticks).length) x7.2.2 : Value) ]).toArray]) (V := fun x : (Option Addr × Nat) × (Option Addr × Nat) => .tuple #[.agg (vc (mergeR alS1 alS2).known ++ [(.slice x.1.1 ((mergeR alS1 alS2).ents).length x.1.2 : Value), (.slice x.2.1 ((mergeR alS1 alS2).ticks).length x.2.2 : Value)]).toArray, .int .i64 0]) (Lo := fun x => [row (.slice x.1.1 ((mergeR alS1 alS2).ents).length x.1.2) (((mergeR alS1 alS2).ents).map cec) 59 7, row (.slice x.2.1 ((mergeR alS1 alS2).ticks).length x.2.2) (((mergeR alS1 alS2).ticks).map lsc) 87 2]) (F := fun _ _ => True) EN_26 rfl rfl ?hc hs fun x12 w11 hs _ => ?_)
  case hc => exact (cMerge_okE (mergeR alS1 alS2) 0 _ alS1 x2.1.1 x2.1.2 x2.2.1 x2.2.2 alS2 x7.1.1 x7.1.2 x7.2.1 x7.2.2 hsortE alS1_ok (by decide +kernel) (by decide +kernel) alS2_ok (by decide +kernel) (by decide +kernel) (hs.rd 0 rfl) (hs.rd 1 rfl) (hs.rd 3 rfl) (hs.rd 4 rfl) rfl al3I)
  refine RW_op (L_move (V := .tuple #[.agg ((vc ((mergeR alS1 alS2).known)) ++ [(.slice x12.1.1 (((mergeR alS1 alS2).ents).length) x12.1.2 : Value), (.slice x12.2.1 (((mergeR alS1 alS2).ticks).length) x12.2.2 : Value) ]).toArray, .int .i64 0]) rfl ?_)
  refine RW_op (L_extract (V := .agg ((vc ((mergeR alS1 alS2).known)) ++ [(.slice x12.1.1 (((mergeR alS1 alS2).ents).length) x12.1.2 : Value), (.slice x12.2.1 (((mergeR alS1 alS2).ticks).length) x12.2.2 : Value) ]).toArray) rfl rfl ?_)
  refine RW_op (L_extract (V := .int .i64 0) rfl rfl ?_)
  refine RW_op (L_alloc (cs := (vc vzero) ++ [(.slice none 0 0 : Value), (.slice none 0 0 : Value) ]) ZV_39 rfl hs fun b13 w14 hs => ?_)
  refine RW_op (L_st (V := .agg ((vc ((mergeR alS1 alS2).known)) ++ [(.slice x12.1.1 (((mergeR alS1 alS2).ents).length) x12.1.2 : Value), (.slice x12.2.1 (((mergeR alS1 alS2).ticks).length) x12.2.2 : Value) ]).toArray) (vs := (vc ((mergeR alS1 alS2).known)) ++ [(.slice x12.1.1 (((mergeR alS1 alS2).ents).length) x12.1.2 : Value), (.slice x12.2.1 (((mergeR alS1 alS2).ticks).length) x12.2.2 : Value) ]) (cs' := (vc ((mergeR alS1 alS2).known)) ++ [(.slice x12.1.1 (((mergeR alS1 alS2).ents).length) x12.1.2 : Value), (.slice x12.2.1 (((mergeR alS1 alS2).ticks).length) x12.2.2 : Value) ]) SA_39.1 hs 8 rfl rfl rfl rfl rfl (Nat.le_of_ble_eq_true rfl) (one_app (vc_one _) (one_cons rfl (one_cons rfl one_nil))) (spl_whole rfl) fun w15 hs => ?_)
  replace hs : Own w no w15 [row (.slice x2.1.1 ((alS1.ents).length) x2.1.2) (alS1.ents.map cec) 59 7, row (.slice x2.2.1 ((alS1.ticks).length) x2.2.2) (alS1.ticks.map lsc) 87 2, blk b3 ((vc alS1.known) ++ [(.slice x2.1.1 ((alS1.ents).length) x2.1.2 : Value), (.slice x2.2.1 ((alS1.ticks).length) x2.2.2 : Value) ]) 39, row (.slice x7.1.1 ((alS2.ents).length) x7.1.2) (alS2.ents.map cec) 59 7, row (.slice x7.2.1 ((alS2.ticks).length) x7.2.2) (alS2.ticks.map lsc) 87 2, blk b8 ((vc alS2.known) ++ [(.slice x7.1.1 ((alS2.ents).length) x7.1.2 : Value), (.slice x7.2.1 ((alS2.ticks).length) x7.2.2 : Value) ]) 39, row (.slice x12.1.1 (((mergeR alS1 alS2).ents).length) x12.1.2) (((mergeR alS1 alS2).ents).map cec) 59 7, row (.slice x12.2.1 (((mergeR alS1 alS2).ticks).length) x12.2.2) (((mergeR alS1 alS2).ticks).map lsc) 87 2, blk b13 ((vc ((mergeR alS1 alS2).known)) ++ [(.slice x12.1.1 (((mergeR alS1 alS2).ents).length) x12.1.2 : Value), (.slice x12.2.1 (((mergeR alS1 alS2).ticks).length) x12.2.2 : Value) ]) 39] := hs
  refine RW_op (L_assign (V := .int .i64 0) rfl ?_)
  refine RW_nil ?_
  refine W_seq ?_
  refine W_region ?_
  refine RW_op (L_ldW (cs := (vc alS1.known) ++ [(.slice x2.1.1 ((alS1.ents).length) x2.1.2 : Value), (.slice x2.2.1 ((alS1.ticks).length) x2.2.2 : Value) ]) SA_39 hs 2 rfl rfl rfl ?_)
  refine RW_op (L_callX (α := Option Addr × Nat) (vs := [.agg ((vc alS1.known) ++ [(.slice x2.1.1 ((alS1.ents).length) x2.1.2 : Value), (.slice x2.2.1 ((alS1.ticks).length) x2.2.2 : Value) ]).toArray, .int .u16 3]) (V := fun x => .agg #[.int .u16 3, .slice x.1 ([(⟨4, 2⟩ : Line)].length) x.2, .bool false, .int .u32 5]) (Lo := fun x => [row (.slice x.1 [(⟨4, 2⟩ : Line)].length x.2) ([(⟨4, 2⟩ : Line)].map lc) 74 2]) (F := fun _ _ => True) EN_20 rfl rfl ?hc hs fun x17 w16 hs _ => ?_)
  case hc => exact (cViewE_ok _ alS1 x2.1.1 x2.1.2 x2.2.1 x2.2.2 3 (⟨3, [(⟨4, 2⟩ : Line)], false, 5⟩ : Vw) (alV1) alS1_ok (by decide +kernel) (by decide +kernel) (hs.rd 0 rfl) (hs.rd 1 rfl))
  refine RW_op (L_alloc (cs := [.int .u16 0, .slice none 0 0, .bool false, .int .u32 0]) ZV_64 rfl hs fun b18 w19 hs => ?_)
  refine RW_op (L_st (V := .agg #[.int .u16 3, .slice x17.1 ([(⟨4, 2⟩ : Line)].length) x17.2, .bool false, .int .u32 5]) (vs := [.int .u16 3, .slice x17.1 ([(⟨4, 2⟩ : Line)].length) x17.2, .bool false, .int .u32 5]) (cs' := [.int .u16 3, .slice x17.1 ([(⟨4, 2⟩ : Line)].length) x17.2, .bool false, .int .u32 5]) SA_64.1 hs 10 rfl rfl rfl rfl rfl (Nat.le_of_ble_eq_true rfl) (one_cons rfl (one_cons rfl (one_cons rfl (one_cons rfl one_nil)))) (spl_whole rfl) fun w20 hs => ?_)
  replace hs : Own w no w20 [row (.slice x2.1.1 ((alS1.ents).length) x2.1.2) (alS1.ents.map cec) 59 7, row (.slice x2.2.1 ((alS1.ticks).length) x2.2.2) (alS1.ticks.map lsc) 87 2, blk b3 ((vc alS1.known) ++ [(.slice x2.1.1 ((alS1.ents).length) x2.1.2 : Value), (.slice x2.2.1 ((alS1.ticks).length) x2.2.2 : Value) ]) 39, row (.slice x7.1.1 ((alS2.ents).length) x7.1.2) (alS2.ents.map cec) 59 7, row (.slice x7.2.1 ((alS2.ticks).length) x7.2.2) (alS2.ticks.map lsc) 87 2, blk b8 ((vc alS2.known) ++ [(.slice x7.1.1 ((alS2.ents).length) x7.1.2 : Value), (.slice x7.2.1 ((alS2.ticks).length) x7.2.2 : Value) ]) 39, row (.slice x12.1.1 (((mergeR alS1 alS2).ents).length) x12.1.2) (((mergeR alS1 alS2).ents).map cec) 59 7, row (.slice x12.2.1 (((mergeR alS1 alS2).ticks).length) x12.2.2) (((mergeR alS1 alS2).ticks).map lsc) 87 2, blk b13 ((vc ((mergeR alS1 alS2).known)) ++ [(.slice x12.1.1 (((mergeR alS1 alS2).ents).length) x12.1.2 : Value), (.slice x12.2.1 (((mergeR alS1 alS2).ticks).length) x12.2.2 : Value) ]) 39, row (.slice x17.1 ([(⟨4, 2⟩ : Line)].length) x17.2) ([(⟨4, 2⟩ : Line)].map lc) 74 2, blk b18 [.int .u16 3, .slice x17.1 ([(⟨4, 2⟩ : Line)].length) x17.2, .bool false, .int .u32 5] 64] := hs
  refine RW_nil ?_
  refine W_seq ?_
  refine W_region ?_
  refine RW_op (L_move (V := .int .i64 0) rfl ?_)
  refine RW_op (opW_to (V := .bool (decide ((0 : Int) = 0))) (V' := .bool true) (L_eql rfl rfl ⟨rfl, rfl⟩) (congrArg Value.bool (by decide)) ?_)
  refine RW_op (L_move (V := .bool true) rfl ?_)
  refine RW_gy rfl (L_move (V := .int .i64 0) rfl ?_)
  refine RW_gy rfl (opW_to (V := .bool (decide ((0 : Int) = 0))) (V' := .bool true) (L_eql rfl rfl ⟨rfl, rfl⟩) (congrArg Value.bool (by decide)) ?_)
  refine RW_op (L_pick (V := .bool true) rfl rfl ?_)
  refine RW_op (L_move (V := .bool true) rfl ?_)
  refine RW_gy rfl (L_move (V := .int .i64 0) rfl ?_)
  refine RW_gy rfl (opW_to (V := .bool (decide ((0 : Int) = 0))) (V' := .bool true) (L_eql rfl rfl ⟨rfl, rfl⟩) (congrArg Value.bool (by decide)) ?_)
  refine RW_op (L_pick (V := .bool true) rfl rfl ?_)
  refine RW_op (L_move (V := .bool true) rfl ?_)
  refine RW_gy rfl (L_fieldAddr FA_39_1 rfl ?_)
  refine RW_gy rfl (L_ld (V := .slice x2.1.1 ((alS1.ents).length) x2.1.2) S1_36 hs 2 rfl rfl rfl ?_)
  refine RW_gy rfl (L_lenR (n := (alS1.ents).length) UD_36 (hs.rd 0 rfl) (by simp) rfl ?_)
  refine RW_gy rfl (opW_to (V := .bool (decide ((((alS1.ents).length : Nat) : Int) = 1))) (V' := .bool true) (L_eql rfl rfl ⟨rfl, rfl⟩) (congrArg Value.bool (by decide +kernel)) ?_)
  refine RW_op (L_pick (V := .bool true) rfl rfl ?_)
  refine RW_op (L_move (V := .bool true) rfl ?_)
  refine RW_gy rfl (L_fieldAddr FA_39_1 rfl ?_)
  refine RW_gy rfl (L_ld (V := .slice x7.1.1 ((alS2.ents).length) x7.1.2) S1_36 hs 5 rfl rfl rfl ?_)
  refine RW_gy rfl (L_lenR (n := (alS2.ents).length) UD_36 (hs.rd 3 rfl) (by simp) rfl ?_)
  refine RW_gy rfl (opW_to (V := .bool (decide ((((alS2.ents).length : Nat) : Int) = 0))) (V' := .bool true) (L_eql rfl rfl ⟨rfl, rfl⟩) (congrArg Value.bool (by decide +kernel)) ?_)
  refine RW_op (L_pick (V := .bool true) rfl rfl ?_)
  refine RW_op (L_move (V := .bool true) rfl ?_)
  refine RW_gy rfl (L_fieldAddr FA_39_0 rfl ?_)
  refine RW_gy rfl (L_ldA (vs := vc alS2.known) SA_24 hs 5 rfl rfl rfl rfl ?_)
  refine RW_gy rfl (L_build (vs := [(0, .int .u32 2)]) (cs := vc (vset vzero 0 2)) BT_24 (rfl) rfl ?_)
  refine RW_gy rfl (opW_to (V := .bool (decide (alS2.known = vset vzero 0 2))) (V' := .bool true) (L_eqA (xs := vc alS2.known) (ys := vc (vset vzero 0 2)) Tryz.eqGuardType24 (EQ_24 alS2.known (vset vzero 0 2)) rfl rfl rfl ⟨rfl, rfl⟩) (congrArg Value.bool (by decide +kernel)) ?_)
  refine RW_op (L_pick (V := .bool true) rfl rfl ?_)
  refine RW_op (L_move (V := .bool true) rfl ?_)
  refine RW_gy rfl (L_fieldAddr FA_39_1 rfl ?_)
  refine RW_gy rfl (L_ld (V := .slice x12.1.1 (((mergeR alS1 alS2).ents).length) x12.1.2) S1_36 hs 8 rfl rfl rfl ?_)
  refine RW_gy rfl (L_lenR (n := ((mergeR alS1 alS2).ents).length) UD_36 (hs.rd 6 rfl) (by simp) rfl ?_)
  refine RW_gy rfl (opW_to (V := .bool (decide (((((mergeR alS1 alS2).ents).length : Nat) : Int) = 0))) (V' := .bool true) (L_eql rfl rfl ⟨rfl, rfl⟩) (congrArg Value.bool (by rw [haE]; decide)) ?_)
  refine RW_op (L_pick (V := .bool true) rfl rfl ?_)
  refine RW_op (L_move (V := .bool true) rfl ?_)
  refine RW_gy rfl (L_fieldAddr FA_64_1 rfl ?_)
  refine RW_gy rfl (L_ld (V := .slice x17.1 ([(⟨4, 2⟩ : Line)].length) x17.2) S1_62 hs 10 rfl rfl rfl ?_)
  refine RW_gy rfl (L_lenR (n := [(⟨4, 2⟩ : Line)].length) UD_62 (hs.rd 9 rfl) (by simp) rfl ?_)
  refine RW_gy rfl (opW_to (V := .bool (decide ((([(⟨4, 2⟩ : Line)].length : Nat) : Int) = 1))) (V' := .bool true) (L_eql rfl rfl ⟨rfl, rfl⟩) (congrArg Value.bool (by decide +kernel)) ?_)
  refine RW_op (L_pick (V := .bool true) rfl rfl ?_)
  refine RW_op (L_move (V := .bool true) rfl ?_)
  refine RW_gy rfl (L_fieldAddr FA_64_1 rfl ?_)
  refine RW_gy rfl (L_ld (V := .slice x17.1 ([(⟨4, 2⟩ : Line)].length) x17.2) S1_62 hs 10 rfl rfl rfl ?_)
  refine RW_gy rfl (L_ixR UD_62 SA_74.1 (hs.rd 9 rfl) rfl rfl (by decide) (by simp only [List.length_map, List.length_cons, List.length_nil]; omega) ?_)
  refine RW_gy rfl (L_fieldAddr FA_74_1 rfl ?_)
  refine RW_gy rfl (L_ldR (j := 1) (V := .int .u32 ((gd [(⟨4, 2⟩ : Line)] 0).qty)) 0 S1_22 (hs.rd 9 rfl) (gd_at (by simp only [List.length_cons, List.length_nil]; omega)) rfl rfl (by omega) ?_)
  refine RW_gy rfl (opW_to (V := .bool (decide ((gd [(⟨4, 2⟩ : Line)] 0).qty = 2))) (V' := .bool true) (L_eql rfl rfl ⟨rfl, rfl⟩) (congrArg Value.bool (by decide +kernel)) ?_)
  refine RW_op (L_pick (V := .bool true) rfl rfl ?_)
  refine RW_op (L_move (V := .bool true) rfl ?_)
  refine RW_gy rfl (L_ldW (cs := (vc alS2.known) ++ [(.slice x7.1.1 ((alS2.ents).length) x7.1.2 : Value), (.slice x7.2.1 ((alS2.ticks).length) x7.2.2 : Value) ]) SA_39 hs 5 rfl rfl rfl ?_)
  refine RW_gy rfl (L_callX (α := Option Addr × Nat) (vs := [.agg ((vc alS2.known) ++ [(.slice x7.1.1 ((alS2.ents).length) x7.1.2 : Value), (.slice x7.2.1 ((alS2.ticks).length) x7.2.2 : Value) ]).toArray, .int .u16 3]) (V := fun x => .agg #[.int .u16 3, .slice x.1 (([] : List Line).length) x.2, .bool false, .int .u32 6]) (Lo := fun x => [row (.slice x.1 ([] : List Line).length x.2) (([] : List Line).map lc) 74 2]) (F := fun _ _ => True) EN_20 rfl rfl ?hc hs fun x22 w21 hs _ => ?_)
  case hc => exact (cViewE_ok _ alS2 x7.1.1 x7.1.2 x7.2.1 x7.2.2 3 (⟨3, ([] : List Line), false, 6⟩ : Vw) (alV2) alS2_ok (by decide +kernel) (by decide +kernel) (hs.rd 3 rfl) (hs.rd 4 rfl))
  refine RW_gy rfl (L_fieldV (V := .int .u32 6) (fun w => by simp [Instr.field, part, asAgg]) rfl ?_)
  refine RW_gy rfl (opW_to (V := .bool (decide ((6 : Int) = 6))) (V' := .bool true) (L_eql rfl rfl ⟨rfl, rfl⟩) (congrArg Value.bool (by decide)) ?_)
  refine RW_op (L_pick (V := .bool true) rfl rfl ?_)
  refine RW_op (L_move (V := .bool true) rfl ?_)
  refine RW_gy rfl (L_ldW (cs := (vc alS1.known) ++ [(.slice x2.1.1 ((alS1.ents).length) x2.1.2 : Value), (.slice x2.2.1 ((alS1.ticks).length) x2.2.2 : Value) ]) SA_39 hs 2 rfl rfl rfl ?_)
  refine RW_gy rfl (L_callPV (V' := .bool true) (congrArg Value.bool (by decide +kernel)) (vs := [.agg ((vc alS1.known) ++ [(.slice x2.1.1 ((alS1.ents).length) x2.1.2 : Value), (.slice x2.2.1 ((alS1.ticks).length) x2.2.2 : Value) ]).toArray]) (V := .bool (rightS alS1)) EN_10 rfl rfl ?hc hs fun w23 hs => ?_)
  case hc => exact (cRight_ok _ alS1 x2.1.1 x2.1.2 x2.2.1 x2.2.2 alS1_ok (by decide +kernel) (by decide +kernel) (hs.rd 0 rfl) (hs.rd 1 rfl))
  refine RW_op (L_pick (V := .bool true) rfl rfl ?_)
  refine RW_op (L_move (V := .bool true) rfl ?_)
  refine RW_gy rfl (L_ldW (cs := (vc alS2.known) ++ [(.slice x7.1.1 ((alS2.ents).length) x7.1.2 : Value), (.slice x7.2.1 ((alS2.ticks).length) x7.2.2 : Value) ]) SA_39 hs 5 rfl rfl rfl ?_)
  refine RW_gy rfl (L_callX (vs := [.agg ((vc alS2.known) ++ [(.slice x7.1.1 ((alS2.ents).length) x7.1.2 : Value), (.slice x7.2.1 ((alS2.ticks).length) x7.2.2 : Value) ]).toArray]) (V := fun x : Option Addr × Nat => .slice x.1 (cartsS alS2).length x.2) EN_24 rfl rfl (cCarts_ok _ alS2 x7.1.1 x7.1.2 x7.2.1 x7.2.2 alS2_ok (by decide +kernel) (by decide +kernel) (hs.rd 3 rfl) (hs.rd 4 rfl)) hs fun x24 w25 hs _ => ?_)
  refine RW_gy rfl (L_lenR (n := (cartsS alS2).length) UD_68 (hs.rd 12 rfl) (by simp) rfl ?_)
  refine RW_gy rfl (opW_to (V := .bool (decide ((((cartsS alS2).length : Nat) : Int) = 1))) (V' := .bool true) (L_eql rfl rfl ⟨rfl, rfl⟩) (congrArg Value.bool (by decide +kernel)) ?_)
  refine RW_op (L_pick (V := .bool true) rfl rfl ?_)
  refine RW_op (L_assign (V := .bool true) rfl ?_)
  refine RW_nil ?_
  refine W_ret ?_
  refine ⟨_, res_one (V := .bool true) Tryz.results5 rfl, ?_⟩
  refine ⟨congrArg Ending.returned ?_, hs.take 0⟩
  rfl
end Tt
end Go.Proofs
