/- A part of a proof: what functions of the program compute, and plain facts on that. -/
import Derived.Test.YthbbcjimiemdgaaCartViewsP3
set_option linter.unusedVariables false
set_option linter.unusedSimpArgs false
namespace Go.Proofs
open Go Go.Vx Go.RowKit
namespace Tt
set_option maxRecDepth 20000 in
set_option maxHeartbeats 4000000 in
theorem symS_step (d : Nat) (g : Nat) (hg : En Try.prog g) (cf : Cen → Cen → Int) (hc : CmpO cf) (hcmp : ∀ (w : World) (x y : Cen), Calls Try.prog g #[.agg (cec x).toArray, .agg (cec y).toArray] w (fun e w' => e = .returned (.int .i64 (cf x y)) ∧ Own w no w' [])) (ih : SymAt Try.prog 139 g 128 7 cec cf d) (w : World) (S : Nat → Prop) (a : Option Addr) (N c : Nat) (l : List Cen) (lo mid hi : Nat) (hz : l.length = N) (hN : N ≤ 2305843009213693951) (hd : hi - lo ≤ d + 1) (h1 : lo < mid) (h2 : mid < hi) (h3 : hi ≤ N) (ho1 : OrdSeg cf l lo mid) (ho2 : OrdSeg cf l mid hi) (hR : (row (.slice a N c) (l.map cec) 128 7).holds w S) (hlt : ∀ b, S b → b < w.heap.size) : Calls Try.prog 139 #[.slice a N c, .int .i64 ((lo : Nat) : Int), .int .i64 ((mid : Nat) : Int), .int .i64 ((hi : Nat) : Int), .func (.func g) #[] #[]] w (fun e w' => ∃ x : List Cen, e = .returned (.tuple #[]) ∧ Own w S w' [row (.slice a N c) (x.map cec) 128 7] ∧ (x.length = N ∧ Merged cf l x lo hi)) := by
  refine calls_of_Wn (n := 220) Try.func139 rfl Try.ntmps139 rfl ?_
  have hs := Own.lent hR hlt
  refine W_seq ?_
  refine W_seq ?_
  refine W_region ?_
  refine RW_op (L_move (V := .int .i64 ((mid : Nat) : Int)) rfl ?_)
  refine RW_op (L_move (V := .int .i64 ((lo : Nat) : Int)) rfl ?_)
  refine RW_op (L_sub (a := ((mid : Nat) : Int)) (b := ((lo : Nat) : Int)) (c := ((mid - lo : Nat) : Int)) rfl rfl (nat_i64 (by omega) (by omega)) ?_)
  refine RW_op (L_eql rfl rfl ?_)
  refine RW_nil ?_
  refine W_cond (t := decide (((mid - lo : Nat) : Int) = 1)) rfl (fun c1 => ?_) (fun c1 => ?_)
  ·
    replace c1 := of_decide_eq_true c1
    refine W_seq ?_
    refine W_region ?_
    refine RW_op (L_move (V := .int .i64 ((mid : Nat) : Int)) rfl ?_)
    refine RW_op (L_assign (V := .int .i64 ((mid : Nat) : Int)) rfl ?_)
    refine RW_nil ?_
    refine W_seq ?_
    refine W_region ?_
    refine RW_op (L_move (V := .int .i64 ((hi : Nat) : Int)) rfl ?_)
    refine RW_op (L_assign (V := .int .i64 ((hi : Nat) : Int)) rfl ?_)
    refine RW_nil ?_
    refine W_seq ?_
    refine W_block ?_
    refine W_loopI (fun ρ μ ρ' w' => ∃ (ρo : Env) (i : Nat) (j : Nat), ρ' = upd (upd (mix [10, 11, 12, 31, 32, 33, 34, 35, 36, 37, 38, 39, 40, 41, 42, 43, 44, 45, 46, 47, 48, 49, 50, 51, 52, 53] ρo ρ) 10 (.int .i64 ((i : Nat) : Int))) 11 (.int .i64 ((j : Nat) : Int)) ∧ (mid ≤ i) ∧ (i ≤ j) ∧ (j ≤ hi) ∧ (i = mid ∨ cf (gd l (i - 1)) (gd l lo) < 0) ∧ (j = hi ∨ ¬ cf (gd l j) (gd l lo) < 0) ∧ μ = j - i ∧ Own w S w' [row (.slice a N c) (l.map cec) 128 7]) ?_ ?_
    · exact ⟨_, _, mid, hi, upd_of (upd_of (mix_of (ds := [10, 11, 12, 31, 32, 33, 34, 35, 36, 37, 38, 39, 40, 41, 42, 43, 44, 45, 46, 47, 48, 49, 50, 51, 52, 53]) (Agr.refl _ _)) rfl) rfl, (Nat.le_refl _), (by omega), (Nat.le_refl _), (Or.inl rfl), (Or.inl rfl), rfl, hs⟩
    · rintro μ ρ' w2 ⟨ρo, i, j, rfl, hi1, hij, hj1, hi2, hj2, rfl, hs⟩
      refine W_seq ?_
      refine W_seq ?_
      refine W_region ?_
      refine RW_op (L_move (V := .int .i64 ((i : Nat) : Int)) rfl ?_)
      refine RW_op (L_move (V := .int .i64 ((j : Nat) : Int)) rfl ?_)
      refine RW_op (L_lss rfl rfl ?_)
      refine RW_nil ?_
      refine W_cond (t := decide (((i : Nat) : Int) < ((j : Nat) : Int))) rfl (fun c3 => ?_) (fun c3 => ?_)
      ·
        replace c3 := of_decide_eq_true c3
        refine W_skip ?_
        refine W_block ?_
        refine W_seq ?_
        refine W_region ?_
        refine RW_op (L_move (V := .int .i64 ((i : Nat) : Int)) rfl ?_)
        refine RW_op (L_move (V := .int .i64 ((j : Nat) : Int)) rfl ?_)
        refine RW_op (L_add (a := ((i : Nat) : Int)) (b := ((j : Nat) : Int)) (c := ((i + j : Nat) : Int)) rfl rfl (nat_i64 (by omega) (by omega)) ?_)
        refine RW_op (L_conv UD_3 UD_170 rfl (wr_u64 (by omega) (by omega)) ?_)
        refine RW_op (L_shrN rfl rfl ?_)
        refine RW_op (L_conv UD_170 UD_3 rfl (wr_i64 (by omega) (by omega)) ?_)
        refine RW_op (L_assign (V := .int .i64 (((i + j) / 2 : Nat) : Int)) rfl ?_)
        refine RW_nil ?_
        refine W_seq ?_
        refine W_regD HM [some 40, some 41, some 42, some 43, some 44, some 45, some 46, some 47, some 48, some 49, some 50] [] [0, 0, 0, 6, 14, 0, 0, 96, 224, 511, 1023] [pv (.func (.func g) #[] #[]), pv (.slice a N c), pv (.int .i64 (((i + j) / 2 : Nat) : Int)), pv (.pointer (some ⟨bkS (.slice a N c), ofS (.slice a N c) + (((i + j) / 2 : Nat) : Int).toNat * 7, none⟩)), pv (.agg (cec (gd l ((i + j) / 2))).toArray), pv (.slice a N c), pv (.int .i64 ((lo : Nat) : Int)), pv (.pointer (some ⟨bkS (.slice a N c), ofS (.slice a N c) + ((lo : Nat) : Int).toNat * 7, none⟩)), pv (.agg (cec (gd l lo)).toArray), pv (.int .i64 (cf (gd l ((i + j) / 2)) (gd l lo))), pv (.bool (decide (cf (gd l ((i + j) / 2)) (gd l lo) < 0)))] (fun _ _ => _) [10] (by kernel_rfl) hs ⟨?_, ?_, ?_, ?_, ?_, ?_, ?_, ?_, ?_, ?_, ?_, trivial⟩ ?_
        · exact ob [] [] rfl rfl fun D ρ w hs => L_move (V := .func (.func g) #[] #[]) rfl ⟨rfl, hs⟩
        · exact ob [] [] rfl rfl fun D ρ w hs => L_move (V := .slice a N c) rfl ⟨rfl, hs⟩
        · exact ob [] [] rfl rfl fun D ρ w hs => L_move (V := .int .i64 (((i + j) / 2 : Nat) : Int)) rfl ⟨rfl, hs⟩
        · exact ob [1, 2] [] rfl rfl fun D ρ w hs => L_ixR UD_59 SA_128.1 (hs.rd 0 rfl) rfl rfl (by omega) (by rw [List.length_map]; omega) ⟨rfl, hs⟩
        · exact ob [3] [] rfl rfl fun D ρ w hs => L_ldRA (j := 0) (vs := cec (gd l ((i + j) / 2))) ((i + j) / 2) SA_128 (hs.rd 0 rfl) (gd_at (by omega)) rfl rfl rfl (by omega) ⟨rfl, hs⟩
        · exact ob [] [] rfl rfl fun D ρ w hs => L_move (V := .slice a N c) rfl ⟨rfl, hs⟩
        · exact ob [] [] rfl rfl fun D ρ w hs => L_move (V := .int .i64 ((lo : Nat) : Int)) rfl ⟨rfl, hs⟩
        · exact ob [5, 6] [] rfl rfl fun D ρ w hs => L_ixR UD_59 SA_128.1 (hs.rd 0 rfl) rfl rfl (by omega) (by rw [List.length_map]; omega) ⟨rfl, hs⟩
        · exact ob [7] [] rfl rfl fun D ρ w hs => L_ldRA (j := 0) (vs := cec (gd l lo)) lo SA_128 (hs.rd 0 rfl) (gd_at (by omega)) rfl rfl rfl (by omega) ⟨rfl, hs⟩
        · exact ob [0, 4, 8] [] rfl rfl fun D ρ w hs => L_fnP (vs := [.agg (cec (gd l ((i + j) / 2))).toArray, .agg (cec (gd l lo)).toArray]) (cs := []) (V := .int .i64 (cf (gd l ((i + j) / 2)) (gd l lo))) hg rfl rfl (hcmp _ (gd l ((i + j) / 2)) (gd l lo)) hs fun _ hs => ⟨rfl, hs⟩
        · exact ob [9] [] rfl rfl fun D ρ w hs => L_lss rfl rfl ⟨rfl, hs⟩
        rintro ρ1 w5 ρ2 hρ hs
        replace hρ : ρ2 = upd (mix [40, 41, 42, 43, 44, 45, 46, 47, 48, 49, 50] ρ1 _) 50 (.bool (decide (cf (gd l ((i + j) / 2)) (gd l lo) < 0))) := hρ
        subst hρ
        refine W_cond (t := decide (cf (gd l ((i + j) / 2)) (gd l lo) < 0)) rfl (fun c6 => ?_) (fun c6 => ?_)
        ·
          replace c6 := of_decide_eq_true c6
          refine W_region ?_
          refine RW_op (L_move (V := .int .i64 (((i + j) / 2 : Nat) : Int)) rfl ?_)
          refine RW_op (L_add (a := (((i + j) / 2 : Nat) : Int)) (b := 1) (c := ((((i + j) / 2) + 1 : Nat) : Int)) rfl rfl (nat_i64 (by omega) (by omega)) ?_)
          refine RW_op (L_assign (V := .int .i64 ((((i + j) / 2) + 1 : Nat) : Int)) rfl ?_)
          refine RW_nil ?_
          refine ⟨_, ?_, _, ((i + j) / 2) + 1, j, upd_of (upd_of (mix_of (ds := [10, 11, 12, 31, 32, 33, 34, 35, 36, 37, 38, 39, 40, 41, 42, 43, 44, 45, 46, 47, 48, 49, 50, 51, 52, 53]) (by repeat (first | exact Agr.refl _ _ | refine Agr.upd ?_ rfl | refine Agr.mix ?_ rfl))) rfl) rfl, (by omega), (by omega), (by omega), (Or.inr (by rw [Nat.add_sub_cancel]; exact c6)), hj2, rfl, hs.take 1⟩
          omega
        ·
          replace c6 := of_decide_eq_false c6
          refine W_region ?_
          refine RW_op (L_move (V := .int .i64 (((i + j) / 2 : Nat) : Int)) rfl ?_)
          refine RW_op (L_assign (V := .int .i64 (((i + j) / 2 : Nat) : Int)) rfl ?_)
          refine RW_nil ?_
          refine ⟨_, ?_, _, i, (i + j) / 2, upd_of (upd_of (mix_of (ds := [10, 11, 12, 31, 32, 33, 34, 35, 36, 37, 38, 39, 40, 41, 42, 43, 44, 45, 46, 47, 48, 49, 50, 51, 52, 53]) (by repeat (first | exact Agr.refl _ _ | refine Agr.upd ?_ rfl | refine Agr.mix ?_ rfl))) rfl) rfl, (by omega), (by omega), (by omega), hi2, (Or.inr c6), rfl, hs.take 1⟩
          omega
      ·
        replace c3 := of_decide_eq_false c3
        refine W_exit ?_
        refine W_seq ?_
        refine W_seq ?_
        refine W_region ?_
        refine RW_op (L_move (V := .int .i64 ((lo : Nat) : Int)) rfl ?_)
        refine RW_op (L_assign (V := .int .i64 ((lo : Nat) : Int)) rfl ?_)
        refine RW_nil ?_
        refine W_block ?_
        have hie : i = j := by omega
        refine W_loopI (fun ρ μ ρ' w' => ∃ (ρo : Env) (k : Nat) (m : List Cen), ρ' = upd (mix [13, 55, 56, 57, 58, 59, 60, 61, 62, 63, 64, 65, 66, 67, 68, 69, 70, 71, 72, 73, 74, 75, 76] ρo ρ) 13 (.int .i64 ((k : Nat) : Int)) ∧ (lo ≤ k) ∧ (k + 1 ≤ i) ∧ (m.length = N) ∧ (RotSeg l m lo (lo + 1) (k + 1)) ∧ μ = i - k ∧ Own w S w' [row (.slice a N c) (m.map cec) 128 7]) ?_ ?_
        · exact ⟨_, _, lo, l, upd_of (mix_of (ds := [13, 55, 56, 57, 58, 59, 60, 61, 62, 63, 64, 65, 66, 67, 68, 69, 70, 71, 72, 73, 74, 75, 76]) (Agr.refl _ _)) rfl, (Nat.le_refl _), (by omega), hz, (RotSeg.refl (by omega) (by omega) (by omega) (Or.inr rfl)), rfl, hs⟩
        · rintro μ ρ' w7 ⟨ρo, k, m, rfl, hk1, hk2, hz1, hro, rfl, hs⟩
          refine W_seq ?_
          refine W_seq ?_
          refine W_region ?_
          refine RW_op (L_move (V := .int .i64 ((k : Nat) : Int)) rfl ?_)
          refine RW_op (L_move (V := .int .i64 ((i : Nat) : Int)) rfl ?_)
          refine RW_op (L_sub (a := ((i : Nat) : Int)) (b := 1) (c := ((i - 1 : Nat) : Int)) rfl rfl (nat_i64 (by omega) (by omega)) ?_)
          refine RW_op (L_lss rfl rfl ?_)
          refine RW_nil ?_
          refine W_cond (t := decide (((k : Nat) : Int) < ((i - 1 : Nat) : Int))) rfl (fun c8 => ?_) (fun c8 => ?_)
          ·
            replace c8 := of_decide_eq_true c8
            refine W_skip ?_
            refine W_seq ?_
            refine W_block ?_
            refine W_regD HM [some 61, some 62, some 63, some 64, some 65, some 66, some 67, some 68, some 69, some 70, some 71, some 72, some 73, some 74, some 75, none, some 76, none] [] [0, 0, 0, 0, 8, 0, 0, 64, 224, 480, 0, 0, 3072, 7168, 16355, 32739, 65535, 131071] [pv (.slice a N c), pv (.int .i64 ((k : Nat) : Int)), pv (.slice a N c), pv (.int .i64 ((k : Nat) : Int)), pv (.int .i64 ((k + 1 : Nat) : Int)), pv (.slice a N c), pv (.int .i64 ((k : Nat) : Int)), pv (.int .i64 ((k + 1 : Nat) : Int)), pv (.pointer (some ⟨bkS (.slice a N c), ofS (.slice a N c) + ((k + 1 : Nat) : Int).toNat * 7, none⟩)), pv (.agg (cec (gd m (k + 1))).toArray), pv (.slice a N c), pv (.int .i64 ((k : Nat) : Int)), pv (.pointer (some ⟨bkS (.slice a N c), ofS (.slice a N c) + ((k : Nat) : Int).toNat * 7, none⟩)), pv (.agg (cec (gd m k)).toArray), pv (.pointer (some ⟨bkS (.slice a N c), ofS (.slice a N c) + ((k : Nat) : Int).toNat * 7, none⟩)), pn, pv (.pointer (some ⟨bkS (.slice a N c), ofS (.slice a N c) + ((k + 1 : Nat) : Int).toNat * 7, none⟩)), pn] (fun D ρ => [cond (D 17) (row (.slice a N c) (((m.set k (gd m (k + 1))).set (k + 1) (gd m k)).map cec) 128 7) (cond (D 15) (row (.slice a N c) ((m.set k (gd m (k + 1))).map cec) 128 7) (row (.slice a N c) (m.map cec) 128 7))]) [] (by kernel_rfl) hs ⟨?_, ?_, ?_, ?_, ?_, ?_, ?_, ?_, ?_, ?_, ?_, ?_, ?_, ?_, ?_, ?_, ?_, ?_, trivial⟩ ?_
            · exact ob [] [] rfl rfl fun D ρ w hs => L_move (V := .slice a N c) rfl ⟨rfl, hs⟩
            · exact ob [] [] rfl rfl fun D ρ w hs => L_move (V := .int .i64 ((k : Nat) : Int)) rfl ⟨rfl, hs⟩
            · exact ob [] [] rfl rfl fun D ρ w hs => L_move (V := .slice a N c) rfl ⟨rfl, hs⟩
            · exact ob [] [] rfl rfl fun D ρ w hs => L_move (V := .int .i64 ((k : Nat) : Int)) rfl ⟨rfl, hs⟩
            · exact ob [3] [] rfl rfl fun D ρ w hs => L_add (a := ((k : Nat) : Int)) (b := 1) (c := ((k + 1 : Nat) : Int)) rfl rfl (nat_i64 (by omega) (by omega)) ⟨rfl, hs⟩
            · exact ob [] [] rfl rfl fun D ρ w hs => L_move (V := .slice a N c) rfl ⟨rfl, hs⟩
            · exact ob [] [] rfl rfl fun D ρ w hs => L_move (V := .int .i64 ((k : Nat) : Int)) rfl ⟨rfl, hs⟩
            · exact ob [6] [] rfl rfl fun D ρ w hs => L_add (a := ((k : Nat) : Int)) (b := 1) (c := ((k + 1 : Nat) : Int)) rfl rfl (nat_i64 (by omega) (by omega)) ⟨rfl, hs⟩
            · exact ob [5, 7] [15, 17] rfl rfl fun D ρ w hs => L_ixR UD_59 SA_128.1 (hs.rd 0 rfl) rfl rfl (by omega) (by rw [List.length_map]; omega) ⟨rfl, hs⟩
            · exact ob [8] [15, 17] rfl rfl fun D ρ w hs => L_ldRA (j := 0) (vs := cec (gd m (k + 1))) (k + 1) SA_128 (hs.rd 0 rfl) (gd_at (by omega)) rfl rfl rfl (by omega) ⟨rfl, hs⟩
            · exact ob [] [] rfl rfl fun D ρ w hs => L_move (V := .slice a N c) rfl ⟨rfl, hs⟩
            · exact ob [] [] rfl rfl fun D ρ w hs => L_move (V := .int .i64 ((k : Nat) : Int)) rfl ⟨rfl, hs⟩
            · exact ob [10, 11] [15, 17] rfl rfl fun D ρ w hs => L_ixR UD_59 SA_128.1 (hs.rd 0 rfl) rfl rfl (by omega) (by rw [List.length_map]; omega) ⟨rfl, hs⟩
            · exact ob [12] [15, 17] rfl rfl fun D ρ w hs => L_ldRA (j := 0) (vs := cec (gd m k)) k SA_128 (hs.rd 0 rfl) (gd_at (by omega)) rfl rfl rfl (by omega) ⟨rfl, hs⟩
            · exact ob [0, 1] [15, 17] rfl rfl fun D ρ w hs => L_ixR UD_59 SA_128.1 (hs.rd 0 rfl) rfl rfl (by omega) (by rw [List.length_map]; omega) ⟨rfl, hs⟩
            · exact ob [9, 14] [17] rfl rfl fun D ρ w hs => L_stE (z := gd m (k + 1)) k SA_128.1 hs 0 rfl rfl rfl (by first | omega | (simp only [List.length_set]; omega)) rfl rfl rfl (cec_one _) fun _ hs => ⟨trivial, hs⟩
            · exact ob [2, 4, 15] [17] rfl rfl fun D ρ w hs => L_ixR UD_59 SA_128.1 (hs.rd 0 rfl) rfl rfl (by omega) (by simp only [List.length_map, List.length_set]; omega) ⟨rfl, hs⟩
            · exact ob [13, 15, 16] [] rfl rfl fun D ρ w hs => L_stE (z := gd m k) (k + 1) SA_128.1 hs 0 rfl rfl rfl (by first | omega | (simp only [List.length_set]; omega)) rfl rfl rfl (cec_one _) fun _ hs => ⟨trivial, hs⟩
            rintro ρ1 w11 ρ2 hρ hs
            replace hρ : ρ2 = mix [61, 62, 63, 64, 65, 66, 67, 68, 69, 70, 71, 72, 73, 74, 75, 76] ρ1 _ := hρ
            replace hs : Own w S w11 [row (.slice a N c) (((m.set k (gd m (k + 1))).set (k + 1) (gd m k)).map cec) 128 7] := hs
            subst hρ
            replace hs : Own w S _ [row (.slice a N c) ((swL m k (k + 1)).map cec) 128 7] := hs.take 1
            refine W_region ?_
            refine RW_op (L_move (V := .int .i64 ((k : Nat) : Int)) rfl ?_)
            refine RW_op (L_add (a := ((k : Nat) : Int)) (b := 1) (c := ((k + 1 : Nat) : Int)) rfl rfl (nat_i64 (by omega) (by omega)) ?_)
            refine RW_op (L_assign (V := .int .i64 ((k + 1 : Nat) : Int)) rfl ?_)
            refine RW_nil ?_
            refine ⟨_, ?_, _, k + 1, swL m k (k + 1), upd_of (mix_of (ds := [13, 55, 56, 57, 58, 59, 60, 61, 62, 63, 64, 65, 66, 67, 68, 69, 70, 71, 72, 73, 74, 75, 76]) (by repeat (first | exact Agr.refl _ _ | refine Agr.upd ?_ rfl | refine Agr.mix ?_ rfl))) rfl, (by omega), (by omega), (by rw [swL_len]; exact hz1), (rot_up hro (by omega)), rfl, hs.take 1⟩
            omega
          ·
            replace c8 := of_decide_eq_false c8
            refine W_exit ?_
            refine W_ret ?_
            refine ⟨_, res_none Try.results139, ?_⟩
            have hke : k + 1 = i := by omega
            rw [hke] at hro
            exact ⟨m, rfl, hs.take 1, hz1, sym_up hc (by rw [show lo + 1 = mid by omega]; exact ho2) (by omega) (by omega) (by omega) hro (by rw [hie]; exact hj2) (by rw [show lo + 1 = mid by omega]; exact hi2)⟩
  ·
    replace c1 := of_decide_eq_false c1
    refine W_skip ?_
    refine W_seq ?_
    refine W_seq ?_
    refine W_region ?_
    refine RW_op (L_move (V := .int .i64 ((hi : Nat) : Int)) rfl ?_)
    refine RW_op (L_move (V := .int .i64 ((mid : Nat) : Int)) rfl ?_)
    refine RW_op (L_sub (a := ((hi : Nat) : Int)) (b := ((mid : Nat) : Int)) (c := ((hi - mid : Nat) : Int)) rfl rfl (nat_i64 (by omega) (by omega)) ?_)
    refine RW_op (L_eql rfl rfl ?_)
    refine RW_nil ?_
    refine W_cond (t := decide (((hi - mid : Nat) : Int) = 1)) rfl (fun c12 => ?_) (fun c12 => ?_)
    ·
      replace c12 := of_decide_eq_true c12
      refine W_seq ?_
      refine W_region ?_
      refine RW_op (L_move (V := .int .i64 ((lo : Nat) : Int)) rfl ?_)
      refine RW_op (L_assign (V := .int .i64 ((lo : Nat) : Int)) rfl ?_)
      refine RW_nil ?_
      refine W_seq ?_
      refine W_region ?_
      refine RW_op (L_move (V := .int .i64 ((mid : Nat) : Int)) rfl ?_)
      refine RW_op (L_assign (V := .int .i64 ((mid : Nat) : Int)) rfl ?_)
      refine RW_nil ?_
      refine W_seq ?_
      refine W_block ?_
      refine W_loopI (fun ρ μ ρ' w' => ∃ (ρo : Env) (i : Nat) (j : Nat), ρ' = upd (upd (mix [14, 15, 16, 83, 84, 85, 86, 87, 88, 89, 90, 91, 92, 93, 94, 95, 96, 97, 98, 99, 100, 101, 102, 103, 104, 105, 106] ρo ρ) 14 (.int .i64 ((i : Nat) : Int))) 15 (.int .i64 ((j : Nat) : Int)) ∧ (lo ≤ i) ∧ (i ≤ j) ∧ (j ≤ mid) ∧ (i = lo ∨ ¬ cf (gd l mid) (gd l (i - 1)) < 0) ∧ (j = mid ∨ cf (gd l mid) (gd l j) < 0) ∧ μ = j - i ∧ Own w S w' [row (.slice a N c) (l.map cec) 128 7]) ?_ ?_
      · exact ⟨_, _, lo, mid, upd_of (upd_of (mix_of (ds := [14, 15, 16, 83, 84, 85, 86, 87, 88, 89, 90, 91, 92, 93, 94, 95, 96, 97, 98, 99, 100, 101, 102, 103, 104, 105, 106]) (Agr.refl _ _)) rfl) rfl, (Nat.le_refl _), (by omega), (Nat.le_refl _), (Or.inl rfl), (Or.inl rfl), rfl, hs⟩
      · rintro μ ρ' w13 ⟨ρo, i, j, rfl, hi1, hij, hj1, hi2, hj2, rfl, hs⟩
        refine W_seq ?_
        refine W_seq ?_
        refine W_region ?_
        refine RW_op (L_move (V := .int .i64 ((i : Nat) : Int)) rfl ?_)
        refine RW_op (L_move (V := .int .i64 ((j : Nat) : Int)) rfl ?_)
        refine RW_op (L_lss rfl rfl ?_)
        refine RW_nil ?_
        refine W_cond (t := decide (((i : Nat) : Int) < ((j : Nat) : Int))) rfl (fun c14 => ?_) (fun c14 => ?_)
        ·
          replace c14 := of_decide_eq_true c14
          refine W_skip ?_
          refine W_block ?_
          refine W_seq ?_
          refine W_region ?_
          refine RW_op (L_move (V := .int .i64 ((i : Nat) : Int)) rfl ?_)
          refine RW_op (L_move (V := .int .i64 ((j : Nat) : Int)) rfl ?_)
          refine RW_op (L_add (a := ((i : Nat) : Int)) (b := ((j : Nat) : Int)) (c := ((i + j : Nat) : Int)) rfl rfl (nat_i64 (by omega) (by omega)) ?_)
          refine RW_op (L_conv UD_3 UD_170 rfl (wr_u64 (by omega) (by omega)) ?_)
          refine RW_op (L_shrN rfl rfl ?_)
          refine RW_op (L_conv UD_170 UD_3 rfl (wr_i64 (by omega) (by omega)) ?_)
          refine RW_op (L_assign (V := .int .i64 (((i + j) / 2 : Nat) : Int)) rfl ?_)
          refine RW_nil ?_
          refine W_seq ?_
          refine W_regD HM [some 92, some 93, some 94, some 95, some 96, some 97, some 98, some 99, some 100, some 101, some 102, some 103] [] [0, 0, 0, 6, 14, 0, 0, 96, 224, 511, 1023, 2047] [pv (.func (.func g) #[] #[]), pv (.slice a N c), pv (.int .i64 ((mid : Nat) : Int)), pv (.pointer (some ⟨bkS (.slice a N c), ofS (.slice a N c) + ((mid : Nat) : Int).toNat * 7, none⟩)), pv (.agg (cec (gd l mid)).toArray), pv (.slice a N c), pv (.int .i64 (((i + j) / 2 : Nat) : Int)), pv (.pointer (some ⟨bkS (.slice a N c), ofS (.slice a N c) + (((i + j) / 2 : Nat) : Int).toNat * 7, none⟩)), pv (.agg (cec (gd l ((i + j) / 2))).toArray), pv (.int .i64 (cf (gd l mid) (gd l ((i + j) / 2)))), pv (.bool (decide (cf (gd l mid) (gd l ((i + j) / 2)) < 0))), pv (.bool (!decide (cf (gd l mid) (gd l ((i + j) / 2)) < 0)))] (fun _ _ => _) [11] (by kernel_rfl) hs ⟨?_, ?_, ?_, ?_, ?_, ?_, ?_, ?_, ?_, ?_, ?_, ?_, trivial⟩ ?_
          · exact ob [] [] rfl rfl fun D ρ w hs => L_move (V := .func (.func g) #[] #[]) rfl ⟨rfl, hs⟩
          · exact ob [] [] rfl rfl fun D ρ w hs => L_move (V := .slice a N c) rfl ⟨rfl, hs⟩
          · exact ob [] [] rfl rfl fun D ρ w hs => L_move (V := .int .i64 ((mid : Nat) : Int)) rfl ⟨rfl, hs⟩
          · exact ob [1, 2] [] rfl rfl fun D ρ w hs => L_ixR UD_59 SA_128.1 (hs.rd 0 rfl) rfl rfl (by omega) (by rw [List.length_map]; omega) ⟨rfl, hs⟩
          · exact ob [3] [] rfl rfl fun D ρ w hs => L_ldRA (j := 0) (vs := cec (gd l mid)) mid SA_128 (hs.rd 0 rfl) (gd_at (by omega)) rfl rfl rfl (by omega) ⟨rfl, hs⟩
          · exact ob [] [] rfl rfl fun D ρ w hs => L_move (V := .slice a N c) rfl ⟨rfl, hs⟩
          · exact ob [] [] rfl rfl fun D ρ w hs => L_move (V := .int .i64 (((i + j) / 2 : Nat) : Int)) rfl ⟨rfl, hs⟩
          · exact ob [5, 6] [] rfl rfl fun D ρ w hs => L_ixR UD_59 SA_128.1 (hs.rd 0 rfl) rfl rfl (by omega) (by rw [List.length_map]; omega) ⟨rfl, hs⟩
          · exact ob [7] [] rfl rfl fun D ρ w hs => L_ldRA (j := 0) (vs := cec (gd l ((i + j) / 2))) ((i + j) / 2) SA_128 (hs.rd 0 rfl) (gd_at (by omega)) rfl rfl rfl (by omega) ⟨rfl, hs⟩
          · exact ob [0, 4, 8] [] rfl rfl fun D ρ w hs => L_fnP (vs := [.agg (cec (gd l mid)).toArray, .agg (cec (gd l ((i + j) / 2))).toArray]) (cs := []) (V := .int .i64 (cf (gd l mid) (gd l ((i + j) / 2)))) hg rfl rfl (hcmp _ (gd l mid) (gd l ((i + j) / 2))) hs fun _ hs => ⟨rfl, hs⟩
          · exact ob [9] [] rfl rfl fun D ρ w hs => L_lss rfl rfl ⟨rfl, hs⟩
          · exact ob [10] [] rfl rfl fun D ρ w hs => L_not rfl ⟨rfl, hs⟩
          rintro ρ1 w16 ρ2 hρ hs
          replace hρ : ρ2 = upd (mix [92, 93, 94, 95, 96, 97, 98, 99, 100, 101, 102, 103] ρ1 _) 103 (.bool (!decide (cf (gd l mid) (gd l ((i + j) / 2)) < 0))) := hρ
          subst hρ
          refine W_cond (t := !decide (cf (gd l mid) (gd l ((i + j) / 2)) < 0)) rfl (fun c17 => ?_) (fun c17 => ?_)
          ·
            replace c17 := not_t c17
            replace c17 := of_decide_eq_false c17
            refine W_region ?_
            refine RW_op (L_move (V := .int .i64 (((i + j) / 2 : Nat) : Int)) rfl ?_)
            refine RW_op (L_add (a := (((i + j) / 2 : Nat) : Int)) (b := 1) (c := ((((i + j) / 2) + 1 : Nat) : Int)) rfl rfl (nat_i64 (by omega) (by omega)) ?_)
            refine RW_op (L_assign (V := .int .i64 ((((i + j) / 2) + 1 : Nat) : Int)) rfl ?_)
            refine RW_nil ?_
            refine ⟨_, ?_, _, ((i + j) / 2) + 1, j, upd_of (upd_of (mix_of (ds := [14, 15, 16, 83, 84, 85, 86, 87, 88, 89, 90, 91, 92, 93, 94, 95, 96, 97, 98, 99, 100, 101, 102, 103, 104, 105, 106]) (by repeat (first | exact Agr.refl _ _ | refine Agr.upd ?_ rfl | refine Agr.mix ?_ rfl))) rfl) rfl, (by omega), (by omega), (by omega), (Or.inr (by rw [Nat.add_sub_cancel]; exact c17)), hj2, rfl, hs.take 1⟩
            omega
          ·
            replace c17 := not_f c17
            replace c17 := of_decide_eq_true c17
            refine W_region ?_
            refine RW_op (L_move (V := .int .i64 (((i + j) / 2 : Nat) : Int)) rfl ?_)
            refine RW_op (L_assign (V := .int .i64 (((i + j) / 2 : Nat) : Int)) rfl ?_)
            refine RW_nil ?_
            refine ⟨_, ?_, _, i, (i + j) / 2, upd_of (upd_of (mix_of (ds := [14, 15, 16, 83, 84, 85, 86, 87, 88, 89, 90, 91, 92, 93, 94, 95, 96, 97, 98, 99, 100, 101, 102, 103, 104, 105, 106]) (by repeat (first | exact Agr.refl _ _ | refine Agr.upd ?_ rfl | refine Agr.mix ?_ rfl))) rfl) rfl, (by omega), (by omega), (by omega), hi2, (Or.inr c17), rfl, hs.take 1⟩
            omega
        ·
          replace c14 := of_decide_eq_false c14
          refine W_exit ?_
          refine W_seq ?_
          refine W_seq ?_
          refine W_region ?_
          refine RW_op (L_move (V := .int .i64 ((mid : Nat) : Int)) rfl ?_)
          refine RW_op (L_assign (V := .int .i64 ((mid : Nat) : Int)) rfl ?_)
          refine RW_nil ?_
          refine W_block ?_
          have hie : i = j := by omega
          refine W_loopI (fun ρ μ ρ' w' => ∃ (ρo : Env) (k : Nat) (m : List Cen), ρ' = upd (mix [17, 108, 109, 110, 111, 112, 113, 114, 115, 116, 117, 118, 119, 120, 121, 122, 123, 124, 125, 126, 127, 128] ρo ρ) 17 (.int .i64 ((k : Nat) : Int)) ∧ (i ≤ k) ∧ (k ≤ mid) ∧ (m.length = N) ∧ (RotSeg l m k mid (mid + 1)) ∧ μ = k + 1 ∧ Own w S w' [row (.slice a N c) (m.map cec) 128 7]) ?_ ?_
          · exact ⟨_, _, mid, l, upd_of (mix_of (ds := [17, 108, 109, 110, 111, 112, 113, 114, 115, 116, 117, 118, 119, 120, 121, 122, 123, 124, 125, 126, 127, 128]) (Agr.refl _ _)) rfl, (by omega), (Nat.le_refl _), hz, (RotSeg.refl (by omega) (by omega) (by omega) (Or.inl rfl)), rfl, hs⟩
          · rintro μ ρ' w18 ⟨ρo, k, m, rfl, hk1, hk2, hz1, hro, rfl, hs⟩
            refine W_seq ?_
            refine W_seq ?_
            refine W_region ?_
            refine RW_op (L_move (V := .int .i64 ((k : Nat) : Int)) rfl ?_)
            refine RW_op (L_move (V := .int .i64 ((i : Nat) : Int)) rfl ?_)
            refine RW_op (L_gtr rfl rfl ?_)
            refine RW_nil ?_
            refine W_cond (t := decide (((i : Nat) : Int) < ((k : Nat) : Int))) rfl (fun c19 => ?_) (fun c19 => ?_)
            ·
              replace c19 := of_decide_eq_true c19
              refine W_skip ?_
              refine W_seq ?_
              refine W_block ?_
              refine W_regD HM [some 113, some 114, some 115, some 116, some 117, some 118, some 119, some 120, some 121, some 122, some 123, some 124, some 125, some 126, some 127, none, some 128, none] [] [0, 0, 0, 0, 8, 0, 0, 64, 224, 480, 0, 0, 3072, 7168, 16355, 32739, 65535, 131071] [pv (.slice a N c), pv (.int .i64 ((k : Nat) : Int)), pv (.slice a N c), pv (.int .i64 ((k : Nat) : Int)), pv (.int .i64 ((k - 1 : Nat) : Int)), pv (.slice a N c), pv (.int .i64 ((k : Nat) : Int)), pv (.int .i64 ((k - 1 : Nat) : Int)), pv (.pointer (some ⟨bkS (.slice a N c), ofS (.slice a N c) + ((k - 1 : Nat) : Int).toNat * 7, none⟩)), pv (.agg (cec (gd m (k - 1))).toArray), pv (.slice a N c), pv (.int .i64 ((k : Nat) : Int)), pv (.pointer (some ⟨bkS (.slice a N c), ofS (.slice a N c) + ((k : Nat) : Int).toNat * 7, none⟩)), pv (.agg (cec (gd m k)).toArray), pv (.pointer (some ⟨bkS (.slice a N c), ofS (.slice a N c) + ((k : Nat) : Int).toNat * 7, none⟩)), pn, pv (.pointer (some ⟨bkS (.slice a N c), ofS (.slice a N c) + ((k - 1 : Nat) : Int).toNat * 7, none⟩)), pn] (fun D ρ => [cond (D 17) (row (.slice a N c) (((m.set k (gd m (k - 1))).set (k - 1) (gd m k)).map cec) 128 7) (cond (D 15) (row (.slice a N c) ((m.set k (gd m (k - 1))).map cec) 128 7) (row (.slice a N c) (m.map cec) 128 7))]) [] (by kernel_rfl) hs ⟨?_, ?_, ?_, ?_, ?_, ?_, ?_, ?_, ?_, ?_, ?_, ?_, ?_, ?_, ?_, ?_, ?_, ?_, trivial⟩ ?_
              · exact ob [] [] rfl rfl fun D ρ w hs => L_move (V := .slice a N c) rfl ⟨rfl, hs⟩
              · exact ob [] [] rfl rfl fun D ρ w hs => L_move (V := .int .i64 ((k : Nat) : Int)) rfl ⟨rfl, hs⟩
              · exact ob [] [] rfl rfl fun D ρ w hs => L_move (V := .slice a N c) rfl ⟨rfl, hs⟩
              · exact ob [] [] rfl rfl fun D ρ w hs => L_move (V := .int .i64 ((k : Nat) : Int)) rfl ⟨rfl, hs⟩
              · exact ob [3] [] rfl rfl fun D ρ w hs => L_sub (a := ((k : Nat) : Int)) (b := 1) (c := ((k - 1 : Nat) : Int)) rfl rfl (nat_i64 (by omega) (by omega)) ⟨rfl, hs⟩
              · exact ob [] [] rfl rfl fun D ρ w hs => L_move (V := .slice a N c) rfl ⟨rfl, hs⟩
              · exact ob [] [] rfl rfl fun D ρ w hs => L_move (V := .int .i64 ((k : Nat) : Int)) rfl ⟨rfl, hs⟩
              · exact ob [6] [] rfl rfl fun D ρ w hs => L_sub (a := ((k : Nat) : Int)) (b := 1) (c := ((k - 1 : Nat) : Int)) rfl rfl (nat_i64 (by omega) (by omega)) ⟨rfl, hs⟩
              · exact ob [5, 7] [15, 17] rfl rfl fun D ρ w hs => L_ixR UD_59 SA_128.1 (hs.rd 0 rfl) rfl rfl (by omega) (by rw [List.length_map]; omega) ⟨rfl, hs⟩
              · exact ob [8] [15, 17] rfl rfl fun D ρ w hs => L_ldRA (j := 0) (vs := cec (gd m (k - 1))) (k - 1) SA_128 (hs.rd 0 rfl) (gd_at (by omega)) rfl rfl rfl (by omega) ⟨rfl, hs⟩
              · exact ob [] [] rfl rfl fun D ρ w hs => L_move (V := .slice a N c) rfl ⟨rfl, hs⟩
              · exact ob [] [] rfl rfl fun D ρ w hs => L_move (V := .int .i64 ((k : Nat) : Int)) rfl ⟨rfl, hs⟩
              · exact ob [10, 11] [15, 17] rfl rfl fun D ρ w hs => L_ixR UD_59 SA_128.1 (hs.rd 0 rfl) rfl rfl (by omega) (by rw [List.length_map]; omega) ⟨rfl, hs⟩
              · exact ob [12] [15, 17] rfl rfl fun D ρ w hs => L_ldRA (j := 0) (vs := cec (gd m k)) k SA_128 (hs.rd 0 rfl) (gd_at (by omega)) rfl rfl rfl (by omega) ⟨rfl, hs⟩
              · exact ob [0, 1] [15, 17] rfl rfl fun D ρ w hs => L_ixR UD_59 SA_128.1 (hs.rd 0 rfl) rfl rfl (by omega) (by rw [List.length_map]; omega) ⟨rfl, hs⟩
              · exact ob [9, 14] [17] rfl rfl fun D ρ w hs => L_stE (z := gd m (k - 1)) k SA_128.1 hs 0 rfl rfl rfl (by first | omega | (simp only [List.length_set]; omega)) rfl rfl rfl (cec_one _) fun _ hs => ⟨trivial, hs⟩
              · exact ob [2, 4, 15] [17] rfl rfl fun D ρ w hs => L_ixR UD_59 SA_128.1 (hs.rd 0 rfl) rfl rfl (by omega) (by simp only [List.length_map, List.length_set]; omega) ⟨rfl, hs⟩
              · exact ob [13, 15, 16] [] rfl rfl fun D ρ w hs => L_stE (z := gd m k) (k - 1) SA_128.1 hs 0 rfl rfl rfl (by first | omega | (simp only [List.length_set]; omega)) rfl rfl rfl (cec_one _) fun _ hs => ⟨trivial, hs⟩
              rintro ρ1 w22 ρ2 hρ hs
              replace hρ : ρ2 = mix [113, 114, 115, 116, 117, 118, 119, 120, 121, 122, 123, 124, 125, 126, 127, 128] ρ1 _ := hρ
              replace hs : Own w S w22 [row (.slice a N c) (((m.set k (gd m (k - 1))).set (k - 1) (gd m k)).map cec) 128 7] := hs
              subst hρ
              replace hs : Own w S _ [row (.slice a N c) ((swL m k (k - 1)).map cec) 128 7] := hs.take 1
              refine W_region ?_
              refine RW_op (L_move (V := .int .i64 ((k : Nat) : Int)) rfl ?_)
              refine RW_op (L_sub (a := ((k : Nat) : Int)) (b := 1) (c := ((k - 1 : Nat) : Int)) rfl rfl (nat_i64 (by omega) (by omega)) ?_)
              refine RW_op (L_assign (V := .int .i64 ((k - 1 : Nat) : Int)) rfl ?_)
              refine RW_nil ?_
              refine ⟨_, ?_, _, k - 1, swL m k (k - 1), upd_of (mix_of (ds := [17, 108, 109, 110, 111, 112, 113, 114, 115, 116, 117, 118, 119, 120, 121, 122, 123, 124, 125, 126, 127, 128]) (by repeat (first | exact Agr.refl _ _ | refine Agr.upd ?_ rfl | refine Agr.mix ?_ rfl))) rfl, (by omega), (by omega), (by rw [swL_len]; exact hz1), (rot_down hro (by omega)), rfl, hs.take 1⟩
              omega
            ·
              replace c19 := of_decide_eq_false c19
              refine W_exit ?_
              refine W_ret ?_
              refine ⟨_, res_none Try.results139, ?_⟩
              have hke : k = i := by omega
              rw [hke] at hro
              have hm := sym_down hc ho1 hi1 (by omega) (by omega) hro hi2 (by rw [hie]; exact hj2)
              rw [show mid + 1 = hi by omega] at hm
              exact ⟨m, rfl, hs.take 1, hz1, hm⟩
    ·
      replace c12 := of_decide_eq_false c12
      refine W_skip ?_
      refine W_seq ?_
      refine W_region ?_
      refine RW_op (L_move (V := .int .i64 ((lo : Nat) : Int)) rfl ?_)
      refine RW_op (L_move (V := .int .i64 ((hi : Nat) : Int)) rfl ?_)
      refine RW_op (L_add (a := ((lo : Nat) : Int)) (b := ((hi : Nat) : Int)) (c := ((lo + hi : Nat) : Int)) rfl rfl (nat_i64 (by omega) (by omega)) ?_)
      refine RW_op (L_conv UD_3 UD_170 rfl (wr_u64 (by omega) (by omega)) ?_)
      refine RW_op (L_shrN rfl rfl ?_)
      refine RW_op (L_conv UD_170 UD_3 rfl (wr_i64 (by omega) (by omega)) ?_)
      refine RW_op (L_assign (V := .int .i64 (((lo + hi) / 2 : Nat) : Int)) rfl ?_)
      refine RW_nil ?_
      refine W_seq ?_
      refine W_region ?_
      refine RW_op (L_move (V := .int .i64 (((lo + hi) / 2 : Nat) : Int)) rfl ?_)
      refine RW_op (L_move (V := .int .i64 ((mid : Nat) : Int)) rfl ?_)
      refine RW_op (L_add (a := (((lo + hi) / 2 : Nat) : Int)) (b := ((mid : Nat) : Int)) (c := ((((lo + hi) / 2) + mid : Nat) : Int)) rfl rfl (nat_i64 (by omega) (by omega)) ?_)
      refine RW_op (L_assign (V := .int .i64 ((((lo + hi) / 2) + mid : Nat) : Int)) rfl ?_)
      refine RW_nil ?_
      refine W_seq ?_
      refine W_region ?_
      refine RW_op (L_assign (V := .int .i64 0) rfl ?_)
      refine RW_op (L_assign (V := .int .i64 0) rfl ?_)
      refine RW_nil ?_
      refine W_seq ?_
      refine W_seq ?_
      refine W_region ?_
      refine RW_op (L_move (V := .int .i64 ((mid : Nat) : Int)) rfl ?_)
      refine RW_op (L_move (V := .int .i64 (((lo + hi) / 2 : Nat) : Int)) rfl ?_)
      refine RW_op (L_gtr rfl rfl ?_)
      refine RW_nil ?_
      refine W_mid (fun ρ ρ' w' => ∃ (ρo : Env) (s0 : Nat) (r0 : Nat), ρ' = upd (upd (mix [20, 21, 141, 142, 143, 144, 145, 146] ρo ρ) 20 (.int .i64 ((s0 : Nat) : Int))) 21 (.int .i64 ((r0 : Nat) : Int)) ∧ (lo ≤ s0) ∧ (s0 ≤ r0) ∧ (r0 ≤ mid) ∧ (r0 ≤ (lo + hi) / 2) ∧ ((lo + hi) / 2 + mid ≤ hi + s0) ∧ (s0 = lo ∨ (lo + hi) / 2 + mid = hi + s0) ∧ (r0 = mid ∨ r0 = (lo + hi) / 2) ∧ Own w S w' [row (.slice a N c) (l.map cec) 128 7]) ?_ ?_
      ·
        refine W_cond (t := decide ((((lo + hi) / 2 : Nat) : Int) < ((mid : Nat) : Int))) rfl (fun c23 => ?_) (fun c23 => ?_)
        ·
          replace c23 := of_decide_eq_true c23
          refine W_seq ?_
          refine W_region ?_
          refine RW_op (L_move (V := .int .i64 ((((lo + hi) / 2) + mid : Nat) : Int)) rfl ?_)
          refine RW_op (L_move (V := .int .i64 ((hi : Nat) : Int)) rfl ?_)
          refine RW_op (L_sub (a := ((((lo + hi) / 2) + mid : Nat) : Int)) (b := ((hi : Nat) : Int)) (c := (((((lo + hi) / 2) + mid) - hi : Nat) : Int)) rfl rfl (nat_i64 (by omega) (by omega)) ?_)
          refine RW_op (L_assign (V := .int .i64 (((((lo + hi) / 2) + mid) - hi : Nat) : Int)) rfl ?_)
          refine RW_nil ?_
          refine W_region ?_
          refine RW_op (L_move (V := .int .i64 (((lo + hi) / 2 : Nat) : Int)) rfl ?_)
          refine RW_op (L_assign (V := .int .i64 (((lo + hi) / 2 : Nat) : Int)) rfl ?_)
          refine RW_nil ?_
          exact ⟨_, (((lo + hi) / 2) + mid) - hi, (lo + hi) / 2, upd_of (upd_of (mix_of (ds := [20, 21, 141, 142, 143, 144, 145, 146]) (by repeat (first | exact Agr.refl _ _ | refine Agr.upd ?_ rfl | refine Agr.mix ?_ rfl))) rfl) rfl, (by omega), (by omega), (by omega), (by omega), (by omega), (by omega), (by omega), hs.take 1⟩
        ·
          replace c23 := of_decide_eq_false c23
          refine W_seq ?_
          refine W_region ?_
          refine RW_op (L_move (V := .int .i64 ((lo : Nat) : Int)) rfl ?_)
          refine RW_op (L_assign (V := .int .i64 ((lo : Nat) : Int)) rfl ?_)
          refine RW_nil ?_
          refine W_region ?_
          refine RW_op (L_move (V := .int .i64 ((mid : Nat) : Int)) rfl ?_)
          refine RW_op (L_assign (V := .int .i64 ((mid : Nat) : Int)) rfl ?_)
          refine RW_nil ?_
          exact ⟨_, lo, mid, upd_of (upd_of (mix_of (ds := [20, 21, 141, 142, 143, 144, 145, 146]) (by repeat (first | exact Agr.refl _ _ | refine Agr.upd ?_ rfl | refine Agr.mix ?_ rfl))) rfl) rfl, (by omega), (by omega), (by omega), (by omega), (by omega), (by omega), (by omega), hs.take 1⟩
      · rintro ρ' w24 ⟨ρo, s0, r0, rfl, q1, q2, q3, q4, q5, q6, q7, hs⟩
        refine W_seq ?_
        refine W_region ?_
        refine RW_op (L_move (V := .int .i64 ((((lo + hi) / 2) + mid : Nat) : Int)) rfl ?_)
        refine RW_op (L_sub (a := ((((lo + hi) / 2) + mid : Nat) : Int)) (b := 1) (c := (((((lo + hi) / 2) + mid) - 1 : Nat) : Int)) rfl rfl (nat_i64 (by omega) (by omega)) ?_)
        refine RW_op (L_assign (V := .int .i64 (((((lo + hi) / 2) + mid) - 1 : Nat) : Int)) rfl ?_)
        refine RW_nil ?_
        refine W_seq ?_
        refine W_block ?_
        refine W_loopI (fun ρ μ ρ' w' => ∃ (ρo : Env) (s : Nat) (r : Nat), ρ' = upd (upd (mix [20, 21, 23, 149, 150, 151, 152, 153, 154, 155, 156, 157, 158, 159, 160, 161, 162, 163, 164, 165, 166, 167, 168, 169, 170, 171, 172, 173, 174] ρo ρ) 20 (.int .i64 ((s : Nat) : Int))) 21 (.int .i64 ((r : Nat) : Int)) ∧ (s0 ≤ s) ∧ (s ≤ r) ∧ (r ≤ r0) ∧ (s = s0 ∨ ¬ cf (gd l ((lo + hi) / 2 + mid - 1 - (s - 1))) (gd l (s - 1)) < 0) ∧ (r = r0 ∨ cf (gd l ((lo + hi) / 2 + mid - 1 - r)) (gd l r) < 0) ∧ μ = r - s ∧ Own w S w' [row (.slice a N c) (l.map cec) 128 7]) ?_ ?_
        · exact ⟨_, _, s0, r0, upd_of (upd_of (mix_of (ds := [20, 21, 23, 149, 150, 151, 152, 153, 154, 155, 156, 157, 158, 159, 160, 161, 162, 163, 164, 165, 166, 167, 168, 169, 170, 171, 172, 173, 174]) (Agr.refl _ _)) rfl) rfl, (Nat.le_refl _), (by omega), (Nat.le_refl _), (Or.inl rfl), (Or.inl rfl), rfl, hs⟩
        · rintro μ ρ' w25 ⟨ρo, s, r, rfl, hs1, hsr, hr1, hs2, hr2, rfl, hs⟩
          refine W_seq ?_
          refine W_seq ?_
          refine W_region ?_
          refine RW_op (L_move (V := .int .i64 ((s : Nat) : Int)) rfl ?_)
          refine RW_op (L_move (V := .int .i64 ((r : Nat) : Int)) rfl ?_)
          refine RW_op (L_lss rfl rfl ?_)
          refine RW_nil ?_
          refine W_cond (t := decide (((s : Nat) : Int) < ((r : Nat) : Int))) rfl (fun c26 => ?_) (fun c26 => ?_)
          ·
            replace c26 := of_decide_eq_true c26
            refine W_skip ?_
            refine W_block ?_
            refine W_seq ?_
            refine W_region ?_
            refine RW_op (L_move (V := .int .i64 ((s : Nat) : Int)) rfl ?_)
            refine RW_op (L_move (V := .int .i64 ((r : Nat) : Int)) rfl ?_)
            refine RW_op (L_add (a := ((s : Nat) : Int)) (b := ((r : Nat) : Int)) (c := ((s + r : Nat) : Int)) rfl rfl (nat_i64 (by omega) (by omega)) ?_)
            refine RW_op (L_conv UD_3 UD_170 rfl (wr_u64 (by omega) (by omega)) ?_)
            refine RW_op (L_shrN rfl rfl ?_)
            refine RW_op (L_conv UD_170 UD_3 rfl (wr_i64 (by omega) (by omega)) ?_)
            refine RW_op (L_assign (V := .int .i64 (((s + r) / 2 : Nat) : Int)) rfl ?_)
            refine RW_nil ?_
            refine W_seq ?_
            refine W_regD HM [some 158, some 159, some 160, some 161, some 162, some 163, some 164, some 165, some 166, some 167, some 168, some 169, some 170, some 171] [] [0, 0, 0, 0, 12, 30, 62, 0, 0, 384, 896, 2047, 4095, 8191] [pv (.func (.func g) #[] #[]), pv (.slice a N c), pv (.int .i64 (((((lo + hi) / 2) + mid) - 1 : Nat) : Int)), pv (.int .i64 (((s + r) / 2 : Nat) : Int)), pv (.int .i64 ((((((lo + hi) / 2) + mid) - 1) - ((s + r) / 2) : Nat) : Int)), pv (.pointer (some ⟨bkS (.slice a N c), ofS (.slice a N c) + ((((((lo + hi) / 2) + mid) - 1) - ((s + r) / 2) : Nat) : Int).toNat * 7, none⟩)), pv (.agg (cec (gd l (((((lo + hi) / 2) + mid) - 1) - ((s + r) / 2)))).toArray), pv (.slice a N c), pv (.int .i64 (((s + r) / 2 : Nat) : Int)), pv (.pointer (some ⟨bkS (.slice a N c), ofS (.slice a N c) + (((s + r) / 2 : Nat) : Int).toNat * 7, none⟩)), pv (.agg (cec (gd l ((s + r) / 2))).toArray), pv (.int .i64 (cf (gd l (((((lo + hi) / 2) + mid) - 1) - ((s + r) / 2))) (gd l ((s + r) / 2)))), pv (.bool (decide (cf (gd l (((((lo + hi) / 2) + mid) - 1) - ((s + r) / 2))) (gd l ((s + r) / 2)) < 0))), pv (.bool (!decide (cf (gd l (((((lo + hi) / 2) + mid) - 1) - ((s + r) / 2))) (gd l ((s + r) / 2)) < 0)))] (fun _ _ => _) [13] (by kernel_rfl) hs ⟨?_, ?_, ?_, ?_, ?_, ?_, ?_, ?_, ?_, ?_, ?_, ?_, ?_, ?_, trivial⟩ ?_
            · exact ob [] [] rfl rfl fun D ρ w hs => L_move (V := .func (.func g) #[] #[]) rfl ⟨rfl, hs⟩
            · exact ob [] [] rfl rfl fun D ρ w hs => L_move (V := .slice a N c) rfl ⟨rfl, hs⟩
            · exact ob [] [] rfl rfl fun D ρ w hs => L_move (V := .int .i64 (((((lo + hi) / 2) + mid) - 1 : Nat) : Int)) rfl ⟨rfl, hs⟩
            · exact ob [] [] rfl rfl fun D ρ w hs => L_move (V := .int .i64 (((s + r) / 2 : Nat) : Int)) rfl ⟨rfl, hs⟩
            · exact ob [2, 3] [] rfl rfl fun D ρ w hs => L_sub (a := (((((lo + hi) / 2) + mid) - 1 : Nat) : Int)) (b := (((s + r) / 2 : Nat) : Int)) (c := ((((((lo + hi) / 2) + mid) - 1) - ((s + r) / 2) : Nat) : Int)) rfl rfl (nat_i64 (by omega) (by omega)) ⟨rfl, hs⟩
            · exact ob [1, 4] [] rfl rfl fun D ρ w hs => L_ixR UD_59 SA_128.1 (hs.rd 0 rfl) rfl rfl (by omega) (by rw [List.length_map]; omega) ⟨rfl, hs⟩
            · exact ob [5] [] rfl rfl fun D ρ w hs => L_ldRA (j := 0) (vs := cec (gd l (((((lo + hi) / 2) + mid) - 1) - ((s + r) / 2)))) (((((lo + hi) / 2) + mid) - 1) - ((s + r) / 2)) SA_128 (hs.rd 0 rfl) (gd_at (by omega)) rfl rfl rfl (by omega) ⟨rfl, hs⟩
            · exact ob [] [] rfl rfl fun D ρ w hs => L_move (V := .slice a N c) rfl ⟨rfl, hs⟩
            · exact ob [] [] rfl rfl fun D ρ w hs => L_move (V := .int .i64 (((s + r) / 2 : Nat) : Int)) rfl ⟨rfl, hs⟩
            · exact ob [7, 8] [] rfl rfl fun D ρ w hs => L_ixR UD_59 SA_128.1 (hs.rd 0 rfl) rfl rfl (by omega) (by rw [List.length_map]; omega) ⟨rfl, hs⟩
            · exact ob [9] [] rfl rfl fun D ρ w hs => L_ldRA (j := 0) (vs := cec (gd l ((s + r) / 2))) ((s + r) / 2) SA_128 (hs.rd 0 rfl) (gd_at (by omega)) rfl rfl rfl (by omega) ⟨rfl, hs⟩
            · exact ob [0, 6, 10] [] rfl rfl fun D ρ w hs => L_fnP (vs := [.agg (cec (gd l (((((lo + hi) / 2) + mid) - 1) - ((s + r) / 2)))).toArray, .agg (cec (gd l ((s + r) / 2))).toArray]) (cs := []) (V := .int .i64 (cf (gd l (((((lo + hi) / 2) + mid) - 1) - ((s + r) / 2))) (gd l ((s + r) / 2)))) hg rfl rfl (hcmp _ (gd l (((((lo + hi) / 2) + mid) - 1) - ((s + r) / 2))) (gd l ((s + r) / 2))) hs fun _ hs => ⟨rfl, hs⟩
            · exact ob [11] [] rfl rfl fun D ρ w hs => L_lss rfl rfl ⟨rfl, hs⟩
            · exact ob [12] [] rfl rfl fun D ρ w hs => L_not rfl ⟨rfl, hs⟩
            rintro ρ1 w28 ρ2 hρ hs
            replace hρ : ρ2 = upd (mix [158, 159, 160, 161, 162, 163, 164, 165, 166, 167, 168, 169, 170, 171] ρ1 _) 171 (.bool (!decide (cf (gd l (((((lo + hi) / 2) + mid) - 1) - ((s + r) / 2))) (gd l ((s + r) / 2)) < 0))) := hρ
            subst hρ
            refine W_cond (t := !decide (cf (gd l (((((lo + hi) / 2) + mid) - 1) - ((s + r) / 2))) (gd l ((s + r) / 2)) < 0)) rfl (fun c29 => ?_) (fun c29 => ?_)
            ·
              replace c29 := not_t c29
              replace c29 := of_decide_eq_false c29
              refine W_region ?_
              refine RW_op (L_move (V := .int .i64 (((s + r) / 2 : Nat) : Int)) rfl ?_)
              refine RW_op (L_add (a := (((s + r) / 2 : Nat) : Int)) (b := 1) (c := ((((s + r) / 2) + 1 : Nat) : Int)) rfl rfl (nat_i64 (by omega) (by omega)) ?_)
              refine RW_op (L_assign (V := .int .i64 ((((s + r) / 2) + 1 : Nat) : Int)) rfl ?_)
              refine RW_nil ?_
              refine ⟨_, ?_, _, ((s + r) / 2) + 1, r, upd_of (upd_of (mix_of (ds := [20, 21, 23, 149, 150, 151, 152, 153, 154, 155, 156, 157, 158, 159, 160, 161, 162, 163, 164, 165, 166, 167, 168, 169, 170, 171, 172, 173, 174]) (by repeat (first | exact Agr.refl _ _ | refine Agr.upd ?_ rfl | refine Agr.mix ?_ rfl))) rfl) rfl, (by omega), (by omega), (by omega), (Or.inr (by rw [Nat.add_sub_cancel]; exact c29)), hr2, rfl, hs.take 1⟩
              omega
            ·
              replace c29 := not_f c29
              replace c29 := of_decide_eq_true c29
              refine W_region ?_
              refine RW_op (L_move (V := .int .i64 (((s + r) / 2 : Nat) : Int)) rfl ?_)
              refine RW_op (L_assign (V := .int .i64 (((s + r) / 2 : Nat) : Int)) rfl ?_)
              refine RW_nil ?_
              refine ⟨_, ?_, _, s, (s + r) / 2, upd_of (upd_of (mix_of (ds := [20, 21, 23, 149, 150, 151, 152, 153, 154, 155, 156, 157, 158, 159, 160, 161, 162, 163, 164, 165, 166, 167, 168, 169, 170, 171, 172, 173, 174]) (by repeat (first | exact Agr.refl _ _ | refine Agr.upd ?_ rfl | refine Agr.mix ?_ rfl))) rfl) rfl, (by omega), (by omega), (by omega), hs2, (Or.inr c29), rfl, hs.take 1⟩
              omega
          ·
            replace c26 := of_decide_eq_false c26
            refine W_exit ?_
            refine W_seq ?_
            refine W_region ?_
            refine RW_op (L_move (V := .int .i64 ((((lo + hi) / 2) + mid : Nat) : Int)) rfl ?_)
            refine RW_op (L_move (V := .int .i64 ((s : Nat) : Int)) rfl ?_)
            refine RW_op (L_sub (a := ((((lo + hi) / 2) + mid : Nat) : Int)) (b := ((s : Nat) : Int)) (c := (((((lo + hi) / 2) + mid) - s : Nat) : Int)) rfl rfl (nat_i64 (by omega) (by omega)) ?_)
            refine RW_op (L_assign (V := .int .i64 (((((lo + hi) / 2) + mid) - s : Nat) : Int)) rfl ?_)
            refine RW_nil ?_
            refine W_seq ?_
            refine W_seq ?_
            refine W_regO [some 178, some 179, some 180, some 181, some 182, some 183, some 184, some 185] [] [0, 0, 3, 7, 15, 15, 63, 127] [pv (.int .i64 ((s : Nat) : Int)), pv (.int .i64 ((mid : Nat) : Int)), pv (.bool (decide (((s : Nat) : Int) < ((mid : Nat) : Int)))), pv (.bool (decide (((s : Nat) : Int) < ((mid : Nat) : Int)))), pg ((decide (((s : Nat) : Int) < ((mid : Nat) : Int))) == true) (.int .i64 ((mid : Nat) : Int)), pg ((decide (((s : Nat) : Int) < ((mid : Nat) : Int))) == true) (.int .i64 (((((lo + hi) / 2) + mid) - s : Nat) : Int)), pg ((decide (((s : Nat) : Int) < ((mid : Nat) : Int))) == true) (.bool (decide (((mid : Nat) : Int) < (((((lo + hi) / 2) + mid) - s : Nat) : Int)))), pv (.bool ((decide (((s : Nat) : Int) < ((mid : Nat) : Int))) && (decide (((mid : Nat) : Int) < (((((lo + hi) / 2) + mid) - s : Nat) : Int)))))] (fun _ _ => _) [7] (by kernel_rfl) hs ⟨?_, ?_, ?_, ?_, ?_, ?_, ?_, ?_, trivial⟩ ?_
            · exact ob [] [] rfl rfl fun D ρ w hs => L_move (V := .int .i64 ((s : Nat) : Int)) rfl ⟨rfl, hs⟩
            · exact ob [] [] rfl rfl fun D ρ w hs => L_move (V := .int .i64 ((mid : Nat) : Int)) rfl ⟨rfl, hs⟩
            · exact ob [0, 1] [] rfl rfl fun D ρ w hs => L_lss rfl rfl ⟨rfl, hs⟩
            · exact ob [2] [] rfl rfl fun D ρ w hs => L_move (V := .bool (decide (((s : Nat) : Int) < ((mid : Nat) : Int)))) rfl ⟨rfl, hs⟩
            · exact obg [3] [] (decide (((s : Nat) : Int) < ((mid : Nat) : Int))) rfl (fun _ => rfl) rfl (fun _ _ _ _ h => h) fun D ρ w hG hs => L_move (V := .int .i64 ((mid : Nat) : Int)) rfl ⟨rfl, hs⟩
            · exact obg [3] [] (decide (((s : Nat) : Int) < ((mid : Nat) : Int))) rfl (fun _ => rfl) rfl (fun _ _ _ _ h => h) fun D ρ w hG hs => L_move (V := .int .i64 (((((lo + hi) / 2) + mid) - s : Nat) : Int)) rfl ⟨rfl, hs⟩
            · exact obgy [3, 4, 5] [] [4, 5] (decide (((s : Nat) : Int) < ((mid : Nat) : Int))) rfl (fun _ => rfl) rfl (fun _ _ _ _ h => h) (fun hG => ⟨hG, hG, trivial⟩) fun D ρ w hG hs => L_lss rfl rfl ⟨rfl, hs⟩
            · exact ob [3, 6] [] rfl rfl fun D ρ w hs => L_andC (h' := decide (((mid : Nat) : Int) < (((((lo + hi) / 2) + mid) - s : Nat) : Int))) rfl rfl rfl ⟨rfl, hs⟩
            rintro ρ1 w30 ρ2 hρ hs
            replace hρ : ρ2 = upd (mix [178, 179, 180, 181, 182, 183, 184, 185] ρ1 _) 185 (.bool ((decide (((s : Nat) : Int) < ((mid : Nat) : Int))) && (decide (((mid : Nat) : Int) < (((((lo + hi) / 2) + mid) - s : Nat) : Int))))) := hρ
            subst hρ
            have hse : s = r := by omega
            rw [← hse] at hr2
            have hg1 := sym_g1 (lo := lo) (hi := hi) (e := (lo + hi) / 2 + mid - s) hs2 q6 hs1 rfl
            have hg2 := sym_g2 (md := (lo + hi) / 2) (e := (lo + hi) / 2 + mid - s) hr2 q7 rfl rfl (by omega)
            refine W_mid (fun ρ ρ' w' => ∃ (ρo : Env) (m1 : List Cen), ρ' = mix [186, 187, 188, 189, 190, 191] ρo ρ ∧ (m1.length = N) ∧ (RotSeg l m1 s mid ((lo + hi) / 2 + mid - s)) ∧ Own w S w' [row (.slice a N c) (m1.map cec) 128 7]) ?_ ?_
            ·
              refine W_cond (t := (decide (((s : Nat) : Int) < ((mid : Nat) : Int))) && (decide (((mid : Nat) : Int) < (((((lo + hi) / 2) + mid) - s : Nat) : Int)))) rfl (fun c31 => ?_) (fun c31 => ?_)
              ·
                have c31r := and_r c31
                replace c31 := and_l c31
                replace c31 := of_decide_eq_true c31
                replace c31r := of_decide_eq_true c31r
                refine W_region ?_
                refine RW_op (L_move (V := .slice a N c) rfl ?_)
                refine RW_op (L_move (V := .int .i64 ((s : Nat) : Int)) rfl ?_)
                refine RW_op (L_move (V := .int .i64 ((mid : Nat) : Int)) rfl ?_)
                refine RW_op (L_move (V := .int .i64 (((((lo + hi) / 2) + mid) - s : Nat) : Int)) rfl ?_)
                refine RW_op (L_move (V := .func (.func g) #[] #[]) rfl ?_)
                refine RW_op (L_callB (α := List Cen) (vs := [.slice a N c, .int .i64 ((s : Nat) : Int), .int .i64 ((mid : Nat) : Int), .int .i64 (((((lo + hi) / 2) + mid) - s : Nat) : Int), .func (.func g) #[] #[]]) (V := fun _ => .tuple #[]) (R := row (.slice a N c) (l.map cec) 128 7) (R' := fun x => row (.slice a N c) (x.map cec) 128 7) (Lo := fun _ => []) (F := fun x _ => x.length = N ∧ RotSeg l x s mid ((((lo + hi) / 2) + mid) - s)) EN_159 rfl rfl hs 0 rfl (fun S hS hlt => rtS_ok _ S a N c l hz hN s mid ((((lo + hi) / 2) + mid) - s) (by omega) (by omega) (by omega) g hg cf hc hcmp hS hlt) fun mz32 w33 hs hF34 => ?_)
                refine RW_nil ?_
                exact ⟨_, mz32, mix_of (ds := [186, 187, 188, 189, 190, 191]) (by repeat (first | exact Agr.refl _ _ | refine Agr.upd ?_ rfl | refine Agr.mix ?_ rfl)), hF34.1, hF34.2, hs.take 1⟩
              ·
                refine W_skip ?_
                exact ⟨_, l, mix_of (ds := [186, 187, 188, 189, 190, 191]) (by repeat (first | exact Agr.refl _ _ | refine Agr.upd ?_ rfl | refine Agr.mix ?_ rfl)), hz, (RotSeg.refl (by omega) (by omega) (by omega) (by
  have ht := c31
  rcases Nat.lt_or_ge s mid with q | q
  · right; simp [q] at ht; omega
  · left; omega)), hs.take 1⟩
            · rintro ρ' w35 ⟨ρo, m1, rfl, hz1, hro, hs⟩
              have hmd : s + ((lo + hi) / 2 + mid - s - mid) = (lo + hi) / 2 := by omega
              have hh := sym_halves hc ho1 ho2 (by omega) (by omega) (by omega) (by omega) hro hg1 hg2
              rw [hmd] at hh
              obtain ⟨k1, k2, k3, k4, k5⟩ := hh
              refine W_seq ?_
              refine W_seq ?_
              refine W_regO [some 192, some 193, some 194, some 195, some 196, some 197, some 198, some 199] [] [0, 0, 3, 7, 15, 15, 63, 127] [pv (.int .i64 ((lo : Nat) : Int)), pv (.int .i64 ((s : Nat) : Int)), pv (.bool (decide (((lo : Nat) : Int) < ((s : Nat) : Int)))), pv (.bool (decide (((lo : Nat) : Int) < ((s : Nat) : Int)))), pg ((decide (((lo : Nat) : Int) < ((s : Nat) : Int))) == true) (.int .i64 ((s : Nat) : Int)), pg ((decide (((lo : Nat) : Int) < ((s : Nat) : Int))) == true) (.int .i64 (((lo + hi) / 2 : Nat) : Int)), pg ((decide (((lo : Nat) : Int) < ((s : Nat) : Int))) == true) (.bool (decide (((s : Nat) : Int) < (((lo + hi) / 2 : Nat) : Int)))), pv (.bool ((decide (((lo : Nat) : Int) < ((s : Nat) : Int))) && (decide (((s : Nat) : Int) < (((lo + hi) / 2 : Nat) : Int)))))] (fun _ _ => _) [7] (by kernel_rfl) hs ⟨?_, ?_, ?_, ?_, ?_, ?_, ?_, ?_, trivial⟩ ?_
              · exact ob [] [] rfl rfl fun D ρ w hs => L_move (V := .int .i64 ((lo : Nat) : Int)) rfl ⟨rfl, hs⟩
              · exact ob [] [] rfl rfl fun D ρ w hs => L_move (V := .int .i64 ((s : Nat) : Int)) rfl ⟨rfl, hs⟩
              · exact ob [0, 1] [] rfl rfl fun D ρ w hs => L_lss rfl rfl ⟨rfl, hs⟩
              · exact ob [2] [] rfl rfl fun D ρ w hs => L_move (V := .bool (decide (((lo : Nat) : Int) < ((s : Nat) : Int)))) rfl ⟨rfl, hs⟩
              · exact obg [3] [] (decide (((lo : Nat) : Int) < ((s : Nat) : Int))) rfl (fun _ => rfl) rfl (fun _ _ _ _ h => h) fun D ρ w hG hs => L_move (V := .int .i64 ((s : Nat) : Int)) rfl ⟨rfl, hs⟩
              · exact obg [3] [] (decide (((lo : Nat) : Int) < ((s : Nat) : Int))) rfl (fun _ => rfl) rfl (fun _ _ _ _ h => h) fun D ρ w hG hs => L_move (V := .int .i64 (((lo + hi) / 2 : Nat) : Int)) rfl ⟨rfl, hs⟩
              · exact obgy [3, 4, 5] [] [4, 5] (decide (((lo : Nat) : Int) < ((s : Nat) : Int))) rfl (fun _ => rfl) rfl (fun _ _ _ _ h => h) (fun hG => ⟨hG, hG, trivial⟩) fun D ρ w hG hs => L_lss rfl rfl ⟨rfl, hs⟩
              · exact ob [3, 6] [] rfl rfl fun D ρ w hs => L_andC (h' := decide (((s : Nat) : Int) < (((lo + hi) / 2 : Nat) : Int))) rfl rfl rfl ⟨rfl, hs⟩
              rintro ρ1 w36 ρ2 hρ hs
              replace hρ : ρ2 = upd (mix [192, 193, 194, 195, 196, 197, 198, 199] ρ1 _) 199 (.bool ((decide (((lo : Nat) : Int) < ((s : Nat) : Int))) && (decide (((s : Nat) : Int) < (((lo + hi) / 2 : Nat) : Int))))) := hρ
              subst hρ
              refine W_mid (fun ρ ρ' w' => ∃ (ρo : Env) (m2 : List Cen), ρ' = mix [200, 201, 202, 203, 204, 205] ρo ρ ∧ (m2.length = N) ∧ (Merged cf m1 m2 lo ((lo + hi) / 2)) ∧ Own w S w' [row (.slice a N c) (m2.map cec) 128 7]) ?_ ?_
              ·
                refine W_cond (t := (decide (((lo : Nat) : Int) < ((s : Nat) : Int))) && (decide (((s : Nat) : Int) < (((lo + hi) / 2 : Nat) : Int)))) rfl (fun c37 => ?_) (fun c37 => ?_)
                ·
                  have c37r := and_r c37
                  replace c37 := and_l c37
                  replace c37 := of_decide_eq_true c37
                  replace c37r := of_decide_eq_true c37r
                  refine W_region ?_
                  refine RW_op (L_move (V := .slice a N c) rfl ?_)
                  refine RW_op (L_move (V := .int .i64 ((lo : Nat) : Int)) rfl ?_)
                  refine RW_op (L_move (V := .int .i64 ((s : Nat) : Int)) rfl ?_)
                  refine RW_op (L_move (V := .int .i64 (((lo + hi) / 2 : Nat) : Int)) rfl ?_)
                  refine RW_op (L_move (V := .func (.func g) #[] #[]) rfl ?_)
                  refine RW_op (L_callB (α := List Cen) (vs := [.slice a N c, .int .i64 ((lo : Nat) : Int), .int .i64 ((s : Nat) : Int), .int .i64 (((lo + hi) / 2 : Nat) : Int), .func (.func g) #[] #[]]) (V := fun _ => .tuple #[]) (R := row (.slice a N c) (m1.map cec) 128 7) (R' := fun x => row (.slice a N c) (x.map cec) 128 7) (Lo := fun _ => []) (F := fun x _ => x.length = N ∧ Merged cf m1 x lo ((lo + hi) / 2)) EN_139 rfl rfl hs 0 rfl (fun S hS hlt => ih _ S a N c m1 lo s ((lo + hi) / 2) hz1 hN (by omega) (by omega) (by omega) (by omega) k1 k2 hS hlt) fun mz38 w39 hs hF40 => ?_)
                  refine RW_nil ?_
                  exact ⟨_, mz38, mix_of (ds := [200, 201, 202, 203, 204, 205]) (by repeat (first | exact Agr.refl _ _ | refine Agr.upd ?_ rfl | refine Agr.mix ?_ rfl)), hF40.1, hF40.2, hs.take 1⟩
                ·
                  refine W_skip ?_
                  exact ⟨_, m1, mix_of (ds := [200, 201, 202, 203, 204, 205]) (by repeat (first | exact Agr.refl _ _ | refine Agr.upd ?_ rfl | refine Agr.mix ?_ rfl)), hz1, (⟨PermSeg.refl m1 (by omega) (by omega), by
  have ht := c37
  rcases Nat.lt_or_ge lo s with q | q
  · have q2 : (lo + hi) / 2 ≤ s := by simp [q] at ht; omega
    exact k1.sub (Nat.le_refl _) q2
  · exact k2.sub q (Nat.le_refl _)⟩), hs.take 1⟩
              · rintro ρ' w41 ⟨ρo, m2, rfl, hz2, hmg, hs⟩
                have k3b := k3.out hmg.1 (.inr (Nat.le_refl _))
                have k4b := k4.out hmg.1 (.inr (by omega))
                refine W_seq ?_
                refine W_regO [some 206, some 207, some 208, some 209, some 210, some 211, some 212, some 213] [] [0, 0, 3, 7, 15, 15, 63, 127] [pv (.int .i64 (((lo + hi) / 2 : Nat) : Int)), pv (.int .i64 (((((lo + hi) / 2) + mid) - s : Nat) : Int)), pv (.bool (decide ((((lo + hi) / 2 : Nat) : Int) < (((((lo + hi) / 2) + mid) - s : Nat) : Int)))), pv (.bool (decide ((((lo + hi) / 2 : Nat) : Int) < (((((lo + hi) / 2) + mid) - s : Nat) : Int)))), pg ((decide ((((lo + hi) / 2 : Nat) : Int) < (((((lo + hi) / 2) + mid) - s : Nat) : Int))) == true) (.int .i64 (((((lo + hi) / 2) + mid) - s : Nat) : Int)), pg ((decide ((((lo + hi) / 2 : Nat) : Int) < (((((lo + hi) / 2) + mid) - s : Nat) : Int))) == true) (.int .i64 ((hi : Nat) : Int)), pg ((decide ((((lo + hi) / 2 : Nat) : Int) < (((((lo + hi) / 2) + mid) - s : Nat) : Int))) == true) (.bool (decide ((((((lo + hi) / 2) + mid) - s : Nat) : Int) < ((hi : Nat) : Int)))), pv (.bool ((decide ((((lo + hi) / 2 : Nat) : Int) < (((((lo + hi) / 2) + mid) - s : Nat) : Int))) && (decide ((((((lo + hi) / 2) + mid) - s : Nat) : Int) < ((hi : Nat) : Int)))))] (fun _ _ => _) [7] (by kernel_rfl) hs ⟨?_, ?_, ?_, ?_, ?_, ?_, ?_, ?_, trivial⟩ ?_
                · exact ob [] [] rfl rfl fun D ρ w hs => L_move (V := .int .i64 (((lo + hi) / 2 : Nat) : Int)) rfl ⟨rfl, hs⟩
                · exact ob [] [] rfl rfl fun D ρ w hs => L_move (V := .int .i64 (((((lo + hi) / 2) + mid) - s : Nat) : Int)) rfl ⟨rfl, hs⟩
                · exact ob [0, 1] [] rfl rfl fun D ρ w hs => L_lss rfl rfl ⟨rfl, hs⟩
                · exact ob [2] [] rfl rfl fun D ρ w hs => L_move (V := .bool (decide ((((lo + hi) / 2 : Nat) : Int) < (((((lo + hi) / 2) + mid) - s : Nat) : Int)))) rfl ⟨rfl, hs⟩
                · exact obg [3] [] (decide ((((lo + hi) / 2 : Nat) : Int) < (((((lo + hi) / 2) + mid) - s : Nat) : Int))) rfl (fun _ => rfl) rfl (fun _ _ _ _ h => h) fun D ρ w hG hs => L_move (V := .int .i64 (((((lo + hi) / 2) + mid) - s : Nat) : Int)) rfl ⟨rfl, hs⟩
                · exact obg [3] [] (decide ((((lo + hi) / 2 : Nat) : Int) < (((((lo + hi) / 2) + mid) - s : Nat) : Int))) rfl (fun _ => rfl) rfl (fun _ _ _ _ h => h) fun D ρ w hG hs => L_move (V := .int .i64 ((hi : Nat) : Int)) rfl ⟨rfl, hs⟩
                · exact obgy [3, 4, 5] [] [4, 5] (decide ((((lo + hi) / 2 : Nat) : Int) < (((((lo + hi) / 2) + mid) - s : Nat) : Int))) rfl (fun _ => rfl) rfl (fun _ _ _ _ h => h) (fun hG => ⟨hG, hG, trivial⟩) fun D ρ w hG hs => L_lss rfl rfl ⟨rfl, hs⟩
                · exact ob [3, 6] [] rfl rfl fun D ρ w hs => L_andC (h' := decide ((((((lo + hi) / 2) + mid) - s : Nat) : Int) < ((hi : Nat) : Int))) rfl rfl rfl ⟨rfl, hs⟩
                rintro ρ1 w42 ρ2 hρ hs
                replace hρ : ρ2 = upd (mix [206, 207, 208, 209, 210, 211, 212, 213] ρ1 _) 213 (.bool ((decide ((((lo + hi) / 2 : Nat) : Int) < (((((lo + hi) / 2) + mid) - s : Nat) : Int))) && (decide ((((((lo + hi) / 2) + mid) - s : Nat) : Int) < ((hi : Nat) : Int))))) := hρ
                subst hρ
                refine W_mid (fun ρ ρ' w' => ∃ (ρo : Env) (m3 : List Cen), ρ' = mix [214, 215, 216, 217, 218, 219] ρo ρ ∧ (m3.length = N) ∧ (Merged cf m2 m3 ((lo + hi) / 2) hi) ∧ Own w S w' [row (.slice a N c) (m3.map cec) 128 7]) ?_ ?_
                ·
                  refine W_cond (t := (decide ((((lo + hi) / 2 : Nat) : Int) < (((((lo + hi) / 2) + mid) - s : Nat) : Int))) && (decide ((((((lo + hi) / 2) + mid) - s : Nat) : Int) < ((hi : Nat) : Int)))) rfl (fun c43 => ?_) (fun c43 => ?_)
                  ·
                    have c43r := and_r c43
                    replace c43 := and_l c43
                    replace c43 := of_decide_eq_true c43
                    replace c43r := of_decide_eq_true c43r
                    refine W_region ?_
                    refine RW_op (L_move (V := .slice a N c) rfl ?_)
                    refine RW_op (L_move (V := .int .i64 (((lo + hi) / 2 : Nat) : Int)) rfl ?_)
                    refine RW_op (L_move (V := .int .i64 (((((lo + hi) / 2) + mid) - s : Nat) : Int)) rfl ?_)
                    refine RW_op (L_move (V := .int .i64 ((hi : Nat) : Int)) rfl ?_)
                    refine RW_op (L_move (V := .func (.func g) #[] #[]) rfl ?_)
                    refine RW_op (L_callB (α := List Cen) (vs := [.slice a N c, .int .i64 (((lo + hi) / 2 : Nat) : Int), .int .i64 (((((lo + hi) / 2) + mid) - s : Nat) : Int), .int .i64 ((hi : Nat) : Int), .func (.func g) #[] #[]]) (V := fun _ => .tuple #[]) (R := row (.slice a N c) (m2.map cec) 128 7) (R' := fun x => row (.slice a N c) (x.map cec) 128 7) (Lo := fun _ => []) (F := fun x _ => x.length = N ∧ Merged cf m2 x ((lo + hi) / 2) hi) EN_139 rfl rfl hs 0 rfl (fun S hS hlt => ih _ S a N c m2 ((lo + hi) / 2) ((((lo + hi) / 2) + mid) - s) hi hz2 hN (by omega) (by omega) (by omega) (by omega) k3b k4b hS hlt) fun mz44 w45 hs hF46 => ?_)
                    refine RW_nil ?_
                    exact ⟨_, mz44, mix_of (ds := [214, 215, 216, 217, 218, 219]) (by repeat (first | exact Agr.refl _ _ | refine Agr.upd ?_ rfl | refine Agr.mix ?_ rfl)), hF46.1, hF46.2, hs.take 1⟩
                  ·
                    refine W_skip ?_
                    exact ⟨_, m2, mix_of (ds := [214, 215, 216, 217, 218, 219]) (by repeat (first | exact Agr.refl _ _ | refine Agr.upd ?_ rfl | refine Agr.mix ?_ rfl)), hz2, (⟨PermSeg.refl m2 (by omega) (by omega), by
  have ht := c43
  rcases Nat.lt_or_ge ((lo + hi) / 2) ((lo + hi) / 2 + mid - s) with q | q
  · have q2 : hi ≤ (lo + hi) / 2 + mid - s := by simp [q] at ht; omega
    exact k3b.sub (Nat.le_refl _) q2
  · exact k4b.sub q (Nat.le_refl _)⟩), hs.take 1⟩
                · rintro ρ' w47 ⟨ρo, m3, rfl, hz3, hmg2, hs⟩
                  refine ⟨_, res_none Try.results139, ?_⟩
                  exact ⟨m3, rfl, hs.take 1, hz3, sym_done (hro.perm.wide (by omega) (by omega) (by omega)) hmg hmg2 (by omega) (by omega) (by omega) k5⟩
theorem symS_all (g : Nat) (hg : En Try.prog g) (cf : Cen → Cen → Int) (hc : CmpO cf) (hcmp : ∀ (w : World) (x y : Cen), Calls Try.prog g #[.agg (cec x).toArray, .agg (cec y).toArray] w (fun e w' => e = .returned (.int .i64 (cf x y)) ∧ Own w no w' [])) (d : Nat) : SymAt Try.prog 139 g 128 7 cec cf d := by
  induction d with
  | zero => intro w S a N c l lo mid hi hz hN hd h1 h2; omega
  | succ d ih => intro w S a N c l lo mid hi hz hN hd h1 h2 h3 ho1 ho2 hR hlt; exact symS_step d g hg cf hc hcmp ih w S a N c l lo mid hi hz hN hd h1 h2 h3 ho1 ho2 hR hlt
end Tt
end Go.Proofs
namespace Go.Proofs
open Go Go.Vx Go.RowKit
namespace Tt
set_option maxRecDepth 20000 in
set_option maxHeartbeats 4000000 in
theorem stS_ok (w : World) (S : Nat → Prop) (a : Option Addr) (N c : Nat) (l : List Cen) (hz : l.length = N) (hN : N ≤ 1152921504606846975) (g : Nat) (hg : En Try.prog g) (cf : Cen → Cen → Int) (hc : CmpO cf) (hcmp : ∀ (w : World) (x y : Cen), Calls Try.prog g #[.agg (cec x).toArray, .agg (cec y).toArray] w (fun e w' => e = .returned (.int .i64 (cf x y)) ∧ Own w no w' [])) (hR : (row (.slice a N c) (l.map cec) 128 7).holds w S) (hlt : ∀ b, S b → b < w.heap.size) : Calls Try.prog 109 #[.slice a N c, .int .i64 ((N : Nat) : Int), .func (.func g) #[] #[]] w (fun e w' => ∃ x : List Cen, e = .returned (.tuple #[]) ∧ Own w S w' [row (.slice a N c) (x.map cec) 128 7] ∧ (x.length = N ∧ x.Perm l ∧ SrtL cf x)) := by
  refine calls_of_Wn (n := 63) Try.func109 rfl Try.ntmps109 rfl ?_
  have hN0 := hN
  replace hN : N ≤ 2305843009213693951 := by omega
  have hs := Own.lent hR hlt
  refine W_seq ?_
  refine W_region ?_
  refine RW_op (L_assign (V := .int .i64 20) rfl ?_)
  refine RW_nil ?_
  refine W_seq ?_
  refine W_region ?_
  refine RW_op (L_move (V := .int .i64 20) rfl ?_)
  refine RW_op (L_assign (V := .int .i64 0) rfl ?_)
  refine RW_op (L_assign (V := .int .i64 20) rfl ?_)
  refine RW_nil ?_
  refine W_seq ?_
  refine W_block ?_
  refine W_loopI (fun ρ μ ρ' w' => ∃ (ρo : Env) (t : Nat) (m : List Cen), ρ' = upd (upd (mix [7, 8, 11, 12, 13, 14, 15, 16, 17, 18, 19, 20, 21, 22] ρo ρ) 7 (.int .i64 ((t * 20 : Nat) : Int))) 8 (.int .i64 ((t * 20 + 20 : Nat) : Int)) ∧ (t * 20 ≤ N) ∧ (m.length = N) ∧ (PermSeg l m 0 N) ∧ (Blk cf m 20 (t * 20)) ∧ μ = N - t * 20 ∧ Own w S w' [row (.slice a N c) (m.map cec) 128 7]) ?_ ?_
  · exact ⟨_, _, 0, l, upd_of (upd_of (mix_of (ds := [7, 8, 11, 12, 13, 14, 15, 16, 17, 18, 19, 20, 21, 22]) (Agr.refl _ _)) rfl) rfl, (by omega), hz, (PermSeg.refl l (Nat.zero_le _) (by omega)), blk_zero, rfl, hs⟩
  · rintro μ ρ' w1 ⟨ρo, t, m, rfl, ht, hz1, hpm, hbl, rfl, hs⟩
    refine W_seq ?_
    refine W_seq ?_
    refine W_region ?_
    refine RW_op (L_move (V := .int .i64 ((t * 20 + 20 : Nat) : Int)) rfl ?_)
    refine RW_op (L_move (V := .int .i64 ((N : Nat) : Int)) rfl ?_)
    refine RW_op (L_leq rfl rfl ?_)
    refine RW_nil ?_
    refine W_cond (t := decide (((t * 20 + 20 : Nat) : Int) ≤ ((N : Nat) : Int))) rfl (fun c2 => ?_) (fun c2 => ?_)
    ·
      replace c2 := of_decide_eq_true c2
      refine W_skip ?_
      refine W_block ?_
      refine W_seq ?_
      refine W_region ?_
      refine RW_op (L_move (V := .slice a N c) rfl ?_)
      refine RW_op (L_move (V := .int .i64 ((t * 20 : Nat) : Int)) rfl ?_)
      refine RW_op (L_move (V := .int .i64 ((t * 20 + 20 : Nat) : Int)) rfl ?_)
      refine RW_op (L_move (V := .func (.func g) #[] #[]) rfl ?_)
      refine RW_op (L_callB (α := List Cen) (vs := [.slice a N c, .int .i64 ((t * 20 : Nat) : Int), .int .i64 ((t * 20 + 20 : Nat) : Int), .func (.func g) #[] #[]]) (V := fun _ => .tuple #[]) (R := row (.slice a N c) (m.map cec) 128 7) (R' := fun x => row (.slice a N c) (x.map cec) 128 7) (Lo := fun _ => []) (F := fun x _ => x.length = N ∧ Merged cf m x (t * 20) (t * 20 + 20)) EN_125 rfl rfl hs 0 rfl (fun S hS hlt => isS_ok _ S a N c m hz1 hN (t * 20) (t * 20 + 20) (by omega) (by omega) g hg cf hc hcmp hS hlt) fun mz3 w4 hs hF5 => ?_)
      refine RW_nil ?_
      refine W_seq ?_
      refine W_region ?_
      refine RW_op (L_move (V := .int .i64 ((t * 20 + 20 : Nat) : Int)) rfl ?_)
      refine RW_op (L_assign (V := .int .i64 ((t * 20 + 20 : Nat) : Int)) rfl ?_)
      refine RW_nil ?_
      refine W_region ?_
      refine RW_op (L_move (V := .int .i64 ((t * 20 + 20 : Nat) : Int)) rfl ?_)
      refine RW_op (L_move (V := .int .i64 20) rfl ?_)
      refine RW_op (L_add (a := ((t * 20 + 20 : Nat) : Int)) (b := 20) (c := (((t * 20 + 20) + 20 : Nat) : Int)) rfl rfl (nat_i64 (by omega) (by omega)) ?_)
      refine RW_op (L_assign (V := .int .i64 (((t * 20 + 20) + 20 : Nat) : Int)) rfl ?_)
      refine RW_nil ?_
      refine ⟨_, ?_, _, t + 1, mz3, upd_of (upd_of (mix_of (ds := [7, 8, 11, 12, 13, 14, 15, 16, 17, 18, 19, 20, 21, 22]) (by repeat (first | exact Agr.refl _ _ | refine Agr.upd ?_ rfl | refine Agr.mix ?_ rfl))) (congrArg (Value.int .i64) (by omega))) (congrArg (Value.int .i64) (by omega)), (by omega), hF5.1, (hpm.trans (hF5.2.1.wide (by omega) (by omega) (by omega))), (by rw [show (t + 1) * 20 = t * 20 + 20 by omega]; exact blk_step hbl hF5.2.1 hF5.2.2 (Nat.le_refl _)), rfl, hs.take 1⟩
      omega
    ·
      replace c2 := of_decide_eq_false c2
      refine W_exit ?_
      refine W_seq ?_
      refine W_region ?_
      refine RW_op (L_move (V := .slice a N c) rfl ?_)
      refine RW_op (L_move (V := .int .i64 ((t * 20 : Nat) : Int)) rfl ?_)
      refine RW_op (L_move (V := .int .i64 ((N : Nat) : Int)) rfl ?_)
      refine RW_op (L_move (V := .func (.func g) #[] #[]) rfl ?_)
      refine RW_op (L_callB (α := List Cen) (vs := [.slice a N c, .int .i64 ((t * 20 : Nat) : Int), .int .i64 ((N : Nat) : Int), .func (.func g) #[] #[]]) (V := fun _ => .tuple #[]) (R := row (.slice a N c) (m.map cec) 128 7) (R' := fun x => row (.slice a N c) (x.map cec) 128 7) (Lo := fun _ => []) (F := fun x _ => x.length = N ∧ Merged cf m x (t * 20) N) EN_125 rfl rfl hs 0 rfl (fun S hS hlt => isS_ok _ S a N c m hz1 hN (t * 20) N (by omega) (by omega) g hg cf hc hcmp hS hlt) fun mz6 w7 hs hF8 => ?_)
      refine RW_nil ?_
      refine W_block ?_
      have hb0 : Blk cf mz6 20 N := blk_step hbl hF8.2.1 hF8.2.2 (by omega)
      have hp0 := hpm.trans (hF8.2.1.wide (by omega) (by omega) (by omega))
      refine W_loopI (fun ρ μ ρ' w' => ∃ (ρo : Env) (s : Nat) (m2 : List Cen), ρ' = upd (mix [6, 7, 8, 9, 28, 29, 30, 31, 32, 33, 34, 35, 36, 37, 38, 39, 40, 41, 42, 43, 44, 45, 46, 47, 48, 49, 50, 51, 52, 53, 54, 55, 56, 57, 58, 59, 60, 61, 62] ρo ρ) 6 (.int .i64 ((s : Nat) : Int)) ∧ (0 < s) ∧ (s ≤ 2 * N + 20) ∧ (m2.length = N) ∧ (PermSeg l m2 0 N) ∧ (Blk cf m2 s N) ∧ μ = N - s ∧ Own w S w' [row (.slice a N c) (m2.map cec) 128 7]) ?_ ?_
      · exact ⟨_, _, 20, mz6, upd_of (mix_of (ds := [6, 7, 8, 9, 28, 29, 30, 31, 32, 33, 34, 35, 36, 37, 38, 39, 40, 41, 42, 43, 44, 45, 46, 47, 48, 49, 50, 51, 52, 53, 54, 55, 56, 57, 58, 59, 60, 61, 62]) (Agr.refl _ _)) rfl, (by omega), (by omega), hF8.1, hp0, hb0, rfl, hs⟩
      · rintro μ ρ' w9 ⟨ρo, s, m2, rfl, hs0, hsN, hz2, hpm2, hb2, rfl, hs⟩
        refine W_seq ?_
        refine W_seq ?_
        refine W_region ?_
        refine RW_op (L_move (V := .int .i64 ((s : Nat) : Int)) rfl ?_)
        refine RW_op (L_move (V := .int .i64 ((N : Nat) : Int)) rfl ?_)
        refine RW_op (L_lss rfl rfl ?_)
        refine RW_nil ?_
        refine W_cond (t := decide (((s : Nat) : Int) < ((N : Nat) : Int))) rfl (fun c10 => ?_) (fun c10 => ?_)
        ·
          replace c10 := of_decide_eq_true c10
          refine W_skip ?_
          refine W_block ?_
          refine W_seq ?_
          refine W_region ?_
          refine RW_op (L_move (V := .int .i64 ((s : Nat) : Int)) rfl ?_)
          refine RW_op (L_mul (a := 2) (b := ((s : Nat) : Int)) (c := ((2 * s : Nat) : Int)) rfl rfl (nat_i64 (by omega) (by omega)) ?_)
          refine RW_op (L_assign (V := .int .i64 0) rfl ?_)
          refine RW_op (L_assign (V := .int .i64 ((2 * s : Nat) : Int)) rfl ?_)
          refine RW_nil ?_
          refine W_seq ?_
          refine W_block ?_
          refine W_loopI (fun ρ μ ρ' w' => ∃ (ρo : Env) (t : Nat) (A : Nat) (m3 : List Cen), ρ' = upd (upd (mix [7, 8, 33, 34, 35, 36, 37, 38, 39, 40, 41, 42, 43, 44, 45, 46, 47, 48] ρo ρ) 7 (.int .i64 ((A : Nat) : Int))) 8 (.int .i64 ((A + 2 * s : Nat) : Int)) ∧ (A = t * (2 * s)) ∧ (A ≤ N) ∧ (m3.length = N) ∧ (PermSeg l m3 0 N) ∧ (Mrg cf m3 s t N) ∧ μ = N - A ∧ Own w S w' [row (.slice a N c) (m3.map cec) 128 7]) ?_ ?_
          · exact ⟨_, _, 0, 0, m2, upd_of (upd_of (mix_of (ds := [7, 8, 33, 34, 35, 36, 37, 38, 39, 40, 41, 42, 43, 44, 45, 46, 47, 48]) (Agr.refl _ _)) rfl) (congrArg (Value.int .i64) (by omega)), (by rw [Nat.zero_mul]), (by omega), hz2, hpm2, (mrg_start hb2), rfl, hs⟩
          · rintro μ ρ' w11 ⟨ρo, t, A, m3, rfl, hA, hAN, hz3, hpm3, hmr, rfl, hs⟩
            refine W_seq ?_
            refine W_seq ?_
            refine W_region ?_
            refine RW_op (L_move (V := .int .i64 ((A + 2 * s : Nat) : Int)) rfl ?_)
            refine RW_op (L_move (V := .int .i64 ((N : Nat) : Int)) rfl ?_)
            refine RW_op (L_leq rfl rfl ?_)
            refine RW_nil ?_
            refine W_cond (t := decide (((A + 2 * s : Nat) : Int) ≤ ((N : Nat) : Int))) rfl (fun c12 => ?_) (fun c12 => ?_)
            ·
              replace c12 := of_decide_eq_true c12
              refine W_skip ?_
              refine W_block ?_
              refine W_seq ?_
              have hpp := mrg_parts hmr
              rw [← hA] at hpp
              have hp1 := hpp.1.sub (Nat.le_refl _) (show A + s ≤ min (A + s) N by omega)
              have hp2 := hpp.2.sub (Nat.le_refl _) (show A + 2 * s ≤ min (A + 2 * s) N by omega)
              refine W_region ?_
              refine RW_op (L_move (V := .slice a N c) rfl ?_)
              refine RW_op (L_move (V := .int .i64 ((A : Nat) : Int)) rfl ?_)
              refine RW_op (L_move (V := .int .i64 ((A : Nat) : Int)) rfl ?_)
              refine RW_op (L_move (V := .int .i64 ((s : Nat) : Int)) rfl ?_)
              refine RW_op (L_add (a := ((A : Nat) : Int)) (b := ((s : Nat) : Int)) (c := ((A + s : Nat) : Int)) rfl rfl (nat_i64 (by omega) (by omega)) ?_)
              refine RW_op (L_move (V := .int .i64 ((A + 2 * s : Nat) : Int)) rfl ?_)
              refine RW_op (L_move (V := .func (.func g) #[] #[]) rfl ?_)
              refine RW_op (L_callB (α := List Cen) (vs := [.slice a N c, .int .i64 ((A : Nat) : Int), .int .i64 ((A + s : Nat) : Int), .int .i64 ((A + 2 * s : Nat) : Int), .func (.func g) #[] #[]]) (V := fun _ => .tuple #[]) (R := row (.slice a N c) (m3.map cec) 128 7) (R' := fun x => row (.slice a N c) (x.map cec) 128 7) (Lo := fun _ => []) (F := fun x _ => x.length = N ∧ Merged cf m3 x A (A + 2 * s)) EN_139 rfl rfl hs 0 rfl (fun S hS hlt => symS_all g hg cf hc hcmp N _ S a N c m3 A (A + s) (A + 2 * s) hz3 hN (by omega) (by omega) (by omega) (by omega) hp1 hp2 hS hlt) fun mz13 w14 hs hF15 => ?_)
              refine RW_nil ?_
              refine W_seq ?_
              refine W_region ?_
              refine RW_op (L_move (V := .int .i64 ((A + 2 * s : Nat) : Int)) rfl ?_)
              refine RW_op (L_assign (V := .int .i64 ((A + 2 * s : Nat) : Int)) rfl ?_)
              refine RW_nil ?_
              refine W_region ?_
              refine RW_op (L_move (V := .int .i64 ((A + 2 * s : Nat) : Int)) rfl ?_)
              refine RW_op (L_move (V := .int .i64 ((s : Nat) : Int)) rfl ?_)
              refine RW_op (L_mul (a := 2) (b := ((s : Nat) : Int)) (c := ((2 * s : Nat) : Int)) rfl rfl (nat_i64 (by omega) (by omega)) ?_)
              refine RW_op (L_add (a := ((A + 2 * s : Nat) : Int)) (b := ((2 * s : Nat) : Int)) (c := (((A + 2 * s) + (2 * s) : Nat) : Int)) rfl rfl (nat_i64 (by omega) (by omega)) ?_)
              refine RW_op (L_assign (V := .int .i64 (((A + 2 * s) + (2 * s) : Nat) : Int)) rfl ?_)
              refine RW_nil ?_
              refine ⟨_, ?_, _, t + 1, A + 2 * s, mz13, upd_of (upd_of (mix_of (ds := [7, 8, 33, 34, 35, 36, 37, 38, 39, 40, 41, 42, 43, 44, 45, 46, 47, 48]) (by repeat (first | exact Agr.refl _ _ | refine Agr.upd ?_ rfl | refine Agr.mix ?_ rfl))) rfl) (congrArg (Value.int .i64) (by omega)), (by rw [hA, Nat.add_mul, Nat.one_mul]), (by omega), hF15.1, (hpm3.trans (hF15.2.1.wide (by omega) (by omega) (by omega))), (mrg_step hmr (by rw [← hA]; exact hF15.2.1) (by rw [← hA]; exact hF15.2.2) (by omega)), rfl, hs.take 1⟩
              omega
            ·
              replace c12 := of_decide_eq_false c12
              refine W_exit ?_
              refine W_seq ?_
              refine W_seq ?_
              refine W_region ?_
              refine RW_op (L_move (V := .int .i64 ((A : Nat) : Int)) rfl ?_)
              refine RW_op (L_move (V := .int .i64 ((s : Nat) : Int)) rfl ?_)
              refine RW_op (L_add (a := ((A : Nat) : Int)) (b := ((s : Nat) : Int)) (c := ((A + s : Nat) : Int)) rfl rfl (nat_i64 (by omega) (by omega)) ?_)
              refine RW_op (L_assign (V := .int .i64 ((A + s : Nat) : Int)) rfl ?_)
              refine RW_nil ?_
              refine W_seq ?_
              refine W_region ?_
              refine RW_op (L_move (V := .int .i64 ((A + s : Nat) : Int)) rfl ?_)
              refine RW_op (L_move (V := .int .i64 ((N : Nat) : Int)) rfl ?_)
              refine RW_op (L_lss rfl rfl ?_)
              refine RW_nil ?_
              refine W_cond (t := decide (((A + s : Nat) : Int) < ((N : Nat) : Int))) rfl (fun c16 => ?_) (fun c16 => ?_)
              ·
                replace c16 := of_decide_eq_true c16
                have hpp := mrg_parts hmr
                rw [← hA] at hpp
                have hp1 := hpp.1.sub (Nat.le_refl _) (show A + s ≤ min (A + s) N by omega)
                have hp2 := hpp.2.sub (Nat.le_refl _) (show N ≤ min (A + 2 * s) N by omega)
                refine W_region ?_
                refine RW_op (L_move (V := .slice a N c) rfl ?_)
                refine RW_op (L_move (V := .int .i64 ((A : Nat) : Int)) rfl ?_)
                refine RW_op (L_move (V := .int .i64 ((A + s : Nat) : Int)) rfl ?_)
                refine RW_op (L_move (V := .int .i64 ((N : Nat) : Int)) rfl ?_)
                refine RW_op (L_move (V := .func (.func g) #[] #[]) rfl ?_)
                refine RW_op (L_callB (α := List Cen) (vs := [.slice a N c, .int .i64 ((A : Nat) : Int), .int .i64 ((A + s : Nat) : Int), .int .i64 ((N : Nat) : Int), .func (.func g) #[] #[]]) (V := fun _ => .tuple #[]) (R := row (.slice a N c) (m3.map cec) 128 7) (R' := fun x => row (.slice a N c) (x.map cec) 128 7) (Lo := fun _ => []) (F := fun x _ => x.length = N ∧ Merged cf m3 x A N) EN_139 rfl rfl hs 0 rfl (fun S hS hlt => symS_all g hg cf hc hcmp N _ S a N c m3 A (A + s) N hz3 hN (by omega) (by omega) (by omega) (by omega) hp1 hp2 hS hlt) fun mz17 w18 hs hF19 => ?_)
                refine RW_nil ?_
                refine W_region ?_
                refine RW_op (L_move (V := .int .i64 ((s : Nat) : Int)) rfl ?_)
                refine RW_op (L_mul (a := ((s : Nat) : Int)) (b := 2) (c := ((s * 2 : Nat) : Int)) rfl rfl (nat_i64 (by omega) (by omega)) ?_)
                refine RW_op (L_assign (V := .int .i64 ((s * 2 : Nat) : Int)) rfl ?_)
                refine RW_nil ?_
                refine ⟨_, ?_, _, s * 2, mz17, upd_of (mix_of (ds := [6, 7, 8, 9, 28, 29, 30, 31, 32, 33, 34, 35, 36, 37, 38, 39, 40, 41, 42, 43, 44, 45, 46, 47, 48, 49, 50, 51, 52, 53, 54, 55, 56, 57, 58, 59, 60, 61, 62]) (by repeat (first | exact Agr.refl _ _ | refine Agr.upd ?_ rfl | refine Agr.mix ?_ rfl))) rfl, (by omega), (by omega), hF19.1, (hpm3.trans (hF19.2.1.wide (by omega) (by omega) (by omega))), (by
  have hq := mrg_step hmr (by rw [← hA]; exact hF19.2.1) (by rw [← hA]; exact hF19.2.2) (by omega)
  have hq2 := mrg_end hq (by rw [Nat.add_mul, Nat.one_mul, ← hA]; omega)
  rw [Nat.mul_comm s 2]; exact hq2), rfl, hs.take 1⟩
                omega
              ·
                replace c16 := of_decide_eq_false c16
                refine W_skip ?_
                refine W_region ?_
                refine RW_op (L_move (V := .int .i64 ((s : Nat) : Int)) rfl ?_)
                refine RW_op (L_mul (a := ((s : Nat) : Int)) (b := 2) (c := ((s * 2 : Nat) : Int)) rfl rfl (nat_i64 (by omega) (by omega)) ?_)
                refine RW_op (L_assign (V := .int .i64 ((s * 2 : Nat) : Int)) rfl ?_)
                refine RW_nil ?_
                refine ⟨_, ?_, _, s * 2, m3, upd_of (mix_of (ds := [6, 7, 8, 9, 28, 29, 30, 31, 32, 33, 34, 35, 36, 37, 38, 39, 40, 41, 42, 43, 44, 45, 46, 47, 48, 49, 50, 51, 52, 53, 54, 55, 56, 57, 58, 59, 60, 61, 62]) (by repeat (first | exact Agr.refl _ _ | refine Agr.upd ?_ rfl | refine Agr.mix ?_ rfl))) rfl, (by omega), (by omega), hz3, hpm3, (by rw [Nat.mul_comm s 2]; exact mrg_last hmr (by omega)), rfl, hs.take 1⟩
                omega
        ·
          replace c10 := of_decide_eq_false c10
          refine W_exit ?_
          refine ⟨_, res_none Try.results109, ?_⟩
          exact ⟨m2, rfl, hs.take 1, hz2, hpm2.perm, ord_all (blk_all hb2 (by omega)) (by omega)⟩
set_option maxRecDepth 20000 in
set_option maxHeartbeats 4000000 in
theorem ssS_ok (w : World) (S : Nat → Prop) (a : Option Addr) (N c : Nat) (l : List Cen) (hz : l.length = N) (hN : N ≤ 1152921504606846975) (g : Nat) (hg : En Try.prog g) (cf : Cen → Cen → Int) (hc : CmpO cf) (hcmp : ∀ (w : World) (x y : Cen), Calls Try.prog g #[.agg (cec x).toArray, .agg (cec y).toArray] w (fun e w' => e = .returned (.int .i64 (cf x y)) ∧ Own w no w' [])) (hR : (row (.slice a N c) (l.map cec) 128 7).holds w S) (hlt : ∀ b, S b → b < w.heap.size) : Calls Try.prog 71 #[.slice a N c, .func (.func g) #[] #[]] w (fun e w' => ∃ x : List Cen, e = .returned (.tuple #[]) ∧ Own w S w' [row (.slice a N c) (x.map cec) 128 7] ∧ (x.length = N ∧ x.Perm l ∧ SrtL cf x)) := by
  refine calls_of_Wn (n := 9) Try.func71 rfl Try.ntmps71 rfl ?_
  have hs := Own.lent hR hlt
  refine W_region ?_
  refine RW_op (L_move (V := .slice a N c) rfl ?_)
  refine RW_op (L_move (V := .slice a N c) rfl ?_)
  refine RW_op (L_lenR (n := N) UD_59 (hs.rd 0 rfl) (by simp [hz]) rfl ?_)
  refine RW_op (L_move (V := .func (.func g) #[] #[]) rfl ?_)
  refine RW_op (L_callB (α := List Cen) (vs := [.slice a N c, .int .i64 ((N : Nat) : Int), .func (.func g) #[] #[]]) (V := fun _ => .tuple #[]) (R := row (.slice a N c) (l.map cec) 128 7) (R' := fun x => row (.slice a N c) (x.map cec) 128 7) (Lo := fun _ => []) (F := fun x _ => x.length = N ∧ x.Perm l ∧ SrtL cf x) EN_109 rfl rfl hs 0 rfl (fun S hS hlt => stS_ok _ S a N c l hz hN g hg cf hc hcmp hS hlt) fun mz1 w2 hs hF3 => ?_)
  refine RW_nil ?_
  refine ⟨_, res_none Try.results71, ?_⟩
  exact ⟨mz1, rfl, hs.take 1, hF3⟩
end Tt
end Go.Proofs
namespace Go.Proofs
open Go Go.Vx Go.RowKit
namespace Tt
set_option maxRecDepth 20000 in
set_option maxHeartbeats 4000000 in
theorem cView_ok (w : World) (s : Sta) (a1 : Option Addr) (c1 : Nat) (a2 : Option Addr) (c2 : Nat) (n : Int) (hok : StaOk s) (hle : s.ents.length ≤ 1000) (hlt : s.ticks.length ≤ 1000) (hr1 : Rd w (.slice a1 s.ents.length c1) 7 (s.ents.map cec)) (hr2 : Rd w (.slice a2 s.ticks.length c2) 2 (s.ticks.map lsc)) : Calls Try.prog 34 #[.agg ((vc s.known) ++ [(.slice a1 s.ents.length c1 : Value), (.slice a2 s.ticks.length c2 : Value) ]).toArray, .int .u16 n] w (fun e w' => ∃ x : Option Addr × Nat, e = .returned (.agg [.int .u16 (viewC s n (rightS s)).cart, .slice x.1 (viewC s n (rightS s)).lines.length x.2, .bool (viewC s n (rightS s)).out, .int .u32 (viewC s n (rightS s)).tick].toArray) ∧ Own w no w' [row (.slice x.1 (viewC s n (rightS s)).lines.length x.2) ((viewC s n (rightS s)).lines.map lc) 102 2] ∧ True) := by
  refine calls_of_Wn (n := 94) Try.func34 rfl Try.ntmps34 rfl ?_
  have hs := Own.start w
  have ⟨hv0, hE0, hT0⟩ := hok
  refine W_seq ?_
  refine W_region ?_
  refine RW_op (L_box (V := .agg ((vc s.known) ++ [(.slice a1 s.ents.length c1 : Value), (.slice a2 s.ticks.length c2 : Value) ]).toArray) (cs := (vc s.known) ++ [(.slice a1 s.ents.length c1 : Value), (.slice a2 s.ticks.length c2 : Value) ]) rfl rfl hs fun b1 w2 hs => ?_)
  refine RW_op (L_alloc (cs := [.int .u16 0, .slice none 0 0, .bool false, .int .u32 0]) ZV_74 rfl hs fun b3 w4 hs => ?_)
  refine RW_nil ?_
  refine W_seq ?_
  refine W_region ?_
  refine RW_op (L_move (V := .int .u16 n) rfl ?_)
  refine RW_op (L_build (vs := [(0, .int .u16 n)]) (cs := [.int .u16 n, .slice none 0 0, .bool false, .int .u32 0]) BT_74 (rfl) rfl ?_)
  refine RW_op (L_alloc (cs := [.int .u16 0, .slice none 0 0, .bool false, .int .u32 0]) ZV_74 rfl hs fun b5 w6 hs => ?_)
  refine RW_op (L_st (V := .agg #[.int .u16 n, .slice none 0 0, .bool false, .int .u32 0]) (vs := [.int .u16 n, .slice none 0 0, .bool false, .int .u32 0]) (cs' := [.int .u16 n, .slice none 0 0, .bool false, .int .u32 0]) SA_74.1 hs 2 rfl rfl rfl rfl rfl (Nat.le_of_ble_eq_true rfl) (one_cons rfl (one_cons rfl (one_cons rfl (one_cons rfl one_nil)))) (spl_whole rfl) fun w7 hs => ?_)
  replace hs : Own w no w7 [blk b1 ((vc s.known) ++ [(.slice a1 s.ents.length c1 : Value), (.slice a2 s.ticks.length c2 : Value) ]) 62, blk b3 [.int .u16 0, .slice none 0 0, .bool false, .int .u32 0] 74, blk b5 [.int .u16 n, .slice none 0 0, .bool false, .int .u32 0] 74] := hs
  refine RW_nil ?_
  refine W_seq ?_
  refine W_seq ?_
  refine W_region ?_
  refine RW_op (L_ldW (cs := (vc s.known) ++ [(.slice a1 s.ents.length c1 : Value), (.slice a2 s.ticks.length c2 : Value) ]) SA_62 hs 0 rfl rfl rfl ?_)
  refine RW_op (L_callP (vs := [.agg ((vc s.known) ++ [(.slice a1 s.ents.length c1 : Value), (.slice a2 s.ticks.length c2 : Value) ]).toArray]) (V := .bool (rightS s)) EN_58 rfl rfl ?hc hs fun w8 hs => ?_)
  case hc => exact (cRight_ok _ s a1 c1 a2 c2 hok (by omega) (by omega) (Rd.own' hr1 hs) (Rd.own' hr2 hs))
  refine RW_op (L_not rfl ?_)
  refine RW_nil ?_
  refine W_cond (t := !(rightS s)) rfl (fun c9 => ?_) (fun c9 => ?_)
  ·
    replace c9 := not_t c9
    refine W_seq ?_
    refine W_region ?_
    refine RW_op (L_ldW (cs := [.int .u16 n, .slice none 0 0, .bool false, .int .u32 0]) SA_74 hs 2 rfl rfl rfl ?_)
    refine RW_op (L_st (V := .agg #[.int .u16 n, .slice none 0 0, .bool false, .int .u32 0]) (vs := [.int .u16 n, .slice none 0 0, .bool false, .int .u32 0]) (cs' := [.int .u16 n, .slice none 0 0, .bool false, .int .u32 0]) SA_74.1 hs 1 rfl rfl rfl rfl rfl (Nat.le_of_ble_eq_true rfl) (one_cons rfl (one_cons rfl (one_cons rfl (one_cons rfl one_nil)))) (spl_whole rfl) fun w10 hs => ?_)
    refine RW_nil ?_
    refine W_ret ?_
    refine ⟨_, res_cell (cs := [.int .u16 n, .slice none 0 0, .bool false, .int .u32 0]) Try.results34 SA_74 hs 1 rfl rfl rfl, ?_⟩
    rw [c9]
    exact ⟨(none, 0), rfl, (hs.take 0).more _ (row_nil _ _ 102 2), trivial⟩
  ·
    replace c9 := not_f c9
    refine W_skip ?_
    refine W_seq ?_
    refine W_seq ?_
    have hrc := rightS_iff.1 c9
    refine W_region ?_
    refine RW_op (L_ldW (cs := (vc s.known) ++ [(.slice a1 s.ents.length c1 : Value), (.slice a2 s.ticks.length c2 : Value) ]) SA_62 hs 0 rfl rfl rfl ?_)
    refine RW_op (L_move (V := .int .u16 n) rfl ?_)
    refine RW_op (L_callP (vs := [.agg ((vc s.known) ++ [(.slice a1 s.ents.length c1 : Value), (.slice a2 s.ticks.length c2 : Value) ]).toArray, .int .u16 n]) (V := .tuple #[.int .i64 ((posT s.ticks n : Nat) : Int), .bool ((tickP s.ticks n).isSome)]) EN_70 rfl rfl ?hc hs fun w11 hs => ?_)
    case hc => exact (sFind_ok _ s.known (.slice a1 s.ents.length c1) a2 c2 s.ticks n (by omega) hrc.rt (Rd.own' hr2 hs))
    refine RW_op (L_move (V := .tuple #[.int .i64 ((posT s.ticks n : Nat) : Int), .bool ((tickP s.ticks n).isSome)]) rfl ?_)
    refine RW_op (L_extract (V := .int .i64 ((posT s.ticks n : Nat) : Int)) rfl rfl ?_)
    refine RW_op (L_extract (V := .bool ((tickP s.ticks n).isSome)) rfl rfl ?_)
    refine RW_op (L_assign (V := .int .i64 ((posT s.ticks n : Nat) : Int)) rfl ?_)
    refine RW_op (L_assign (V := .bool ((tickP s.ticks n).isSome)) rfl ?_)
    refine RW_nil ?_
    refine W_seq ?_
    refine W_region ?_
    refine RW_op (L_move (V := .bool ((tickP s.ticks n).isSome)) rfl ?_)
    refine RW_nil ?_
    refine W_mid (fun ρ ρ' w' => ∃ (ρo : Env) (tk : Int), ρ' = mix [25, 26, 27, 28, 29, 30, 31] ρo ρ ∧ (tk = (tickP s.ticks n).getD 0) ∧ Own w no w' [blk b1 ((vc s.known) ++ [(.slice a1 s.ents.length c1 : Value), (.slice a2 s.ticks.length c2 : Value) ]) 62, blk b3 [.int .u16 0, .slice none 0 0, .bool false, .int .u32 0] 74, blk b5 [.int .u16 n, .slice none 0 0, .bool false, .int .u32 tk] 74]) ?_ ?_
    ·
      refine W_cond (t := (tickP s.ticks n).isSome) rfl (fun c12 => ?_) (fun c12 => ?_)
      ·
        have hfa := (find_at hrc.rt c12).1
        refine W_region ?_
        refine RW_op (L_fieldAddr FA_62_2 rfl ?_)
        refine RW_op (L_ld (V := .slice a2 s.ticks.length c2) S1_60 hs 0 rfl rfl rfl ?_)
        refine RW_op (L_move (V := .int .i64 ((posT s.ticks n : Nat) : Int)) rfl ?_)
        refine RW_op (L_ixR UD_60 SA_126.1 (Rd.own' hr2 hs) rfl rfl (by omega) (by rw [List.length_map]; omega) ?_)
        refine RW_op (L_fieldAddr FA_126_1 rfl ?_)
        refine RW_op (L_ldR (j := 1) (V := .int .u32 ((gd s.ticks (posT s.ticks n)).tick)) (posT s.ticks n) S1_51 (Rd.own' hr2 hs) (gd_at (by omega)) rfl rfl (by omega) ?_)
        refine RW_op (L_fieldAddr FA_74_3 rfl ?_)
        refine RW_op (L_st1 (V := .int .u32 ((gd s.ticks (posT s.ticks n)).tick)) (cs' := [.int .u16 n, .slice none 0 0, .bool false, .int .u32 ((gd s.ticks (posT s.ticks n)).tick)]) S1_51 hs 2 rfl rfl rfl rfl (Nat.le_of_ble_eq_true rfl) rfl fun w13 hs => ?_)
        refine RW_nil ?_
        exact ⟨_, (gd s.ticks (posT s.ticks n)).tick, mix_of (ds := [25, 26, 27, 28, 29, 30, 31]) (by repeat (first | exact Agr.refl _ _ | refine Agr.upd ?_ rfl | refine Agr.mix ?_ rfl)), (by rw [(find_at hrc.rt c12).2.2]; rfl), hs.take 3⟩
      ·
        refine W_skip ?_
        exact ⟨_, 0, mix_of (ds := [25, 26, 27, 28, 29, 30, 31]) (by repeat (first | exact Agr.refl _ _ | refine Agr.upd ?_ rfl | refine Agr.mix ?_ rfl)), (tick_no c12), hs.take 3⟩
    · rintro ρ' w14 ⟨ρo, tk, rfl, htk, hs⟩
      refine W_seq ?_
      refine W_region ?_
      refine RW_op (L_assign (V := .slice none 0 0) rfl ?_)
      refine RW_nil ?_
      refine W_seq ?_
      refine W_seq ?_
      refine W_region ?_
      refine RW_op (L_fieldAddr FA_62_1 rfl ?_)
      refine RW_op (L_ld (V := .slice a1 s.ents.length c1) S1_59 hs 0 rfl rfl rfl ?_)
      refine RW_op (L_lenR (n := s.ents.length) UD_59 (Rd.own' hr1 hs) (by simp) rfl ?_)
      refine RW_op (L_move (V := .int .i64 0) rfl ?_)
      refine RW_nil ?_
      refine W_block ?_
      replace hs := hs.more (row (.slice none 0 0) (List.map cec []) 128 7) (row_nil _ _ _ _)
      refine W_loopI (fun ρ μ ρ' w' => ∃ (ρo : Env) (k : Nat) (an9 : Option Addr) (cn9 : Nat) (L9 : List Cen) (ou : Bool), ρ' = upd (upd (mix [8, 10, 35, 36, 37, 38, 39, 40, 41, 42, 43, 44, 45, 46, 47, 48, 49, 50, 51, 52, 53] ρo ρ) 35 (.int .i64 ((k : Nat) : Int))) 8 (.slice an9 L9.length cn9) ∧ (k ≤ s.ents.length) ∧ (L9 = (s.ents.take k).filter (fun e : Cen => decide (e.cart = n) && !decide (e.kind = 4))) ∧ (ou = (s.ents.take k).any (fun e : Cen => decide (e.cart = n) && decide (e.kind = 4))) ∧ (L9.length ≤ k) ∧ μ = s.ents.length - k ∧ Own w no w' [blk b1 ((vc s.known) ++ [(.slice a1 s.ents.length c1 : Value), (.slice a2 s.ticks.length c2 : Value) ]) 62, blk b3 [.int .u16 0, .slice none 0 0, .bool false, .int .u32 0] 74, blk b5 [.int .u16 n, .slice none 0 0, .bool ou, .int .u32 tk] 74, row (.slice an9 L9.length cn9) (L9.map cec) 128 7]) ?_ ?_
      · exact ⟨_, _, 0, none, 0, [], false, upd_of (upd_of (mix_of (ds := [8, 10, 35, 36, 37, 38, 39, 40, 41, 42, 43, 44, 45, 46, 47, 48, 49, 50, 51, 52, 53]) (Agr.refl _ _)) rfl) rfl, (by omega), rfl, rfl, (Nat.le_refl _), rfl, hs⟩
      · rintro μ ρ' w15 ⟨ρo, k, an9, cn9, L9, ou, rfl, hk, hL9, hob, hl9, rfl, hs⟩
        refine W_seq ?_
        refine W_region ?_
        refine RW_op (L_lss rfl rfl ?_)
        refine RW_nil ?_
        refine W_seq ?_
        refine W_cond (t := decide (((k : Nat) : Int) < ((s.ents.length : Nat) : Int))) rfl (fun c16 => ?_) (fun c16 => ?_)
        ·
          replace c16 := of_decide_eq_true c16
          refine W_skip ?_
          refine W_seq ?_
          refine W_block ?_
          refine W_seq ?_
          refine W_region ?_
          refine RW_op (L_ixR UD_59 SA_128.1 (Rd.own' hr1 hs) rfl rfl (by omega) (by rw [List.length_map]; omega) ?_)
          refine RW_op (L_ldRA (j := 0) (vs := cec (gd s.ents k)) k SA_128 (Rd.own' hr1 hs) (gd_at (by omega)) rfl rfl rfl (by omega) ?_)
          refine RW_op (L_alloc (cs := cec (⟨0, 0, 0, 0, (⟨0, 0⟩ : Dot), 0⟩ : Cen)) ZV_128 rfl hs fun b17 w18 hs => ?_)
          refine RW_op (L_st (V := .agg (cec (gd s.ents k)).toArray) (vs := cec (gd s.ents k)) (cs' := cec (gd s.ents k)) SA_128.1 hs 4 rfl rfl rfl rfl rfl (Nat.le_of_ble_eq_true rfl) (cec_one _) (spl_whole rfl) fun w19 hs => ?_)
          refine RW_nil ?_
          refine W_block ?_
          refine W_seq ?_
          refine W_region ?_
          refine RW_op (L_fieldAddr FA_128_0 rfl ?_)
          refine RW_op (L_ld (V := .int .u16 ((gd s.ents k).cart)) S1_70 hs 4 rfl rfl rfl ?_)
          refine RW_op (L_move (V := .int .u16 n) rfl ?_)
          refine RW_op (L_neq rfl rfl ?_)
          refine RW_op (L_assign (V := .bool (!decide ((gd s.ents k).cart = n))) rfl ?_)
          refine RW_nil ?_
          refine W_cond (t := !decide ((gd s.ents k).cart = n)) rfl (fun c20 => ?_) (fun c20 => ?_)
          ·
            replace c20 := not_t c20
            replace c20 := of_decide_eq_false c20
            refine W_skip ?_
            refine W_region ?_
            refine RW_op (L_add (a := ((k : Nat) : Int)) (b := 1) (c := ((k + 1 : Nat) : Int)) rfl rfl (nat_i64 (by omega) (by omega)) ?_)
            refine RW_op (L_move (V := .int .i64 ((k + 1 : Nat) : Int)) rfl ?_)
            refine RW_nil ?_
            refine ⟨_, ?_, _, k + 1, an9, cn9, L9, ou, upd_of (upd_of (mix_of (ds := [8, 10, 35, 36, 37, 38, 39, 40, 41, 42, 43, 44, 45, 46, 47, 48, 49, 50, 51, 52, 53]) (by repeat (first | exact Agr.refl _ _ | refine Agr.upd ?_ rfl | refine Agr.mix ?_ rfl))) rfl) rfl, (by omega), (filt_next_no (p := (fun e : Cen => decide (e.cart = n) && !decide (e.kind = 4))) hL9 (by omega) (by simp [c20])), (by rw [← anyT_next (p := (fun e : Cen => decide (e.cart = n) && decide (e.kind = 4))) hob (by omega)]; simp [c20]), (by omega), rfl, hs.take 4⟩
            omega
          ·
            replace c20 := not_f c20
            replace c20 := of_decide_eq_true c20
            refine W_seq ?_
            refine W_region ?_
            refine RW_op (L_fieldAddr FA_128_3 rfl ?_)
            refine RW_op (L_ld (V := .int .u8 ((gd s.ents k).kind)) S1_5 hs 4 rfl rfl rfl ?_)
            refine RW_op (L_eql rfl rfl ?_)
            refine RW_op (L_assign (V := .bool (decide ((gd s.ents k).kind = 4))) rfl ?_)
            refine RW_nil ?_
            refine W_cond (t := decide ((gd s.ents k).kind = 4)) rfl (fun c21 => ?_) (fun c21 => ?_)
            ·
              replace c21 := of_decide_eq_true c21
              refine W_region ?_
              refine RW_op (L_fieldAddr FA_74_2 rfl ?_)
              refine RW_op (L_st1 (V := .bool true) (cs' := [.int .u16 n, .slice none 0 0, .bool true, .int .u32 tk]) S1_4 hs 2 rfl rfl rfl rfl (Nat.le_of_ble_eq_true rfl) rfl fun w22 hs => ?_)
              refine RW_nil ?_
              refine W_region ?_
              refine RW_op (L_add (a := ((k : Nat) : Int)) (b := 1) (c := ((k + 1 : Nat) : Int)) rfl rfl (nat_i64 (by omega) (by omega)) ?_)
              refine RW_op (L_move (V := .int .i64 ((k + 1 : Nat) : Int)) rfl ?_)
              refine RW_nil ?_
              refine ⟨_, ?_, _, k + 1, an9, cn9, L9, true, upd_of (upd_of (mix_of (ds := [8, 10, 35, 36, 37, 38, 39, 40, 41, 42, 43, 44, 45, 46, 47, 48, 49, 50, 51, 52, 53]) (by repeat (first | exact Agr.refl _ _ | refine Agr.upd ?_ rfl | refine Agr.mix ?_ rfl))) rfl) rfl, (by omega), (filt_next_no (p := (fun e : Cen => decide (e.cart = n) && !decide (e.kind = 4))) hL9 (by omega) (by simp [c20, c21])), (by rw [← anyT_next (p := (fun e : Cen => decide (e.cart = n) && decide (e.kind = 4))) hob (by omega)]; simp [c20, c21]), (by omega), rfl, hs.take 4⟩
              omega
            ·
              replace c21 := of_decide_eq_false c21
              refine W_region ?_
              refine RW_op (L_move (V := .slice an9 L9.length cn9) rfl ?_)
              refine RW_op (L_ldW (cs := cec (gd s.ents k)) SA_128 hs 4 rfl rfl rfl ?_)
              refine RW_op (L_bs (vals := [.agg (cec (gd s.ents k)).toArray]) (ls := List.map cec ([gd s.ents k] : List Cen)) EL_59 rfl rfl rfl (len_map (enc := cec) (fun _ => rfl) _) (one_map cec_one _) (Nat.le_of_ble_eq_true rfl) hs fun b23 w24 hs => ?_)
              refine RW_op (L_appN (ls' := (L9 ++ [gd s.ents k]).map cec) (n := (L9 ++ [gd s.ents k]).length) EL_59 hs 3 rfl rfl rfl (hs.rd 5 rfl) (one_map cec_one _) (by simp only [List.length_map, List.length_append, List.length_cons, List.length_nil]; omega) (by simp) (by simp) fun a25 c25 w26 hs => ?_)
              replace hs : Own w no w26 [blk b1 ((vc s.known) ++ [(.slice a1 s.ents.length c1 : Value), (.slice a2 s.ticks.length c2 : Value) ]) 62, blk b3 [.int .u16 0, .slice none 0 0, .bool false, .int .u32 0] 74, blk b5 [.int .u16 n, .slice none 0 0, .bool ou, .int .u32 tk] 74, row (.slice a25 ((L9 ++ [gd s.ents k]).length) c25) ((L9 ++ [gd s.ents k]).map cec) 128 7, blk b17 (cec (gd s.ents k)) 128, row (.slice (some ⟨b23, 0, none⟩) 1 1) ([gd s.ents k].map cec) 128 7] := hs
              refine RW_op (L_assign (V := .slice a25 ((L9 ++ [gd s.ents k]).length) c25) rfl ?_)
              refine RW_nil ?_
              refine W_region ?_
              refine RW_op (L_add (a := ((k : Nat) : Int)) (b := 1) (c := ((k + 1 : Nat) : Int)) rfl rfl (nat_i64 (by omega) (by omega)) ?_)
              refine RW_op (L_move (V := .int .i64 ((k + 1 : Nat) : Int)) rfl ?_)
              refine RW_nil ?_
              refine ⟨_, ?_, _, k + 1, a25, c25, L9 ++ [gd s.ents k], ou, upd_of (upd_of (mix_of (ds := [8, 10, 35, 36, 37, 38, 39, 40, 41, 42, 43, 44, 45, 46, 47, 48, 49, 50, 51, 52, 53]) (by repeat (first | exact Agr.refl _ _ | refine Agr.upd ?_ rfl | refine Agr.mix ?_ rfl))) rfl) rfl, (by omega), (filt_next_yes (p := (fun e : Cen => decide (e.cart = n) && !decide (e.kind = 4))) hL9 (by omega) (by simp [c20, c21])), (by rw [← anyT_next (p := (fun e : Cen => decide (e.cart = n) && decide (e.kind = 4))) hob (by omega)]; simp [c20, c21]), (by rw [List.length_append, List.length_singleton]; omega), rfl, hs.take 4⟩
              omega
        ·
          replace c16 := of_decide_eq_false c16
          refine W_exit ?_
          refine W_seq ?_
          refine W_region ?_
          refine RW_op (L_move (V := .slice an9 L9.length cn9) rfl ?_)
          refine RW_op (L_callB (α := List Cen) (vs := [.slice an9 L9.length cn9, .func (.func 72) #[] #[]]) (V := fun _ => .tuple #[]) (R := row (.slice an9 L9.length cn9) (L9.map cec) 128 7) (R' := fun x => row (.slice an9 L9.length cn9) (x.map cec) 128 7) (Lo := fun _ => []) (F := fun x _ => x.length = L9.length ∧ x.Perm L9 ∧ SrtL (fun x y : Cen => cmpI x.item y.item) x) EN_71 rfl rfl hs 3 rfl (fun S hS hlt => ssS_ok _ S an9 L9.length cn9 L9 rfl (by omega) 72 EN_72 (fun x y : Cen => cmpI x.item y.item) (cmpO_key (fun x : Cen => x.item)) (fun w x y => view1_ok w x y) hS hlt) fun sx28 w27 hs hF29 => ?_)
          refine RW_nil ?_
          refine W_seq ?_
          refine W_block ?_
          replace hs := hs.more (row (.slice none 0 0) (List.map lc []) 102 2) (row_nil _ _ _ _)
          obtain ⟨hQl, hQp, hQs⟩ := hF29
          have hLE : L9 = mineE s n := by rw [hL9, take_all (by omega)]; rfl
          rw [hLE] at hQp
          have hobE := hob
          rw [take_all (by omega)] at hobE
          have hQok : ∀ e ∈ sx28, CenOk e ∧ 1 ≤ e.count := fun e he => by
            have hq := mine_ent hrc (hQp.mem_iff.1 he)
            exact ⟨hE0 e hq.1, hq.2⟩
          refine W_loopI (fun ρ μ ρ' w' => ∃ (ρo : Env) (R : List Cen) (I : List Int) (an3 : Option Addr) (cn3 : Nat) (an6 : Option Addr) (cn6 : Nat) (ol : List Line), ρ' = upd (mix [8, 11, 56, 57, 58, 59, 60, 61, 62, 63, 64, 65, 66, 67, 68, 69, 70, 71, 72, 73, 74, 75, 76, 77, 78, 79, 80, 81, 82, 83, 84, 85, 86, 87, 88, 89, 90, 91, 92] ρo ρ) 8 (.slice an3 R.length cn3) ∧ (Grps sx28 R I) ∧ (ol = I.map (lineS s n)) ∧ (ol.length + R.length ≤ sx28.length) ∧ (∀ w' : World, Rd w' (.slice an9 L9.length cn9) 7 (sx28.map cec) → Rd w' (.slice an3 R.length cn3) 7 (R.map cec)) ∧ μ = R.length + 0 ∧ Own w no w' [blk b1 ((vc s.known) ++ [(.slice a1 s.ents.length c1 : Value), (.slice a2 s.ticks.length c2 : Value) ]) 62, blk b3 [.int .u16 0, .slice none 0 0, .bool false, .int .u32 0] 74, blk b5 [.int .u16 n, .slice an6 ol.length cn6, .bool ou, .int .u32 tk] 74, row (.slice an9 L9.length cn9) (sx28.map cec) 128 7, row (.slice an6 ol.length cn6) (ol.map lc) 102 2]) ?_ ?_
          · exact ⟨_, _, sx28, [], an9, cn9, none, 0, [], upd_of (mix_of (ds := [8, 11, 56, 57, 58, 59, 60, 61, 62, 63, 64, 65, 66, 67, 68, 69, 70, 71, 72, 73, 74, 75, 76, 77, 78, 79, 80, 81, 82, 83, 84, 85, 86, 87, 88, 89, 90, 91, 92]) (Agr.refl _ _)) (congrArg (fun n => Value.slice an9 n cn9) hQl.symm), (grps_start _), rfl, (by simp), (fun w' h => by rw [hQl]; exact h), rfl, hs⟩
          · rintro μ ρ' w30 ⟨ρo, R, I, an3, cn3, an6, cn6, ol, rfl, hgr, hol, hll, hvia, rfl, hs⟩
            refine W_seq ?_
            refine W_seq ?_
            refine W_region ?_
            refine RW_op (L_move (V := .slice an3 R.length cn3) rfl ?_)
            refine RW_op (L_lenR (n := R.length) UD_59 (hvia _ (hs.rd 3 rfl)) (by simp) rfl ?_)
            refine RW_op (L_gtr rfl rfl ?_)
            refine RW_nil ?_
            refine W_cond (t := decide (0 < ((R.length : Nat) : Int))) rfl (fun c31 => ?_) (fun c31 => ?_)
            ·
              replace c31 := of_decide_eq_true c31
              refine W_skip ?_
              refine W_block ?_
              refine W_seq ?_
              refine W_region ?_
              refine RW_op (L_assign (V := .int .i64 1) rfl ?_)
              refine RW_nil ?_
              refine W_seq ?_
              refine W_block ?_
              refine W_loopI (fun ρ μ ρ' w' => ∃ (ρo : Env) (j : Nat), ρ' = upd (mix [11, 59, 60, 61, 62, 63, 64, 65, 66, 67, 68, 69, 70, 71, 72, 73, 74, 75, 76] ρo ρ) 11 (.int .i64 ((j : Nat) : Int)) ∧ (1 ≤ j) ∧ (j ≤ R.length) ∧ (∀ i, i < j → (gd R i).item = (gd R 0).item) ∧ μ = R.length - j ∧ Own w no w' [blk b1 ((vc s.known) ++ [(.slice a1 s.ents.length c1 : Value), (.slice a2 s.ticks.length c2 : Value) ]) 62, blk b3 [.int .u16 0, .slice none 0 0, .bool false, .int .u32 0] 74, blk b5 [.int .u16 n, .slice an6 ol.length cn6, .bool ou, .int .u32 tk] 74, row (.slice an9 L9.length cn9) (sx28.map cec) 128 7, row (.slice an6 ol.length cn6) (ol.map lc) 102 2]) ?_ ?_
              · exact ⟨_, _, 1, upd_of (mix_of (ds := [11, 59, 60, 61, 62, 63, 64, 65, 66, 67, 68, 69, 70, 71, 72, 73, 74, 75, 76]) (Agr.refl _ _)) rfl, (Nat.le_refl _), (by omega), (fun i hi => by rw [show i = 0 by omega]), rfl, hs⟩
              · rintro μ ρ' w32 ⟨ρo, j, rfl, hj1, hj2, hji, rfl, hs⟩
                refine W_seq ?_
                refine W_seq ?_
                refine W_regD HM [some 59, some 60, some 61, some 62, some 63, some 64, some 65, some 66, some 67, some 68, some 69, some 70, some 71, some 72, some 73, some 74] [] [0, 0, 2, 7, 15, 31, 31, 127, 255, 511, 31, 1055, 3103, 7199, 16383, 32767] [pv (.int .i64 ((j : Nat) : Int)), pv (.slice an3 R.length cn3), pv (.int .i64 ((R.length : Nat) : Int)), pv (.bool (decide (((j : Nat) : Int) < ((R.length : Nat) : Int)))), pv (.bool (decide (((j : Nat) : Int) < ((R.length : Nat) : Int)))), pg ((decide (((j : Nat) : Int) < ((R.length : Nat) : Int))) == true) (.slice an3 R.length cn3), pg ((decide (((j : Nat) : Int) < ((R.length : Nat) : Int))) == true) (.int .i64 ((j : Nat) : Int)), pg ((decide (((j : Nat) : Int) < ((R.length : Nat) : Int))) == true) (.pointer (some ⟨bkS (.slice an3 R.length cn3), ofS (.slice an3 R.length cn3) + ((j : Nat) : Int).toNat * 7, none⟩)), pg ((decide (((j : Nat) : Int) < ((R.length : Nat) : Int))) == true) (.pointer (some ⟨bkS (.slice an3 R.length cn3), ofS (.slice an3 R.length cn3) + ((j : Nat) : Int).toNat * 7 + 1, none⟩)), pg ((decide (((j : Nat) : Int) < ((R.length : Nat) : Int))) == true) (.int .u16 ((gd R j).item)), pg ((decide (((j : Nat) : Int) < ((R.length : Nat) : Int))) == true) (.slice an3 R.length cn3), pg ((decide (((j : Nat) : Int) < ((R.length : Nat) : Int))) == true) (.pointer (some ⟨bkS (.slice an3 R.length cn3), ofS (.slice an3 R.length cn3) + (0 : Int).toNat * 7, none⟩)), pg ((decide (((j : Nat) : Int) < ((R.length : Nat) : Int))) == true) (.pointer (some ⟨bkS (.slice an3 R.length cn3), ofS (.slice an3 R.length cn3) + (0 : Int).toNat * 7 + 1, none⟩)), pg ((decide (((j : Nat) : Int) < ((R.length : Nat) : Int))) == true) (.int .u16 ((gd R 0).item)), pg ((decide (((j : Nat) : Int) < ((R.length : Nat) : Int))) == true) (.bool (decide ((gd R j).item = (gd R 0).item))), pv (.bool ((decide (((j : Nat) : Int) < ((R.length : Nat) : Int))) && (decide ((gd R j).item = (gd R 0).item))))] (fun _ _ => _) [15] (by kernel_rfl) hs ⟨?_, ?_, ?_, ?_, ?_, ?_, ?_, ?_, ?_, ?_, ?_, ?_, ?_, ?_, ?_, ?_, trivial⟩ ?_
                · exact ob [] [] rfl rfl fun D ρ w hs => L_move (V := .int .i64 ((j : Nat) : Int)) rfl ⟨rfl, hs⟩
                · exact ob [] [] rfl rfl fun D ρ w hs => L_move (V := .slice an3 R.length cn3) rfl ⟨rfl, hs⟩
                · exact ob [1] [] rfl rfl fun D ρ w hs => L_lenR (n := R.length) UD_59 (hvia _ (hs.rd 3 rfl)) (by simp) rfl ⟨rfl, hs⟩
                · exact ob [0, 2] [] rfl rfl fun D ρ w hs => L_lss rfl rfl ⟨rfl, hs⟩
                · exact ob [3] [] rfl rfl fun D ρ w hs => L_move (V := .bool (decide (((j : Nat) : Int) < ((R.length : Nat) : Int)))) rfl ⟨rfl, hs⟩
                · exact obg [4] [] (decide (((j : Nat) : Int) < ((R.length : Nat) : Int))) rfl (fun _ => rfl) rfl (fun _ _ _ _ h => h) fun D ρ w hG hs => L_move (V := .slice an3 R.length cn3) rfl ⟨rfl, hs⟩
                · exact obg [4] [] (decide (((j : Nat) : Int) < ((R.length : Nat) : Int))) rfl (fun _ => rfl) rfl (fun _ _ _ _ h => h) fun D ρ w hG hs => L_move (V := .int .i64 ((j : Nat) : Int)) rfl ⟨rfl, hs⟩
                · refine obgy [4, 5, 6] [] [5, 6] (decide (((j : Nat) : Int) < ((R.length : Nat) : Int))) rfl (fun _ => rfl) rfl (fun _ _ _ _ h => h) (fun hG => ⟨hG, hG, trivial⟩) fun D ρ w hG hs => ?_
                  have hgd := of_decide_eq_true (eq_of_beq (hG))
                  exact L_ixR UD_59 SA_128.1 (hvia _ (hs.rd 3 rfl)) rfl rfl (by omega) (by rw [List.length_map]; omega) ⟨rfl, hs⟩
                · exact obgy [4, 7] [] [7] (decide (((j : Nat) : Int) < ((R.length : Nat) : Int))) rfl (fun _ => rfl) rfl (fun _ _ _ _ h => h) (fun hG => ⟨hG, trivial⟩) fun D ρ w hG hs => L_fieldAddr FA_128_1 rfl ⟨rfl, hs⟩
                · refine obgy [4, 8] [] [8] (decide (((j : Nat) : Int) < ((R.length : Nat) : Int))) rfl (fun _ => rfl) rfl (fun _ _ _ _ h => h) (fun hG => ⟨hG, trivial⟩) fun D ρ w hG hs => ?_
                  have hgd := of_decide_eq_true (eq_of_beq (hG))
                  exact L_ldR (j := 1) (V := .int .u16 ((gd R j).item)) j S1_70 (hvia _ (hs.rd 3 rfl)) (gd_at (by omega)) rfl rfl (by omega) ⟨rfl, hs⟩
                · exact obg [4] [] (decide (((j : Nat) : Int) < ((R.length : Nat) : Int))) rfl (fun _ => rfl) rfl (fun _ _ _ _ h => h) fun D ρ w hG hs => L_move (V := .slice an3 R.length cn3) rfl ⟨rfl, hs⟩
                · refine obgy [4, 10] [] [10] (decide (((j : Nat) : Int) < ((R.length : Nat) : Int))) rfl (fun _ => rfl) rfl (fun _ _ _ _ h => h) (fun hG => ⟨hG, trivial⟩) fun D ρ w hG hs => ?_
                  have hgd := of_decide_eq_true (eq_of_beq (hG))
                  exact L_ixR UD_59 SA_128.1 (hvia _ (hs.rd 3 rfl)) rfl rfl (by decide) (by rw [List.length_map]; omega) ⟨rfl, hs⟩
                · exact obgy [4, 11] [] [11] (decide (((j : Nat) : Int) < ((R.length : Nat) : Int))) rfl (fun _ => rfl) rfl (fun _ _ _ _ h => h) (fun hG => ⟨hG, trivial⟩) fun D ρ w hG hs => L_fieldAddr FA_128_1 rfl ⟨rfl, hs⟩
                · refine obgy [4, 12] [] [12] (decide (((j : Nat) : Int) < ((R.length : Nat) : Int))) rfl (fun _ => rfl) rfl (fun _ _ _ _ h => h) (fun hG => ⟨hG, trivial⟩) fun D ρ w hG hs => ?_
                  have hgd := of_decide_eq_true (eq_of_beq (hG))
                  exact L_ldR (j := 1) (V := .int .u16 ((gd R 0).item)) 0 S1_70 (hvia _ (hs.rd 3 rfl)) (gd_at (by omega)) rfl rfl (by omega) ⟨rfl, hs⟩
                · exact obgy [4, 9, 13] [] [9, 13] (decide (((j : Nat) : Int) < ((R.length : Nat) : Int))) rfl (fun _ => rfl) rfl (fun _ _ _ _ h => h) (fun hG => ⟨hG, hG, trivial⟩) fun D ρ w hG hs => L_eql rfl rfl ⟨rfl, hs⟩
                · exact ob [4, 14] [] rfl rfl fun D ρ w hs => L_andC (h' := decide ((gd R j).item = (gd R 0).item)) rfl rfl rfl ⟨rfl, hs⟩
                rintro ρ1 w33 ρ2 hρ hs
                replace hρ : ρ2 = upd (mix [59, 60, 61, 62, 63, 64, 65, 66, 67, 68, 69, 70, 71, 72, 73, 74] ρ1 _) 74 (.bool ((decide (((j : Nat) : Int) < ((R.length : Nat) : Int))) && (decide ((gd R j).item = (gd R 0).item)))) := hρ
                subst hρ
                refine W_cond (t := (decide (((j : Nat) : Int) < ((R.length : Nat) : Int))) && (decide ((gd R j).item = (gd R 0).item))) rfl (fun c34 => ?_) (fun c34 => ?_)
                ·
                  have c34r := and_r c34
                  replace c34 := and_l c34
                  replace c34 := of_decide_eq_true c34
                  replace c34r := of_decide_eq_true c34r
                  refine W_skip ?_
                  refine W_block ?_
                  refine W_region ?_
                  refine RW_op (L_move (V := .int .i64 ((j : Nat) : Int)) rfl ?_)
                  refine RW_op (L_add (a := ((j : Nat) : Int)) (b := 1) (c := ((j + 1 : Nat) : Int)) rfl rfl (nat_i64 (by omega) (by omega)) ?_)
                  refine RW_op (L_assign (V := .int .i64 ((j + 1 : Nat) : Int)) rfl ?_)
                  refine RW_nil ?_
                  refine ⟨_, ?_, _, j + 1, upd_of (mix_of (ds := [11, 59, 60, 61, 62, 63, 64, 65, 66, 67, 68, 69, 70, 71, 72, 73, 74, 75, 76]) (by repeat (first | exact Agr.refl _ _ | refine Agr.upd ?_ rfl | refine Agr.mix ?_ rfl))) rfl, (by omega), (by omega), (fun i hi => by
  rcases Nat.lt_or_eq_of_le (Nat.le_of_lt_succ hi) with q | q
  · exact hji i q
  · subst q; exact c34r), rfl, hs.take 5⟩
                  omega
                ·
                  refine W_exit ?_
                  refine W_seq ?_
                  have hga := grp_all hrc hQp hgr hQs hj1 hj2 hji (by
                    have ht := c34
                    rcases Nat.lt_or_ge j R.length with q | q
                    · right; intro h; simp [q, h] at ht
                    · left; omega)
                  have hGok : ∀ e ∈ R.take j, CenOk e ∧ 1 ≤ e.count := fun e he => hQok e (grps_sub hgr e (List.mem_of_mem_take he))
                  replace hs := hs.more emp trivial
                  refine W_regD HM [some 77, some 78, some 79, some 80, some 81, some 82, some 83, some 84, some 85, some 86, some 87, some 88, some 89, none] [[], [], [], [], [], [], [], [], [], [], [87], [88]] [0, 1, 0, 4, 12, 28, 0, 0, 192, 508, 1020, 2047, 4095, 8191] [pv (.pointer (some ⟨b5, 0 + 1, none⟩)), pv (.slice an6 ol.length cn6), pv (.slice an3 R.length cn3), pv (.pointer (some ⟨bkS (.slice an3 R.length cn3), ofS (.slice an3 R.length cn3) + (0 : Int).toNat * 7, none⟩)), pv (.pointer (some ⟨bkS (.slice an3 R.length cn3), ofS (.slice an3 R.length cn3) + (0 : Int).toNat * 7 + 1, none⟩)), pv (.int .u16 ((gd R 0).item)), pv (.slice an3 R.length cn3), pv (.int .i64 ((j : Nat) : Int)), pv (.slice (sla an3 0 cn3 7) ((R.take j).length) (cn3 - 0)), pv (.agg (lc (⟨(gd R 0).item, qtyL (R.take j)⟩ : Line)).toArray), (true, fun ρ => .slice (some ⟨(bOf (ρ 87)), 0, none⟩) 1 1), (true, fun ρ => .slice (aOf (ρ 88)) ((ol ++ [(⟨(gd R 0).item, qtyL (R.take j)⟩ : Line)]).length) (cOf (ρ 88))), pv (.pointer (some ⟨b5, 0 + 1, none⟩)), pn] (fun D ρ => [blk b1 ((vc s.known) ++ [(.slice a1 s.ents.length c1 : Value), (.slice a2 s.ticks.length c2 : Value) ]) 62, blk b3 [.int .u16 0, .slice none 0 0, .bool false, .int .u32 0] 74, cond (D 13) (blk b5 [.int .u16 n, .slice (aOf (ρ 88)) ((ol ++ [(⟨(gd R 0).item, qtyL (R.take j)⟩ : Line)]).length) (cOf (ρ 88)), .bool ou, .int .u32 tk] 74) (blk b5 [.int .u16 n, .slice an6 ol.length cn6, .bool ou, .int .u32 tk] 74), row (.slice an9 L9.length cn9) (sx28.map cec) 128 7, cond (D 11) (row (.slice (aOf (ρ 88)) ((ol ++ [(⟨(gd R 0).item, qtyL (R.take j)⟩ : Line)]).length) (cOf (ρ 88))) ((ol ++ [(⟨(gd R 0).item, qtyL (R.take j)⟩ : Line)]).map lc) 102 2) (row (.slice an6 ol.length cn6) (ol.map lc) 102 2), cond (D 10) (row (.slice (some ⟨(bOf (ρ 87)), 0, none⟩) 1 1) ([(⟨(gd R 0).item, qtyL (R.take j)⟩ : Line)].map lc) 102 2) (emp)]) [] (by kernel_rfl) hs ⟨?_, ?_, ?_, ?_, ?_, ?_, ?_, ?_, ?_, ?_, ?_, ?_, ?_, ?_, trivial⟩ ?_
                  · exact ob [] [] rfl rfl fun D ρ w hs => L_fieldAddr FA_74_1 rfl ⟨rfl, hs⟩
                  · exact ob [0] [13] rfl rfl fun D ρ w hs => L_ld (V := .slice an6 ol.length cn6) S1_72 hs 2 rfl rfl rfl ⟨rfl, hs⟩
                  · exact ob [] [] rfl rfl fun D ρ w hs => L_move (V := .slice an3 R.length cn3) rfl ⟨rfl, hs⟩
                  · exact ob [2] [] rfl rfl fun D ρ w hs => L_ixR UD_59 SA_128.1 (hvia _ (hs.rd 3 rfl)) rfl rfl (by decide) (by rw [List.length_map]; omega) ⟨rfl, hs⟩
                  · exact ob [3] [] rfl rfl fun D ρ w hs => L_fieldAddr FA_128_1 rfl ⟨rfl, hs⟩
                  · exact ob [4] [] rfl rfl fun D ρ w hs => L_ldR (j := 1) (V := .int .u16 ((gd R 0).item)) 0 S1_70 (hvia _ (hs.rd 3 rfl)) (gd_at (by omega)) rfl rfl (by omega) ⟨rfl, hs⟩
                  · exact ob [] [] rfl rfl fun D ρ w hs => L_move (V := .slice an3 R.length cn3) rfl ⟨rfl, hs⟩
                  · exact ob [] [] rfl rfl fun D ρ w hs => L_move (V := .int .i64 ((j : Nat) : Int)) rfl ⟨rfl, hs⟩
                  · exact ob [6, 7] [] rfl rfl fun D ρ w hs => L_sl (l := 0) (h := j) (m := cn3) (n' := (R.take j).length) UDR_59 SA_128.1 (hvia _ (hs.rd 3 rfl)) rfl (.inl ⟨rfl, rfl⟩) (.inr ⟨_, _, rfl, rfl⟩) (.inl ⟨rfl, rfl⟩) (by omega) (by omega) (Nat.le_trans (show j ≤ R.length by omega) (Rd.roomM (hvia _ (hs.rd 3 rfl)))) (Nat.le_refl _) (by simp only [List.length_take, List.length_drop] <;> omega) ⟨rfl, hs⟩
                  · exact ob [5, 8] [] rfl rfl fun D ρ w hs => L_callP (vs := [.int .u16 ((gd R 0).item), .slice (sla an3 0 cn3 7) ((R.take j).length) (cn3 - 0)]) (V := .agg (lc (⟨(gd R 0).item, qtyL (R.take j)⟩ : Line)).toArray) EN_74 rfl rfl (line_ok _ ((gd R 0).item) (sla an3 0 cn3 7) (cn3 - 0) (R.take j) hGok (Rd.subM (hvia _ (hs.rd 3 rfl)) 0 j cn3 (by omega) (by omega) (Nat.le_trans (show j ≤ R.length by omega) (Rd.roomM (hvia _ (hs.rd 3 rfl)))) (Nat.le_refl _) _ (by simp only [List.length_take, List.length_drop] <;> omega))) hs fun _ hs => ⟨rfl, hs⟩
                  · exact ob [9] [] rfl rfl fun D ρ w hs => L_bs (vals := [.agg (lc (⟨(gd R 0).item, qtyL (R.take j)⟩ : Line)).toArray]) (ls := List.map lc ([(⟨(gd R 0).item, qtyL (R.take j)⟩ : Line)] : List Line)) EL_72 rfl rfl rfl (len_map (enc := lc) (fun _ => rfl) _) (one_map lc_one _) (Nat.le_of_ble_eq_true rfl) hs fun _ _ hs => ⟨rfl, hs.put 5 (Nat.le_of_ble_eq_true rfl)⟩
                  · exact ob [1, 10] [13] rfl rfl fun D ρ w hs => L_appN (ls' := (ol ++ [(⟨(gd R 0).item, qtyL (R.take j)⟩ : Line)]).map lc) (n := (ol ++ [(⟨(gd R 0).item, qtyL (R.take j)⟩ : Line)]).length) EL_72 hs 4 rfl rfl rfl (hs.rd 5 rfl) (one_map lc_one _) (by simp only [List.length_map, List.length_append, List.length_cons, List.length_nil]; omega) (by simp) (by simp) fun _ _ _ hs => ⟨rfl, hs⟩
                  · exact ob [] [] rfl rfl fun D ρ w hs => L_fieldAddr FA_74_1 rfl ⟨rfl, hs⟩
                  · exact ob [11, 12] [] rfl rfl fun D ρ w hs => L_st1 (V := .slice (aOf (ρ 88)) ((ol ++ [(⟨(gd R 0).item, qtyL (R.take j)⟩ : Line)]).length) (cOf (ρ 88))) (cs' := [.int .u16 n, .slice (aOf (ρ 88)) ((ol ++ [(⟨(gd R 0).item, qtyL (R.take j)⟩ : Line)]).length) (cOf (ρ 88)), .bool ou, .int .u32 tk]) S1_72 hs 2 rfl rfl rfl rfl (Nat.le_of_ble_eq_true rfl) rfl fun _ hs => ⟨trivial, hs⟩
                  rintro ρ1 w39 ρ2 hρ hs
                  replace hρ : ρ2 = mix [77, 78, 79, 80, 81, 82, 83, 84, 85, 86, 87, 88, 89] ρ1 _ := hρ
                  replace hs : Own w no w39 [blk b1 ((vc s.known) ++ [(.slice a1 s.ents.length c1 : Value), (.slice a2 s.ticks.length c2 : Value) ]) 62, blk b3 [.int .u16 0, .slice none 0 0, .bool false, .int .u32 0] 74, blk b5 [.int .u16 n, .slice (aOf (ρ1 88)) ((ol ++ [(⟨(gd R 0).item, qtyL (R.take j)⟩ : Line)]).length) (cOf (ρ1 88)), .bool ou, .int .u32 tk] 74, row (.slice an9 L9.length cn9) (sx28.map cec) 128 7, row (.slice (aOf (ρ1 88)) ((ol ++ [(⟨(gd R 0).item, qtyL (R.take j)⟩ : Line)]).length) (cOf (ρ1 88))) ((ol ++ [(⟨(gd R 0).item, qtyL (R.take j)⟩ : Line)]).map lc) 102 2, row (.slice (some ⟨(bOf (ρ1 87)), 0, none⟩) 1 1) ([(⟨(gd R 0).item, qtyL (R.take j)⟩ : Line)].map lc) 102 2] := hs
                  generalize (bOf (ρ1 87)) = b40 at hs
                  generalize (aOf (ρ1 88)) = a41 at hs
                  generalize (cOf (ρ1 88)) = c42 at hs
                  subst hρ
                  refine W_region ?_
                  refine RW_op (L_move (V := .slice an3 R.length cn3) rfl ?_)
                  refine RW_op (L_move (V := .int .i64 ((j : Nat) : Int)) rfl ?_)
                  refine RW_op (L_sl (l := j) (h := R.length) (m := cn3) (n' := (R.drop j).length) UDR_59 SA_128.1 (hvia _ (hs.rd 3 rfl)) rfl (.inr ⟨_, _, rfl, rfl⟩) (.inl ⟨rfl, rfl⟩) (.inl ⟨rfl, rfl⟩) (by omega) (by omega) (Nat.le_trans (show R.length ≤ R.length by omega) (Rd.roomM (hvia _ (hs.rd 3 rfl)))) (Nat.le_refl _) (by simp only [List.length_take, List.length_drop] <;> omega) ?_)
                  refine RW_op (L_assign (V := .slice (sla an3 j cn3 7) ((R.drop j).length) (cn3 - j)) rfl ?_)
                  refine RW_nil ?_
                  refine ⟨_, ?_, _, R.drop j, I ++ [(gd R 0).item], (sla an3 j cn3 7), cn3 - j, a41, c42, ol ++ [(⟨(gd R 0).item, qtyL (R.take j)⟩ : Line)], upd_of (mix_of (ds := [8, 11, 56, 57, 58, 59, 60, 61, 62, 63, 64, 65, 66, 67, 68, 69, 70, 71, 72, 73, 74, 75, 76, 77, 78, 79, 80, 81, 82, 83, 84, 85, 86, 87, 88, 89, 90, 91, 92]) (by repeat (first | exact Agr.refl _ _ | refine Agr.upd ?_ rfl | refine Agr.mix ?_ rfl))) rfl, hga.1, (line_step hol hga.2), (by simp only [List.length_append, List.length_singleton, List.length_drop]; omega), (fun w' h => Rd.dropM (hvia w' h) j (by omega) _ (by rw [List.length_drop])), rfl, hs.take 5⟩
                  (rw [List.length_drop]; omega)
            ·
              replace c31 := of_decide_eq_false c31
              refine W_exit ?_
              refine W_seq ?_
              refine W_region ?_
              refine RW_op (L_ldW (cs := [.int .u16 n, .slice an6 ol.length cn6, .bool ou, .int .u32 tk]) SA_74 hs 2 rfl rfl rfl ?_)
              refine RW_op (L_st (V := .agg #[.int .u16 n, .slice an6 ol.length cn6, .bool ou, .int .u32 tk]) (vs := [.int .u16 n, .slice an6 ol.length cn6, .bool ou, .int .u32 tk]) (cs' := [.int .u16 n, .slice an6 ol.length cn6, .bool ou, .int .u32 tk]) SA_74.1 hs 1 rfl rfl rfl rfl rfl (Nat.le_of_ble_eq_true rfl) (one_cons rfl (one_cons rfl (one_cons rfl (one_cons rfl one_nil)))) (spl_whole rfl) fun w43 hs => ?_)
              refine RW_nil ?_
              refine W_ret ?_
              refine ⟨_, res_cell (cs := [.int .u16 n, .slice an6 ol.length cn6, .bool ou, .int .u32 tk]) Try.results34 SA_74 hs 1 rfl rfl rfl, ?_⟩
              have hV := view_of c9 htk hobE hQp hgr (by omega) hol
              rw [hV]
              exact ⟨(an6, cn6), rfl, hs.only 4 rfl, trivial⟩
end Tt
end Go.Proofs
namespace Go.Proofs
open Go Go.Vx Go.RowKit
namespace Tt
set_option maxRecDepth 20000 in
set_option maxHeartbeats 4000000 in
theorem ins126_ok (w : World) (S : Nat → Prop) (a : Option Addr) (c : Nat) (l : List Lst) (i : Nat) (hi : i ≤ l.length) (x : Lst) (b : Option Addr) (c2 : Nat) (hv : Rd w (.slice b 1 c2) 2 (List.map lsc [x])) (hpl : PlainR w (.slice b 1 c2)) (hnS : ¬ S (bkS (.slice b 1 c2))) (hvb : bkS (.slice b 1 c2) < w.heap.size) (hN : (l.length + 1) * 9 ≤ 140737488355328) (hR : (row (.slice a l.length c) (l.map lsc) 126 2).holds w S) (hlt : ∀ b, S b → b < w.heap.size) : Calls Try.prog 106 #[.slice a l.length c, .int .i64 ((i : Nat) : Int), .slice b 1 c2] w (fun e w' => ∃ x' : Option Addr × Nat, e = .returned (.slice x'.1 (insL l i x).length x'.2) ∧ Own w S w' [row (.slice x'.1 (insL l i x).length x'.2) ((insL l i x).map lsc) 126 2] ∧ True) := by
  refine calls_of_Wn (n := 95) Try.func106 rfl Try.ntmps106 rfl ?_
  have hs := Own.lent hR hlt
  have hn := (hs.rd 0 rfl).sml
  have hlc := (hs.rd 0 rfl).roomM
  have hvo : ∀ (w1 : World) (L1 : List Res), Own w S w1 L1 → Rd w1 (.slice b 1 c2) 2 (List.map lsc [x]) := fun w1 L1 h => hv.own h hnS
  refine W_seq ?_
  refine W_region ?_
  refine RW_op (L_assign (V := .slice none 0 0) rfl ?_)
  refine RW_nil ?_
  refine W_seq ?_
  refine W_region ?_
  refine RW_op (L_move (V := .slice a l.length c) rfl ?_)
  refine RW_op (L_move (V := .int .i64 ((i : Nat) : Int)) rfl ?_)
  refine RW_op (L_sl (l := i) (h := l.length) (m := c) (n' := (l.drop i).length) UDR_60 SA_126.1 (hs.rd 0 rfl) rfl (.inr ⟨_, _, rfl, rfl⟩) (.inl ⟨rfl, rfl⟩) (.inl ⟨rfl, rfl⟩) (by omega) (by omega) (Nat.le_trans (show l.length ≤ l.length by omega) (Rd.roomM (hs.rd 0 rfl))) (Nat.le_refl _) (by simp only [List.length_take, List.length_drop] <;> omega) ?_)
  refine RW_nil ?_
  refine W_seq ?_
  refine W_region ?_
  refine RW_op (L_move (V := .slice b 1 c2) rfl ?_)
  refine RW_op (opW_to (V := .int .i64 ((1 : Nat) : Int)) (V' := .int .i64 1) (L_lenR (n := 1) UD_60 (hvo _ _ hs) (by simp) rfl ⟨rfl, rfl⟩) rfl ?_)
  refine RW_op (L_assign (V := .int .i64 1) rfl ?_)
  refine RW_nil ?_
  refine W_seq ?_
  refine W_seq ?_
  refine W_region ?_
  refine RW_op (L_move (V := .int .i64 1) rfl ?_)
  refine RW_op (opW_to (V := .bool (decide ((1 : Int) = 0))) (V' := .bool false) (L_eql rfl rfl ⟨rfl, rfl⟩) (congrArg Value.bool (by decide)) ?_)
  refine RW_nil ?_
  refine W_condF rfl ?_
  refine W_skip ?_
  refine W_seq ?_
  refine W_region ?_
  refine RW_op (L_move (V := .slice a l.length c) rfl ?_)
  refine RW_op (L_lenR (n := l.length) UD_60 (hs.rd 0 rfl) (by simp) rfl ?_)
  refine RW_op (L_assign (V := .int .i64 ((l.length : Nat) : Int)) rfl ?_)
  refine RW_nil ?_
  refine W_seq ?_
  refine W_seq ?_
  refine W_region ?_
  refine RW_op (L_move (V := .int .i64 ((i : Nat) : Int)) rfl ?_)
  refine RW_op (L_move (V := .int .i64 ((l.length : Nat) : Int)) rfl ?_)
  refine RW_op (L_eql rfl rfl ?_)
  refine RW_nil ?_
  refine W_cond (t := decide (((i : Nat) : Int) = ((l.length : Nat) : Int))) rfl (fun c1 => ?_) (fun c1 => ?_)
  ·
    replace c1 := of_decide_eq_true c1
    refine W_seq ?_
    refine W_region ?_
    refine RW_op (L_move (V := .slice a l.length c) rfl ?_)
    refine RW_op (L_move (V := .slice b 1 c2) rfl ?_)
    refine RW_op (L_appN (ls' := (l ++ [x]).map lsc) (n := (l ++ [x]).length) EL_60 hs 0 rfl rfl rfl (hvo _ _ hs) (one_map lsc_one _) (by simp only [List.length_map, List.length_append, List.length_cons, List.length_nil]; omega) (by simp) (by simp) fun a2 c2 w3 hs => ?_)
    refine RW_op (L_assign (V := .slice a2 ((l ++ [x]).length) c2) rfl ?_)
    refine RW_nil ?_
    refine W_ret ?_
    refine ⟨_, res_one (V := .slice a2 ((l ++ [x]).length) c2) Try.results106 rfl, ?_⟩
    have hX : l ++ [x] = insL l i x := ins_end' (by omega)
    rw [hX] at hs
    exact ⟨(a2, c2), by rw [← hX], hs.only 0 rfl, trivial⟩
  ·
    replace c1 := of_decide_eq_false c1
    refine W_skip ?_
    refine W_seq ?_
    refine W_seq ?_
    refine W_region ?_
    refine RW_op (L_move (V := .int .i64 ((l.length : Nat) : Int)) rfl ?_)
    refine RW_op (L_move (V := .int .i64 1) rfl ?_)
    refine RW_op (L_add (a := ((l.length : Nat) : Int)) (b := 1) (c := ((l.length + 1 : Nat) : Int)) rfl rfl (nat_i64 (by omega) (by omega)) ?_)
    refine RW_op (L_move (V := .slice a l.length c) rfl ?_)
    refine RW_op (L_capS UD_60 rfl ?_)
    refine RW_op (L_gtr rfl rfl ?_)
    refine RW_nil ?_
    refine W_cond (t := decide (((c : Nat) : Int) < ((l.length + 1 : Nat) : Int))) rfl (fun c4 => ?_) (fun c4 => ?_)
    ·
      replace c4 := of_decide_eq_true c4
      refine W_seq ?_
      refine W_region ?_
      refine RW_op (L_move (V := .slice a l.length c) rfl ?_)
      refine RW_op (L_move (V := .int .i64 ((i : Nat) : Int)) rfl ?_)
      refine RW_op (L_slV (l := 0) (h := i) (n' := i) UDR_60 SA_126.1 (by omega) rfl (.inl ⟨rfl, rfl⟩) (.inr ⟨_, _, rfl, rfl⟩) (by omega) (by omega) (by omega) ?_)
      refine RW_op (L_move (V := .int .i64 ((l.length : Nat) : Int)) rfl ?_)
      refine RW_op (L_move (V := .int .i64 1) rfl ?_)
      refine RW_op (L_add (a := ((l.length : Nat) : Int)) (b := 1) (c := ((l.length + 1 : Nat) : Int)) rfl rfl (nat_i64 (by omega) (by omega)) ?_)
      refine RW_op (L_move (V := .int .i64 ((i : Nat) : Int)) rfl ?_)
      refine RW_op (L_sub (a := ((l.length + 1 : Nat) : Int)) (b := ((i : Nat) : Int)) (c := (((l.length + 1) - i : Nat) : Int)) rfl rfl (nat_i64 (by omega) (by omega)) ?_)
      refine RW_op (L_appZ (zl := lsc (⟨0, 0⟩ : Lst)) (ls' := (l.take i ++ List.replicate ((l.length + 1) - i) (⟨0, 0⟩ : Lst)).map lsc) EL_60 UDR_3 (.inl ZV_126) hs (hs.rd 0 rfl) rfl rfl (by rw [List.length_map]; omega) (by rw [List.length_map]; omega) (by omega) (by omega) (one_map lsc_one _) (lsc_one _) rfl (by omega) (by simp only [List.map_append, List.map_take, List.map_replicate]) (l.take i ++ List.replicate ((l.length + 1) - i) (⟨0, 0⟩ : Lst)).length (by rw [List.length_map]) fun a5 c5 w6 hs => ?_)
      refine RW_op (L_assign (V := .slice a5 ((l.take i ++ List.replicate ((l.length + 1) - i) (⟨0, 0⟩ : Lst)).length) c5) rfl ?_)
      refine RW_nil ?_
      refine W_seq ?_
      have hq9 : (l.take i ++ List.replicate ((l.length + 1) - i) (⟨0, 0⟩ : Lst)).length = l.length + 1 := by simp only [List.length_append, List.length_take, List.length_replicate]; omega
      have hr9 := (hs.rd 1 rfl).roomM
      refine W_region ?_
      refine RW_op (L_move (V := .slice a5 ((l.take i ++ List.replicate ((l.length + 1) - i) (⟨0, 0⟩ : Lst)).length) c5) rfl ?_)
      refine RW_op (L_move (V := .int .i64 ((i : Nat) : Int)) rfl ?_)
      refine RW_op (L_slV (l := i) (h := (l.take i ++ List.replicate ((l.length + 1) - i) (⟨0, 0⟩ : Lst)).length) (n' := ((l.take i ++ List.replicate ((l.length + 1) - i) (⟨0, 0⟩ : Lst)).length) - i) UDR_60 SA_126.1 (by omega) rfl (.inr ⟨_, _, rfl, rfl⟩) (.inl ⟨rfl, rfl⟩) (by omega) (by omega) (by omega) ?_)
      refine RW_op (L_move (V := .slice b 1 c2) rfl ?_)
      refine RW_op (L_copyTo (lo := i) (ms := [x].map lsc) (ls' := ((l.take i ++ List.replicate ((l.length + 1) - i) (⟨0, 0⟩ : Lst)).take i ++ [x] ++ (l.take i ++ List.replicate ((l.length + 1) - i) (⟨0, 0⟩ : Lst)).drop (i + [x].length)).map lsc) (n' := ((l.take i ++ List.replicate ((l.length + 1) - i) (⟨0, 0⟩ : Lst)).take i ++ [x] ++ (l.take i ++ List.replicate ((l.length + 1) - i) (⟨0, 0⟩ : Lst)).drop (i + [x].length)).length) EL_60 hs 1 rfl rfl rfl (by simp only [List.length_map, List.length_drop, List.length_take, List.length_cons, List.length_nil, List.length_append, List.length_replicate]; omega) (Rd.srcs (hvo _ _ hs)) (len_map (enc := lsc) (fun _ => rfl) _) (one_map lsc_one _) (by simp only [List.length_map, List.length_drop, List.length_take, List.length_cons, List.length_nil, List.length_append, List.length_replicate]; omega) (by simp only [List.length_map, List.length_drop, List.length_take, List.length_cons, List.length_nil, List.length_append, List.length_replicate]; omega) (by simp only [List.map_append, List.map_take, List.map_drop, List.map_cons, List.map_nil, List.length_map, List.length_drop, List.length_take, List.length_cons, List.length_nil]) (by rw [List.length_map]) fun w7 hs => ?_)
      refine RW_nil ?_
      refine W_seq ?_
      refine W_regD HM [some 46, some 47, some 48, some 49, some 50, some 51, some 52, some 53, some 54] [] [0, 0, 0, 6, 15, 0, 0, 96, 255] [pv (.slice a5 ((l.take i ++ List.replicate ((l.length + 1) - i) (⟨0, 0⟩ : Lst)).length) c5), pv (.int .i64 ((i : Nat) : Int)), pv (.int .i64 1), pv (.int .i64 ((i + 1 : Nat) : Int)), pv (.slice (sla a5 (i + 1) c5 2) (((l.take i ++ List.replicate ((l.length + 1) - i) (⟨0, 0⟩ : Lst)).length) - (i + 1)) (c5 - (i + 1))), pv (.slice a l.length c), pv (.int .i64 ((i : Nat) : Int)), pv (.slice (sla a i c 2) ((l.drop i).length) (c - i)), pv (.int .i64 (((List.map lsc (l.drop i)).length : Nat) : Int))] (fun D ρ => [row (.slice a l.length c) (l.map lsc) 126 2, cond (D 8) (row (.slice a5 ((((l.take i ++ List.replicate ((l.length + 1) - i) (⟨0, 0⟩ : Lst)).take i ++ [x] ++ (l.take i ++ List.replicate ((l.length + 1) - i) (⟨0, 0⟩ : Lst)).drop (i + [x].length)).take (i + 1) ++ l.drop i ++ ((l.take i ++ List.replicate ((l.length + 1) - i) (⟨0, 0⟩ : Lst)).take i ++ [x] ++ (l.take i ++ List.replicate ((l.length + 1) - i) (⟨0, 0⟩ : Lst)).drop (i + [x].length)).drop (i + 1 + (l.drop i).length)).length) c5) ((((l.take i ++ List.replicate ((l.length + 1) - i) (⟨0, 0⟩ : Lst)).take i ++ [x] ++ (l.take i ++ List.replicate ((l.length + 1) - i) (⟨0, 0⟩ : Lst)).drop (i + [x].length)).take (i + 1) ++ l.drop i ++ ((l.take i ++ List.replicate ((l.length + 1) - i) (⟨0, 0⟩ : Lst)).take i ++ [x] ++ (l.take i ++ List.replicate ((l.length + 1) - i) (⟨0, 0⟩ : Lst)).drop (i + [x].length)).drop (i + 1 + (l.drop i).length)).map lsc) 126 2) (row (.slice a5 (((l.take i ++ List.replicate ((l.length + 1) - i) (⟨0, 0⟩ : Lst)).take i ++ [x] ++ (l.take i ++ List.replicate ((l.length + 1) - i) (⟨0, 0⟩ : Lst)).drop (i + [x].length)).length) c5) (((l.take i ++ List.replicate ((l.length + 1) - i) (⟨0, 0⟩ : Lst)).take i ++ [x] ++ (l.take i ++ List.replicate ((l.length + 1) - i) (⟨0, 0⟩ : Lst)).drop (i + [x].length)).map lsc) 126 2)]) [] (by kernel_rfl) hs ⟨?_, ?_, ?_, ?_, ?_, ?_, ?_, ?_, ?_, trivial⟩ ?_
      · exact ob [] [] rfl rfl fun D ρ w hs => L_move (V := .slice a5 ((l.take i ++ List.replicate ((l.length + 1) - i) (⟨0, 0⟩ : Lst)).length) c5) rfl ⟨rfl, hs⟩
      · exact ob [] [] rfl rfl fun D ρ w hs => L_move (V := .int .i64 ((i : Nat) : Int)) rfl ⟨rfl, hs⟩
      · exact ob [] [] rfl rfl fun D ρ w hs => L_move (V := .int .i64 1) rfl ⟨rfl, hs⟩
      · exact ob [1, 2] [] rfl rfl fun D ρ w hs => L_add (a := ((i : Nat) : Int)) (b := 1) (c := ((i + 1 : Nat) : Int)) rfl rfl (nat_i64 (by omega) (by omega)) ⟨rfl, hs⟩
      · exact ob [0, 3] [] rfl rfl fun D ρ w hs => L_slV (l := i + 1) (h := (l.take i ++ List.replicate ((l.length + 1) - i) (⟨0, 0⟩ : Lst)).length) (n' := ((l.take i ++ List.replicate ((l.length + 1) - i) (⟨0, 0⟩ : Lst)).length) - (i + 1)) UDR_60 SA_126.1 (by omega) rfl (.inr ⟨_, _, rfl, rfl⟩) (.inl ⟨rfl, rfl⟩) (by omega) (by omega) (by omega) ⟨rfl, hs⟩
      · exact ob [] [] rfl rfl fun D ρ w hs => L_move (V := .slice a l.length c) rfl ⟨rfl, hs⟩
      · exact ob [] [] rfl rfl fun D ρ w hs => L_move (V := .int .i64 ((i : Nat) : Int)) rfl ⟨rfl, hs⟩
      · exact ob [5, 6] [] rfl rfl fun D ρ w hs => L_sl (l := i) (h := l.length) (m := c) (n' := (l.drop i).length) UDR_60 SA_126.1 (hs.rd 0 rfl) rfl (.inr ⟨_, _, rfl, rfl⟩) (.inl ⟨rfl, rfl⟩) (.inl ⟨rfl, rfl⟩) (by omega) (by omega) (Nat.le_trans (show l.length ≤ l.length by omega) (Rd.roomM (hs.rd 0 rfl))) (Nat.le_refl _) (by simp only [List.length_take, List.length_drop] <;> omega) ⟨rfl, hs⟩
      · exact ob [4, 7] [] rfl rfl fun D ρ w hs => L_copyTo (lo := i + 1) (ms := (l.drop i).map lsc) (ls' := (((l.take i ++ List.replicate ((l.length + 1) - i) (⟨0, 0⟩ : Lst)).take i ++ [x] ++ (l.take i ++ List.replicate ((l.length + 1) - i) (⟨0, 0⟩ : Lst)).drop (i + [x].length)).take (i + 1) ++ l.drop i ++ ((l.take i ++ List.replicate ((l.length + 1) - i) (⟨0, 0⟩ : Lst)).take i ++ [x] ++ (l.take i ++ List.replicate ((l.length + 1) - i) (⟨0, 0⟩ : Lst)).drop (i + [x].length)).drop (i + 1 + (l.drop i).length)).map lsc) (n' := (((l.take i ++ List.replicate ((l.length + 1) - i) (⟨0, 0⟩ : Lst)).take i ++ [x] ++ (l.take i ++ List.replicate ((l.length + 1) - i) (⟨0, 0⟩ : Lst)).drop (i + [x].length)).take (i + 1) ++ l.drop i ++ ((l.take i ++ List.replicate ((l.length + 1) - i) (⟨0, 0⟩ : Lst)).take i ++ [x] ++ (l.take i ++ List.replicate ((l.length + 1) - i) (⟨0, 0⟩ : Lst)).drop (i + [x].length)).drop (i + 1 + (l.drop i).length)).length) EL_60 hs 1 rfl rfl rfl (by simp only [List.length_map, List.length_drop, List.length_take, List.length_cons, List.length_nil, List.length_append, List.length_replicate]; omega) (Rd.srcs (Rd.dropM (hs.rd 0 rfl) i hi _ rfl)) (len_map (enc := lsc) (fun _ => rfl) _) (one_map lsc_one _) (by simp only [List.length_map, List.length_drop, List.length_take, List.length_cons, List.length_nil, List.length_append, List.length_replicate]; omega) (by simp only [List.length_map, List.length_drop, List.length_take, List.length_cons, List.length_nil, List.length_append, List.length_replicate]; omega) (by simp only [List.map_append, List.map_take, List.map_drop, List.map_cons, List.map_nil, List.length_map, List.length_drop, List.length_take, List.length_cons, List.length_nil]) (by rw [List.length_map]) fun _ hs => ⟨rfl, hs⟩
      rintro ρ1 w9 ρ2 hρ hs
      replace hρ : ρ2 = mix [46, 47, 48, 49, 50, 51, 52, 53, 54] ρ1 _ := hρ
      replace hs : Own w S w9 [row (.slice a l.length c) (l.map lsc) 126 2, row (.slice a5 ((((l.take i ++ List.replicate ((l.length + 1) - i) (⟨0, 0⟩ : Lst)).take i ++ [x] ++ (l.take i ++ List.replicate ((l.length + 1) - i) (⟨0, 0⟩ : Lst)).drop (i + [x].length)).take (i + 1) ++ l.drop i ++ ((l.take i ++ List.replicate ((l.length + 1) - i) (⟨0, 0⟩ : Lst)).take i ++ [x] ++ (l.take i ++ List.replicate ((l.length + 1) - i) (⟨0, 0⟩ : Lst)).drop (i + [x].length)).drop (i + 1 + (l.drop i).length)).length) c5) ((((l.take i ++ List.replicate ((l.length + 1) - i) (⟨0, 0⟩ : Lst)).take i ++ [x] ++ (l.take i ++ List.replicate ((l.length + 1) - i) (⟨0, 0⟩ : Lst)).drop (i + [x].length)).take (i + 1) ++ l.drop i ++ ((l.take i ++ List.replicate ((l.length + 1) - i) (⟨0, 0⟩ : Lst)).take i ++ [x] ++ (l.take i ++ List.replicate ((l.length + 1) - i) (⟨0, 0⟩ : Lst)).drop (i + [x].length)).drop (i + 1 + (l.drop i).length)).map lsc) 126 2] := hs
      subst hρ
      refine W_seq ?_
      refine W_region ?_
      refine RW_op (L_move (V := .slice a5 ((l.take i ++ List.replicate ((l.length + 1) - i) (⟨0, 0⟩ : Lst)).length) c5) rfl ?_)
      refine RW_op (L_assign (V := .slice a5 ((l.take i ++ List.replicate ((l.length + 1) - i) (⟨0, 0⟩ : Lst)).length) c5) rfl ?_)
      refine RW_nil ?_
      refine W_ret ?_
      refine ⟨_, res_one (V := .slice a5 ((l.take i ++ List.replicate ((l.length + 1) - i) (⟨0, 0⟩ : Lst)).length) c5) Try.results106 rfl, ?_⟩
      have hX : ((l.take i ++ List.replicate ((l.length + 1) - i) (⟨0, 0⟩ : Lst)).take i ++ [x] ++ (l.take i ++ List.replicate ((l.length + 1) - i) (⟨0, 0⟩ : Lst)).drop (i + [x].length)).take (i + 1) ++ l.drop i ++ ((l.take i ++ List.replicate ((l.length + 1) - i) (⟨0, 0⟩ : Lst)).take i ++ [x] ++ (l.take i ++ List.replicate ((l.length + 1) - i) (⟨0, 0⟩ : Lst)).drop (i + [x].length)).drop (i + 1 + (l.drop i).length) = insL l i x := ins_grow hi
      rw [hX] at hs
      exact ⟨(a5, c5), by rw [hq9, insL_len hi], hs.only 1 rfl, trivial⟩
    ·
      replace c4 := of_decide_eq_false c4
      refine W_skip ?_
      refine W_seq ?_
      refine W_region ?_
      refine RW_op (L_move (V := .slice a l.length c) rfl ?_)
      refine RW_op (L_move (V := .int .i64 ((l.length : Nat) : Int)) rfl ?_)
      refine RW_op (L_move (V := .int .i64 1) rfl ?_)
      refine RW_op (L_add (a := ((l.length : Nat) : Int)) (b := 1) (c := ((l.length + 1 : Nat) : Int)) rfl rfl (nat_i64 (by omega) (by omega)) ?_)
      refine RW_op (opW_to (V := .slice (sla a 0 c 2) (l.length + 1) (c - 0)) (V' := .slice a (l.length + 1) c) (L_slV (l := 0) (h := l.length + 1) (n' := l.length + 1) UDR_60 SA_126.1 (by omega) rfl (.inl ⟨rfl, rfl⟩) (.inr ⟨_, _, rfl, rfl⟩) (by omega) (by omega) (by omega) ⟨rfl, rfl⟩) (by rw [sla_zero]; rfl) ?_)
      refine RW_op (L_assign (V := .slice a (l.length + 1) c) rfl ?_)
      refine RW_nil ?_
      refine W_seq ?_
      refine W_seq ?_
      refine W_region ?_
      refine RW_op (L_move (V := .slice b 1 c2) rfl ?_)
      refine RW_op (L_move (V := .slice a (l.length + 1) c) rfl ?_)
      refine RW_op (L_move (V := .int .i64 ((i : Nat) : Int)) rfl ?_)
      refine RW_op (L_move (V := .int .i64 1) rfl ?_)
      refine RW_op (L_add (a := ((i : Nat) : Int)) (b := 1) (c := ((i + 1 : Nat) : Int)) rfl rfl (nat_i64 (by omega) (by omega)) ?_)
      refine RW_op (L_slV (l := i + 1) (h := l.length + 1) (n' := (l.length + 1) - (i + 1)) UDR_60 SA_126.1 (by omega) rfl (.inr ⟨_, _, rfl, rfl⟩) (.inl ⟨rfl, rfl⟩) (by omega) (by omega) (by omega) ?_)
      refine RW_op (L_overA (f := 137) (tR := 4) (lo := i + 1) Try.func137 (by kernel_rfl) (by kernel_rfl) (by kernel_rfl) (by kernel_rfl) UDR_60 SA_126.1 rfl hs 0 rfl (by rw [List.length_map]; omega) (by decide) rfl (hpl.own hs hnS) hnS hvb (by omega) rfl ?_)
      refine RW_op (L_not rfl ?_)
      refine RW_nil ?_
      refine W_condT rfl ?_
      refine W_seq ?_
      refine W_regD HM [some 69, some 70, some 71, some 72, some 73, some 74, some 75, some 76, some 77] [] [0, 0, 0, 6, 15, 0, 0, 96, 255] [pv (.slice a (l.length + 1) c), pv (.int .i64 ((i : Nat) : Int)), pv (.int .i64 1), pv (.int .i64 ((i + 1 : Nat) : Int)), pv (.slice (sla a (i + 1) c 2) ((l.length + 1) - (i + 1)) (c - (i + 1))), pv (.slice a (l.length + 1) c), pv (.int .i64 ((i : Nat) : Int)), pv (.slice (sla a i c 2) ((l.length + 1) - i) (c - i)), pv (.int .i64 (((List.map lsc (l.drop i)).length : Nat) : Int))] (fun D ρ => [cond (D 8) (row (.slice a ((l.take (i + 1) ++ l.drop i ++ l.drop (i + 1 + (l.drop i).length)).length) c) ((l.take (i + 1) ++ l.drop i ++ l.drop (i + 1 + (l.drop i).length)).map lsc) 126 2) (row (.slice a l.length c) (l.map lsc) 126 2)]) [] (by kernel_rfl) hs ⟨?_, ?_, ?_, ?_, ?_, ?_, ?_, ?_, ?_, trivial⟩ ?_
      · exact ob [] [] rfl rfl fun D ρ w hs => L_move (V := .slice a (l.length + 1) c) rfl ⟨rfl, hs⟩
      · exact ob [] [] rfl rfl fun D ρ w hs => L_move (V := .int .i64 ((i : Nat) : Int)) rfl ⟨rfl, hs⟩
      · exact ob [] [] rfl rfl fun D ρ w hs => L_move (V := .int .i64 1) rfl ⟨rfl, hs⟩
      · exact ob [1, 2] [] rfl rfl fun D ρ w hs => L_add (a := ((i : Nat) : Int)) (b := 1) (c := ((i + 1 : Nat) : Int)) rfl rfl (nat_i64 (by omega) (by omega)) ⟨rfl, hs⟩
      · exact ob [0, 3] [] rfl rfl fun D ρ w hs => L_slV (l := i + 1) (h := l.length + 1) (n' := (l.length + 1) - (i + 1)) UDR_60 SA_126.1 (by omega) rfl (.inr ⟨_, _, rfl, rfl⟩) (.inl ⟨rfl, rfl⟩) (by omega) (by omega) (by omega) ⟨rfl, hs⟩
      · exact ob [] [] rfl rfl fun D ρ w hs => L_move (V := .slice a (l.length + 1) c) rfl ⟨rfl, hs⟩
      · exact ob [] [] rfl rfl fun D ρ w hs => L_move (V := .int .i64 ((i : Nat) : Int)) rfl ⟨rfl, hs⟩
      · exact ob [5, 6] [] rfl rfl fun D ρ w hs => L_slV (l := i) (h := l.length + 1) (n' := (l.length + 1) - i) UDR_60 SA_126.1 (by omega) rfl (.inr ⟨_, _, rfl, rfl⟩) (.inl ⟨rfl, rfl⟩) (by omega) (by omega) (by omega) ⟨rfl, hs⟩
      · exact ob [4, 7] [] rfl rfl fun D ρ w hs => L_copyTo (lo := i + 1) (ms := (l.drop i).map lsc) (ls' := (l.take (i + 1) ++ l.drop i ++ l.drop (i + 1 + (l.drop i).length)).map lsc) (n' := (l.take (i + 1) ++ l.drop i ++ l.drop (i + 1 + (l.drop i).length)).length) EL_60 hs 0 rfl rfl rfl (by simp only [List.length_map, List.length_drop, List.length_take, List.length_cons, List.length_nil, List.length_append, List.length_replicate]; omega) (Rd.srcs (Rd.dropM (hs.rd 0 rfl) i hi _ rfl)) (len_map (enc := lsc) (fun _ => rfl) _) (one_map lsc_one _) (by simp only [List.length_map, List.length_drop, List.length_take, List.length_cons, List.length_nil, List.length_append, List.length_replicate]; omega) (by simp only [List.length_map, List.length_drop, List.length_take, List.length_cons, List.length_nil, List.length_append, List.length_replicate]; omega) (by simp only [List.map_append, List.map_take, List.map_drop, List.map_cons, List.map_nil, List.length_map, List.length_drop, List.length_take, List.length_cons, List.length_nil]) (by rw [List.length_map]) fun _ hs => ⟨rfl, hs⟩
      rintro ρ1 w11 ρ2 hρ hs
      replace hρ : ρ2 = mix [69, 70, 71, 72, 73, 74, 75, 76, 77] ρ1 _ := hρ
      replace hs : Own w S w11 [row (.slice a ((l.take (i + 1) ++ l.drop i ++ l.drop (i + 1 + (l.drop i).length)).length) c) ((l.take (i + 1) ++ l.drop i ++ l.drop (i + 1 + (l.drop i).length)).map lsc) 126 2] := hs
      subst hρ
      refine W_seq ?_
      refine W_region ?_
      refine RW_op (L_move (V := .slice a (l.length + 1) c) rfl ?_)
      refine RW_op (L_move (V := .int .i64 ((i : Nat) : Int)) rfl ?_)
      refine RW_op (L_slV (l := i) (h := l.length + 1) (n' := (l.length + 1) - i) UDR_60 SA_126.1 (by omega) rfl (.inr ⟨_, _, rfl, rfl⟩) (.inl ⟨rfl, rfl⟩) (by omega) (by omega) (by omega) ?_)
      refine RW_op (L_move (V := .slice b 1 c2) rfl ?_)
      refine RW_op (L_copyTo (lo := i) (ms := [x].map lsc) (ls' := ((l.take (i + 1) ++ l.drop i ++ l.drop (i + 1 + (l.drop i).length)).take i ++ [x] ++ (l.take (i + 1) ++ l.drop i ++ l.drop (i + 1 + (l.drop i).length)).drop (i + [x].length)).map lsc) (n' := ((l.take (i + 1) ++ l.drop i ++ l.drop (i + 1 + (l.drop i).length)).take i ++ [x] ++ (l.take (i + 1) ++ l.drop i ++ l.drop (i + 1 + (l.drop i).length)).drop (i + [x].length)).length) EL_60 hs 0 rfl rfl rfl (by simp only [List.length_map, List.length_drop, List.length_take, List.length_cons, List.length_nil, List.length_append, List.length_replicate]; omega) (Rd.srcs (hvo _ _ hs)) (len_map (enc := lsc) (fun _ => rfl) _) (one_map lsc_one _) (by simp only [List.length_map, List.length_drop, List.length_take, List.length_cons, List.length_nil, List.length_append, List.length_replicate]; omega) (by simp only [List.length_map, List.length_drop, List.length_take, List.length_cons, List.length_nil, List.length_append, List.length_replicate]; omega) (by simp only [List.map_append, List.map_take, List.map_drop, List.map_cons, List.map_nil, List.length_map, List.length_drop, List.length_take, List.length_cons, List.length_nil]) (by rw [List.length_map]) fun w12 hs => ?_)
      refine RW_nil ?_
      refine W_seq ?_
      refine W_region ?_
      refine RW_op (L_move (V := .slice a (l.length + 1) c) rfl ?_)
      refine RW_op (L_assign (V := .slice a (l.length + 1) c) rfl ?_)
      refine RW_nil ?_
      refine W_ret ?_
      refine ⟨_, res_one (V := .slice a (l.length + 1) c) Try.results106 rfl, ?_⟩
      have hX : (l.take (i + 1) ++ l.drop i ++ l.drop (i + 1 + (l.drop i).length)).take i ++ [x] ++ (l.take (i + 1) ++ l.drop i ++ l.drop (i + 1 + (l.drop i).length)).drop (i + [x].length) = insL l i x := ins_room (by omega)
      rw [hX] at hs
      exact ⟨(a, c), by rw [insL_len hi], hs.only 0 rfl, trivial⟩
end Tt
end Go.Proofs
namespace Go.Proofs
open Go Go.Vx Go.RowKit
namespace Tt
set_option maxRecDepth 20000 in
set_option maxHeartbeats 4000000 in
theorem tick_ok (w : World) (S : Nat → Prop) (b : Nat) (kn : Vec) (v1 : Value) (a2 : Option Addr) (c2 : Nat) (ts : List Lst) (l : Lst) (hlt : ts.length ≤ 10000) (hT : RisT ts) (hR : (star [blk b (vc kn ++ [(v1 : Value), (.slice a2 ts.length c2 : Value)]) 62, row (.slice a2 ts.length c2) (ts.map lsc) 126 2]).holds w S) (hlS : ∀ x, S x → x < w.heap.size) : Calls Try.prog 65 #[.pointer (some ⟨b, 0, none⟩), .agg (lsc l).toArray] w (fun e w' => ∃ x : Option Addr × Nat, e = .returned (.tuple #[]) ∧ Own w S w' [star [blk b (vc kn ++ [(v1 : Value), (.slice x.1 (putT l.cart l.tick ts).length x.2 : Value)]) 62, row (.slice x.1 (putT l.cart l.tick ts).length x.2) ((putT l.cart l.tick ts).map lsc) 126 2]] ∧ True) := by
  refine calls_of_Wn (n := 46) Try.func65 rfl Try.ntmps65 rfl ?_
  have hs := (Own.lent hR hlS).split 0 rfl
  have hpl := posT_le ts l.cart
  refine W_seq ?_
  refine W_region ?_
  refine RW_op (L_box (V := .agg (lsc l).toArray) (cs := lsc l) rfl rfl hs fun b1 w2 hs => ?_)
  refine RW_nil ?_
  refine W_seq ?_
  refine W_regD HM [some 7, some 8, some 9, some 10, some 11, some 12, some 6, some 13, some 14, some 4, some 5] [] [0, 1, 3, 0, 8, 31, 63, 127, 127, 255, 1023] [pv (.pointer (some ⟨b, 0, none⟩)), pv (.pointer (some ⟨b, 0, none⟩)), pv (.agg ((vc kn) ++ [(v1 : Value), (.slice a2 ts.length c2 : Value) ]).toArray), pv (.pointer (some ⟨b1, 0 + 0, none⟩)), pv (.int .u16 l.cart), pv (.tuple #[.int .i64 ((posT ts l.cart : Nat) : Int), .bool ((tickP ts l.cart).isSome)]), pv (.tuple #[.int .i64 ((posT ts l.cart : Nat) : Int), .bool ((tickP ts l.cart).isSome)]), pv (.int .i64 ((posT ts l.cart : Nat) : Int)), pv (.bool ((tickP ts l.cart).isSome)), pv (.int .i64 ((posT ts l.cart : Nat) : Int)), pv (.bool ((tickP ts l.cart).isSome))] (fun _ _ => _) [10, 9] (by kernel_rfl) hs ⟨?_, ?_, ?_, ?_, ?_, ?_, ?_, ?_, ?_, ?_, ?_, trivial⟩ ?_
  · exact ob [] [] rfl rfl fun D ρ w hs => L_move (V := .pointer (some ⟨b, 0, none⟩)) rfl ⟨rfl, hs⟩
  · exact ob [0] [] rfl rfl fun D ρ w hs => L_nilCheck rfl ⟨rfl, hs⟩
  · exact ob [1] [] rfl rfl fun D ρ w hs => L_ldW (cs := (vc kn) ++ [(v1 : Value), (.slice a2 ts.length c2 : Value) ]) SA_62 hs 0 rfl rfl rfl ⟨rfl, hs⟩
  · exact ob [] [] rfl rfl fun D ρ w hs => L_fieldAddr FA_126_0 rfl ⟨rfl, hs⟩
  · exact ob [3] [] rfl rfl fun D ρ w hs => L_ld (V := .int .u16 l.cart) S1_70 hs 2 rfl rfl rfl ⟨rfl, hs⟩
  · exact ob [2, 4] [] rfl rfl fun D ρ w hs => L_callP (vs := [.agg ((vc kn) ++ [(v1 : Value), (.slice a2 ts.length c2 : Value) ]).toArray, .int .u16 l.cart]) (V := .tuple #[.int .i64 ((posT ts l.cart : Nat) : Int), .bool ((tickP ts l.cart).isSome)]) EN_70 rfl rfl (sFind_ok _ kn v1 a2 c2 ts l.cart (by omega) hT (hs.rd 1 rfl)) hs fun _ hs => ⟨rfl, hs⟩
  · exact ob [5] [] rfl rfl fun D ρ w hs => L_move (V := .tuple #[.int .i64 ((posT ts l.cart : Nat) : Int), .bool ((tickP ts l.cart).isSome)]) rfl ⟨rfl, hs⟩
  · exact ob [6] [] rfl rfl fun D ρ w hs => L_extract (V := .int .i64 ((posT ts l.cart : Nat) : Int)) rfl rfl ⟨rfl, hs⟩
  · exact ob [6] [] rfl rfl fun D ρ w hs => L_extract (V := .bool ((tickP ts l.cart).isSome)) rfl rfl ⟨rfl, hs⟩
  · exact ob [7] [] rfl rfl fun D ρ w hs => L_assign (V := .int .i64 ((posT ts l.cart : Nat) : Int)) rfl ⟨rfl, hs⟩
  · exact ob [8] [] rfl rfl fun D ρ w hs => L_assign (V := .bool ((tickP ts l.cart).isSome)) rfl ⟨rfl, hs⟩
  rintro ρ1 w4 ρ2 hρ hs
  replace hρ : ρ2 = upd (upd (mix [7, 8, 9, 10, 11, 12, 6, 13, 14, 4, 5] ρ1 _) 4 (.int .i64 ((posT ts l.cart : Nat) : Int))) 5 (.bool ((tickP ts l.cart).isSome)) := hρ
  subst hρ
  refine W_seq ?_
  refine W_seq ?_
  refine W_region ?_
  refine RW_op (L_move (V := .bool ((tickP ts l.cart).isSome)) rfl ?_)
  refine RW_op (L_not rfl ?_)
  refine RW_nil ?_
  refine W_cond (t := !((tickP ts l.cart).isSome)) rfl (fun c5 => ?_) (fun c5 => ?_)
  ·
    replace c5 := not_t c5
    refine W_seq ?_
    replace hs := hs.more emp trivial
    refine W_regD HM [some 17, some 18, some 19, some 20, some 21, some 22, some 23, some 24, some 25, some 26, some 27, none] [[], [], [], [], [], [], [], [24], [25]] [0, 0, 2, 6, 14, 0, 0, 64, 254, 511, 1023, 2047] [pv (.pointer (some ⟨b, 0, none⟩)), pv (.pointer (some ⟨b, 0, none⟩)), pv (.pointer (some ⟨b, 0, none⟩)), pv (.pointer (some ⟨b, 0 + 17, none⟩)), pv (.slice a2 ts.length c2), pv (.int .i64 ((posT ts l.cart : Nat) : Int)), pv (.agg (lsc l).toArray), (true, fun ρ => .slice (some ⟨(bOf (ρ 24)), 0, none⟩) 1 1), (true, fun ρ => .slice (aOf (ρ 25)) ((insL ts (posT ts l.cart) l).length) (cOf (ρ 25))), pv (.pointer (some ⟨b, 0, none⟩)), pv (.pointer (some ⟨b, 0 + 17, none⟩)), pn] (fun D ρ => [cond (D 11) (blk b ((vc kn) ++ [(v1 : Value), (.slice (aOf (ρ 25)) ((insL ts (posT ts l.cart) l).length) (cOf (ρ 25)) : Value) ]) 62) (blk b ((vc kn) ++ [(v1 : Value), (.slice a2 ts.length c2 : Value) ]) 62), cond (D 8) (row (.slice (aOf (ρ 25)) ((insL ts (posT ts l.cart) l).length) (cOf (ρ 25))) ((insL ts (posT ts l.cart) l).map lsc) 126 2) (row (.slice a2 ts.length c2) (ts.map lsc) 126 2), blk b1 (lsc l) 126, cond (D 7) (row (.slice (some ⟨(bOf (ρ 24)), 0, none⟩) 1 1) ([l].map lsc) 126 2) (emp)]) [] (by kernel_rfl) hs ⟨?_, ?_, ?_, ?_, ?_, ?_, ?_, ?_, ?_, ?_, ?_, ?_, trivial⟩ ?_
    · exact ob [] [] rfl rfl fun D ρ w hs => L_move (V := .pointer (some ⟨b, 0, none⟩)) rfl ⟨rfl, hs⟩
    · exact ob [] [] rfl rfl fun D ρ w hs => L_move (V := .pointer (some ⟨b, 0, none⟩)) rfl ⟨rfl, hs⟩
    · exact ob [1] [] rfl rfl fun D ρ w hs => L_nilCheck rfl ⟨rfl, hs⟩
    · exact ob [2] [] rfl rfl fun D ρ w hs => L_fieldAddr FA_62_2 rfl ⟨rfl, hs⟩
    · exact ob [3] [11] rfl rfl fun D ρ w hs => L_ld (V := .slice a2 ts.length c2) S1_60 hs 0 rfl rfl rfl ⟨rfl, hs⟩
    · exact ob [] [] rfl rfl fun D ρ w hs => L_move (V := .int .i64 ((posT ts l.cart : Nat) : Int)) rfl ⟨rfl, hs⟩
    · exact ob [] [] rfl rfl fun D ρ w hs => L_ldW (cs := lsc l) SA_126 hs 2 rfl rfl rfl ⟨rfl, hs⟩
    · exact ob [6] [] rfl rfl fun D ρ w hs => L_bs (vals := [.agg (lsc l).toArray]) (ls := List.map lsc ([l] : List Lst)) EL_60 rfl rfl rfl (len_map (enc := lsc) (fun _ => rfl) _) (one_map lsc_one _) (Nat.le_of_ble_eq_true rfl) hs fun _ _ hs => ⟨rfl, hs.put 3 (Nat.le_of_ble_eq_true rfl)⟩
    · exact ob [4, 5, 7] [11] rfl rfl fun D ρ w hs => L_callD (α := Option Addr × Nat) (vs := [.slice a2 ts.length c2, .int .i64 ((posT ts l.cart : Nat) : Int), .slice (some ⟨(bOf (ρ 24)), 0, none⟩) 1 1]) (V := fun x => .slice x.1 (insL ts (posT ts l.cart) l).length x.2) (R := row (.slice a2 ts.length c2) (ts.map lsc) 126 2) (R' := fun x => row (.slice x.1 (insL ts (posT ts l.cart) l).length x.2) ((insL ts (posT ts l.cart) l).map lsc) 126 2) (Lo := fun _ => []) (F := fun _ _ => True) EN_106 rfl rfl hs 1 3 (by decide) rfl rfl (Nat.le_of_ble_eq_true rfl) (fun S hS hlt hnS hpl9 => ins126_ok _ S a2 c2 ts (posT ts l.cart) hpl l (some ⟨(bOf (ρ 24)), 0, none⟩) 1 (hs.rd 3 rfl) hpl9 hnS hpl9.lt (by omega) hS hlt) fun _ _ hs _ => ⟨rfl, hs⟩
    · exact ob [0] [] rfl rfl fun D ρ w hs => L_nilCheck rfl ⟨rfl, hs⟩
    · exact ob [9] [] rfl rfl fun D ρ w hs => L_fieldAddr FA_62_2 rfl ⟨rfl, hs⟩
    · exact ob [8, 10] [] rfl rfl fun D ρ w hs => L_st1 (V := .slice (aOf (ρ 25)) ((insL ts (posT ts l.cart) l).length) (cOf (ρ 25))) (cs' := (vc kn) ++ [(v1 : Value), (.slice (aOf (ρ 25)) ((insL ts (posT ts l.cart) l).length) (cOf (ρ 25)) : Value) ]) S1_60 hs 0 rfl rfl rfl rfl (Nat.le_of_ble_eq_true rfl) rfl fun _ hs => ⟨trivial, hs⟩
    rintro ρ1 w9 ρ2 hρ hs
    replace hρ : ρ2 = mix [17, 18, 19, 20, 21, 22, 23, 24, 25, 26, 27] ρ1 _ := hρ
    replace hs : Own w S w9 [blk b ((vc kn) ++ [(v1 : Value), (.slice (aOf (ρ1 25)) ((insL ts (posT ts l.cart) l).length) (cOf (ρ1 25)) : Value) ]) 62, row (.slice (aOf (ρ1 25)) ((insL ts (posT ts l.cart) l).length) (cOf (ρ1 25))) ((insL ts (posT ts l.cart) l).map lsc) 126 2, blk b1 (lsc l) 126, row (.slice (some ⟨(bOf (ρ1 24)), 0, none⟩) 1 1) ([l].map lsc) 126 2] := hs
    generalize (bOf (ρ1 24)) = b10 at hs
    generalize (aOf (ρ1 25)) = a11 at hs
    generalize (cOf (ρ1 25)) = c12 at hs
    subst hρ
    refine W_ret ?_
    refine ⟨_, res_none Try.results65, ?_⟩
    have hX : insL ts (posT ts l.cart) l = putT l.cart l.tick ts := (putT_ins hT c5).symm
    have ho := (hs.join 0 1 (by decide) rfl rfl).only 0 rfl
    rw [hX] at ho
    exact ⟨(a11, c12), rfl, ho, trivial⟩
  ·
    replace c5 := not_f c5
    refine W_skip ?_
    have hfa := find_at hT c5
    have hfb := hfa.1
    refine W_regD HM [some 28, some 29, some 30, some 31, some 32, some 33, some 34, some 35, some 36, some 37, some 38, some 39, some 40, some 41, some 42, some 43, some 44, some 45, none] [] [0, 1, 3, 7, 0, 0, 32, 96, 224, 0, 992, 2016, 4064, 0, 8192, 32736, 65535, 131071, 262143] [pv (.pointer (some ⟨b, 0, none⟩)), pv (.pointer (some ⟨b, 0, none⟩)), pv (.pointer (some ⟨b, 0 + 17, none⟩)), pv (.slice a2 ts.length c2), pv (.int .i64 ((posT ts l.cart : Nat) : Int)), pv (.pointer (some ⟨b, 0, none⟩)), pv (.pointer (some ⟨b, 0, none⟩)), pv (.pointer (some ⟨b, 0 + 17, none⟩)), pv (.slice a2 ts.length c2), pv (.int .i64 ((posT ts l.cart : Nat) : Int)), pv (.pointer (some ⟨bkS (.slice a2 ts.length c2), ofS (.slice a2 ts.length c2) + ((posT ts l.cart : Nat) : Int).toNat * 2, none⟩)), pv (.pointer (some ⟨bkS (.slice a2 ts.length c2), ofS (.slice a2 ts.length c2) + ((posT ts l.cart : Nat) : Int).toNat * 2 + 1, none⟩)), pv (.int .u32 ((gd ts (posT ts l.cart)).tick)), pv (.pointer (some ⟨b1, 0 + 1, none⟩)), pv (.int .u32 l.tick), pv (.int .u32 (max ((gd ts (posT ts l.cart)).tick) l.tick)), pv (.pointer (some ⟨bkS (.slice a2 ts.length c2), ofS (.slice a2 ts.length c2) + ((posT ts l.cart : Nat) : Int).toNat * 2, none⟩)), pv (.pointer (some ⟨bkS (.slice a2 ts.length c2), ofS (.slice a2 ts.length c2) + ((posT ts l.cart : Nat) : Int).toNat * 2 + 1, none⟩)), pn] (fun D ρ => [blk b ((vc kn) ++ [(v1 : Value), (.slice a2 ts.length c2 : Value) ]) 62, cond (D 18) (row (.slice a2 ts.length c2) ((ts.set (posT ts l.cart) (⟨(gd ts (posT ts l.cart)).cart, max ((gd ts (posT ts l.cart)).tick) l.tick⟩ : Lst)).map lsc) 126 2) (row (.slice a2 ts.length c2) (ts.map lsc) 126 2), blk b1 (lsc l) 126]) [] (by kernel_rfl) hs ⟨?_, ?_, ?_, ?_, ?_, ?_, ?_, ?_, ?_, ?_, ?_, ?_, ?_, ?_, ?_, ?_, ?_, ?_, ?_, trivial⟩ ?_
    · exact ob [] [] rfl rfl fun D ρ w hs => L_move (V := .pointer (some ⟨b, 0, none⟩)) rfl ⟨rfl, hs⟩
    · exact ob [0] [] rfl rfl fun D ρ w hs => L_nilCheck rfl ⟨rfl, hs⟩
    · exact ob [1] [] rfl rfl fun D ρ w hs => L_fieldAddr FA_62_2 rfl ⟨rfl, hs⟩
    · exact ob [2] [] rfl rfl fun D ρ w hs => L_ld (V := .slice a2 ts.length c2) S1_60 hs 0 rfl rfl rfl ⟨rfl, hs⟩
    · exact ob [] [] rfl rfl fun D ρ w hs => L_move (V := .int .i64 ((posT ts l.cart : Nat) : Int)) rfl ⟨rfl, hs⟩
    · exact ob [] [] rfl rfl fun D ρ w hs => L_move (V := .pointer (some ⟨b, 0, none⟩)) rfl ⟨rfl, hs⟩
    · exact ob [5] [] rfl rfl fun D ρ w hs => L_nilCheck rfl ⟨rfl, hs⟩
    · exact ob [6] [] rfl rfl fun D ρ w hs => L_fieldAddr FA_62_2 rfl ⟨rfl, hs⟩
    · exact ob [7] [] rfl rfl fun D ρ w hs => L_ld (V := .slice a2 ts.length c2) S1_60 hs 0 rfl rfl rfl ⟨rfl, hs⟩
    · exact ob [] [] rfl rfl fun D ρ w hs => L_move (V := .int .i64 ((posT ts l.cart : Nat) : Int)) rfl ⟨rfl, hs⟩
    · exact ob [8, 9] [18] rfl rfl fun D ρ w hs => L_ixR UD_60 SA_126.1 (hs.rd 1 rfl) rfl rfl (by omega) (by rw [List.length_map]; omega) ⟨rfl, hs⟩
    · exact ob [10] [] rfl rfl fun D ρ w hs => L_fieldAddr FA_126_1 rfl ⟨rfl, hs⟩
    · exact ob [11] [18] rfl rfl fun D ρ w hs => L_ldR (j := 1) (V := .int .u32 ((gd ts (posT ts l.cart)).tick)) (posT ts l.cart) S1_51 (hs.rd 1 rfl) (gd_at (by omega)) rfl rfl (by omega) ⟨rfl, hs⟩
    · exact ob [] [] rfl rfl fun D ρ w hs => L_fieldAddr FA_126_1 rfl ⟨rfl, hs⟩
    · exact ob [13] [] rfl rfl fun D ρ w hs => L_ld (V := .int .u32 l.tick) S1_51 hs 2 rfl rfl rfl ⟨rfl, hs⟩
    · exact ob [12, 14] [] rfl rfl fun D ρ w hs => L_max rfl rfl ⟨rfl, hs⟩
    · exact ob [3, 4] [18] rfl rfl fun D ρ w hs => L_ixR UD_60 SA_126.1 (hs.rd 1 rfl) rfl rfl (by omega) (by rw [List.length_map]; omega) ⟨rfl, hs⟩
    · exact ob [16] [] rfl rfl fun D ρ w hs => L_fieldAddr FA_126_1 rfl ⟨rfl, hs⟩
    · exact ob [15, 17] [] rfl rfl fun D ρ w hs => L_stF (z := (⟨(gd ts (posT ts l.cart)).cart, max ((gd ts (posT ts l.cart)).tick) l.tick⟩ : Lst)) (vs := [.int .u32 (max ((gd ts (posT ts l.cart)).tick) l.tick)]) (posT ts l.cart) 1 S1_51.1 hs 1 rfl rfl (by omega) (by first | omega | (simp only [List.length_set]; omega)) rfl rfl rfl rfl (Nat.le_of_ble_eq_true rfl) (lsc_one _) (one_cons rfl one_nil) fun _ hs => ⟨trivial, hs⟩
    rintro ρ1 w14 ρ2 hρ hs
    replace hρ : ρ2 = mix [28, 29, 30, 31, 32, 33, 34, 35, 36, 37, 38, 39, 40, 41, 42, 43, 44, 45] ρ1 _ := hρ
    replace hs : Own w S w14 [blk b ((vc kn) ++ [(v1 : Value), (.slice a2 ts.length c2 : Value) ]) 62, row (.slice a2 ts.length c2) ((ts.set (posT ts l.cart) (⟨(gd ts (posT ts l.cart)).cart, max ((gd ts (posT ts l.cart)).tick) l.tick⟩ : Lst)).map lsc) 126 2, blk b1 (lsc l) 126] := hs
    subst hρ
    refine ⟨_, res_none Try.results65, ?_⟩
    have hX : ts.set (posT ts l.cart) (⟨(gd ts (posT ts l.cart)).cart, max ((gd ts (posT ts l.cart)).tick) l.tick⟩ : Lst) = putT l.cart l.tick ts := by rw [putT_set hT c5]; congr 1; rw [(find_at hT c5).2.1]
    have ho := (hs.join 0 1 (by decide) rfl rfl).only 0 rfl
    have hl : ts.length = (putT l.cart l.tick ts).length := by rw [← hX, List.length_set]
    rw [hX, hl] at ho
    exact ⟨(a2, c2), rfl, ho, trivial⟩
end Tt
end Go.Proofs
namespace Go.Proofs
open Go Go.Vx Go.RowKit
namespace Tt
set_option maxRecDepth 20000 in
set_option maxHeartbeats 4000000 in
theorem olays_ok (w : World) (o : Opn) : Calls Try.prog 118 #[.agg (oc o).toArray] w (fun e w' => e = .returned (.bool (laysB o)) ∧ Own w no w' []) := by
  refine calls_of_Wn (n := 16) Try.func118 rfl Try.ntmps118 rfl ?_
  have hs := Own.start w
  refine W_seq ?_
  refine W_region ?_
  refine RW_op (L_box (V := .agg (oc o).toArray) (cs := oc o) rfl rfl hs fun b1 w2 hs => ?_)
  refine RW_op (L_assign (V := .bool false) rfl ?_)
  refine RW_nil ?_
  refine W_seq ?_
  refine W_regO [some 3, some 4, some 5, some 6, some 7, some 8, some 9, some 10, some 11, some 12, some 13, some 14, some 15, some 2] [] [0, 1, 3, 7, 15, 31, 63, 127, 255, 511, 1023, 2047, 4095, 8191] [pv (.pointer (some ⟨b1, 0 + 2, none⟩)), pv (.int .u8 o.kind), pv (.bool (decide (o.kind = 1))), pv (.bool (decide (o.kind = 1))), pg ((decide (o.kind = 1)) == false) (.pointer (some ⟨b1, 0 + 2, none⟩)), pg ((decide (o.kind = 1)) == false) (.int .u8 o.kind), pg ((decide (o.kind = 1)) == false) (.bool (decide (o.kind = 2))), pv (.bool ((decide (o.kind = 1)) || (decide (o.kind = 2)))), pv (.bool ((decide (o.kind = 1)) || (decide (o.kind = 2)))), pg (((decide (o.kind = 1)) || (decide (o.kind = 2))) == false) (.pointer (some ⟨b1, 0 + 2, none⟩)), pg (((decide (o.kind = 1)) || (decide (o.kind = 2))) == false) (.int .u8 o.kind), pg (((decide (o.kind = 1)) || (decide (o.kind = 2))) == false) (.bool (decide (o.kind = 4))), pv (.bool (((decide (o.kind = 1)) || (decide (o.kind = 2))) || (decide (o.kind = 4)))), pv (.bool (((decide (o.kind = 1)) || (decide (o.kind = 2))) || (decide (o.kind = 4))))] (fun _ _ => _) [13] (by kernel_rfl) hs ⟨?_, ?_, ?_, ?_, ?_, ?_, ?_, ?_, ?_, ?_, ?_, ?_, ?_, ?_, trivial⟩ ?_
  · exact ob [] [] rfl rfl fun D ρ w hs => L_fieldAddr FA_98_1 rfl ⟨rfl, hs⟩
  · exact ob [0] [] rfl rfl fun D ρ w hs => L_ld (V := .int .u8 o.kind) S1_5 hs 0 rfl rfl rfl ⟨rfl, hs⟩
  · exact ob [1] [] rfl rfl fun D ρ w hs => L_eql rfl rfl ⟨rfl, hs⟩
  · exact ob [2] [] rfl rfl fun D ρ w hs => L_move (V := .bool (decide (o.kind = 1))) rfl ⟨rfl, hs⟩
  · exact obg [3] [] (decide (o.kind = 1)) rfl (fun _ => rfl) rfl (fun _ _ _ _ h => h) fun D ρ w hG hs => L_fieldAddr FA_98_1 rfl ⟨rfl, hs⟩
  · exact obgy [3, 4] [] [4] (decide (o.kind = 1)) rfl (fun _ => rfl) rfl (fun _ _ _ _ h => h) (fun hG => ⟨hG, trivial⟩) fun D ρ w hG hs => L_ld (V := .int .u8 o.kind) S1_5 hs 0 rfl rfl rfl ⟨rfl, hs⟩
  · exact obgy [3, 5] [] [5] (decide (o.kind = 1)) rfl (fun _ => rfl) rfl (fun _ _ _ _ h => h) (fun hG => ⟨hG, trivial⟩) fun D ρ w hG hs => L_eql rfl rfl ⟨rfl, hs⟩
  · exact ob [3, 6] [] rfl rfl fun D ρ w hs => L_orC (h' := decide (o.kind = 2)) rfl rfl rfl ⟨rfl, hs⟩
  · exact ob [7] [] rfl rfl fun D ρ w hs => L_move (V := .bool ((decide (o.kind = 1)) || (decide (o.kind = 2)))) rfl ⟨rfl, hs⟩
  · exact obg [8] [] ((decide (o.kind = 1)) || (decide (o.kind = 2))) rfl (fun _ => rfl) rfl (fun _ _ _ _ h => h) fun D ρ w hG hs => L_fieldAddr FA_98_1 rfl ⟨rfl, hs⟩
  · exact obgy [8, 9] [] [9] ((decide (o.kind = 1)) || (decide (o.kind = 2))) rfl (fun _ => rfl) rfl (fun _ _ _ _ h => h) (fun hG => ⟨hG, trivial⟩) fun D ρ w hG hs => L_ld (V := .int .u8 o.kind) S1_5 hs 0 rfl rfl rfl ⟨rfl, hs⟩
  · exact obgy [8, 10] [] [10] ((decide (o.kind = 1)) || (decide (o.kind = 2))) rfl (fun _ => rfl) rfl (fun _ _ _ _ h => h) (fun hG => ⟨hG, trivial⟩) fun D ρ w hG hs => L_eql rfl rfl ⟨rfl, hs⟩
  · exact ob [8, 11] [] rfl rfl fun D ρ w hs => L_orC (h' := decide (o.kind = 4)) rfl rfl rfl ⟨rfl, hs⟩
  · exact ob [12] [] rfl rfl fun D ρ w hs => L_assign (V := .bool (((decide (o.kind = 1)) || (decide (o.kind = 2))) || (decide (o.kind = 4)))) rfl ⟨rfl, hs⟩
  rintro ρ1 w3 ρ2 hρ hs
  replace hρ : ρ2 = upd (mix [3, 4, 5, 6, 7, 8, 9, 10, 11, 12, 13, 14, 15, 2] ρ1 _) 2 (.bool (((decide (o.kind = 1)) || (decide (o.kind = 2))) || (decide (o.kind = 4)))) := hρ
  subst hρ
  refine W_ret ?_
  refine ⟨_, res_one (V := .bool (((decide (o.kind = 1)) || (decide (o.kind = 2))) || (decide (o.kind = 4)))) Try.results118 rfl, ?_⟩
  refine ⟨congrArg Ending.returned ?_, hs.take 0⟩
  rfl
set_option maxRecDepth 20000 in
set_option maxHeartbeats 4000000 in
theorem oCount_ok (w : World) (o : Opn) (ho : VecOk o.ctx) : Calls Try.prog 88 #[.agg (oc o).toArray] w (fun e w' => e = .returned (.int .u64 (cntO o)) ∧ Own w no w' []) := by
  refine calls_of_Wn (n := 7) Try.func88 rfl Try.ntmps88 rfl ?_
  have hs := Own.start w
  refine W_seq ?_
  refine W_region ?_
  refine RW_op (L_box (V := .agg (oc o).toArray) (cs := oc o) rfl rfl hs fun b1 w2 hs => ?_)
  refine RW_op (L_assign (V := .int .u64 0) rfl ?_)
  refine RW_nil ?_
  refine W_seq ?_
  have hb := vsum_bd ho
  refine W_region ?_
  refine RW_op (L_fieldAddr FA_98_6 rfl ?_)
  refine RW_op (L_ldA (vs := vc o.ctx) SA_53 hs 0 rfl rfl rfl rfl ?_)
  refine RW_op (L_callP (vs := [.agg (vc o.ctx).toArray]) (V := .int .u64 (vsum o.ctx)) EN_119 rfl rfl ?hc hs fun w3 hs => ?_)
  case hc => exact (vSum_ok _ o.ctx (by first | assumption | exact vzero_ok))
  refine RW_op (L_add (a := vsum o.ctx) (b := 1) (c := (vsum o.ctx) + 1) rfl rfl (wr_u64 (by omega) (by omega)) ?_)
  refine RW_op (L_assign (V := .int .u64 ((vsum o.ctx) + 1)) rfl ?_)
  refine RW_nil ?_
  refine W_ret ?_
  refine ⟨_, res_one (V := .int .u64 ((vsum o.ctx) + 1)) Try.results88 rfl, ?_⟩
  refine ⟨congrArg Ending.returned ?_, hs.take 0⟩
  rfl
set_option maxRecDepth 20000 in
set_option maxHeartbeats 4000000 in
theorem oEnds_ok (w : World) (o e : Opn) (he : DotOk e.dot) : Calls Try.prog 86 #[.agg (oc o).toArray, .agg (oc e).toArray] w (fun r w' => r = .returned (.bool (endsB o e)) ∧ Own w no w' []) := by
  refine calls_of_Wn (n := 40) Try.func86 rfl Try.ntmps86 rfl ?_
  have hs := Own.start w
  refine W_seq ?_
  refine W_region ?_
  refine RW_op (L_box (V := .agg (oc o).toArray) (cs := oc o) rfl rfl hs fun b1 w2 hs => ?_)
  refine RW_op (L_box (V := .agg (oc e).toArray) (cs := oc e) rfl rfl hs fun b3 w4 hs => ?_)
  refine RW_op (L_assign (V := .bool false) rfl ?_)
  refine RW_nil ?_
  refine W_seq ?_
  refine W_seq ?_
  refine W_regO [some 5, some 6, some 7, some 8, some 9, some 10, some 11, some 12, some 13, some 14, some 15, some 16, some 17, some 18, some 19, some 20, some 21, some 22] [] [0, 1, 3, 7, 15, 31, 15, 79, 255, 511, 1023, 2047, 4095, 2047, 10239, 32767, 65535, 131071] [pv (.agg (oc e).toArray), pv (.bool (laysB e)), pv (.bool (!(laysB e))), pv (.bool (!(laysB e))), pg ((!(laysB e)) == false) (.pointer (some ⟨b1, 0 + 3, none⟩)), pg ((!(laysB e)) == false) (.int .u16 o.cart), pg ((!(laysB e)) == false) (.pointer (some ⟨b3, 0 + 3, none⟩)), pg ((!(laysB e)) == false) (.int .u16 e.cart), pg ((!(laysB e)) == false) (.bool (!decide (o.cart = e.cart))), pv (.bool ((!(laysB e)) || (!decide (o.cart = e.cart)))), pv (.bool ((!(laysB e)) || (!decide (o.cart = e.cart)))), pg (((!(laysB e)) || (!decide (o.cart = e.cart))) == false) (.pointer (some ⟨b1, 0 + 7, none⟩)), pg (((!(laysB e)) || (!decide (o.cart = e.cart))) == false) (.agg (vc o.ctx).toArray), pg (((!(laysB e)) || (!decide (o.cart = e.cart))) == false) (.pointer (some ⟨b3, 0 + 0, none⟩)), pg (((!(laysB e)) || (!decide (o.cart = e.cart))) == false) (.agg (dc e.dot).toArray), pg (((!(laysB e)) || (!decide (o.cart = e.cart))) == false) (.bool (hasB o.ctx e.dot)), pg (((!(laysB e)) || (!decide (o.cart = e.cart))) == false) (.bool (!(hasB o.ctx e.dot))), pv (.bool (((!(laysB e)) || (!decide (o.cart = e.cart))) || (!(hasB o.ctx e.dot))))] (fun _ _ => _) [17] (by kernel_rfl) hs ⟨?_, ?_, ?_, ?_, ?_, ?_, ?_, ?_, ?_, ?_, ?_, ?_, ?_, ?_, ?_, ?_, ?_, ?_, trivial⟩ ?_
  · exact ob [] [] rfl rfl fun D ρ w hs => L_ldW (cs := oc e) SA_98 hs 1 rfl rfl rfl ⟨rfl, hs⟩
  · exact ob [0] [] rfl rfl fun D ρ w hs => L_callP (vs := [.agg (oc e).toArray]) (V := .bool (laysB e)) EN_118 rfl rfl (olays_ok _ e) hs fun _ hs => ⟨rfl, hs⟩
  · exact ob [1] [] rfl rfl fun D ρ w hs => L_not rfl ⟨rfl, hs⟩
  · exact ob [2] [] rfl rfl fun D ρ w hs => L_move (V := .bool (!(laysB e))) rfl ⟨rfl, hs⟩
  · exact obg [3] [] (!(laysB e)) rfl (fun _ => rfl) rfl (fun _ _ _ _ h => h) fun D ρ w hG hs => L_fieldAddr FA_98_2 rfl ⟨rfl, hs⟩
  · exact obgy [3, 4] [] [4] (!(laysB e)) rfl (fun _ => rfl) rfl (fun _ _ _ _ h => h) (fun hG => ⟨hG, trivial⟩) fun D ρ w hG hs => L_ld (V := .int .u16 o.cart) S1_70 hs 0 rfl rfl rfl ⟨rfl, hs⟩
  · exact obg [3] [] (!(laysB e)) rfl (fun _ => rfl) rfl (fun _ _ _ _ h => h) fun D ρ w hG hs => L_fieldAddr FA_98_2 rfl ⟨rfl, hs⟩
  · exact obgy [3, 6] [] [6] (!(laysB e)) rfl (fun _ => rfl) rfl (fun _ _ _ _ h => h) (fun hG => ⟨hG, trivial⟩) fun D ρ w hG hs => L_ld (V := .int .u16 e.cart) S1_70 hs 1 rfl rfl rfl ⟨rfl, hs⟩
  · exact obgy [3, 5, 7] [] [5, 7] (!(laysB e)) rfl (fun _ => rfl) rfl (fun _ _ _ _ h => h) (fun hG => ⟨hG, hG, trivial⟩) fun D ρ w hG hs => L_neq rfl rfl ⟨rfl, hs⟩
  · exact ob [3, 8] [] rfl rfl fun D ρ w hs => L_orC (h' := !decide (o.cart = e.cart)) rfl rfl rfl ⟨rfl, hs⟩
  · exact ob [9] [] rfl rfl fun D ρ w hs => L_move (V := .bool ((!(laysB e)) || (!decide (o.cart = e.cart)))) rfl ⟨rfl, hs⟩
  · exact obg [10] [] ((!(laysB e)) || (!decide (o.cart = e.cart))) rfl (fun _ => rfl) rfl (fun _ _ _ _ h => h) fun D ρ w hG hs => L_fieldAddr FA_98_6 rfl ⟨rfl, hs⟩
  · exact obgy [10, 11] [] [11] ((!(laysB e)) || (!decide (o.cart = e.cart))) rfl (fun _ => rfl) rfl (fun _ _ _ _ h => h) (fun hG => ⟨hG, trivial⟩) fun D ρ w hG hs => L_ldA (vs := vc o.ctx) SA_53 hs 0 rfl rfl rfl rfl ⟨rfl, hs⟩
  · exact obg [10] [] ((!(laysB e)) || (!decide (o.cart = e.cart))) rfl (fun _ => rfl) rfl (fun _ _ _ _ h => h) fun D ρ w hG hs => L_fieldAddr FA_98_0 rfl ⟨rfl, hs⟩
  · exact obgy [10, 13] [] [13] ((!(laysB e)) || (!decide (o.cart = e.cart))) rfl (fun _ => rfl) rfl (fun _ _ _ _ h => h) (fun hG => ⟨hG, trivial⟩) fun D ρ w hG hs => L_ldA (vs := dc e.dot) SA_96 hs 1 rfl rfl rfl rfl ⟨rfl, hs⟩
  · exact obgy [10, 12, 14] [] [12, 14] ((!(laysB e)) || (!decide (o.cart = e.cart))) rfl (fun _ => rfl) rfl (fun _ _ _ _ h => h) (fun hG => ⟨hG, hG, trivial⟩) fun D ρ w hG hs => L_callP (vs := [.agg (vc o.ctx).toArray, .agg (dc e.dot).toArray]) (V := .bool (hasB o.ctx e.dot)) EN_62 rfl rfl (vHas_ok _ o.ctx e.dot (by first | assumption | exact dotOk_mk (by omega) (by omega) (by omega) (by omega))) hs fun _ hs => ⟨rfl, hs⟩
  · exact obgy [10, 15] [] [15] ((!(laysB e)) || (!decide (o.cart = e.cart))) rfl (fun _ => rfl) rfl (fun _ _ _ _ h => h) (fun hG => ⟨hG, trivial⟩) fun D ρ w hG hs => L_not rfl ⟨rfl, hs⟩
  · exact ob [10, 16] [] rfl rfl fun D ρ w hs => L_orC (h' := !(hasB o.ctx e.dot)) rfl rfl rfl ⟨rfl, hs⟩
  rintro ρ1 w7 ρ2 hρ hs
  replace hρ : ρ2 = upd (mix [5, 6, 7, 8, 9, 10, 11, 12, 13, 14, 15, 16, 17, 18, 19, 20, 21, 22] ρ1 _) 22 (.bool (((!(laysB e)) || (!decide (o.cart = e.cart))) || (!(hasB o.ctx e.dot)))) := hρ
  subst hρ
  refine W_cond (t := ((!(laysB e)) || (!decide (o.cart = e.cart))) || (!(hasB o.ctx e.dot))) rfl (fun c8 => ?_) (fun c8 => ?_)
  ·
    refine W_seq ?_
    refine W_region ?_
    refine RW_op (L_assign (V := .bool false) rfl ?_)
    refine RW_nil ?_
    refine W_ret ?_
    refine ⟨_, res_one (V := .bool false) Try.results86 rfl, ?_⟩
    refine ⟨congrArg Ending.returned ?_, hs.take 0⟩
    exact congrArg Value.bool (ends_no c8).symm
  ·
    have c8r := or_r c8
    replace c8 := or_l c8
    have c8rr := or_r c8
    replace c8 := or_l c8
    replace c8 := not_f c8
    replace c8rr := not_f c8rr
    replace c8rr := of_decide_eq_true c8rr
    replace c8r := not_f c8r
    refine W_skip ?_
    refine W_seq ?_
    refine W_seq ?_
    refine W_region ?_
    refine RW_op (L_fieldAddr FA_98_1 rfl ?_)
    refine RW_op (L_ld (V := .int .u8 o.kind) S1_5 hs 0 rfl rfl rfl ?_)
    refine RW_nil ?_
    refine W_block ?_
    refine W_seq ?_
    refine W_region ?_
    refine RW_op (L_eql rfl rfl ?_)
    refine RW_op (L_assign (V := .bool (decide (o.kind = 5))) rfl ?_)
    refine RW_nil ?_
    refine W_cond (t := decide (o.kind = 5)) rfl (fun c9 => ?_) (fun c9 => ?_)
    ·
      replace c9 := of_decide_eq_true c9
      refine W_seq ?_
      refine W_region ?_
      refine RW_op (L_assign (V := .bool true) rfl ?_)
      refine RW_nil ?_
      refine W_ret ?_
      refine ⟨_, res_one (V := .bool true) Try.results86 rfl, ?_⟩
      refine ⟨congrArg Ending.returned ?_, hs.take 0⟩
      rw [ends_if c8 c8rr c8r]
      refine congrArg Value.bool ?_
      simp_all
    ·
      replace c9 := of_decide_eq_false c9
      refine W_seq ?_
      refine W_seq ?_
      refine W_region ?_
      refine RW_op (L_eql rfl rfl ?_)
      refine RW_op (L_assign (V := .bool (decide (o.kind = 3))) rfl ?_)
      refine RW_nil ?_
      refine W_cond (t := decide (o.kind = 3)) rfl (fun c10 => ?_) (fun c10 => ?_)
      ·
        replace c10 := of_decide_eq_true c10
        refine W_skip ?_
        refine W_condT (congrArg Value.bool (decide_eq_true c10)) ?_
        refine W_seq ?_
        refine W_regO [some 30, some 31, some 32, some 33, some 34, some 35, some 36, some 37, some 38, some 39, some 4] [] [0, 1, 3, 7, 15, 31, 15, 79, 255, 511, 1023] [pv (.pointer (some ⟨b3, 0 + 2, none⟩)), pv (.int .u8 e.kind), pv (.bool (!decide (e.kind = 4))), pv (.bool (!decide (e.kind = 4))), pg ((!decide (e.kind = 4)) == true) (.pointer (some ⟨b1, 0 + 4, none⟩)), pg ((!decide (e.kind = 4)) == true) (.int .u16 o.item), pg ((!decide (e.kind = 4)) == true) (.pointer (some ⟨b3, 0 + 4, none⟩)), pg ((!decide (e.kind = 4)) == true) (.int .u16 e.item), pg ((!decide (e.kind = 4)) == true) (.bool (decide (o.item = e.item))), pv (.bool ((!decide (e.kind = 4)) && (decide (o.item = e.item)))), pv (.bool ((!decide (e.kind = 4)) && (decide (o.item = e.item))))] (fun _ _ => _) [10] (by kernel_rfl) hs ⟨?_, ?_, ?_, ?_, ?_, ?_, ?_, ?_, ?_, ?_, ?_, trivial⟩ ?_
        · exact ob [] [] rfl rfl fun D ρ w hs => L_fieldAddr FA_98_1 rfl ⟨rfl, hs⟩
        · exact ob [0] [] rfl rfl fun D ρ w hs => L_ld (V := .int .u8 e.kind) S1_5 hs 1 rfl rfl rfl ⟨rfl, hs⟩
        · exact ob [1] [] rfl rfl fun D ρ w hs => L_neq rfl rfl ⟨rfl, hs⟩
        · exact ob [2] [] rfl rfl fun D ρ w hs => L_move (V := .bool (!decide (e.kind = 4))) rfl ⟨rfl, hs⟩
        · exact obg [3] [] (!decide (e.kind = 4)) rfl (fun _ => rfl) rfl (fun _ _ _ _ h => h) fun D ρ w hG hs => L_fieldAddr FA_98_3 rfl ⟨rfl, hs⟩
        · exact obgy [3, 4] [] [4] (!decide (e.kind = 4)) rfl (fun _ => rfl) rfl (fun _ _ _ _ h => h) (fun hG => ⟨hG, trivial⟩) fun D ρ w hG hs => L_ld (V := .int .u16 o.item) S1_70 hs 0 rfl rfl rfl ⟨rfl, hs⟩
        · exact obg [3] [] (!decide (e.kind = 4)) rfl (fun _ => rfl) rfl (fun _ _ _ _ h => h) fun D ρ w hG hs => L_fieldAddr FA_98_3 rfl ⟨rfl, hs⟩
        · exact obgy [3, 6] [] [6] (!decide (e.kind = 4)) rfl (fun _ => rfl) rfl (fun _ _ _ _ h => h) (fun hG => ⟨hG, trivial⟩) fun D ρ w hG hs => L_ld (V := .int .u16 e.item) S1_70 hs 1 rfl rfl rfl ⟨rfl, hs⟩
        · exact obgy [3, 5, 7] [] [5, 7] (!decide (e.kind = 4)) rfl (fun _ => rfl) rfl (fun _ _ _ _ h => h) (fun hG => ⟨hG, hG, trivial⟩) fun D ρ w hG hs => L_eql rfl rfl ⟨rfl, hs⟩
        · exact ob [3, 8] [] rfl rfl fun D ρ w hs => L_andC (h' := decide (o.item = e.item)) rfl rfl rfl ⟨rfl, hs⟩
        · exact ob [9] [] rfl rfl fun D ρ w hs => L_assign (V := .bool ((!decide (e.kind = 4)) && (decide (o.item = e.item)))) rfl ⟨rfl, hs⟩
        rintro ρ1 w11 ρ2 hρ hs
        replace hρ : ρ2 = upd (mix [30, 31, 32, 33, 34, 35, 36, 37, 38, 39, 4] ρ1 _) 4 (.bool ((!decide (e.kind = 4)) && (decide (o.item = e.item)))) := hρ
        subst hρ
        refine W_ret ?_
        refine ⟨_, res_one (V := .bool ((!decide (e.kind = 4)) && (decide (o.item = e.item)))) Try.results86 rfl, ?_⟩
        refine ⟨congrArg Ending.returned ?_, hs.take 0⟩
        rw [ends_if c8 c8rr c8r]
        refine congrArg Value.bool ?_
        simp_all
      ·
        replace c10 := of_decide_eq_false c10
        refine W_region ?_
        refine RW_op (L_eql rfl rfl ?_)
        refine RW_op (L_assign (V := .bool (decide (o.kind = 2))) rfl ?_)
        refine RW_nil ?_
        refine W_cond (t := decide (o.kind = 2)) rfl (fun c12 => ?_) (fun c12 => ?_)
        ·
          replace c12 := of_decide_eq_true c12
          refine W_seq ?_
          refine W_regO [some 30, some 31, some 32, some 33, some 34, some 35, some 36, some 37, some 38, some 39, some 4] [] [0, 1, 3, 7, 15, 31, 15, 79, 255, 511, 1023] [pv (.pointer (some ⟨b3, 0 + 2, none⟩)), pv (.int .u8 e.kind), pv (.bool (!decide (e.kind = 4))), pv (.bool (!decide (e.kind = 4))), pg ((!decide (e.kind = 4)) == true) (.pointer (some ⟨b1, 0 + 4, none⟩)), pg ((!decide (e.kind = 4)) == true) (.int .u16 o.item), pg ((!decide (e.kind = 4)) == true) (.pointer (some ⟨b3, 0 + 4, none⟩)), pg ((!decide (e.kind = 4)) == true) (.int .u16 e.item), pg ((!decide (e.kind = 4)) == true) (.bool (decide (o.item = e.item))), pv (.bool ((!decide (e.kind = 4)) && (decide (o.item = e.item)))), pv (.bool ((!decide (e.kind = 4)) && (decide (o.item = e.item))))] (fun _ _ => _) [10] (by kernel_rfl) hs ⟨?_, ?_, ?_, ?_, ?_, ?_, ?_, ?_, ?_, ?_, ?_, trivial⟩ ?_
          · exact ob [] [] rfl rfl fun D ρ w hs => L_fieldAddr FA_98_1 rfl ⟨rfl, hs⟩
          · exact ob [0] [] rfl rfl fun D ρ w hs => L_ld (V := .int .u8 e.kind) S1_5 hs 1 rfl rfl rfl ⟨rfl, hs⟩
          · exact ob [1] [] rfl rfl fun D ρ w hs => L_neq rfl rfl ⟨rfl, hs⟩
          · exact ob [2] [] rfl rfl fun D ρ w hs => L_move (V := .bool (!decide (e.kind = 4))) rfl ⟨rfl, hs⟩
          · exact obg [3] [] (!decide (e.kind = 4)) rfl (fun _ => rfl) rfl (fun _ _ _ _ h => h) fun D ρ w hG hs => L_fieldAddr FA_98_3 rfl ⟨rfl, hs⟩
          · exact obgy [3, 4] [] [4] (!decide (e.kind = 4)) rfl (fun _ => rfl) rfl (fun _ _ _ _ h => h) (fun hG => ⟨hG, trivial⟩) fun D ρ w hG hs => L_ld (V := .int .u16 o.item) S1_70 hs 0 rfl rfl rfl ⟨rfl, hs⟩
          · exact obg [3] [] (!decide (e.kind = 4)) rfl (fun _ => rfl) rfl (fun _ _ _ _ h => h) fun D ρ w hG hs => L_fieldAddr FA_98_3 rfl ⟨rfl, hs⟩
          · exact obgy [3, 6] [] [6] (!decide (e.kind = 4)) rfl (fun _ => rfl) rfl (fun _ _ _ _ h => h) (fun hG => ⟨hG, trivial⟩) fun D ρ w hG hs => L_ld (V := .int .u16 e.item) S1_70 hs 1 rfl rfl rfl ⟨rfl, hs⟩
          · exact obgy [3, 5, 7] [] [5, 7] (!decide (e.kind = 4)) rfl (fun _ => rfl) rfl (fun _ _ _ _ h => h) (fun hG => ⟨hG, hG, trivial⟩) fun D ρ w hG hs => L_eql rfl rfl ⟨rfl, hs⟩
          · exact ob [3, 8] [] rfl rfl fun D ρ w hs => L_andC (h' := decide (o.item = e.item)) rfl rfl rfl ⟨rfl, hs⟩
          · exact ob [9] [] rfl rfl fun D ρ w hs => L_assign (V := .bool ((!decide (e.kind = 4)) && (decide (o.item = e.item)))) rfl ⟨rfl, hs⟩
          rintro ρ1 w13 ρ2 hρ hs
          replace hρ : ρ2 = upd (mix [30, 31, 32, 33, 34, 35, 36, 37, 38, 39, 4] ρ1 _) 4 (.bool ((!decide (e.kind = 4)) && (decide (o.item = e.item)))) := hρ
          subst hρ
          refine W_ret ?_
          refine ⟨_, res_one (V := .bool ((!decide (e.kind = 4)) && (decide (o.item = e.item)))) Try.results86 rfl, ?_⟩
          refine ⟨congrArg Ending.returned ?_, hs.take 0⟩
          rw [ends_if c8 c8rr c8r]
          refine congrArg Value.bool ?_
          simp_all
        ·
          replace c12 := of_decide_eq_false c12
          refine W_skip ?_
          refine W_seq ?_
          refine W_region ?_
          refine RW_op (L_assign (V := .bool false) rfl ?_)
          refine RW_nil ?_
          refine W_ret ?_
          refine ⟨_, res_one (V := .bool false) Try.results86 rfl, ?_⟩
          refine ⟨congrArg Ending.returned ?_, hs.take 0⟩
          rw [ends_if c8 c8rr c8r]
          refine congrArg Value.bool ?_
          simp_all
set_option maxRecDepth 20000 in
set_option maxHeartbeats 4000000 in
theorem oKind_ok (w : World) (o : Opn) (ho : OpnOk o) : Calls Try.prog 142 #[.agg (oc o).toArray] w (fun e w' => e = .returned (.bool (kindB o)) ∧ Own w no w' []) := by
  refine calls_of_Wn (n := 28) Try.func142 rfl Try.ntmps142 rfl ?_
  have hs := Own.start w
  refine W_seq ?_
  refine W_region ?_
  refine RW_op (L_box (V := .agg (oc o).toArray) (cs := oc o) rfl rfl hs fun b1 w2 hs => ?_)
  refine RW_op (L_assign (V := .bool false) rfl ?_)
  refine RW_nil ?_
  refine W_seq ?_
  refine W_seq ?_
  refine W_region ?_
  refine RW_op (L_fieldAddr FA_98_1 rfl ?_)
  refine RW_op (L_ld (V := .int .u8 o.kind) S1_5 hs 0 rfl rfl rfl ?_)
  refine RW_nil ?_
  refine W_block ?_
  refine W_seq ?_
  refine W_region ?_
  refine RW_op (L_eql rfl rfl ?_)
  refine RW_op (L_assign (V := .bool (decide (o.kind = 1))) rfl ?_)
  refine RW_nil ?_
  refine W_cond (t := decide (o.kind = 1)) rfl (fun c3 => ?_) (fun c3 => ?_)
  ·
    replace c3 := of_decide_eq_true c3
    refine W_seq ?_
    refine W_region ?_
    refine RW_op (L_fieldAddr FA_98_4 rfl ?_)
    refine RW_op (L_ld (V := .int .u16 o.qty) S1_70 hs 0 rfl rfl rfl ?_)
    refine RW_op (L_gtr rfl rfl ?_)
    refine RW_op (L_assign (V := .bool (decide (0 < o.qty))) rfl ?_)
    refine RW_nil ?_
    refine W_ret ?_
    refine ⟨_, res_one (V := .bool (decide (0 < o.qty))) Try.results142 rfl, ?_⟩
    refine ⟨congrArg Ending.returned ?_, hs.take 0⟩
    refine congrArg Value.bool ?_
    unfold kindB
    have ⟨_, _, _, _, ⟨hq1, hq2⟩, _, _⟩ := ho
    simp_all
    try omega
  ·
    replace c3 := of_decide_eq_false c3
    refine W_seq ?_
    refine W_region ?_
    refine RW_op (L_eql rfl rfl ?_)
    refine RW_op (L_assign (V := .bool (decide (o.kind = 2))) rfl ?_)
    refine RW_nil ?_
    refine W_cond (t := decide (o.kind = 2)) rfl (fun c4 => ?_) (fun c4 => ?_)
    ·
      replace c4 := of_decide_eq_true c4
      refine W_seq ?_
      refine W_region ?_
      refine RW_op (L_assign (V := .bool true) rfl ?_)
      refine RW_nil ?_
      refine W_ret ?_
      refine ⟨_, res_one (V := .bool true) Try.results142 rfl, ?_⟩
      refine ⟨congrArg Ending.returned ?_, hs.take 0⟩
      refine congrArg Value.bool ?_
      unfold kindB
      have ⟨_, _, _, _, ⟨hq1, hq2⟩, _, _⟩ := ho
      simp_all
      try omega
    ·
      replace c4 := of_decide_eq_false c4
      refine W_seq ?_
      refine W_region ?_
      refine RW_op (L_eql rfl rfl ?_)
      refine RW_op (L_assign (V := .bool (decide (o.kind = 3))) rfl ?_)
      refine RW_nil ?_
      refine W_cond (t := decide (o.kind = 3)) rfl (fun c5 => ?_) (fun c5 => ?_)
      ·
        replace c5 := of_decide_eq_true c5
        refine W_seq ?_
        refine W_region ?_
        refine RW_op (L_fieldAddr FA_98_4 rfl ?_)
        refine RW_op (L_ld (V := .int .u16 o.qty) S1_70 hs 0 rfl rfl rfl ?_)
        refine RW_op (L_eql rfl rfl ?_)
        refine RW_op (L_assign (V := .bool (decide (o.qty = 0))) rfl ?_)
        refine RW_nil ?_
        refine W_ret ?_
        refine ⟨_, res_one (V := .bool (decide (o.qty = 0))) Try.results142 rfl, ?_⟩
        refine ⟨congrArg Ending.returned ?_, hs.take 0⟩
        refine congrArg Value.bool ?_
        unfold kindB
        have ⟨_, _, _, _, ⟨hq1, hq2⟩, _, _⟩ := ho
        simp_all
        try omega
      ·
        replace c5 := of_decide_eq_false c5
        refine W_seq ?_
        refine W_seq ?_
        refine W_region ?_
        refine RW_op (L_eql rfl rfl ?_)
        refine RW_op (L_assign (V := .bool (decide (o.kind = 4))) rfl ?_)
        refine RW_nil ?_
        refine W_cond (t := decide (o.kind = 4)) rfl (fun c6 => ?_) (fun c6 => ?_)
        ·
          replace c6 := of_decide_eq_true c6
          refine W_skip ?_
          refine W_condT (congrArg Value.bool (decide_eq_true c6)) ?_
          refine W_seq ?_
          refine W_regO [some 20, some 21, some 22, some 23, some 24, some 25, some 26, some 27, some 2] [] [0, 1, 3, 7, 15, 31, 63, 127, 255] [pv (.pointer (some ⟨b1, 0 + 4, none⟩)), pv (.int .u16 o.item), pv (.bool (decide (o.item = 0))), pv (.bool (decide (o.item = 0))), pg ((decide (o.item = 0)) == true) (.pointer (some ⟨b1, 0 + 5, none⟩)), pg ((decide (o.item = 0)) == true) (.int .u16 o.qty), pg ((decide (o.item = 0)) == true) (.bool (decide (o.qty = 0))), pv (.bool ((decide (o.item = 0)) && (decide (o.qty = 0)))), pv (.bool ((decide (o.item = 0)) && (decide (o.qty = 0))))] (fun _ _ => _) [8] (by kernel_rfl) hs ⟨?_, ?_, ?_, ?_, ?_, ?_, ?_, ?_, ?_, trivial⟩ ?_
          · exact ob [] [] rfl rfl fun D ρ w hs => L_fieldAddr FA_98_3 rfl ⟨rfl, hs⟩
          · exact ob [0] [] rfl rfl fun D ρ w hs => L_ld (V := .int .u16 o.item) S1_70 hs 0 rfl rfl rfl ⟨rfl, hs⟩
          · exact ob [1] [] rfl rfl fun D ρ w hs => L_eql rfl rfl ⟨rfl, hs⟩
          · exact ob [2] [] rfl rfl fun D ρ w hs => L_move (V := .bool (decide (o.item = 0))) rfl ⟨rfl, hs⟩
          · exact obg [3] [] (decide (o.item = 0)) rfl (fun _ => rfl) rfl (fun _ _ _ _ h => h) fun D ρ w hG hs => L_fieldAddr FA_98_4 rfl ⟨rfl, hs⟩
          · exact obgy [3, 4] [] [4] (decide (o.item = 0)) rfl (fun _ => rfl) rfl (fun _ _ _ _ h => h) (fun hG => ⟨hG, trivial⟩) fun D ρ w hG hs => L_ld (V := .int .u16 o.qty) S1_70 hs 0 rfl rfl rfl ⟨rfl, hs⟩
          · exact obgy [3, 5] [] [5] (decide (o.item = 0)) rfl (fun _ => rfl) rfl (fun _ _ _ _ h => h) (fun hG => ⟨hG, trivial⟩) fun D ρ w hG hs => L_eql rfl rfl ⟨rfl, hs⟩
          · exact ob [3, 6] [] rfl rfl fun D ρ w hs => L_andC (h' := decide (o.qty = 0)) rfl rfl rfl ⟨rfl, hs⟩
          · exact ob [7] [] rfl rfl fun D ρ w hs => L_assign (V := .bool ((decide (o.item = 0)) && (decide (o.qty = 0)))) rfl ⟨rfl, hs⟩
          rintro ρ1 w7 ρ2 hρ hs
          replace hρ : ρ2 = upd (mix [20, 21, 22, 23, 24, 25, 26, 27, 2] ρ1 _) 2 (.bool ((decide (o.item = 0)) && (decide (o.qty = 0)))) := hρ
          subst hρ
          refine W_ret ?_
          refine ⟨_, res_one (V := .bool ((decide (o.item = 0)) && (decide (o.qty = 0)))) Try.results142 rfl, ?_⟩
          refine ⟨congrArg Ending.returned ?_, hs.take 0⟩
          refine congrArg Value.bool ?_
          unfold kindB
          have ⟨_, _, _, _, ⟨hq1, hq2⟩, _, _⟩ := ho
          simp_all
          try omega
        ·
          replace c6 := of_decide_eq_false c6
          refine W_region ?_
          refine RW_op (L_eql rfl rfl ?_)
          refine RW_op (L_assign (V := .bool (decide (o.kind = 5))) rfl ?_)
          refine RW_nil ?_
          refine W_cond (t := decide (o.kind = 5)) rfl (fun c8 => ?_) (fun c8 => ?_)
          ·
            replace c8 := of_decide_eq_true c8
            refine W_seq ?_
            refine W_regO [some 20, some 21, some 22, some 23, some 24, some 25, some 26, some 27, some 2] [] [0, 1, 3, 7, 15, 31, 63, 127, 255] [pv (.pointer (some ⟨b1, 0 + 4, none⟩)), pv (.int .u16 o.item), pv (.bool (decide (o.item = 0))), pv (.bool (decide (o.item = 0))), pg ((decide (o.item = 0)) == true) (.pointer (some ⟨b1, 0 + 5, none⟩)), pg ((decide (o.item = 0)) == true) (.int .u16 o.qty), pg ((decide (o.item = 0)) == true) (.bool (decide (o.qty = 0))), pv (.bool ((decide (o.item = 0)) && (decide (o.qty = 0)))), pv (.bool ((decide (o.item = 0)) && (decide (o.qty = 0))))] (fun _ _ => _) [8] (by kernel_rfl) hs ⟨?_, ?_, ?_, ?_, ?_, ?_, ?_, ?_, ?_, trivial⟩ ?_
            · exact ob [] [] rfl rfl fun D ρ w hs => L_fieldAddr FA_98_3 rfl ⟨rfl, hs⟩
            · exact ob [0] [] rfl rfl fun D ρ w hs => L_ld (V := .int .u16 o.item) S1_70 hs 0 rfl rfl rfl ⟨rfl, hs⟩
            · exact ob [1] [] rfl rfl fun D ρ w hs => L_eql rfl rfl ⟨rfl, hs⟩
            · exact ob [2] [] rfl rfl fun D ρ w hs => L_move (V := .bool (decide (o.item = 0))) rfl ⟨rfl, hs⟩
            · exact obg [3] [] (decide (o.item = 0)) rfl (fun _ => rfl) rfl (fun _ _ _ _ h => h) fun D ρ w hG hs => L_fieldAddr FA_98_4 rfl ⟨rfl, hs⟩
            · exact obgy [3, 4] [] [4] (decide (o.item = 0)) rfl (fun _ => rfl) rfl (fun _ _ _ _ h => h) (fun hG => ⟨hG, trivial⟩) fun D ρ w hG hs => L_ld (V := .int .u16 o.qty) S1_70 hs 0 rfl rfl rfl ⟨rfl, hs⟩
            · exact obgy [3, 5] [] [5] (decide (o.item = 0)) rfl (fun _ => rfl) rfl (fun _ _ _ _ h => h) (fun hG => ⟨hG, trivial⟩) fun D ρ w hG hs => L_eql rfl rfl ⟨rfl, hs⟩
            · exact ob [3, 6] [] rfl rfl fun D ρ w hs => L_andC (h' := decide (o.qty = 0)) rfl rfl rfl ⟨rfl, hs⟩
            · exact ob [7] [] rfl rfl fun D ρ w hs => L_assign (V := .bool ((decide (o.item = 0)) && (decide (o.qty = 0)))) rfl ⟨rfl, hs⟩
            rintro ρ1 w9 ρ2 hρ hs
            replace hρ : ρ2 = upd (mix [20, 21, 22, 23, 24, 25, 26, 27, 2] ρ1 _) 2 (.bool ((decide (o.item = 0)) && (decide (o.qty = 0)))) := hρ
            subst hρ
            refine W_ret ?_
            refine ⟨_, res_one (V := .bool ((decide (o.item = 0)) && (decide (o.qty = 0)))) Try.results142 rfl, ?_⟩
            refine ⟨congrArg Ending.returned ?_, hs.take 0⟩
            refine congrArg Value.bool ?_
            unfold kindB
            have ⟨_, _, _, _, ⟨hq1, hq2⟩, _, _⟩ := ho
            simp_all
            try omega
          ·
            replace c8 := of_decide_eq_false c8
            refine W_skip ?_
            refine W_seq ?_
            refine W_region ?_
            refine RW_op (L_assign (V := .bool false) rfl ?_)
            refine RW_nil ?_
            refine W_ret ?_
            refine ⟨_, res_one (V := .bool false) Try.results142 rfl, ?_⟩
            refine ⟨congrArg Ending.returned ?_, hs.take 0⟩
            refine congrArg Value.bool ?_
            unfold kindB
            have ⟨_, _, _, _, ⟨hq1, hq2⟩, _, _⟩ := ho
            simp_all
            try omega
set_option maxRecDepth 20000 in
set_option maxHeartbeats 4000000 in
theorem oRight_ok (w : World) (o : Opn) (n : Int) (hO : OpnOk o) : Calls Try.prog 114 #[.agg (oc o).toArray, .int .i64 n] w (fun e w' => e = .returned (.bool (rightOn o n)) ∧ Own w no w' []) := by
  refine calls_of_Wn (n := 50) Try.func114 rfl Try.ntmps114 rfl ?_
  have hs := Own.start w
  have ⟨⟨⟨hr1, hr2⟩, hr3, hr4⟩, _, _, _, ⟨hq1, hq2⟩, _, hctx⟩ := hO
  refine W_seq ?_
  refine W_region ?_
  refine RW_op (L_box (V := .agg (oc o).toArray) (cs := oc o) rfl rfl hs fun b1 w2 hs => ?_)
  refine RW_op (L_assign (V := .bool false) rfl ?_)
  refine RW_nil ?_
  refine W_seq ?_
  refine W_seq ?_
  refine W_regO [some 6, some 7, some 8, some 9, some 10, some 11, some 12, some 13, some 14, some 15, some 16, some 17, some 18, some 19, some 20, some 21, some 22, some 23, some 24, some 25, some 26, some 27, some 28] [] [0, 1, 0, 7, 15, 31, 63, 127, 255, 511, 63, 2047, 4095, 8191, 16383, 32767, 65535, 131071, 262143, 524287, 1048575, 2097151, 4194303] [pv (.pointer (some ⟨b1, 0 + 7, none⟩)), pv (.agg (vc o.ctx).toArray), pv (.int .i64 n), pv (.bool (rightB o.ctx n)), pv (.bool (!(rightB o.ctx n))), pv (.bool (!(rightB o.ctx n))), pg ((!(rightB o.ctx n)) == false) (.pointer (some ⟨b1, 0 + 0, none⟩)), pg ((!(rightB o.ctx n)) == false) (.pointer (some ⟨b1, 0 + 0 + 0, none⟩)), pg ((!(rightB o.ctx n)) == false) (.int .u8 o.dot.rep), pg ((!(rightB o.ctx n)) == false) (.int .i64 o.dot.rep), pg ((!(rightB o.ctx n)) == false) (.int .i64 n), pg ((!(rightB o.ctx n)) == false) (.bool (decide (n ≤ o.dot.rep))), pv (.bool ((!(rightB o.ctx n)) || (decide (n ≤ o.dot.rep)))), pv (.bool ((!(rightB o.ctx n)) || (decide (n ≤ o.dot.rep)))), pg (((!(rightB o.ctx n)) || (decide (n ≤ o.dot.rep))) == false) (.pointer (some ⟨b1, 0 + 6, none⟩)), pg (((!(rightB o.ctx n)) || (decide (n ≤ o.dot.rep))) == false) (.int .u32 o.tick), pg (((!(rightB o.ctx n)) || (decide (n ≤ o.dot.rep))) == false) (.bool (decide (1073741824 < o.tick))), pv (.bool (((!(rightB o.ctx n)) || (decide (n ≤ o.dot.rep))) || (decide (1073741824 < o.tick)))), pv (.bool (((!(rightB o.ctx n)) || (decide (n ≤ o.dot.rep))) || (decide (1073741824 < o.tick)))), pg ((((!(rightB o.ctx n)) || (decide (n ≤ o.dot.rep))) || (decide (1073741824 < o.tick))) == false) (.agg (oc o).toArray), pg ((((!(rightB o.ctx n)) || (decide (n ≤ o.dot.rep))) || (decide (1073741824 < o.tick))) == false) (.bool (kindB o)), pg ((((!(rightB o.ctx n)) || (decide (n ≤ o.dot.rep))) || (decide (1073741824 < o.tick))) == false) (.bool (!(kindB o))), pv (.bool ((((!(rightB o.ctx n)) || (decide (n ≤ o.dot.rep))) || (decide (1073741824 < o.tick))) || (!(kindB o))))] (fun _ _ => _) [22] (by kernel_rfl) hs ⟨?_, ?_, ?_, ?_, ?_, ?_, ?_, ?_, ?_, ?_, ?_, ?_, ?_, ?_, ?_, ?_, ?_, ?_, ?_, ?_, ?_, ?_, ?_, trivial⟩ ?_
  · exact ob [] [] rfl rfl fun D ρ w hs => L_fieldAddr FA_98_6 rfl ⟨rfl, hs⟩
  · exact ob [0] [] rfl rfl fun D ρ w hs => L_ldA (vs := vc o.ctx) SA_53 hs 0 rfl rfl rfl rfl ⟨rfl, hs⟩
  · exact ob [] [] rfl rfl fun D ρ w hs => L_move (V := .int .i64 n) rfl ⟨rfl, hs⟩
  · exact ob [1, 2] [] rfl rfl fun D ρ w hs => L_callP (vs := [.agg (vc o.ctx).toArray, .int .i64 n]) (V := .bool (rightB o.ctx n)) EN_98 rfl rfl (vRight_ok _ o.ctx n (by first | assumption | exact vzero_ok)) hs fun _ hs => ⟨rfl, hs⟩
  · exact ob [3] [] rfl rfl fun D ρ w hs => L_not rfl ⟨rfl, hs⟩
  · exact ob [4] [] rfl rfl fun D ρ w hs => L_move (V := .bool (!(rightB o.ctx n))) rfl ⟨rfl, hs⟩
  · exact obg [5] [] (!(rightB o.ctx n)) rfl (fun _ => rfl) rfl (fun _ _ _ _ h => h) fun D ρ w hG hs => L_fieldAddr FA_98_0 rfl ⟨rfl, hs⟩
  · exact obgy [5, 6] [] [6] (!(rightB o.ctx n)) rfl (fun _ => rfl) rfl (fun _ _ _ _ h => h) (fun hG => ⟨hG, trivial⟩) fun D ρ w hG hs => L_fieldAddr FA_96_0 rfl ⟨rfl, hs⟩
  · exact obgy [5, 7] [] [7] (!(rightB o.ctx n)) rfl (fun _ => rfl) rfl (fun _ _ _ _ h => h) (fun hG => ⟨hG, trivial⟩) fun D ρ w hG hs => L_ld (V := .int .u8 o.dot.rep) S1_5 hs 0 rfl rfl rfl ⟨rfl, hs⟩
  · exact obgy [5, 8] [] [8] (!(rightB o.ctx n)) rfl (fun _ => rfl) rfl (fun _ _ _ _ h => h) (fun hG => ⟨hG, trivial⟩) fun D ρ w hG hs => L_conv UD_5 UD_3 rfl (wr_i64 (by omega) (by omega)) ⟨rfl, hs⟩
  · exact obg [5] [] (!(rightB o.ctx n)) rfl (fun _ => rfl) rfl (fun _ _ _ _ h => h) fun D ρ w hG hs => L_move (V := .int .i64 n) rfl ⟨rfl, hs⟩
  · exact obgy [5, 9, 10] [] [9, 10] (!(rightB o.ctx n)) rfl (fun _ => rfl) rfl (fun _ _ _ _ h => h) (fun hG => ⟨hG, hG, trivial⟩) fun D ρ w hG hs => L_geq rfl rfl ⟨rfl, hs⟩
  · exact ob [5, 11] [] rfl rfl fun D ρ w hs => L_orC (h' := decide (n ≤ o.dot.rep)) rfl rfl rfl ⟨rfl, hs⟩
  · exact ob [12] [] rfl rfl fun D ρ w hs => L_move (V := .bool ((!(rightB o.ctx n)) || (decide (n ≤ o.dot.rep)))) rfl ⟨rfl, hs⟩
  · exact obg [13] [] ((!(rightB o.ctx n)) || (decide (n ≤ o.dot.rep))) rfl (fun _ => rfl) rfl (fun _ _ _ _ h => h) fun D ρ w hG hs => L_fieldAddr FA_98_5 rfl ⟨rfl, hs⟩
  · exact obgy [13, 14] [] [14] ((!(rightB o.ctx n)) || (decide (n ≤ o.dot.rep))) rfl (fun _ => rfl) rfl (fun _ _ _ _ h => h) (fun hG => ⟨hG, trivial⟩) fun D ρ w hG hs => L_ld (V := .int .u32 o.tick) S1_51 hs 0 rfl rfl rfl ⟨rfl, hs⟩
  · exact obgy [13, 15] [] [15] ((!(rightB o.ctx n)) || (decide (n ≤ o.dot.rep))) rfl (fun _ => rfl) rfl (fun _ _ _ _ h => h) (fun hG => ⟨hG, trivial⟩) fun D ρ w hG hs => L_gtr rfl rfl ⟨rfl, hs⟩
  · exact ob [13, 16] [] rfl rfl fun D ρ w hs => L_orC (h' := decide (1073741824 < o.tick)) rfl rfl rfl ⟨rfl, hs⟩
  · exact ob [17] [] rfl rfl fun D ρ w hs => L_move (V := .bool (((!(rightB o.ctx n)) || (decide (n ≤ o.dot.rep))) || (decide (1073741824 < o.tick)))) rfl ⟨rfl, hs⟩
  · exact obg [18] [] (((!(rightB o.ctx n)) || (decide (n ≤ o.dot.rep))) || (decide (1073741824 < o.tick))) rfl (fun _ => rfl) rfl (fun _ _ _ _ h => h) fun D ρ w hG hs => L_ldW (cs := oc o) SA_98 hs 0 rfl rfl rfl ⟨rfl, hs⟩
  · exact obgy [18, 19] [] [19] (((!(rightB o.ctx n)) || (decide (n ≤ o.dot.rep))) || (decide (1073741824 < o.tick))) rfl (fun _ => rfl) rfl (fun _ _ _ _ h => h) (fun hG => ⟨hG, trivial⟩) fun D ρ w hG hs => L_callP (vs := [.agg (oc o).toArray]) (V := .bool (kindB o)) EN_142 rfl rfl (oKind_ok _ o (by assumption)) hs fun _ hs => ⟨rfl, hs⟩
  · exact obgy [18, 20] [] [20] (((!(rightB o.ctx n)) || (decide (n ≤ o.dot.rep))) || (decide (1073741824 < o.tick))) rfl (fun _ => rfl) rfl (fun _ _ _ _ h => h) (fun hG => ⟨hG, trivial⟩) fun D ρ w hG hs => L_not rfl ⟨rfl, hs⟩
  · exact ob [18, 21] [] rfl rfl fun D ρ w hs => L_orC (h' := !(kindB o)) rfl rfl rfl ⟨rfl, hs⟩
  rintro ρ1 w5 ρ2 hρ hs
  replace hρ : ρ2 = upd (mix [6, 7, 8, 9, 10, 11, 12, 13, 14, 15, 16, 17, 18, 19, 20, 21, 22, 23, 24, 25, 26, 27, 28] ρ1 _) 28 (.bool ((((!(rightB o.ctx n)) || (decide (n ≤ o.dot.rep))) || (decide (1073741824 < o.tick))) || (!(kindB o)))) := hρ
  subst hρ
  refine W_cond (t := (((!(rightB o.ctx n)) || (decide (n ≤ o.dot.rep))) || (decide (1073741824 < o.tick))) || (!(kindB o))) rfl (fun c6 => ?_) (fun c6 => ?_)
  ·
    refine W_seq ?_
    refine W_region ?_
    refine RW_op (L_assign (V := .bool false) rfl ?_)
    refine RW_nil ?_
    refine W_ret ?_
    refine ⟨_, res_one (V := .bool false) Try.results114 rfl, ?_⟩
    refine ⟨congrArg Ending.returned ?_, hs.take 0⟩
    exact congrArg Value.bool (right_no c6).symm
  ·
    have c6r := or_r c6
    replace c6 := or_l c6
    have c6rr := or_r c6
    replace c6 := or_l c6
    have c6rrr := or_r c6
    replace c6 := or_l c6
    replace c6 := not_f c6
    replace c6rrr := of_decide_eq_false c6rrr
    replace c6rr := of_decide_eq_false c6rr
    replace c6r := not_f c6r
    refine W_skip ?_
    refine W_seq ?_
    refine W_region ?_
    refine RW_op (L_fieldAddr FA_98_0 rfl ?_)
    refine RW_op (L_ldA (vs := dc o.dot) SA_96 hs 0 rfl rfl rfl rfl ?_)
    refine RW_op (L_alloc (cs := dc (⟨0, 0⟩ : Dot)) ZV_96 rfl hs fun b7 w8 hs => ?_)
    refine RW_op (L_st (V := .agg (dc o.dot).toArray) (vs := dc o.dot) (cs' := dc o.dot) SA_96.1 hs 1 rfl rfl rfl rfl rfl (Nat.le_of_ble_eq_true rfl) (dc_one _) (spl_whole rfl) fun w9 hs => ?_)
    refine RW_nil ?_
    refine W_seq ?_
    have hnn := rightB_n c6
    refine W_regD HM [some 31, some 32, some 33, some 34, some 35, some 36, some 37, some 38, some 39, some 40, some 41, some 42, some 43, some 44, some 45, some 46, some 47, some 48, some 49, some 4] [] [0, 1, 3, 7, 15, 31, 63, 127, 255, 511, 1023, 511, 4095, 8191, 511, 16895, 49663, 131071, 262143, 524287] [pv (.pointer (some ⟨b7, 0 + 1, none⟩)), pv (.int .u32 o.dot.seq), pv (.bool (decide (1 ≤ o.dot.seq))), pv (.bool (decide (1 ≤ o.dot.seq))), pg ((decide (1 ≤ o.dot.seq)) == true) (.pointer (some ⟨b7, 0 + 1, none⟩)), pg ((decide (1 ≤ o.dot.seq)) == true) (.int .u32 o.dot.seq), pg ((decide (1 ≤ o.dot.seq)) == true) (.bool (decide (o.dot.seq ≤ 1048576))), pv (.bool ((decide (1 ≤ o.dot.seq)) && (decide (o.dot.seq ≤ 1048576)))), pv (.bool ((decide (1 ≤ o.dot.seq)) && (decide (o.dot.seq ≤ 1048576)))), pg (((decide (1 ≤ o.dot.seq)) && (decide (o.dot.seq ≤ 1048576))) == true) (.pointer (some ⟨b7, 0 + 0, none⟩)), pg (((decide (1 ≤ o.dot.seq)) && (decide (o.dot.seq ≤ 1048576))) == true) (.int .u8 o.dot.rep), pg (((decide (1 ≤ o.dot.seq)) && (decide (o.dot.seq ≤ 1048576))) == true) (.pointer (some ⟨b1, 0 + 7, none⟩)), pg (((decide (1 ≤ o.dot.seq)) && (decide (o.dot.seq ≤ 1048576))) == true) (.pointer (some ⟨b1, 0 + 7 + o.dot.rep.toNat, none⟩)), pg (((decide (1 ≤ o.dot.seq)) && (decide (o.dot.seq ≤ 1048576))) == true) (.int .u32 (vat o.ctx o.dot.rep.toNat)), pg (((decide (1 ≤ o.dot.seq)) && (decide (o.dot.seq ≤ 1048576))) == true) (.pointer (some ⟨b7, 0 + 1, none⟩)), pg (((decide (1 ≤ o.dot.seq)) && (decide (o.dot.seq ≤ 1048576))) == true) (.int .u32 o.dot.seq), pg (((decide (1 ≤ o.dot.seq)) && (decide (o.dot.seq ≤ 1048576))) == true) (.int .u32 (o.dot.seq - 1)), pg (((decide (1 ≤ o.dot.seq)) && (decide (o.dot.seq ≤ 1048576))) == true) (.bool (decide (vat o.ctx o.dot.rep.toNat = o.dot.seq - 1))), pv (.bool (((decide (1 ≤ o.dot.seq)) && (decide (o.dot.seq ≤ 1048576))) && (decide (vat o.ctx o.dot.rep.toNat = o.dot.seq - 1)))), pv (.bool (((decide (1 ≤ o.dot.seq)) && (decide (o.dot.seq ≤ 1048576))) && (decide (vat o.ctx o.dot.rep.toNat = o.dot.seq - 1))))] (fun _ _ => _) [19] (by kernel_rfl) hs ⟨?_, ?_, ?_, ?_, ?_, ?_, ?_, ?_, ?_, ?_, ?_, ?_, ?_, ?_, ?_, ?_, ?_, ?_, ?_, ?_, trivial⟩ ?_
    · exact ob [] [] rfl rfl fun D ρ w hs => L_fieldAddr FA_96_1 rfl ⟨rfl, hs⟩
    · exact ob [0] [] rfl rfl fun D ρ w hs => L_ld (V := .int .u32 o.dot.seq) S1_51 hs 1 rfl rfl rfl ⟨rfl, hs⟩
    · exact ob [1] [] rfl rfl fun D ρ w hs => L_geq rfl rfl ⟨rfl, hs⟩
    · exact ob [2] [] rfl rfl fun D ρ w hs => L_move (V := .bool (decide (1 ≤ o.dot.seq))) rfl ⟨rfl, hs⟩
    · exact obg [3] [] (decide (1 ≤ o.dot.seq)) rfl (fun _ => rfl) rfl (fun _ _ _ _ h => h) fun D ρ w hG hs => L_fieldAddr FA_96_1 rfl ⟨rfl, hs⟩
    · exact obgy [3, 4] [] [4] (decide (1 ≤ o.dot.seq)) rfl (fun _ => rfl) rfl (fun _ _ _ _ h => h) (fun hG => ⟨hG, trivial⟩) fun D ρ w hG hs => L_ld (V := .int .u32 o.dot.seq) S1_51 hs 1 rfl rfl rfl ⟨rfl, hs⟩
    · exact obgy [3, 5] [] [5] (decide (1 ≤ o.dot.seq)) rfl (fun _ => rfl) rfl (fun _ _ _ _ h => h) (fun hG => ⟨hG, trivial⟩) fun D ρ w hG hs => L_leq rfl rfl ⟨rfl, hs⟩
    · exact ob [3, 6] [] rfl rfl fun D ρ w hs => L_andC (h' := decide (o.dot.seq ≤ 1048576)) rfl rfl rfl ⟨rfl, hs⟩
    · exact ob [7] [] rfl rfl fun D ρ w hs => L_move (V := .bool ((decide (1 ≤ o.dot.seq)) && (decide (o.dot.seq ≤ 1048576)))) rfl ⟨rfl, hs⟩
    · refine obg [8] [] ((decide (1 ≤ o.dot.seq)) && (decide (o.dot.seq ≤ 1048576))) rfl (fun _ => rfl) rfl (fun _ _ _ _ h => h) fun D ρ w hG hs => ?_
      have hg9 := and_l (eq_of_beq hG)
      have hgd := of_decide_eq_true hg9
      exact L_fieldAddr FA_96_0 rfl ⟨rfl, hs⟩
    · refine obgy [8, 9] [] [9] ((decide (1 ≤ o.dot.seq)) && (decide (o.dot.seq ≤ 1048576))) rfl (fun _ => rfl) rfl (fun _ _ _ _ h => h) (fun hG => ⟨hG, trivial⟩) fun D ρ w hG hs => ?_
      have hg9 := and_l (eq_of_beq hG)
      have hgd := of_decide_eq_true hg9
      exact L_ld (V := .int .u8 o.dot.rep) S1_5 hs 1 rfl rfl rfl ⟨rfl, hs⟩
    · refine obg [8] [] ((decide (1 ≤ o.dot.seq)) && (decide (o.dot.seq ≤ 1048576))) rfl (fun _ => rfl) rfl (fun _ _ _ _ h => h) fun D ρ w hG hs => ?_
      have hg9 := and_l (eq_of_beq hG)
      have hgd := of_decide_eq_true hg9
      exact L_fieldAddr FA_98_6 rfl ⟨rfl, hs⟩
    · refine obgy [8, 10, 11] [] [10, 11] ((decide (1 ≤ o.dot.seq)) && (decide (o.dot.seq ≤ 1048576))) rfl (fun _ => rfl) rfl (fun _ _ _ _ h => h) (fun hG => ⟨hG, hG, trivial⟩) fun D ρ w hG hs => ?_
      have hg9 := and_l (eq_of_beq hG)
      have hgd := of_decide_eq_true hg9
      exact L_ixArr1 UD_53 S1_51.1 rfl rfl (by omega) (by omega) ⟨rfl, hs⟩
    · refine obgy [8, 12] [] [12] ((decide (1 ≤ o.dot.seq)) && (decide (o.dot.seq ≤ 1048576))) rfl (fun _ => rfl) rfl (fun _ _ _ _ h => h) (fun hG => ⟨hG, trivial⟩) fun D ρ w hG hs => ?_
      have hg9 := and_l (eq_of_beq hG)
      have hgd := of_decide_eq_true hg9
      exact L_ld (V := .int .u32 (vat o.ctx o.dot.rep.toNat)) S1_51 hs 0 rfl rfl (oc_atO (by omega) (by omega)) ⟨rfl, hs⟩
    · refine obg [8] [] ((decide (1 ≤ o.dot.seq)) && (decide (o.dot.seq ≤ 1048576))) rfl (fun _ => rfl) rfl (fun _ _ _ _ h => h) fun D ρ w hG hs => ?_
      have hg9 := and_l (eq_of_beq hG)
      have hgd := of_decide_eq_true hg9
      exact L_fieldAddr FA_96_1 rfl ⟨rfl, hs⟩
    · refine obgy [8, 14] [] [14] ((decide (1 ≤ o.dot.seq)) && (decide (o.dot.seq ≤ 1048576))) rfl (fun _ => rfl) rfl (fun _ _ _ _ h => h) (fun hG => ⟨hG, trivial⟩) fun D ρ w hG hs => ?_
      have hg9 := and_l (eq_of_beq hG)
      have hgd := of_decide_eq_true hg9
      exact L_ld (V := .int .u32 o.dot.seq) S1_51 hs 1 rfl rfl rfl ⟨rfl, hs⟩
    · refine obgy [8, 15] [] [15] ((decide (1 ≤ o.dot.seq)) && (decide (o.dot.seq ≤ 1048576))) rfl (fun _ => rfl) rfl (fun _ _ _ _ h => h) (fun hG => ⟨hG, trivial⟩) fun D ρ w hG hs => ?_
      have hg9 := and_l (eq_of_beq hG)
      have hgd := of_decide_eq_true hg9
      exact L_sub (a := o.dot.seq) (b := 1) (c := o.dot.seq - 1) rfl rfl (wr_u32 (by omega) (by omega)) ⟨rfl, hs⟩
    · refine obgy [8, 13, 16] [] [13, 16] ((decide (1 ≤ o.dot.seq)) && (decide (o.dot.seq ≤ 1048576))) rfl (fun _ => rfl) rfl (fun _ _ _ _ h => h) (fun hG => ⟨hG, hG, trivial⟩) fun D ρ w hG hs => ?_
      have hg9 := and_l (eq_of_beq hG)
      have hgd := of_decide_eq_true hg9
      exact L_eql rfl rfl ⟨rfl, hs⟩
    · exact ob [8, 17] [] rfl rfl fun D ρ w hs => L_andC (h' := decide (vat o.ctx o.dot.rep.toNat = o.dot.seq - 1)) rfl rfl rfl ⟨rfl, hs⟩
    · exact ob [18] [] rfl rfl fun D ρ w hs => L_assign (V := .bool (((decide (1 ≤ o.dot.seq)) && (decide (o.dot.seq ≤ 1048576))) && (decide (vat o.ctx o.dot.rep.toNat = o.dot.seq - 1)))) rfl ⟨rfl, hs⟩
    rintro ρ1 w10 ρ2 hρ hs
    replace hρ : ρ2 = upd (mix [31, 32, 33, 34, 35, 36, 37, 38, 39, 40, 41, 42, 43, 44, 45, 46, 47, 48, 49, 4] ρ1 _) 4 (.bool (((decide (1 ≤ o.dot.seq)) && (decide (o.dot.seq ≤ 1048576))) && (decide (vat o.ctx o.dot.rep.toNat = o.dot.seq - 1)))) := hρ
    subst hρ
    refine W_ret ?_
    refine ⟨_, res_one (V := .bool (((decide (1 ≤ o.dot.seq)) && (decide (o.dot.seq ≤ 1048576))) && (decide (vat o.ctx o.dot.rep.toNat = o.dot.seq - 1)))) Try.results114 rfl, ?_⟩
    refine ⟨congrArg Ending.returned ?_, hs.take 0⟩
    exact congrArg Value.bool (right_if c6 c6rrr c6rr c6r).symm
set_option maxRecDepth 20000 in
set_option maxHeartbeats 4000000 in
theorem oReady_ok (w : World) (known : Vec) (o : Opn) (hO : OpnOk o) : Calls Try.prog 82 #[.agg (vc known).toArray, .agg (oc o).toArray] w (fun e w' => e = .returned (.int .i64 (readyI known o)) ∧ Own w no w' []) := by
  refine calls_of_Wn (n := 20) Try.func82 rfl Try.ntmps82 rfl ?_
  have hs := Own.start w
  have hdo := hO.1
  refine W_seq ?_
  refine W_region ?_
  refine RW_op (L_box (V := .agg (vc known).toArray) (cs := vc known) rfl rfl hs fun b1 w2 hs => ?_)
  refine RW_op (L_box (V := .agg (oc o).toArray) (cs := oc o) rfl rfl hs fun b3 w4 hs => ?_)
  refine RW_op (L_assign (V := .int .i64 0) rfl ?_)
  refine RW_nil ?_
  refine W_seq ?_
  refine W_block ?_
  refine W_seq ?_
  refine W_region ?_
  refine RW_op (L_ldW (cs := oc o) SA_98 hs 1 rfl rfl rfl ?_)
  refine RW_op (L_callP (vs := [.agg (oc o).toArray, .int .i64 16]) (V := .bool (rightOn o 16)) EN_114 rfl rfl ?hc hs fun w5 hs => ?_)
  case hc => exact (oRight_ok _ o 16 (by assumption))
  refine RW_op (L_not rfl ?_)
  refine RW_op (L_assign (V := .bool (!(rightOn o 16))) rfl ?_)
  refine RW_nil ?_
  refine W_cond (t := !(rightOn o 16)) rfl (fun c6 => ?_) (fun c6 => ?_)
  ·
    replace c6 := not_t c6
    refine W_seq ?_
    refine W_region ?_
    refine RW_op (L_assign (V := .int .i64 2) rfl ?_)
    refine RW_nil ?_
    refine W_ret ?_
    refine ⟨_, res_one (V := .int .i64 2) Try.results82 rfl, ?_⟩
    refine ⟨congrArg Ending.returned ?_, hs.take 0⟩
    refine congrArg (Value.int IntKind.i64) ?_
    unfold readyI
    rw [← rightOn_16]
    simp_all
  ·
    replace c6 := not_f c6
    refine W_seq ?_
    refine W_region ?_
    refine RW_op (L_ldW (cs := vc known) SA_53 hs 0 rfl rfl rfl ?_)
    refine RW_op (L_fieldAddr FA_98_0 rfl ?_)
    refine RW_op (L_ldA (vs := dc o.dot) SA_96 hs 1 rfl rfl rfl rfl ?_)
    refine RW_op (L_callP (vs := [.agg (vc known).toArray, .agg (dc o.dot).toArray]) (V := .bool (hasB known o.dot)) EN_62 rfl rfl ?hc hs fun w7 hs => ?_)
    case hc => exact (vHas_ok _ known o.dot (by first | assumption | exact dotOk_mk (by omega) (by omega) (by omega) (by omega)))
    refine RW_op (L_assign (V := .bool (hasB known o.dot)) rfl ?_)
    refine RW_nil ?_
    refine W_cond (t := hasB known o.dot) rfl (fun c8 => ?_) (fun c8 => ?_)
    ·
      refine W_seq ?_
      refine W_region ?_
      refine RW_op (L_assign (V := .int .i64 8) rfl ?_)
      refine RW_nil ?_
      refine W_ret ?_
      refine ⟨_, res_one (V := .int .i64 8) Try.results82 rfl, ?_⟩
      refine ⟨congrArg Ending.returned ?_, hs.take 0⟩
      refine congrArg (Value.int IntKind.i64) ?_
      unfold readyI
      rw [← rightOn_16]
      simp_all
    ·
      refine W_seq ?_
      refine W_region ?_
      refine RW_op (L_fieldAddr FA_98_6 rfl ?_)
      refine RW_op (L_ldA (vs := vc o.ctx) SA_53 hs 1 rfl rfl rfl rfl ?_)
      refine RW_op (L_ldW (cs := vc known) SA_53 hs 0 rfl rfl rfl ?_)
      refine RW_op (L_callP (vs := [.agg (vc o.ctx).toArray, .agg (vc known).toArray]) (V := .bool (vle o.ctx known)) EN_115 rfl rfl ?hc hs fun w9 hs => ?_)
      case hc => exact (vBelow_ok _ o.ctx known)
      refine RW_op (L_not rfl ?_)
      refine RW_op (L_assign (V := .bool (!(vle o.ctx known))) rfl ?_)
      refine RW_nil ?_
      refine W_cond (t := !(vle o.ctx known)) rfl (fun c10 => ?_) (fun c10 => ?_)
      ·
        replace c10 := not_t c10
        refine W_seq ?_
        refine W_region ?_
        refine RW_op (L_assign (V := .int .i64 9) rfl ?_)
        refine RW_nil ?_
        refine W_ret ?_
        refine ⟨_, res_one (V := .int .i64 9) Try.results82 rfl, ?_⟩
        refine ⟨congrArg Ending.returned ?_, hs.take 0⟩
        refine congrArg (Value.int IntKind.i64) ?_
        unfold readyI
        rw [← rightOn_16]
        simp_all
      ·
        replace c10 := not_f c10
        refine W_skip ?_
        refine W_seq ?_
        refine W_region ?_
        refine RW_op (L_assign (V := .int .i64 0) rfl ?_)
        refine RW_nil ?_
        refine W_ret ?_
        refine ⟨_, res_one (V := .int .i64 0) Try.results82 rfl, ?_⟩
        refine ⟨congrArg Ending.returned ?_, hs.take 0⟩
        refine congrArg (Value.int IntKind.i64) ?_
        unfold readyI
        rw [← rightOn_16]
        simp_all
end Tt
end Go.Proofs
namespace Go.Proofs
open Go Go.Vx Go.RowKit
namespace Tt
set_option maxRecDepth 20000 in
set_option maxHeartbeats 4000000 in
theorem sOwn_ok (w : World) (s : Sta) (a1 : Option Addr) (c1 : Nat) (a2 : Option Addr) (c2 : Nat) (hok : StaOk s) (hle : s.ents.length ≤ 1000) (hlt : s.ticks.length ≤ 1000) (hr1 : Rd w (.slice a1 s.ents.length c1) 7 (s.ents.map cec)) (hr2 : Rd w (.slice a2 s.ticks.length c2) 2 (s.ticks.map lsc)) : Calls Try.prog 83 #[.agg ((vc s.known) ++ [(.slice a1 s.ents.length c1 : Value), (.slice a2 s.ticks.length c2 : Value) ]).toArray] w (fun e w' => ∃ x : (Option Addr × Nat) × (Option Addr × Nat), e = .returned (.agg (vc (s).known ++ [(.slice x.1.1 (s).ents.length x.1.2 : Value), (.slice x.2.1 (s).ticks.length x.2.2 : Value)]).toArray) ∧ Own w no w' [row (.slice x.1.1 (s).ents.length x.1.2) ((s).ents.map cec) 128 7, row (.slice x.2.1 (s).ticks.length x.2.2) ((s).ticks.map lsc) 126 2] ∧ True) := by
  refine calls_of_Wn (n := 12) Try.func83 rfl Try.ntmps83 rfl ?_
  have hs := Own.start w
  refine W_seq ?_
  refine W_region ?_
  refine RW_op (L_box (V := .agg ((vc s.known) ++ [(.slice a1 s.ents.length c1 : Value), (.slice a2 s.ticks.length c2 : Value) ]).toArray) (cs := (vc s.known) ++ [(.slice a1 s.ents.length c1 : Value), (.slice a2 s.ticks.length c2 : Value) ]) rfl rfl hs fun b1 w2 hs => ?_)
  refine RW_op (L_alloc (cs := (vc vzero) ++ [(.slice none 0 0 : Value), (.slice none 0 0 : Value) ]) ZV_62 rfl hs fun b3 w4 hs => ?_)
  refine RW_nil ?_
  refine W_seq ?_
  replace hs := hs.more emp trivial
  replace hs := hs.more emp trivial
  refine W_regD HM [some 3, some 4, some 5, some 6, some 7, some 8, some 9, some 10, some 11, none] [[], [], [], [], [7], [], [], [10], [7, 10]] [0, 1, 0, 4, 12, 0, 32, 124, 255, 511] [pv (.pointer (some ⟨b1, 0 + 0, none⟩)), pv (.agg (vc s.known).toArray), pv (.pointer (some ⟨b1, 0 + 16, none⟩)), pv (.slice a1 s.ents.length c1), (true, fun ρ => .slice (aOf (ρ 7)) ((s.ents).length) (cOf (ρ 7))), pv (.pointer (some ⟨b1, 0 + 17, none⟩)), pv (.slice a2 s.ticks.length c2), (true, fun ρ => .slice (aOf (ρ 10)) ((s.ticks).length) (cOf (ρ 10))), (true, fun ρ => .agg ((vc s.known) ++ [(.slice (aOf (ρ 7)) ((s.ents).length) (cOf (ρ 7)) : Value), (.slice (aOf (ρ 10)) ((s.ticks).length) (cOf (ρ 10)) : Value) ]).toArray), pn] (fun D ρ => [blk b1 ((vc s.known) ++ [(.slice a1 s.ents.length c1 : Value), (.slice a2 s.ticks.length c2 : Value) ]) 62, cond (D 9) (blk b3 ((vc s.known) ++ [(.slice (aOf (ρ 7)) ((s.ents).length) (cOf (ρ 7)) : Value), (.slice (aOf (ρ 10)) ((s.ticks).length) (cOf (ρ 10)) : Value) ]) 62) (blk b3 ((vc vzero) ++ [(.slice none 0 0 : Value), (.slice none 0 0 : Value) ]) 62), cond (D 4) (row (.slice (aOf (ρ 7)) ((s.ents).length) (cOf (ρ 7))) (s.ents.map cec) 128 7) (emp), cond (D 7) (row (.slice (aOf (ρ 10)) ((s.ticks).length) (cOf (ρ 10))) (s.ticks.map lsc) 126 2) (emp)]) [] (by kernel_rfl) hs ⟨?_, ?_, ?_, ?_, ?_, ?_, ?_, ?_, ?_, ?_, trivial⟩ ?_
  · exact ob [] [] rfl rfl fun D ρ w hs => L_fieldAddr FA_62_0 rfl ⟨rfl, hs⟩
  · exact ob [0] [] rfl rfl fun D ρ w hs => L_ldA (vs := vc s.known) SA_53 hs 0 rfl rfl rfl rfl ⟨rfl, hs⟩
  · exact ob [] [] rfl rfl fun D ρ w hs => L_fieldAddr FA_62_1 rfl ⟨rfl, hs⟩
  · exact ob [2] [] rfl rfl fun D ρ w hs => L_ld (V := .slice a1 s.ents.length c1) S1_59 hs 0 rfl rfl rfl ⟨rfl, hs⟩
  · exact ob [3] [9] rfl rfl fun D ρ w hs => L_callX (vs := [.slice a1 s.ents.length c1]) (V := fun x : Option Addr × Nat => .slice x.1 (s.ents).length x.2) EN_116 rfl rfl (cln128_ok _ a1 c1 s.ents (by omega) (Rd.own' hr1 hs)) hs fun _ _ hs _ => ⟨rfl, hs.put 2 (Nat.le_of_ble_eq_true rfl)⟩
  · exact ob [] [] rfl rfl fun D ρ w hs => L_fieldAddr FA_62_2 rfl ⟨rfl, hs⟩
  · exact ob [5] [] rfl rfl fun D ρ w hs => L_ld (V := .slice a2 s.ticks.length c2) S1_60 hs 0 rfl rfl rfl ⟨rfl, hs⟩
  · exact ob [6] [9] rfl rfl fun D ρ w hs => L_callX (vs := [.slice a2 s.ticks.length c2]) (V := fun x : Option Addr × Nat => .slice x.1 (s.ticks).length x.2) EN_61 rfl rfl (cln126_ok _ a2 c2 s.ticks (by omega) (Rd.own' hr2 hs)) hs fun _ _ hs _ => ⟨rfl, hs.put 3 (Nat.le_of_ble_eq_true rfl)⟩
  · exact ob [1, 4, 7] [] rfl rfl fun D ρ w hs => L_buildP (vs := [(0, .agg (vc s.known).toArray), (1, .slice (aOf (ρ 7)) ((s.ents).length) (cOf (ρ 7))), (2, .slice (aOf (ρ 10)) ((s.ticks).length) (cOf (ρ 10)))]) (cs := (vc s.known) ++ [(.slice (aOf (ρ 7)) ((s.ents).length) (cOf (ρ 7)) : Value), (.slice (aOf (ρ 10)) ((s.ticks).length) (cOf (ρ 10)) : Value) ]) [vc vzero, [(.slice none 0 0 : Value)], [(.slice none 0 0 : Value)]] [vc s.known, [(.slice (aOf (ρ 7)) ((s.ents).length) (cOf (ρ 7)) : Value)], [(.slice (aOf (ρ 10)) ((s.ticks).length) (cOf (ρ 10)) : Value)]] BT_62 rfl (rfl) rfl rfl ⟨rfl, hs⟩
  · exact ob [8] [] rfl rfl fun D ρ w hs => L_st (V := .agg ((vc s.known) ++ [(.slice (aOf (ρ 7)) ((s.ents).length) (cOf (ρ 7)) : Value), (.slice (aOf (ρ 10)) ((s.ticks).length) (cOf (ρ 10)) : Value) ]).toArray) (vs := (vc s.known) ++ [(.slice (aOf (ρ 7)) ((s.ents).length) (cOf (ρ 7)) : Value), (.slice (aOf (ρ 10)) ((s.ticks).length) (cOf (ρ 10)) : Value) ]) (cs' := (vc s.known) ++ [(.slice (aOf (ρ 7)) ((s.ents).length) (cOf (ρ 7)) : Value), (.slice (aOf (ρ 10)) ((s.ticks).length) (cOf (ρ 10)) : Value) ]) SA_62.1 hs 1 rfl rfl rfl rfl rfl (Nat.le_of_ble_eq_true rfl) (one_app (vc_one _) (one_cons rfl (one_cons rfl one_nil))) (spl_whole rfl) fun _ hs => ⟨trivial, hs⟩
  rintro ρ1 w8 ρ2 hρ hs
  replace hρ : ρ2 = mix [3, 4, 5, 6, 7, 8, 9, 10, 11] ρ1 _ := hρ
  replace hs : Own w no w8 [blk b1 ((vc s.known) ++ [(.slice a1 s.ents.length c1 : Value), (.slice a2 s.ticks.length c2 : Value) ]) 62, blk b3 ((vc s.known) ++ [(.slice (aOf (ρ1 7)) ((s.ents).length) (cOf (ρ1 7)) : Value), (.slice (aOf (ρ1 10)) ((s.ticks).length) (cOf (ρ1 10)) : Value) ]) 62, row (.slice (aOf (ρ1 7)) ((s.ents).length) (cOf (ρ1 7))) (s.ents.map cec) 128 7, row (.slice (aOf (ρ1 10)) ((s.ticks).length) (cOf (ρ1 10))) (s.ticks.map lsc) 126 2] := hs
  generalize (aOf (ρ1 7)) = a9 at hs
  generalize (cOf (ρ1 7)) = c10 at hs
  generalize (aOf (ρ1 10)) = a11 at hs
  generalize (cOf (ρ1 10)) = c12 at hs
  subst hρ
  refine W_ret ?_
  refine ⟨_, res_cell (cs := (vc s.known) ++ [(.slice a9 ((s.ents).length) c10 : Value), (.slice a11 ((s.ticks).length) c12 : Value) ]) Try.results83 SA_62 hs 1 rfl rfl rfl, ?_⟩
  exact ⟨((a9, c10), (a11, c12)), rfl, hs.two 2 3 (by decide) rfl rfl, trivial⟩
set_option maxRecDepth 20000 in
set_option maxHeartbeats 4000000 in
theorem laid_ok (w : World) (x : Cen) : Calls Try.prog 87 #[.agg (cec x).toArray] w (fun e w' => e = .returned (.agg (oc (laidO x)).toArray) ∧ Own w no w' []) := by
  refine calls_of_Wn (n := 14) Try.func87 rfl Try.ntmps87 rfl ?_
  have hs := Own.start w
  refine W_seq ?_
  refine W_region ?_
  refine RW_op (L_box (V := .agg (cec x).toArray) (cs := cec x) rfl rfl hs fun b1 w2 hs => ?_)
  refine RW_op (L_alloc (cs := oc (⟨(⟨0, 0⟩ : Dot), 0, 0, 0, 0, 0, vzero⟩ : Opn)) ZV_98 rfl hs fun b3 w4 hs => ?_)
  refine RW_nil ?_
  refine W_seq ?_
  refine W_region ?_
  refine RW_op (L_fieldAddr FA_128_4 rfl ?_)
  refine RW_op (L_ldA (vs := dc x.dot) SA_96 hs 0 rfl rfl rfl rfl ?_)
  refine RW_op (L_fieldAddr FA_128_3 rfl ?_)
  refine RW_op (L_ld (V := .int .u8 x.kind) S1_5 hs 0 rfl rfl rfl ?_)
  refine RW_op (L_fieldAddr FA_128_0 rfl ?_)
  refine RW_op (L_ld (V := .int .u16 x.cart) S1_70 hs 0 rfl rfl rfl ?_)
  refine RW_op (L_fieldAddr FA_128_1 rfl ?_)
  refine RW_op (L_ld (V := .int .u16 x.item) S1_70 hs 0 rfl rfl rfl ?_)
  refine RW_op (L_fieldAddr FA_128_2 rfl ?_)
  refine RW_op (L_ld (V := .int .u16 x.qty) S1_70 hs 0 rfl rfl rfl ?_)
  refine RW_op (L_buildP (vs := [(0, .agg (dc x.dot).toArray), (1, .int .u8 x.kind), (2, .int .u16 x.cart), (3, .int .u16 x.item), (4, .int .u16 x.qty)]) (cs := oc (⟨x.dot, x.kind, x.cart, x.item, x.qty, 0, vzero⟩ : Opn)) [dc (⟨0, 0⟩ : Dot), [(.int .u8 0 : Value)], [(.int .u16 0 : Value)], [(.int .u16 0 : Value)], [(.int .u16 0 : Value)], [(.int .u32 0 : Value)], vc vzero] [dc x.dot, [(.int .u8 x.kind : Value)], [(.int .u16 x.cart : Value)], [(.int .u16 x.item : Value)], [(.int .u16 x.qty : Value)], [(.int .u32 0 : Value)], vc vzero] BT_98 rfl (rfl) rfl rfl ?_)
  refine RW_op (L_st (V := .agg (oc (⟨x.dot, x.kind, x.cart, x.item, x.qty, 0, vzero⟩ : Opn)).toArray) (vs := oc (⟨x.dot, x.kind, x.cart, x.item, x.qty, 0, vzero⟩ : Opn)) (cs' := oc (⟨x.dot, x.kind, x.cart, x.item, x.qty, 0, vzero⟩ : Opn)) SA_98.1 hs 1 rfl rfl rfl rfl rfl (Nat.le_of_ble_eq_true rfl) (oc_one _) (spl_whole rfl) fun w5 hs => ?_)
  refine RW_nil ?_
  refine W_ret ?_
  refine ⟨_, res_cell (cs := oc (⟨x.dot, x.kind, x.cart, x.item, x.qty, 0, vzero⟩ : Opn)) Try.results87 SA_98 hs 1 rfl rfl rfl, ?_⟩
  refine ⟨congrArg Ending.returned ?_, hs.take 0⟩
  rfl
set_option maxRecDepth 20000 in
set_option maxHeartbeats 4000000 in
theorem apply1_ok (w : World) (x : Cen) (o : Opn) (bx : Nat) (hx : DotOk x.dot) (hc : CellsF w bx (oc o)) : Calls Try.prog 85 #[.agg (cec x).toArray, .pointer (some ⟨bx, 0, none⟩)] w (fun e w' => e = .returned (.bool (endsB o (laidO x))) ∧ Own w no w' []) := by
  refine calls_of_Wn (n := 8) Try.func85 rfl Try.ntmps85 rfl ?_
  have hs := Own.start w
  refine W_seq ?_
  refine W_region ?_
  refine RW_op (L_box (V := .agg (cec x).toArray) (cs := cec x) rfl rfl hs fun b1 w2 hs => ?_)
  refine RW_op (L_assign (V := .bool false) rfl ?_)
  refine RW_nil ?_
  refine W_seq ?_
  refine W_regD HM [some 4, some 5, some 6, some 7, some 3] [] [0, 0, 2, 7, 15] [pv (.agg (oc o).toArray), pv (.agg (cec x).toArray), pv (.agg (oc (laidO x)).toArray), pv (.bool (endsB o (laidO x))), pv (.bool (endsB o (laidO x)))] (fun _ _ => _) [4] (by kernel_rfl) hs ⟨?_, ?_, ?_, ?_, ?_, trivial⟩ ?_
  · exact ob [] [] rfl rfl fun D ρ w hs => L_ldFA (vs := oc o) SA_98 (hc.own' hs) rfl rfl rfl ⟨rfl, hs⟩
  · exact ob [] [] rfl rfl fun D ρ w hs => L_ldW (cs := cec x) SA_128 hs 0 rfl rfl rfl ⟨rfl, hs⟩
  · exact ob [1] [] rfl rfl fun D ρ w hs => L_callP (vs := [.agg (cec x).toArray]) (V := .agg (oc (laidO x)).toArray) EN_87 rfl rfl (laid_ok _ x) hs fun _ hs => ⟨rfl, hs⟩
  · exact ob [0, 2] [] rfl rfl fun D ρ w hs => L_callP (vs := [.agg (oc o).toArray, .agg (oc (laidO x)).toArray]) (V := .bool (endsB o (laidO x))) EN_86 rfl rfl (oEnds_ok _ o (laidO x) hx) hs fun _ hs => ⟨rfl, hs⟩
  · exact ob [3] [] rfl rfl fun D ρ w hs => L_assign (V := .bool (endsB o (laidO x))) rfl ⟨rfl, hs⟩
  rintro ρ1 w5 ρ2 hρ hs
  replace hρ : ρ2 = upd (mix [4, 5, 6, 7, 3] ρ1 _) 3 (.bool (endsB o (laidO x))) := hρ
  subst hρ
  refine W_ret ?_
  refine ⟨_, res_one (V := .bool (endsB o (laidO x))) Try.results85 rfl, ?_⟩
  refine ⟨congrArg Ending.returned ?_, hs.take 0⟩
  rfl
end Tt
end Go.Proofs
namespace Go.Proofs
open Go Go.Vx Go.RowKit
namespace Tt
set_option maxRecDepth 20000 in
set_option maxHeartbeats 4000000 in
theorem ixf128_ok (w : World) (a : Option Addr) (c : Nat) (l : List Cen) (g : Nat) (caps : List Value) (hg : En Try.prog g) (p : Cen → Bool) (hp : ∀ (w1 : World) (L1 : List Res), Own w no w1 L1 → ∀ x ∈ l, Calls Try.prog g ([(.agg (cec x).toArray : Value)] ++ caps).toArray w1 (fun e w' => e = .returned (.bool (p x)) ∧ Own w1 no w' [])) (hr : Rd w (.slice a l.length c) 7 (l.map cec)) : Calls Try.prog 117 #[.slice a l.length c, .func (.func g) #[] caps.toArray] w (fun e w' => e = .returned (.int .i64 (fstB p l)) ∧ Own w no w' []) := by
  refine calls_of_Wn (n := 19) Try.func117 rfl Try.ntmps117 rfl ?_
  have hs := Own.start w
  have hn := hr.sml
  refine W_seq ?_
  refine W_region ?_
  refine RW_op (L_assign (V := .int .i64 0) rfl ?_)
  refine RW_nil ?_
  refine W_seq ?_
  refine W_seq ?_
  refine W_region ?_
  refine RW_op (L_move (V := .slice a l.length c) rfl ?_)
  refine RW_op (L_lenR (n := l.length) UD_59 (Rd.own' hr hs) (by simp) rfl ?_)
  refine RW_op (L_move (V := .int .i64 0) rfl ?_)
  refine RW_nil ?_
  refine W_block ?_
  refine W_loopI (fun ρ μ ρ' w' => ∃ (ρo : Env) (k : Nat), ρ' = upd (mix [4, 5, 8, 9, 10, 11, 12, 13, 14, 15, 16, 17, 18] ρo ρ) 8 (.int .i64 (k : Int)) ∧ (k ≤ l.length) ∧ (∀ j : Nat, j < k → p (gd l j) = false) ∧ μ = l.length - k ∧ Own w no w' []) ?_ ?_
  · exact ⟨_, _, 0, upd_of (mix_of (ds := [4, 5, 8, 9, 10, 11, 12, 13, 14, 15, 16, 17, 18]) (Agr.refl _ _)) rfl, (by omega), (fun j hj => absurd hj (Nat.not_lt_zero j)), rfl, hs⟩
  · rintro μ ρ' w1 ⟨ρo, k, rfl, hk, hno, rfl, hs⟩
    refine W_seq ?_
    refine W_region ?_
    refine RW_op (L_lss rfl rfl ?_)
    refine RW_nil ?_
    refine W_seq ?_
    refine W_cond (t := decide ((k : Int) < ((l.length : Nat) : Int))) rfl (fun c2 => ?_) (fun c2 => ?_)
    ·
      replace c2 := of_decide_eq_true c2
      refine W_skip ?_
      refine W_seq ?_
      refine W_block ?_
      refine W_seq ?_
      refine W_region ?_
      refine RW_op (L_move (V := .int .i64 (k : Int)) rfl ?_)
      refine RW_op (L_assign (V := .int .i64 (k : Int)) rfl ?_)
      refine RW_nil ?_
      refine W_seq ?_
      refine W_region ?_
      refine RW_op (L_move (V := .func (.func g) #[] caps.toArray) rfl ?_)
      refine RW_op (L_move (V := .slice a l.length c) rfl ?_)
      refine RW_op (L_move (V := .int .i64 (k : Int)) rfl ?_)
      refine RW_op (L_ixR UD_59 SA_128.1 (Rd.own' hr hs) rfl rfl (by omega) (by rw [List.length_map]; omega) ?_)
      refine RW_op (L_ldRA (j := 0) (vs := cec (gd l k)) k SA_128 (Rd.own' hr hs) (gd_at (by omega)) rfl rfl rfl (by omega) ?_)
      refine RW_op (L_fnP (vs := [.agg (cec (gd l k)).toArray]) (cs := caps) (V := .bool (p (gd l k))) hg rfl rfl (hp _ _ hs (gd l k) (gd_mem (by omega))) hs fun w3 hs => ?_)
      refine RW_nil ?_
      refine W_cond (t := p (gd l k)) rfl (fun c4 => ?_) (fun c4 => ?_)
      ·
        refine W_seq ?_
        refine W_region ?_
        refine RW_op (L_move (V := .int .i64 (k : Int)) rfl ?_)
        refine RW_op (L_assign (V := .int .i64 (k : Int)) rfl ?_)
        refine RW_nil ?_
        refine W_ret ?_
        refine ⟨_, res_one (V := .int .i64 (k : Int)) Try.results117 rfl, ?_⟩
        refine ⟨congrArg Ending.returned ?_, hs.take 0⟩
        exact congrArg (Value.int .i64) (fst_yes (by omega) hno c4).symm
      ·
        refine W_skip ?_
        refine W_region ?_
        refine RW_op (L_add (a := (k : Int)) (b := 1) (c := (k : Int) + 1) rfl rfl (wr_i64 (by omega) (by omega)) ?_)
        refine RW_op (L_move (V := .int .i64 ((k : Int) + 1)) rfl ?_)
        refine RW_nil ?_
        refine ⟨_, ?_, _, k + 1, upd_of (mix_of (ds := [4, 5, 8, 9, 10, 11, 12, 13, 14, 15, 16, 17, 18]) (by repeat (first | exact Agr.refl _ _ | refine Agr.upd ?_ rfl | refine Agr.mix ?_ rfl))) rfl, (by omega), (no_step2 hno c4), rfl, hs.take 0⟩
        omega
    ·
      replace c2 := of_decide_eq_false c2
      refine W_exit ?_
      refine W_seq ?_
      refine W_region ?_
      refine RW_op (L_assign (V := .int .i64 (-1)) rfl ?_)
      refine RW_nil ?_
      refine W_ret ?_
      refine ⟨_, res_one (V := .int .i64 (-1)) Try.results117 rfl, ?_⟩
      refine ⟨congrArg Ending.returned ?_, hs.take 0⟩
      exact congrArg (Value.int .i64) (fst_no fun j hj => hno j (by omega)).symm
end Tt
end Go.Proofs
namespace Go.Proofs
open Go Go.Vx Go.RowKit
namespace Tt
set_option maxRecDepth 20000 in
set_option maxHeartbeats 4000000 in
theorem dlf128_ok (w : World) (S : Nat → Prop) (a : Option Addr) (c : Nat) (l : List Cen) (g : Nat) (caps : List Value) (hg : En Try.prog g) (p : Cen → Bool) (hp : ∀ (w1 : World) (L1 : List Res), Own w S w1 L1 → ∀ x ∈ l, Calls Try.prog g ([(.agg (cec x).toArray : Value)] ++ caps).toArray w1 (fun e w' => e = .returned (.bool (p x)) ∧ Own w1 no w' [])) (hR : (row (.slice a l.length c) (l.map cec) 128 7).holds w S) (hlt : ∀ b, S b → b < w.heap.size) : Calls Try.prog 84 #[.slice a l.length c, .func (.func g) #[] caps.toArray] w (fun e w' => ∃ x : Unit, e = .returned (.slice a (l.filter fun x => !p x).length c) ∧ Own w S w' [row (.slice a (l.filter fun x => !p x).length c) ((l.filter fun x => !p x).map cec) 128 7] ∧ True) := by
  refine calls_of_Wn (n := 42) Try.func84 rfl Try.ntmps84 rfl ?_
  have hs := Own.lent hR hlt
  have hn := (hs.rd 0 rfl).sml
  have hlc := (hs.rd 0 rfl).roomM
  refine W_seq ?_
  refine W_region ?_
  refine RW_op (L_assign (V := .slice none 0 0) rfl ?_)
  refine RW_nil ?_
  refine W_seq ?_
  refine W_region ?_
  refine RW_op (L_move (V := .slice a l.length c) rfl ?_)
  refine RW_op (L_move (V := .func (.func g) #[] caps.toArray) rfl ?_)
  refine RW_op (L_callP (vs := [.slice a l.length c, .func (.func g) #[] caps.toArray]) (V := .int .i64 (fstB p l)) EN_117 rfl rfl ?hc hs fun w1 hs => ?_)
  case hc => exact (ixf128_ok _ a c l g caps hg p (fun w1 L1 h => hp w1 _ (hs.call h)) (hs.rd 0 rfl))
  refine RW_op (L_assign (V := .int .i64 (fstB p l)) rfl ?_)
  refine RW_nil ?_
  refine W_seq ?_
  refine W_seq ?_
  rcases fst_spec (p := p) (l := l) with hk2 | hk2
  ·
    obtain ⟨hf1, hfl⟩ := hk2
    refine W_region ?_
    refine RW_op (opW_to (V := .int .i64 (fstB p l)) (V' := .int .i64 (-1)) (L_move (V := .int .i64 (fstB p l)) rfl ⟨rfl, rfl⟩) (congrArg (Value.int .i64) hf1) ?_)
    refine RW_op (opW_to (V := .bool (decide ((-1 : Int) = -1))) (V' := .bool true) (L_eql rfl rfl ⟨rfl, rfl⟩) (congrArg Value.bool (decide_eq_true rfl)) ?_)
    refine RW_nil ?_
    refine W_condT rfl ?_
    refine W_seq ?_
    refine W_region ?_
    refine RW_op (L_move (V := .slice a l.length c) rfl ?_)
    refine RW_op (L_assign (V := .slice a l.length c) rfl ?_)
    refine RW_nil ?_
    refine W_ret ?_
    refine ⟨_, res_one (V := .slice a l.length c) Try.results84 rfl, ?_⟩
    rw [hfl]
    exact ⟨(), rfl, hs.take 1, trivial⟩
  ·
    obtain ⟨k0, hf1, hk0l, hpk, hft⟩ := hk2
    refine W_region ?_
    refine RW_op (opW_to (V := .int .i64 (fstB p l)) (V' := .int .i64 ((k0 : Nat) : Int)) (L_move (V := .int .i64 (fstB p l)) rfl ⟨rfl, rfl⟩) (congrArg (Value.int .i64) hf1) ?_)
    refine RW_op (opW_to (V := .bool (decide (((k0 : Nat) : Int) = -1))) (V' := .bool false) (L_eql rfl rfl ⟨rfl, rfl⟩) (congrArg Value.bool (decide_eq_false (by omega))) ?_)
    refine RW_nil ?_
    refine W_condF rfl ?_
    refine W_skip ?_
    refine W_seq ?_
    refine W_seq ?_
    refine W_region ?_
    refine RW_op (opW_to (V := .int .i64 (fstB p l)) (V' := .int .i64 ((k0 : Nat) : Int)) (L_move (V := .int .i64 (fstB p l)) rfl ⟨rfl, rfl⟩) (congrArg (Value.int .i64) hf1) ?_)
    refine RW_op (L_add (a := ((k0 : Nat) : Int)) (b := 1) (c := ((k0 + 1 : Nat) : Int)) rfl rfl (nat_i64 (by omega) (by omega)) ?_)
    refine RW_op (L_assign (V := .int .i64 ((k0 + 1 : Nat) : Int)) rfl ?_)
    refine RW_nil ?_
    refine W_block ?_
    refine W_loopI (fun ρ μ ρ' w' => ∃ (ρo : Env) (i : Nat) (j : Nat) (m : List Cen), ρ' = upd (upd (mix [5, 6, 7, 16, 17, 18, 19, 20, 21, 22, 23, 24, 25, 26, 27, 28, 29, 30, 31, 32, 33, 34, 35] ρo ρ) 5 (.int .i64 ((i : Nat) : Int))) 6 (.int .i64 ((j : Nat) : Int)) ∧ (i < j) ∧ (j ≤ l.length) ∧ (Moved p l m i j) ∧ μ = l.length - j ∧ Own w S w' [row (.slice a l.length c) (m.map cec) 128 7]) ?_ ?_
    · exact ⟨_, _, k0, k0 + 1, l, upd_of (upd_of (mix_of (ds := [5, 6, 7, 16, 17, 18, 19, 20, 21, 22, 23, 24, 25, 26, 27, 28, 29, 30, 31, 32, 33, 34, 35]) (Agr.refl _ _)) (congrArg (Value.int .i64) hf1)) rfl, (by omega), (by omega), (moved_start hk0l hpk hft), rfl, hs⟩
    · rintro μ ρ' w2 ⟨ρo, i, j, m, rfl, hij, hj, hmv, rfl, hs⟩
      have hml := hmv.1
      refine W_seq ?_
      refine W_seq ?_
      refine W_region ?_
      refine RW_op (L_move (V := .int .i64 ((j : Nat) : Int)) rfl ?_)
      refine RW_op (L_move (V := .slice a l.length c) rfl ?_)
      refine RW_op (L_lenR (n := l.length) UD_59 (hs.rd 0 rfl) (by simp [hmv.1]) rfl ?_)
      refine RW_op (L_lss rfl rfl ?_)
      refine RW_nil ?_
      refine W_cond (t := decide (((j : Nat) : Int) < ((l.length : Nat) : Int))) rfl (fun c3 => ?_) (fun c3 => ?_)
      ·
        replace c3 := of_decide_eq_true c3
        refine W_skip ?_
        refine W_seq ?_
        refine W_block ?_
        refine W_seq ?_
        refine W_region ?_
        refine RW_op (L_move (V := .slice a l.length c) rfl ?_)
        refine RW_op (L_move (V := .int .i64 ((j : Nat) : Int)) rfl ?_)
        refine RW_op (L_ixR UD_59 SA_128.1 (hs.rd 0 rfl) rfl rfl (by omega) (by rw [List.length_map]; omega) ?_)
        refine RW_op (L_ldRA (j := 0) (vs := cec (gd m j)) j SA_128 (hs.rd 0 rfl) (gd_at (by omega)) rfl rfl rfl (by omega) ?_)
        refine RW_op (L_alloc (cs := cec (⟨0, 0, 0, 0, (⟨0, 0⟩ : Dot), 0⟩ : Cen)) ZV_128 rfl hs fun b4 w5 hs => ?_)
        refine RW_op (L_st (V := .agg (cec (gd m j)).toArray) (vs := cec (gd m j)) (cs' := cec (gd m j)) SA_128.1 hs 1 rfl rfl rfl rfl rfl (Nat.le_of_ble_eq_true rfl) (cec_one _) (spl_whole rfl) fun w6 hs => ?_)
        refine RW_nil ?_
        refine W_seq ?_
        refine W_region ?_
        refine RW_op (L_move (V := .func (.func g) #[] caps.toArray) rfl ?_)
        refine RW_op (L_ldW (cs := cec (gd m j)) SA_128 hs 1 rfl rfl rfl ?_)
        refine RW_op (L_fnP (vs := [.agg (cec (gd m j)).toArray]) (cs := caps) (V := .bool (p (gd m j))) hg rfl rfl (hp _ _ hs (gd m j) (by rw [hmv.2.2 _ (Nat.le_refl _)]; exact gd_mem (by omega))) hs fun w7 hs => ?_)
        refine RW_op (L_not rfl ?_)
        refine RW_nil ?_
        refine W_cond (t := !(p (gd m j))) rfl (fun c8 => ?_) (fun c8 => ?_)
        ·
          replace c8 := not_t c8
          refine W_seq ?_
          refine W_region ?_
          refine RW_op (L_move (V := .slice a l.length c) rfl ?_)
          refine RW_op (L_move (V := .int .i64 ((i : Nat) : Int)) rfl ?_)
          refine RW_op (L_ldW (cs := cec (gd m j)) SA_128 hs 1 rfl rfl rfl ?_)
          refine RW_op (L_ixR UD_59 SA_128.1 (hs.rd 0 rfl) rfl rfl (by omega) (by rw [List.length_map]; omega) ?_)
          refine RW_op (L_stE (z := gd m j) i SA_128.1 hs 0 rfl rfl rfl (by first | omega | (simp only [List.length_set]; omega)) rfl rfl rfl (cec_one _) fun w9 hs => ?_)
          replace hs : Own w S w9 [row (.slice a l.length c) ((m.set i (gd m j)).map cec) 128 7, blk b4 (cec (gd m j)) 128] := hs
          refine RW_nil ?_
          refine W_region ?_
          refine RW_op (L_move (V := .int .i64 ((i : Nat) : Int)) rfl ?_)
          refine RW_op (L_add (a := ((i : Nat) : Int)) (b := 1) (c := ((i + 1 : Nat) : Int)) rfl rfl (nat_i64 (by omega) (by omega)) ?_)
          refine RW_op (L_assign (V := .int .i64 ((i + 1 : Nat) : Int)) rfl ?_)
          refine RW_nil ?_
          refine W_region ?_
          refine RW_op (L_move (V := .int .i64 ((j : Nat) : Int)) rfl ?_)
          refine RW_op (L_add (a := ((j : Nat) : Int)) (b := 1) (c := ((j + 1 : Nat) : Int)) rfl rfl (nat_i64 (by omega) (by omega)) ?_)
          refine RW_op (L_assign (V := .int .i64 ((j + 1 : Nat) : Int)) rfl ?_)
          refine RW_nil ?_
          refine ⟨_, ?_, _, i + 1, j + 1, m.set i (gd m j), upd_of (upd_of (mix_of (ds := [5, 6, 7, 16, 17, 18, 19, 20, 21, 22, 23, 24, 25, 26, 27, 28, 29, 30, 31, 32, 33, 34, 35]) (by repeat (first | exact Agr.refl _ _ | refine Agr.upd ?_ rfl | refine Agr.mix ?_ rfl))) rfl) rfl, (by omega), (by omega), (moved_keep hmv (by omega) (by omega) c8), rfl, hs.take 1⟩
          omega
        ·
          replace c8 := not_f c8
          refine W_skip ?_
          refine W_region ?_
          refine RW_op (L_move (V := .int .i64 ((j : Nat) : Int)) rfl ?_)
          refine RW_op (L_add (a := ((j : Nat) : Int)) (b := 1) (c := ((j + 1 : Nat) : Int)) rfl rfl (nat_i64 (by omega) (by omega)) ?_)
          refine RW_op (L_assign (V := .int .i64 ((j + 1 : Nat) : Int)) rfl ?_)
          refine RW_nil ?_
          refine ⟨_, ?_, _, i, j + 1, m, upd_of (upd_of (mix_of (ds := [5, 6, 7, 16, 17, 18, 19, 20, 21, 22, 23, 24, 25, 26, 27, 28, 29, 30, 31, 32, 33, 34, 35]) (by repeat (first | exact Agr.refl _ _ | refine Agr.upd ?_ rfl | refine Agr.mix ?_ rfl))) rfl) rfl, (by omega), (by omega), (moved_skip hmv (by omega) c8), rfl, hs.take 1⟩
          omega
      ·
        replace c3 := of_decide_eq_false c3
        refine W_exit ?_
        refine W_seq ?_
        refine W_region ?_
        refine RW_op (L_move (V := .slice a l.length c) rfl ?_)
        refine RW_op (L_move (V := .int .i64 ((i : Nat) : Int)) rfl ?_)
        refine RW_op (L_sl (l := i) (h := l.length) (m := c) (n' := (m.drop i).length) UDR_59 SA_128.1 (hs.rd 0 rfl) rfl (.inr ⟨_, _, rfl, rfl⟩) (.inl ⟨rfl, rfl⟩) (.inl ⟨rfl, rfl⟩) (by omega) (by omega) (Nat.le_trans (show l.length ≤ m.length by omega) (Rd.roomM (hs.rd 0 rfl))) (Nat.le_refl _) (by simp only [List.length_take, List.length_drop] <;> omega) ?_)
        refine RW_op (L_clearT EL_59 hs 0 rfl rfl (by rw [List.length_map] <;> omega) (by simp only [List.length_map, List.length_drop] <;> omega) (by intro v hv; have e := Zv_uniq hv ZV_128; subst e; exact (cec_one _)) fun w10 hs => ?_)
        refine RW_nil ?_
        refine W_seq ?_
        refine W_region ?_
        refine RW_op (L_move (V := .slice a l.length c) rfl ?_)
        refine RW_op (L_move (V := .int .i64 ((i : Nat) : Int)) rfl ?_)
        refine RW_op (L_slV (l := 0) (h := i) (n' := i) UDR_59 SA_128.1 (by omega) rfl (.inl ⟨rfl, rfl⟩) (.inr ⟨_, _, rfl, rfl⟩) (by omega) (by omega) (by omega) ?_)
        refine RW_op (L_assign (V := .slice (sla a 0 c 7) i (c - 0)) rfl ?_)
        refine RW_nil ?_
        refine W_ret ?_
        refine ⟨_, res_one (V := .slice (sla a 0 c 7) i (c - 0)) Try.results84 rfl, ?_⟩
        have he := moved_end hmv (by omega)
        have hil : i = (l.filter fun x => !p x).length := by rw [← he, List.length_take, hmv.1]; omega
        replace hs := hs.take 1
        simp only [List.set_cons_zero, List.take_succ_cons, List.take_zero, ← List.map_take, he] at hs
        rw [← hil]
        refine ⟨(), ?_, hs, trivial⟩
        rw [sla_zero, Nat.sub_zero]
end Tt
end Go.Proofs
