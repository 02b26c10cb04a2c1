/- A part of a proof: what functions of the program compute, and plain facts on that. -/
import Derived.Test.YthbbcjimiemdgaaCartAnyP4
set_option linter.unusedVariables false
set_option linter.unusedSimpArgs false
namespace Go.Proofs
open Go Go.Vx Go.RowKit
namespace Tt
set_option maxRecDepth 20000 in
set_option maxHeartbeats 4000000 in
theorem rHasO_ok (w : World) (a : Option Addr) (c : Nat) (l : List Opn) (d : Dot) (hr : Rd w (.slice a l.length c) 23 (l.map oc)) : Calls Try.prog 80 #[.slice a l.length c, .agg (dc d).toArray] w (fun e w' => e = .returned (.bool (l.any fun o => decide (o.dot = d))) ∧ Own w no w' []) := by
  refine calls_of_Wn (n := 19) Try.func80 rfl Try.ntmps80 rfl ?_
  have hs := Own.start w
  have hn := hr.sml
  refine W_seq ?_
  refine W_region ?_
  refine RW_op (L_box (V := .agg (dc d).toArray) (cs := dc d) rfl rfl hs fun b1 w2 hs => ?_)
  refine RW_op (L_assign (V := .bool false) rfl ?_)
  refine RW_nil ?_
  refine W_seq ?_
  refine W_seq ?_
  refine W_region ?_
  refine RW_op (L_assign (V := .int .i64 0) rfl ?_)
  refine RW_nil ?_
  refine W_block ?_
  refine W_loopI (fun ρ μ ρ' w' => ∃ (ρo : Env) (k : Nat), ρ' = upd (mix [4, 5, 6, 7, 8, 9, 10, 11, 12, 13, 14, 15, 16, 17, 18] ρo ρ) 5 (.int .i64 (k : Int)) ∧ (k ≤ l.length) ∧ (∀ j : Nat, j < k → decide ((gd l j).dot = d) = false) ∧ μ = l.length - k ∧ Own w no w' [blk b1 (dc d) 96]) ?_ ?_
  · exact ⟨_, _, 0, upd_of (mix_of (ds := [4, 5, 6, 7, 8, 9, 10, 11, 12, 13, 14, 15, 16, 17, 18]) (Agr.refl _ _)) rfl, (by omega), (fun j hj => absurd hj (Nat.not_lt_zero j)), rfl, hs⟩
  · rintro μ ρ' w3 ⟨ρo, k, rfl, hk, hno, rfl, hs⟩
    refine W_seq ?_
    refine W_seq ?_
    refine W_region ?_
    refine RW_op (L_move (V := .int .i64 (k : Int)) rfl ?_)
    refine RW_op (L_move (V := .slice a l.length c) rfl ?_)
    refine RW_op (L_lenR (n := l.length) UD_82 (Rd.own' hr hs) (by simp) rfl ?_)
    refine RW_op (L_lss rfl rfl ?_)
    refine RW_nil ?_
    refine W_cond (t := decide ((k : Int) < ((l.length : Nat) : Int))) rfl (fun c4 => ?_) (fun c4 => ?_)
    ·
      replace c4 := of_decide_eq_true c4
      refine W_skip ?_
      refine W_seq ?_
      refine W_block ?_
      refine W_seq ?_
      refine W_regD HM [some 12, some 13, some 14, some 15, some 16, some 17, some 18] [] [0, 0, 3, 7, 15, 0, 63] [pv (.slice a l.length c), pv (.int .i64 (k : Int)), pv (.pointer (some ⟨bkS (.slice a l.length c), ofS (.slice a l.length c) + (k : Int).toNat * 23, none⟩)), pv (.pointer (some ⟨bkS (.slice a l.length c), ofS (.slice a l.length c) + (k : Int).toNat * 23 + 0, none⟩)), pv (.agg (dc ((gd l k).dot)).toArray), pv (.agg (dc d).toArray), pv (.bool (decide ((gd l k).dot = d)))] (fun _ _ => _) [6] (by kernel_rfl) hs ⟨?_, ?_, ?_, ?_, ?_, ?_, ?_, trivial⟩ ?_
      · exact ob [] [] rfl rfl fun D ρ w hs => L_move (V := .slice a l.length c) rfl ⟨rfl, hs⟩
      · exact ob [] [] rfl rfl fun D ρ w hs => L_move (V := .int .i64 (k : Int)) rfl ⟨rfl, hs⟩
      · exact ob [0, 1] [] rfl rfl fun D ρ w hs => L_ixR UD_82 SA_98.1 (Rd.own' hr hs) rfl rfl (by omega) (by rw [List.length_map]; omega) ⟨rfl, hs⟩
      · exact ob [2] [] rfl rfl fun D ρ w hs => L_fieldAddr FA_98_0 rfl ⟨rfl, hs⟩
      · exact ob [3] [] rfl rfl fun D ρ w hs => L_ldRA (j := 0) (vs := dc ((gd l k).dot)) k SA_96 (Rd.own' hr hs) (gd_at (by omega)) rfl rfl rfl (by omega) ⟨rfl, hs⟩
      · exact ob [] [] rfl rfl fun D ρ w hs => L_ldW (cs := dc d) SA_96 hs 0 rfl rfl rfl ⟨rfl, hs⟩
      · exact ob [4, 5] [] rfl rfl fun D ρ w hs => L_eqA (xs := dc ((gd l k).dot)) (ys := dc d) Try.eqGuardType96 (EQ_96 ((gd l k).dot) d) rfl rfl rfl ⟨rfl, hs⟩
      rintro ρ1 w5 ρ2 hρ hs
      replace hρ : ρ2 = upd (mix [12, 13, 14, 15, 16, 17, 18] ρ1 _) 18 (.bool (decide ((gd l k).dot = d))) := hρ
      subst hρ
      refine W_cond (t := decide ((gd l k).dot = d)) rfl (fun c6 => ?_) (fun c6 => ?_)
      ·
        replace c6 := of_decide_eq_true c6
        refine W_seq ?_
        refine W_region ?_
        refine RW_op (L_assign (V := .bool true) rfl ?_)
        refine RW_nil ?_
        refine W_ret ?_
        refine ⟨_, res_one (V := .bool true) Try.results80 rfl, ?_⟩
        refine ⟨congrArg Ending.returned ?_, hs.take 0⟩
        exact congrArg Value.bool (any_at (p := fun o : Opn => decide (o.dot = d)) (k := k) (by omega) (decide_eq_true c6)).symm
      ·
        replace c6 := of_decide_eq_false c6
        refine W_skip ?_
        refine W_region ?_
        refine RW_op (L_move (V := .int .i64 (k : Int)) rfl ?_)
        refine RW_op (L_add (a := (k : Int)) (b := 1) (c := (k : Int) + 1) rfl rfl (wr_i64 (by omega) (by omega)) ?_)
        refine RW_op (L_assign (V := .int .i64 ((k : Int) + 1)) rfl ?_)
        refine RW_nil ?_
        refine ⟨_, ?_, _, k + 1, upd_of (mix_of (ds := [4, 5, 6, 7, 8, 9, 10, 11, 12, 13, 14, 15, 16, 17, 18]) (by repeat (first | exact Agr.refl _ _ | refine Agr.upd ?_ rfl | refine Agr.mix ?_ rfl))) rfl, (by omega), (no_step (p := fun o : Opn => decide (o.dot = d)) hno (decide_eq_false c6)), rfl, hs.take 1⟩
        omega
    ·
      replace c4 := of_decide_eq_false c4
      refine W_exit ?_
      refine W_seq ?_
      refine W_region ?_
      refine RW_op (L_assign (V := .bool false) rfl ?_)
      refine RW_nil ?_
      refine W_ret ?_
      refine ⟨_, res_one (V := .bool false) Try.results80 rfl, ?_⟩
      refine ⟨congrArg Ending.returned ?_, hs.take 0⟩
      exact congrArg Value.bool (none_any (p := fun o : Opn => decide (o.dot = d)) fun j hj => hno j (by omega)).symm
set_option maxRecDepth 20000 in
set_option maxHeartbeats 4000000 in
theorem rCount_ok (w : World) (a : Option Addr) (c : Nat) (l : List Opn) (v : Vec) (rep : Int) (hl : ∀ o ∈ l, OpnOk o) (hlen : l.length ≤ 1000) (hr : Rd w (.slice a l.length c) 23 (l.map oc)) : Calls Try.prog 81 #[.slice a l.length c, .agg (vc v).toArray, .int .i64 rep] w (fun e w' => e = .returned (.int .u32 (cntR l v rep)) ∧ Own w no w' []) := by
  refine calls_of_Wn (n := 36) Try.func81 rfl Try.ntmps81 rfl ?_
  have hs := Own.start w
  have hn := hr.sml
  refine W_seq ?_
  refine W_region ?_
  refine RW_op (L_box (V := .agg (vc v).toArray) (cs := vc v) rfl rfl hs fun b1 w2 hs => ?_)
  refine RW_op (L_assign (V := .int .u32 0) rfl ?_)
  refine RW_nil ?_
  refine W_seq ?_
  refine W_region ?_
  refine RW_op (L_assign (V := .int .u32 0) rfl ?_)
  refine RW_nil ?_
  refine W_seq ?_
  refine W_seq ?_
  refine W_region ?_
  refine RW_op (L_assign (V := .int .i64 0) rfl ?_)
  refine RW_nil ?_
  refine W_block ?_
  refine W_loopI (fun ρ μ ρ' w' => ∃ (ρo : Env) (k : Nat) (n : Int), ρ' = upd (upd (mix [7, 8, 9, 10, 11, 12, 13, 14, 15, 16, 17, 18, 19, 20, 21, 22, 23, 24, 25, 26, 27, 28, 29, 30, 31, 32, 33, 34] ρo ρ) 8 (.int .i64 (k : Int))) 7 (.int .u32 n) ∧ (k ≤ l.length) ∧ (n = cntR (l.take k) v rep) ∧ (0 ≤ n ∧ n ≤ k) ∧ μ = l.length - k ∧ Own w no w' [blk b1 (vc v) 53]) ?_ ?_
  · exact ⟨_, _, 0, 0, upd_of (upd_of (mix_of (ds := [7, 8, 9, 10, 11, 12, 13, 14, 15, 16, 17, 18, 19, 20, 21, 22, 23, 24, 25, 26, 27, 28, 29, 30, 31, 32, 33, 34]) (Agr.refl _ _)) rfl) rfl, (by omega), rfl, (by omega), rfl, hs⟩
  · rintro μ ρ' w3 ⟨ρo, k, n, rfl, hk, hn2, hnb, rfl, hs⟩
    refine W_seq ?_
    refine W_seq ?_
    refine W_region ?_
    refine RW_op (L_move (V := .int .i64 (k : Int)) rfl ?_)
    refine RW_op (L_move (V := .slice a l.length c) rfl ?_)
    refine RW_op (L_lenR (n := l.length) UD_82 (Rd.own' hr hs) (by simp) rfl ?_)
    refine RW_op (L_lss rfl rfl ?_)
    refine RW_nil ?_
    refine W_cond (t := decide ((k : Int) < ((l.length : Nat) : Int))) rfl (fun c4 => ?_) (fun c4 => ?_)
    ·
      replace c4 := of_decide_eq_true c4
      refine W_skip ?_
      refine W_seq ?_
      refine W_block ?_
      refine W_seq ?_
      have hok := hl _ (gd_mem (l := l) (i := k) (by omega))
      have hdk := hok.1
      have ⟨⟨hr1, hr2⟩, hr3, hr4⟩ := hdk
      refine W_regD HM [some 15, some 16, some 17, some 18, some 19, some 20, some 21, some 22, some 23, some 24, some 25, some 26, some 27, some 28, some 29, some 30, some 31, some 32] [] [0, 0, 3, 7, 15, 31, 63, 0, 255, 511, 1023, 1023, 1023, 7167, 15359, 31743, 65535, 131071] [pv (.slice a l.length c), pv (.int .i64 (k : Int)), pv (.pointer (some ⟨bkS (.slice a l.length c), ofS (.slice a l.length c) + (k : Int).toNat * 23, none⟩)), pv (.pointer (some ⟨bkS (.slice a l.length c), ofS (.slice a l.length c) + (k : Int).toNat * 23 + 0, none⟩)), pv (.pointer (some ⟨bkS (.slice a l.length c), ofS (.slice a l.length c) + (k : Int).toNat * 23 + 0 + 0, none⟩)), pv (.int .u8 (((gd l k).dot).rep)), pv (.int .i64 (((gd l k).dot).rep)), pv (.int .i64 rep), pv (.bool (decide (((gd l k).dot).rep = rep))), pv (.bool (decide (((gd l k).dot).rep = rep))), pg ((decide (((gd l k).dot).rep = rep)) == true) (.agg (vc v).toArray), pg ((decide (((gd l k).dot).rep = rep)) == true) (.slice a l.length c), pg ((decide (((gd l k).dot).rep = rep)) == true) (.int .i64 (k : Int)), pg ((decide (((gd l k).dot).rep = rep)) == true) (.pointer (some ⟨bkS (.slice a l.length c), ofS (.slice a l.length c) + (k : Int).toNat * 23, none⟩)), pg ((decide (((gd l k).dot).rep = rep)) == true) (.pointer (some ⟨bkS (.slice a l.length c), ofS (.slice a l.length c) + (k : Int).toNat * 23 + 0, none⟩)), pg ((decide (((gd l k).dot).rep = rep)) == true) (.agg (dc ((gd l k).dot)).toArray), pg ((decide (((gd l k).dot).rep = rep)) == true) (.bool (hasB v ((gd l k).dot))), pv (.bool ((decide (((gd l k).dot).rep = rep)) && (hasB v ((gd l k).dot))))] (fun _ _ => _) [17] (by kernel_rfl) hs ⟨?_, ?_, ?_, ?_, ?_, ?_, ?_, ?_, ?_, ?_, ?_, ?_, ?_, ?_, ?_, ?_, ?_, ?_, trivial⟩ ?_
      · exact ob [] [] rfl rfl fun D ρ w hs => L_move (V := .slice a l.length c) rfl ⟨rfl, hs⟩
      · exact ob [] [] rfl rfl fun D ρ w hs => L_move (V := .int .i64 (k : Int)) rfl ⟨rfl, hs⟩
      · exact ob [0, 1] [] rfl rfl fun D ρ w hs => L_ixR UD_82 SA_98.1 (Rd.own' hr hs) rfl rfl (by omega) (by rw [List.length_map]; omega) ⟨rfl, hs⟩
      · exact ob [2] [] rfl rfl fun D ρ w hs => L_fieldAddr FA_98_0 rfl ⟨rfl, hs⟩
      · exact ob [3] [] rfl rfl fun D ρ w hs => L_fieldAddr FA_96_0 rfl ⟨rfl, hs⟩
      · exact ob [4] [] rfl rfl fun D ρ w hs => L_ldR (j := 0) (V := .int .u8 (((gd l k).dot).rep)) k S1_5 (Rd.own' hr hs) (gd_at (by omega)) rfl rfl (by omega) ⟨rfl, hs⟩
      · exact ob [5] [] rfl rfl fun D ρ w hs => L_conv UD_5 UD_3 rfl (wr_i64 (by omega) (by omega)) ⟨rfl, hs⟩
      · exact ob [] [] rfl rfl fun D ρ w hs => L_move (V := .int .i64 rep) rfl ⟨rfl, hs⟩
      · exact ob [6, 7] [] rfl rfl fun D ρ w hs => L_eql rfl rfl ⟨rfl, hs⟩
      · exact ob [8] [] rfl rfl fun D ρ w hs => L_move (V := .bool (decide (((gd l k).dot).rep = rep))) rfl ⟨rfl, hs⟩
      · exact obg [9] [] (decide (((gd l k).dot).rep = rep)) rfl (fun _ => rfl) rfl (fun _ _ _ _ h => h) fun D ρ w hG hs => L_ldW (cs := vc v) SA_53 hs 0 rfl rfl rfl ⟨rfl, hs⟩
      · exact obg [9] [] (decide (((gd l k).dot).rep = rep)) rfl (fun _ => rfl) rfl (fun _ _ _ _ h => h) fun D ρ w hG hs => L_move (V := .slice a l.length c) rfl ⟨rfl, hs⟩
      · exact obg [9] [] (decide (((gd l k).dot).rep = rep)) rfl (fun _ => rfl) rfl (fun _ _ _ _ h => h) fun D ρ w hG hs => L_move (V := .int .i64 (k : Int)) rfl ⟨rfl, hs⟩
      · refine obgy [9, 11, 12] [] [11, 12] (decide (((gd l k).dot).rep = rep)) rfl (fun _ => rfl) rfl (fun _ _ _ _ h => h) (fun hG => ⟨hG, hG, trivial⟩) fun D ρ w hG hs => ?_
        have hgd := of_decide_eq_true (eq_of_beq (hG))
        exact L_ixR UD_82 SA_98.1 (Rd.own' hr hs) rfl rfl (by omega) (by rw [List.length_map]; omega) ⟨rfl, hs⟩
      · exact obgy [9, 13] [] [13] (decide (((gd l k).dot).rep = rep)) rfl (fun _ => rfl) rfl (fun _ _ _ _ h => h) (fun hG => ⟨hG, trivial⟩) fun D ρ w hG hs => L_fieldAddr FA_98_0 rfl ⟨rfl, hs⟩
      · refine obgy [9, 14] [] [14] (decide (((gd l k).dot).rep = rep)) rfl (fun _ => rfl) rfl (fun _ _ _ _ h => h) (fun hG => ⟨hG, trivial⟩) fun D ρ w hG hs => ?_
        have hgd := of_decide_eq_true (eq_of_beq (hG))
        exact L_ldRA (j := 0) (vs := dc ((gd l k).dot)) k SA_96 (Rd.own' hr hs) (gd_at (by omega)) rfl rfl rfl (by omega) ⟨rfl, hs⟩
      · refine obgy [9, 10, 15] [] [10, 15] (decide (((gd l k).dot).rep = rep)) rfl (fun _ => rfl) rfl (fun _ _ _ _ h => h) (fun hG => ⟨hG, hG, trivial⟩) fun D ρ w hG hs => ?_
        have hgd := of_decide_eq_true (eq_of_beq (hG))
        exact L_callP (vs := [.agg (vc v).toArray, .agg (dc ((gd l k).dot)).toArray]) (V := .bool (hasB v ((gd l k).dot))) EN_67 rfl rfl (rHas_ok _ v ((gd l k).dot) (by first | assumption | exact dotOk_mk (by omega) (by omega) (by omega) (by omega))) hs fun _ hs => ⟨rfl, hs⟩
      · exact ob [9, 16] [] rfl rfl fun D ρ w hs => L_andC (h' := hasB v ((gd l k).dot)) rfl rfl rfl ⟨rfl, hs⟩
      rintro ρ1 w6 ρ2 hρ hs
      replace hρ : ρ2 = upd (mix [15, 16, 17, 18, 19, 20, 21, 22, 23, 24, 25, 26, 27, 28, 29, 30, 31, 32] ρ1 _) 32 (.bool ((decide (((gd l k).dot).rep = rep)) && (hasB v ((gd l k).dot)))) := hρ
      subst hρ
      refine W_cond (t := (decide (((gd l k).dot).rep = rep)) && (hasB v ((gd l k).dot))) rfl (fun c7 => ?_) (fun c7 => ?_)
      ·
        have c7r := and_r c7
        replace c7 := and_l c7
        replace c7 := of_decide_eq_true c7
        refine W_region ?_
        refine RW_op (L_move (V := .int .u32 n) rfl ?_)
        refine RW_op (L_add (a := n) (b := 1) (c := n + 1) rfl rfl (wr_u32 (by omega) (by omega)) ?_)
        refine RW_op (L_assign (V := .int .u32 (n + 1)) rfl ?_)
        refine RW_nil ?_
        refine W_region ?_
        refine RW_op (L_move (V := .int .i64 (k : Int)) rfl ?_)
        refine RW_op (L_add (a := (k : Int)) (b := 1) (c := (k : Int) + 1) rfl rfl (wr_i64 (by omega) (by omega)) ?_)
        refine RW_op (L_assign (V := .int .i64 ((k : Int) + 1)) rfl ?_)
        refine RW_nil ?_
        refine ⟨_, ?_, _, k + 1, n + 1, upd_of (upd_of (mix_of (ds := [7, 8, 9, 10, 11, 12, 13, 14, 15, 16, 17, 18, 19, 20, 21, 22, 23, 24, 25, 26, 27, 28, 29, 30, 31, 32, 33, 34]) (by repeat (first | exact Agr.refl _ _ | refine Agr.upd ?_ rfl | refine Agr.mix ?_ rfl))) rfl) rfl, (by omega), (cnt_yes hn2 (by omega) c7 c7r), (by omega), rfl, hs.take 1⟩
        omega
      ·
        refine W_skip ?_
        refine W_region ?_
        refine RW_op (L_move (V := .int .i64 (k : Int)) rfl ?_)
        refine RW_op (L_add (a := (k : Int)) (b := 1) (c := (k : Int) + 1) rfl rfl (wr_i64 (by omega) (by omega)) ?_)
        refine RW_op (L_assign (V := .int .i64 ((k : Int) + 1)) rfl ?_)
        refine RW_nil ?_
        refine ⟨_, ?_, _, k + 1, n, upd_of (upd_of (mix_of (ds := [7, 8, 9, 10, 11, 12, 13, 14, 15, 16, 17, 18, 19, 20, 21, 22, 23, 24, 25, 26, 27, 28, 29, 30, 31, 32, 33, 34]) (by repeat (first | exact Agr.refl _ _ | refine Agr.upd ?_ rfl | refine Agr.mix ?_ rfl))) rfl) rfl, (by omega), (cnt_no hn2 (by omega) c7), (by omega), rfl, hs.take 1⟩
        omega
    ·
      replace c4 := of_decide_eq_false c4
      refine W_exit ?_
      refine W_seq ?_
      refine W_region ?_
      refine RW_op (L_move (V := .int .u32 n) rfl ?_)
      refine RW_op (L_assign (V := .int .u32 n) rfl ?_)
      refine RW_nil ?_
      refine W_ret ?_
      refine ⟨_, res_one (V := .int .u32 n) Try.results81 rfl, ?_⟩
      refine ⟨congrArg Ending.returned ?_, hs.take 0⟩
      rw [hn2, take_all (by omega)]
set_option maxRecDepth 20000 in
set_option maxHeartbeats 4000000 in
theorem rClosedO_ok (w : World) (a : Option Addr) (c : Nat) (l : List Opn) (hl : ∀ o ∈ l, OpnOk o) (hlen : l.length ≤ 1000) (hr : Rd w (.slice a l.length c) 23 (l.map oc)) : Calls Try.prog 41 #[.slice a l.length c] w (fun e w' => e = .returned (.bool (closedR l)) ∧ Own w no w' []) := by
  refine calls_of_Wn (n := 57) Try.func41 rfl Try.ntmps41 rfl ?_
  have hs := Own.start w
  have hn := hr.sml
  refine W_seq ?_
  refine W_region ?_
  refine RW_op (L_assign (V := .bool false) rfl ?_)
  refine RW_nil ?_
  refine W_seq ?_
  refine W_seq ?_
  refine W_region ?_
  refine RW_op (L_assign (V := .int .i64 0) rfl ?_)
  refine RW_nil ?_
  refine W_block ?_
  refine W_loopI (fun ρ μ ρ' w' => ∃ (ρo : Env) (k : Nat), ρ' = upd (mix [2, 3, 6, 7, 8, 9, 10, 11, 12, 13, 14, 15, 16, 17, 18, 19, 20, 21, 22, 23, 24, 25, 26, 27, 28, 29] ρo ρ) 3 (.int .i64 (k : Int)) ∧ (k ≤ l.length) ∧ (∀ j : Nat, j < k → badR l j = false) ∧ μ = l.length - k ∧ Own w no w' []) ?_ ?_
  · exact ⟨_, _, 0, upd_of (mix_of (ds := [2, 3, 6, 7, 8, 9, 10, 11, 12, 13, 14, 15, 16, 17, 18, 19, 20, 21, 22, 23, 24, 25, 26, 27, 28, 29]) (Agr.refl _ _)) rfl, (by omega), (fun j hj => absurd hj (Nat.not_lt_zero j)), rfl, hs⟩
  · rintro μ ρ' w1 ⟨ρo, k, rfl, hk, hbad, rfl, hs⟩
    refine W_seq ?_
    refine W_seq ?_
    refine W_region ?_
    refine RW_op (L_move (V := .int .i64 (k : Int)) rfl ?_)
    refine RW_op (L_move (V := .slice a l.length c) rfl ?_)
    refine RW_op (L_lenR (n := l.length) UD_82 (Rd.own' hr hs) (by simp) rfl ?_)
    refine RW_op (L_lss rfl rfl ?_)
    refine RW_nil ?_
    refine W_cond (t := decide ((k : Int) < ((l.length : Nat) : Int))) rfl (fun c2 => ?_) (fun c2 => ?_)
    ·
      replace c2 := of_decide_eq_true c2
      refine W_skip ?_
      refine W_seq ?_
      refine W_block ?_
      refine W_seq ?_
      have hok := hl _ (gd_mem (l := l) (i := k) (by omega))
      have hdk := hok.1
      refine W_regD HM [some 12, some 13, some 14, some 15, some 16, some 17, some 18, some 19, some 20, some 21, some 22, some 23, some 24, some 25, some 26, some 27, some 28, some 29] [] [0, 0, 3, 7, 15, 31, 63, 127, 255, 255, 1023, 255, 255, 6399, 14591, 30975, 65535, 131071] [pv (.slice a l.length c), pv (.int .i64 (k : Int)), pv (.pointer (some ⟨bkS (.slice a l.length c), ofS (.slice a l.length c) + (k : Int).toNat * 23, none⟩)), pv (.pointer (some ⟨bkS (.slice a l.length c), ofS (.slice a l.length c) + (k : Int).toNat * 23 + 0, none⟩)), pv (.agg (dc ((gd l k).dot)).toArray), pv (.bool (dotB ((gd l k).dot))), pv (.bool (!(dotB ((gd l k).dot)))), pv (.bool (!(dotB ((gd l k).dot)))), pg ((!(dotB ((gd l k).dot))) == false) (.slice a l.length c), pg ((!(dotB ((gd l k).dot))) == false) (.int .i64 (k : Int)), pg ((!(dotB ((gd l k).dot))) == false) (.slice (sla a 0 c 23) ((l.take k).length) (c - 0)), pg ((!(dotB ((gd l k).dot))) == false) (.slice a l.length c), pg ((!(dotB ((gd l k).dot))) == false) (.int .i64 (k : Int)), pg ((!(dotB ((gd l k).dot))) == false) (.pointer (some ⟨bkS (.slice a l.length c), ofS (.slice a l.length c) + (k : Int).toNat * 23, none⟩)), pg ((!(dotB ((gd l k).dot))) == false) (.pointer (some ⟨bkS (.slice a l.length c), ofS (.slice a l.length c) + (k : Int).toNat * 23 + 0, none⟩)), pg ((!(dotB ((gd l k).dot))) == false) (.agg (dc ((gd l k).dot)).toArray), pg ((!(dotB ((gd l k).dot))) == false) (.bool ((l.take k).any fun o => decide (o.dot = (gd l k).dot))), pv (.bool ((!(dotB ((gd l k).dot))) || ((l.take k).any fun o => decide (o.dot = (gd l k).dot))))] (fun _ _ => _) [17] (by kernel_rfl) hs ⟨?_, ?_, ?_, ?_, ?_, ?_, ?_, ?_, ?_, ?_, ?_, ?_, ?_, ?_, ?_, ?_, ?_, ?_, trivial⟩ ?_
      · exact ob [] [] rfl rfl fun D ρ w hs => L_move (V := .slice a l.length c) rfl ⟨rfl, hs⟩
      · exact ob [] [] rfl rfl fun D ρ w hs => L_move (V := .int .i64 (k : Int)) rfl ⟨rfl, hs⟩
      · exact ob [0, 1] [] rfl rfl fun D ρ w hs => L_ixR UD_82 SA_98.1 (Rd.own' hr hs) rfl rfl (by omega) (by rw [List.length_map]; omega) ⟨rfl, hs⟩
      · exact ob [2] [] rfl rfl fun D ρ w hs => L_fieldAddr FA_98_0 rfl ⟨rfl, hs⟩
      · exact ob [3] [] rfl rfl fun D ρ w hs => L_ldRA (j := 0) (vs := dc ((gd l k).dot)) k SA_96 (Rd.own' hr hs) (gd_at (by omega)) rfl rfl rfl (by omega) ⟨rfl, hs⟩
      · exact ob [4] [] rfl rfl fun D ρ w hs => L_callP (vs := [.agg (dc ((gd l k).dot)).toArray]) (V := .bool (dotB ((gd l k).dot))) EN_79 rfl rfl (rDot_ok _ ((gd l k).dot)) hs fun _ hs => ⟨rfl, hs⟩
      · exact ob [5] [] rfl rfl fun D ρ w hs => L_not rfl ⟨rfl, hs⟩
      · exact ob [6] [] rfl rfl fun D ρ w hs => L_move (V := .bool (!(dotB ((gd l k).dot)))) rfl ⟨rfl, hs⟩
      · exact obg [7] [] (!(dotB ((gd l k).dot))) rfl (fun _ => rfl) rfl (fun _ _ _ _ h => h) fun D ρ w hG hs => L_move (V := .slice a l.length c) rfl ⟨rfl, hs⟩
      · exact obg [7] [] (!(dotB ((gd l k).dot))) rfl (fun _ => rfl) rfl (fun _ _ _ _ h => h) fun D ρ w hG hs => L_move (V := .int .i64 (k : Int)) rfl ⟨rfl, hs⟩
      · exact obgy [7, 8, 9] [] [8, 9] (!(dotB ((gd l k).dot))) rfl (fun _ => rfl) rfl (fun _ _ _ _ h => h) (fun hG => ⟨hG, hG, trivial⟩) fun D ρ w hG hs => L_sl (l := 0) (h := k) (m := c) (n' := (l.take k).length) UDR_82 SA_98.1 (Rd.own' hr hs) rfl (.inl ⟨rfl, rfl⟩) (.inr ⟨_, _, rfl, rfl⟩) (.inl ⟨rfl, rfl⟩) (by omega) (by omega) (Nat.le_trans (show k ≤ l.length by omega) (Rd.roomM (Rd.own' hr hs))) (Nat.le_refl _) (by simp only [List.length_take, List.length_drop] <;> omega) ⟨rfl, hs⟩
      · exact obg [7] [] (!(dotB ((gd l k).dot))) rfl (fun _ => rfl) rfl (fun _ _ _ _ h => h) fun D ρ w hG hs => L_move (V := .slice a l.length c) rfl ⟨rfl, hs⟩
      · exact obg [7] [] (!(dotB ((gd l k).dot))) rfl (fun _ => rfl) rfl (fun _ _ _ _ h => h) fun D ρ w hG hs => L_move (V := .int .i64 (k : Int)) rfl ⟨rfl, hs⟩
      · exact obgy [7, 11, 12] [] [11, 12] (!(dotB ((gd l k).dot))) rfl (fun _ => rfl) rfl (fun _ _ _ _ h => h) (fun hG => ⟨hG, hG, trivial⟩) fun D ρ w hG hs => L_ixR UD_82 SA_98.1 (Rd.own' hr hs) rfl rfl (by omega) (by rw [List.length_map]; omega) ⟨rfl, hs⟩
      · exact obgy [7, 13] [] [13] (!(dotB ((gd l k).dot))) rfl (fun _ => rfl) rfl (fun _ _ _ _ h => h) (fun hG => ⟨hG, trivial⟩) fun D ρ w hG hs => L_fieldAddr FA_98_0 rfl ⟨rfl, hs⟩
      · exact obgy [7, 14] [] [14] (!(dotB ((gd l k).dot))) rfl (fun _ => rfl) rfl (fun _ _ _ _ h => h) (fun hG => ⟨hG, trivial⟩) fun D ρ w hG hs => L_ldRA (j := 0) (vs := dc ((gd l k).dot)) k SA_96 (Rd.own' hr hs) (gd_at (by omega)) rfl rfl rfl (by omega) ⟨rfl, hs⟩
      · exact obgy [7, 10, 15] [] [10, 15] (!(dotB ((gd l k).dot))) rfl (fun _ => rfl) rfl (fun _ _ _ _ h => h) (fun hG => ⟨hG, hG, trivial⟩) fun D ρ w hG hs => L_callP (vs := [.slice (sla a 0 c 23) ((l.take k).length) (c - 0), .agg (dc ((gd l k).dot)).toArray]) (V := .bool ((l.take k).any fun o => decide (o.dot = (gd l k).dot))) EN_80 rfl rfl (rHasO_ok _ (sla a 0 c 23) (c - 0) (l.take k) ((gd l k).dot) (Rd.subM (Rd.own' hr hs) 0 k c (by omega) (by omega) (Nat.le_trans (show k ≤ l.length by omega) (Rd.roomM (Rd.own' hr hs))) (Nat.le_refl _) _ (by simp only [List.length_take, List.length_drop] <;> omega))) hs fun _ hs => ⟨rfl, hs⟩
      · exact ob [7, 16] [] rfl rfl fun D ρ w hs => L_orC (h' := (l.take k).any fun o => decide (o.dot = (gd l k).dot)) rfl rfl rfl ⟨rfl, hs⟩
      rintro ρ1 w5 ρ2 hρ hs
      replace hρ : ρ2 = upd (mix [12, 13, 14, 15, 16, 17, 18, 19, 20, 21, 22, 23, 24, 25, 26, 27, 28, 29] ρ1 _) 29 (.bool ((!(dotB ((gd l k).dot))) || ((l.take k).any fun o => decide (o.dot = (gd l k).dot)))) := hρ
      subst hρ
      refine W_cond (t := (!(dotB ((gd l k).dot))) || ((l.take k).any fun o => decide (o.dot = (gd l k).dot))) rfl (fun c6 => ?_) (fun c6 => ?_)
      ·
        refine W_seq ?_
        refine W_region ?_
        refine RW_op (L_assign (V := .bool false) rfl ?_)
        refine RW_nil ?_
        refine W_ret ?_
        refine ⟨_, res_one (V := .bool false) Try.results41 rfl, ?_⟩
        refine ⟨congrArg Ending.returned ?_, hs.take 0⟩
        exact congrArg Value.bool (closedR_bad (k := k) (by omega) (by unfold badR; exact c6)).symm
      ·
        have c6r := or_r c6
        replace c6 := or_l c6
        replace c6 := not_f c6
        refine W_skip ?_
        refine W_region ?_
        refine RW_op (L_move (V := .int .i64 (k : Int)) rfl ?_)
        refine RW_op (L_add (a := (k : Int)) (b := 1) (c := (k : Int) + 1) rfl rfl (wr_i64 (by omega) (by omega)) ?_)
        refine RW_op (L_assign (V := .int .i64 ((k : Int) + 1)) rfl ?_)
        refine RW_nil ?_
        refine ⟨_, ?_, _, k + 1, upd_of (mix_of (ds := [2, 3, 6, 7, 8, 9, 10, 11, 12, 13, 14, 15, 16, 17, 18, 19, 20, 21, 22, 23, 24, 25, 26, 27, 28, 29]) (by repeat (first | exact Agr.refl _ _ | refine Agr.upd ?_ rfl | refine Agr.mix ?_ rfl))) rfl, (by omega), (no_step2 hbad (by unfold badR; rw [c6, c6r]; rfl)), rfl, hs.take 0⟩
        omega
    ·
      replace c2 := of_decide_eq_false c2
      refine W_exit ?_
      refine W_seq ?_
      refine W_seq ?_
      refine W_region ?_
      refine RW_op (L_assign (V := .int .i64 0) rfl ?_)
      refine RW_nil ?_
      refine W_block ?_
      refine W_loopI (fun ρ μ ρ' w' => ∃ (ρo : Env) (k2 : Nat), ρ' = upd (mix [2, 4, 5, 30, 31, 32, 33, 34, 35, 36, 37, 38, 39, 40, 41, 42, 43, 44, 45, 46, 47, 48, 49, 50, 51, 52, 53, 54, 55, 56] ρo ρ) 4 (.int .i64 (k2 : Int)) ∧ (k2 ≤ l.length) ∧ (∀ j : Nat, j < k2 → knownR l (gd l j) = true) ∧ μ = l.length - k2 ∧ Own w no w' []) ?_ ?_
      · exact ⟨_, _, 0, upd_of (mix_of (ds := [2, 4, 5, 30, 31, 32, 33, 34, 35, 36, 37, 38, 39, 40, 41, 42, 43, 44, 45, 46, 47, 48, 49, 50, 51, 52, 53, 54, 55, 56]) (Agr.refl _ _)) rfl, (by omega), (fun j hj => absurd hj (Nat.not_lt_zero j)), rfl, hs⟩
      · rintro μ ρ' w7 ⟨ρo, k2, rfl, hk2, hkn, rfl, hs⟩
        refine W_seq ?_
        refine W_seq ?_
        refine W_region ?_
        refine RW_op (L_move (V := .int .i64 (k2 : Int)) rfl ?_)
        refine RW_op (L_move (V := .slice a l.length c) rfl ?_)
        refine RW_op (L_lenR (n := l.length) UD_82 (Rd.own' hr hs) (by simp) rfl ?_)
        refine RW_op (L_lss rfl rfl ?_)
        refine RW_nil ?_
        refine W_cond (t := decide ((k2 : Int) < ((l.length : Nat) : Int))) rfl (fun c8 => ?_) (fun c8 => ?_)
        ·
          replace c8 := of_decide_eq_true c8
          refine W_skip ?_
          refine W_seq ?_
          refine W_block ?_
          refine W_seq ?_
          refine W_region ?_
          refine RW_op (L_assign (V := .int .i64 0) rfl ?_)
          refine RW_nil ?_
          refine W_block ?_
          refine W_loopI (fun ρ μ ρ' w' => ∃ (ρo : Env) (k3 : Nat), ρ' = upd (mix [2, 5, 36, 37, 38, 39, 40, 41, 42, 43, 44, 45, 46, 47, 48, 49, 50, 51, 52, 53, 54, 55, 56] ρo ρ) 5 (.int .i64 (k3 : Int)) ∧ (k3 ≤ 16) ∧ (∀ r : Nat, r < k3 → cntR l (gd l k2).ctx (r : Int) = min (vat (gd l k2).ctx r) 1048576) ∧ μ = 16 - k3 ∧ Own w no w' []) ?_ ?_
          · exact ⟨_, _, 0, upd_of (mix_of (ds := [2, 5, 36, 37, 38, 39, 40, 41, 42, 43, 44, 45, 46, 47, 48, 49, 50, 51, 52, 53, 54, 55, 56]) (Agr.refl _ _)) rfl, (by omega), (fun j hj => absurd hj (Nat.not_lt_zero j)), rfl, hs⟩
          · rintro μ ρ' w9 ⟨ρo, k3, rfl, hk3, hr3, rfl, hs⟩
            refine W_seq ?_
            refine W_seq ?_
            refine W_region ?_
            refine RW_op (L_move (V := .int .i64 (k3 : Int)) rfl ?_)
            refine RW_op (L_lss rfl rfl ?_)
            refine RW_nil ?_
            refine W_cond (t := decide ((k3 : Int) < 16)) rfl (fun c10 => ?_) (fun c10 => ?_)
            ·
              replace c10 := of_decide_eq_true c10
              refine W_skip ?_
              refine W_seq ?_
              refine W_block ?_
              refine W_seq ?_
              have hok2 := hl _ (gd_mem (l := l) (i := k2) (by omega))
              refine W_regD HM [some 40, some 41, some 42, some 43, some 44, some 45, some 46, some 47, some 48, some 49, some 50, some 51, some 52, some 53, some 54, some 55, some 56] [] [0, 0, 0, 6, 14, 30, 0, 127, 0, 0, 0, 768, 2816, 7936, 16128, 32512, 65535] [pv (.slice a l.length c), pv (.slice a l.length c), pv (.int .i64 (k2 : Int)), pv (.pointer (some ⟨bkS (.slice a l.length c), ofS (.slice a l.length c) + (k2 : Int).toNat * 23, none⟩)), pv (.pointer (some ⟨bkS (.slice a l.length c), ofS (.slice a l.length c) + (k2 : Int).toNat * 23 + 7, none⟩)), pv (.agg (vc ((gd l k2).ctx)).toArray), pv (.int .i64 (k3 : Int)), pv (.int .u32 (cntR l ((gd l k2).ctx) (k3 : Int))), pv (.slice a l.length c), pv (.int .i64 (k2 : Int)), pv (.int .i64 (k3 : Int)), pv (.pointer (some ⟨bkS (.slice a l.length c), ofS (.slice a l.length c) + (k2 : Int).toNat * 23, none⟩)), pv (.pointer (some ⟨bkS (.slice a l.length c), ofS (.slice a l.length c) + (k2 : Int).toNat * 23 + 7, none⟩)), pv (.pointer (some ⟨bkS (.slice a l.length c), ofS (.slice a l.length c) + (k2 : Int).toNat * 23 + 7 + (k3 : Int).toNat, none⟩)), pv (.int .u32 (vat ((gd l k2).ctx) k3)), pv (.int .u32 (min (vat ((gd l k2).ctx) k3) 1048576)), pv (.bool (!decide (cntR l ((gd l k2).ctx) (k3 : Int) = min (vat ((gd l k2).ctx) k3) 1048576)))] (fun _ _ => _) [16] (by kernel_rfl) hs ⟨?_, ?_, ?_, ?_, ?_, ?_, ?_, ?_, ?_, ?_, ?_, ?_, ?_, ?_, ?_, ?_, ?_, trivial⟩ ?_
              · exact ob [] [] rfl rfl fun D ρ w hs => L_move (V := .slice a l.length c) rfl ⟨rfl, hs⟩
              · exact ob [] [] rfl rfl fun D ρ w hs => L_move (V := .slice a l.length c) rfl ⟨rfl, hs⟩
              · exact ob [] [] rfl rfl fun D ρ w hs => L_move (V := .int .i64 (k2 : Int)) rfl ⟨rfl, hs⟩
              · exact ob [1, 2] [] rfl rfl fun D ρ w hs => L_ixR UD_82 SA_98.1 (Rd.own' hr hs) rfl rfl (by omega) (by rw [List.length_map]; omega) ⟨rfl, hs⟩
              · exact ob [3] [] rfl rfl fun D ρ w hs => L_fieldAddr FA_98_6 rfl ⟨rfl, hs⟩
              · exact ob [4] [] rfl rfl fun D ρ w hs => L_ldRA (j := 7) (vs := vc ((gd l k2).ctx)) k2 SA_53 (Rd.own' hr hs) (gd_at (by omega)) rfl rfl rfl (by omega) ⟨rfl, hs⟩
              · exact ob [] [] rfl rfl fun D ρ w hs => L_move (V := .int .i64 (k3 : Int)) rfl ⟨rfl, hs⟩
              · exact ob [0, 5, 6] [] rfl rfl fun D ρ w hs => L_callP (vs := [.slice a l.length c, .agg (vc ((gd l k2).ctx)).toArray, .int .i64 (k3 : Int)]) (V := .int .u32 (cntR l ((gd l k2).ctx) (k3 : Int))) EN_81 rfl rfl (rCount_ok _ a c l ((gd l k2).ctx) (k3 : Int) (by assumption) (by assumption) (Rd.own' hr hs)) hs fun _ hs => ⟨rfl, hs⟩
              · exact ob [] [] rfl rfl fun D ρ w hs => L_move (V := .slice a l.length c) rfl ⟨rfl, hs⟩
              · exact ob [] [] rfl rfl fun D ρ w hs => L_move (V := .int .i64 (k2 : Int)) rfl ⟨rfl, hs⟩
              · exact ob [] [] rfl rfl fun D ρ w hs => L_move (V := .int .i64 (k3 : Int)) rfl ⟨rfl, hs⟩
              · exact ob [8, 9] [] rfl rfl fun D ρ w hs => L_ixR UD_82 SA_98.1 (Rd.own' hr hs) rfl rfl (by omega) (by rw [List.length_map]; omega) ⟨rfl, hs⟩
              · exact ob [11] [] rfl rfl fun D ρ w hs => L_fieldAddr FA_98_6 rfl ⟨rfl, hs⟩
              · exact ob [10, 12] [] rfl rfl fun D ρ w hs => L_ixArr1 UD_53 S1_51.1 rfl rfl (by omega) (by omega) ⟨rfl, hs⟩
              · exact ob [13] [] rfl rfl fun D ρ w hs => L_ldR (j := 7 + k3) (V := .int .u32 (vat ((gd l k2).ctx) k3)) k2 S1_51 (Rd.own' hr hs) (gd_at (by omega)) (oc_at (by omega)) rfl (by omega) ⟨rfl, hs⟩
              · exact ob [14] [] rfl rfl fun D ρ w hs => L_min rfl rfl ⟨rfl, hs⟩
              · exact ob [7, 15] [] rfl rfl fun D ρ w hs => L_neq rfl rfl ⟨rfl, hs⟩
              rintro ρ1 w12 ρ2 hρ hs
              replace hρ : ρ2 = upd (mix [40, 41, 42, 43, 44, 45, 46, 47, 48, 49, 50, 51, 52, 53, 54, 55, 56] ρ1 _) 56 (.bool (!decide (cntR l ((gd l k2).ctx) (k3 : Int) = min (vat ((gd l k2).ctx) k3) 1048576))) := hρ
              subst hρ
              refine W_cond (t := !decide (cntR l ((gd l k2).ctx) (k3 : Int) = min (vat ((gd l k2).ctx) k3) 1048576)) rfl (fun c13 => ?_) (fun c13 => ?_)
              ·
                replace c13 := not_t c13
                replace c13 := of_decide_eq_false c13
                refine W_seq ?_
                refine W_region ?_
                refine RW_op (L_assign (V := .bool false) rfl ?_)
                refine RW_nil ?_
                refine W_ret ?_
                refine ⟨_, res_one (V := .bool false) Try.results41 rfl, ?_⟩
                refine ⟨congrArg Ending.returned ?_, hs.take 0⟩
                exact congrArg Value.bool (closedR_no (k := k2) (r := k3) (by omega) (by omega) c13).symm
              ·
                replace c13 := not_f c13
                replace c13 := of_decide_eq_true c13
                refine W_skip ?_
                refine W_region ?_
                refine RW_op (L_move (V := .int .i64 (k3 : Int)) rfl ?_)
                refine RW_op (L_add (a := (k3 : Int)) (b := 1) (c := (k3 : Int) + 1) rfl rfl (wr_i64 (by omega) (by omega)) ?_)
                refine RW_op (L_assign (V := .int .i64 ((k3 : Int) + 1)) rfl ?_)
                refine RW_nil ?_
                refine ⟨_, ?_, _, k3 + 1, upd_of (mix_of (ds := [2, 5, 36, 37, 38, 39, 40, 41, 42, 43, 44, 45, 46, 47, 48, 49, 50, 51, 52, 53, 54, 55, 56]) (by repeat (first | exact Agr.refl _ _ | refine Agr.upd ?_ rfl | refine Agr.mix ?_ rfl))) rfl, (by omega), (fun r hr => if e : r = k3 then by subst e; exact c13 else hr3 r (by omega)), rfl, hs.take 0⟩
                omega
            ·
              replace c10 := of_decide_eq_false c10
              refine W_exit ?_
              refine W_region ?_
              refine RW_op (L_move (V := .int .i64 (k2 : Int)) rfl ?_)
              refine RW_op (L_add (a := (k2 : Int)) (b := 1) (c := (k2 : Int) + 1) rfl rfl (wr_i64 (by omega) (by omega)) ?_)
              refine RW_op (L_assign (V := .int .i64 ((k2 : Int) + 1)) rfl ?_)
              refine RW_nil ?_
              refine ⟨_, ?_, _, k2 + 1, upd_of (mix_of (ds := [2, 4, 5, 30, 31, 32, 33, 34, 35, 36, 37, 38, 39, 40, 41, 42, 43, 44, 45, 46, 47, 48, 49, 50, 51, 52, 53, 54, 55, 56]) (by repeat (first | exact Agr.refl _ _ | refine Agr.upd ?_ rfl | refine Agr.mix ?_ rfl))) rfl, (by omega), (yes_step (p := fun j => knownR l (gd l j)) hkn (knownR_all fun r hr => hr3 r (by omega))), rfl, hs.take 0⟩
              omega
        ·
          replace c8 := of_decide_eq_false c8
          refine W_exit ?_
          refine W_seq ?_
          refine W_region ?_
          refine RW_op (L_assign (V := .bool true) rfl ?_)
          refine RW_nil ?_
          refine W_ret ?_
          refine ⟨_, res_one (V := .bool true) Try.results41 rfl, ?_⟩
          refine ⟨congrArg Ending.returned ?_, hs.take 0⟩
          exact congrArg Value.bool (closedR_yes (fun j hj => hbad j (by omega)) fun j hj => hkn j (by omega)).symm
set_option maxRecDepth 20000 in
set_option maxHeartbeats 4000000 in
theorem rUnder_ok (w : World) (v : Vec) (a : Option Addr) (c : Nat) (l : List Opn) (hl : ∀ o ∈ l, OpnOk o) (hlen : l.length ≤ 1000) (hr : Rd w (.slice a l.length c) 23 (l.map oc)) : Calls Try.prog 40 #[.slice a l.length c, .agg (vc v).toArray] w (fun e w' => ∃ x : Option Addr × Nat, e = .returned (.slice x.1 (underP l v).length x.2) ∧ Own w no w' [row (.slice x.1 (underP l v).length x.2) ((underP l v).map oc) 98 23] ∧ True) := by
  refine calls_of_Wn (n := 28) Try.func40 rfl Try.ntmps40 rfl ?_
  have hs := Own.start w
  have hn := hr.sml
  refine W_seq ?_
  refine W_region ?_
  refine RW_op (L_box (V := .agg (vc v).toArray) (cs := vc v) rfl rfl hs fun b1 w2 hs => ?_)
  refine RW_op (L_assign (V := .slice none 0 0) rfl ?_)
  refine RW_nil ?_
  refine W_seq ?_
  refine W_region ?_
  refine RW_op (L_assign (V := .slice none 0 0) rfl ?_)
  refine RW_nil ?_
  refine W_seq ?_
  refine W_seq ?_
  refine W_region ?_
  refine RW_op (L_assign (V := .int .i64 0) rfl ?_)
  refine RW_nil ?_
  refine W_block ?_
  replace hs := hs.more (row (.slice none 0 0) (List.map oc []) 98 23) (row_nil _ _ _ _)
  refine W_loopI (fun ρ μ ρ' w' => ∃ (ρo : Env) (k : Nat) (an : Option Addr) (cn : Nat) (out : List Opn), ρ' = upd (upd (mix [5, 6, 7, 8, 9, 10, 11, 12, 13, 14, 15, 16, 17, 18, 19, 20, 21, 22, 23, 24, 25, 26] ρo ρ) 6 (.int .i64 (k : Int))) 5 (.slice an out.length cn) ∧ (k ≤ l.length) ∧ (out.length ≤ k) ∧ (out = underP (l.take k) v) ∧ μ = l.length - k ∧ Own w no w' [blk b1 (vc v) 53, row (.slice an out.length cn) (out.map oc) 98 23]) ?_ ?_
  · exact ⟨_, _, 0, none, 0, [], upd_of (upd_of (mix_of (ds := [5, 6, 7, 8, 9, 10, 11, 12, 13, 14, 15, 16, 17, 18, 19, 20, 21, 22, 23, 24, 25, 26]) (Agr.refl _ _)) rfl) rfl, (by omega), (Nat.le_refl _), rfl, rfl, hs⟩
  · rintro μ ρ' w3 ⟨ρo, k, an, cn, out, rfl, hk, hol, hout, rfl, hs⟩
    refine W_seq ?_
    refine W_seq ?_
    refine W_region ?_
    refine RW_op (L_move (V := .int .i64 (k : Int)) rfl ?_)
    refine RW_op (L_move (V := .slice a l.length c) rfl ?_)
    refine RW_op (L_lenR (n := l.length) UD_82 (Rd.own' hr hs) (by simp) rfl ?_)
    refine RW_op (L_lss rfl rfl ?_)
    refine RW_nil ?_
    refine W_cond (t := decide ((k : Int) < ((l.length : Nat) : Int))) rfl (fun c4 => ?_) (fun c4 => ?_)
    ·
      replace c4 := of_decide_eq_true c4
      refine W_skip ?_
      refine W_seq ?_
      refine W_block ?_
      refine W_seq ?_
      have hok := hl _ (gd_mem (l := l) (i := k) (by omega))
      have hdk := hok.1
      refine W_regD HM [some 13, some 14, some 15, some 16, some 17, some 18, some 19] [] [0, 0, 0, 6, 14, 30, 63] [pv (.agg (vc v).toArray), pv (.slice a l.length c), pv (.int .i64 (k : Int)), pv (.pointer (some ⟨bkS (.slice a l.length c), ofS (.slice a l.length c) + (k : Int).toNat * 23, none⟩)), pv (.pointer (some ⟨bkS (.slice a l.length c), ofS (.slice a l.length c) + (k : Int).toNat * 23 + 0, none⟩)), pv (.agg (dc ((gd l k).dot)).toArray), pv (.bool (hasB v ((gd l k).dot)))] (fun _ _ => _) [6] (by kernel_rfl) hs ⟨?_, ?_, ?_, ?_, ?_, ?_, ?_, trivial⟩ ?_
      · exact ob [] [] rfl rfl fun D ρ w hs => L_ldW (cs := vc v) SA_53 hs 0 rfl rfl rfl ⟨rfl, hs⟩
      · exact ob [] [] rfl rfl fun D ρ w hs => L_move (V := .slice a l.length c) rfl ⟨rfl, hs⟩
      · exact ob [] [] rfl rfl fun D ρ w hs => L_move (V := .int .i64 (k : Int)) rfl ⟨rfl, hs⟩
      · exact ob [1, 2] [] rfl rfl fun D ρ w hs => L_ixR UD_82 SA_98.1 (Rd.own' hr hs) rfl rfl (by omega) (by rw [List.length_map]; omega) ⟨rfl, hs⟩
      · exact ob [3] [] rfl rfl fun D ρ w hs => L_fieldAddr FA_98_0 rfl ⟨rfl, hs⟩
      · exact ob [4] [] rfl rfl fun D ρ w hs => L_ldRA (j := 0) (vs := dc ((gd l k).dot)) k SA_96 (Rd.own' hr hs) (gd_at (by omega)) rfl rfl rfl (by omega) ⟨rfl, hs⟩
      · exact ob [0, 5] [] rfl rfl fun D ρ w hs => L_callP (vs := [.agg (vc v).toArray, .agg (dc ((gd l k).dot)).toArray]) (V := .bool (hasB v ((gd l k).dot))) EN_67 rfl rfl (rHas_ok _ v ((gd l k).dot) (by first | assumption | exact dotOk_mk (by omega) (by omega) (by omega) (by omega))) hs fun _ hs => ⟨rfl, hs⟩
      rintro ρ1 w6 ρ2 hρ hs
      replace hρ : ρ2 = upd (mix [13, 14, 15, 16, 17, 18, 19] ρ1 _) 19 (.bool (hasB v ((gd l k).dot))) := hρ
      subst hρ
      refine W_cond (t := hasB v ((gd l k).dot)) rfl (fun c7 => ?_) (fun c7 => ?_)
      ·
        refine W_region ?_
        refine RW_op (L_move (V := .slice an out.length cn) rfl ?_)
        refine RW_op (L_move (V := .slice a l.length c) rfl ?_)
        refine RW_op (L_move (V := .int .i64 (k : Int)) rfl ?_)
        refine RW_op (L_ixR UD_82 SA_98.1 (Rd.own' hr hs) rfl rfl (by omega) (by rw [List.length_map]; omega) ?_)
        refine RW_op (L_ldRA (j := 0) (vs := oc (gd l k)) k SA_98 (Rd.own' hr hs) (gd_at (by omega)) rfl rfl rfl (by omega) ?_)
        refine RW_op (L_bs (vals := [.agg (oc (gd l k)).toArray]) (ls := List.map oc ([gd l k] : List Opn)) EL_82 rfl rfl rfl (len_map (enc := oc) (fun _ => rfl) _) (one_map oc_one _) (Nat.le_of_ble_eq_true rfl) hs fun b8 w9 hs => ?_)
        refine RW_op (L_appN (ls' := (out ++ [gd l k]).map oc) (n := (out ++ [gd l k]).length) EL_82 hs 1 rfl rfl rfl (hs.rd 2 rfl) (one_map oc_one _) (by simp only [List.length_map, List.length_append, List.length_cons, List.length_nil]; omega) (by simp) (by simp) fun a10 c10 w11 hs => ?_)
        refine RW_op (L_assign (V := .slice a10 ((out ++ [gd l k]).length) c10) rfl ?_)
        refine RW_nil ?_
        refine W_region ?_
        refine RW_op (L_move (V := .int .i64 (k : Int)) rfl ?_)
        refine RW_op (L_add (a := (k : Int)) (b := 1) (c := (k : Int) + 1) rfl rfl (wr_i64 (by omega) (by omega)) ?_)
        refine RW_op (L_assign (V := .int .i64 ((k : Int) + 1)) rfl ?_)
        refine RW_nil ?_
        refine ⟨_, ?_, _, k + 1, a10, c10, out ++ [gd l k], upd_of (upd_of (mix_of (ds := [5, 6, 7, 8, 9, 10, 11, 12, 13, 14, 15, 16, 17, 18, 19, 20, 21, 22, 23, 24, 25, 26]) (by repeat (first | exact Agr.refl _ _ | refine Agr.upd ?_ rfl | refine Agr.mix ?_ rfl))) rfl) rfl, (by omega), (by first | omega | (rw [List.length_append, List.length_singleton]; omega)), (under_yes hout (by omega) c7), rfl, hs.take 2⟩
        omega
      ·
        refine W_skip ?_
        refine W_region ?_
        refine RW_op (L_move (V := .int .i64 (k : Int)) rfl ?_)
        refine RW_op (L_add (a := (k : Int)) (b := 1) (c := (k : Int) + 1) rfl rfl (wr_i64 (by omega) (by omega)) ?_)
        refine RW_op (L_assign (V := .int .i64 ((k : Int) + 1)) rfl ?_)
        refine RW_nil ?_
        refine ⟨_, ?_, _, k + 1, an, cn, out, upd_of (upd_of (mix_of (ds := [5, 6, 7, 8, 9, 10, 11, 12, 13, 14, 15, 16, 17, 18, 19, 20, 21, 22, 23, 24, 25, 26]) (by repeat (first | exact Agr.refl _ _ | refine Agr.upd ?_ rfl | refine Agr.mix ?_ rfl))) rfl) rfl, (by omega), (by first | omega | (rw [List.length_append, List.length_singleton]; omega)), (under_no hout (by omega) c7), rfl, hs.take 2⟩
        omega
    ·
      replace c4 := of_decide_eq_false c4
      refine W_exit ?_
      refine W_seq ?_
      refine W_region ?_
      refine RW_op (L_move (V := .slice an out.length cn) rfl ?_)
      refine RW_op (L_assign (V := .slice an out.length cn) rfl ?_)
      refine RW_nil ?_
      refine W_ret ?_
      refine ⟨_, res_one (V := .slice an out.length cn) Try.results40 rfl, ?_⟩
      have hX : out = underP l v := by rw [hout, take_all (by omega)]
      rw [hX] at hs ⊢
      exact ⟨(an, cn), rfl, hs.only 1 rfl, trivial⟩
end Tt
end Go.Proofs
namespace Go.Proofs
open Go Go.Vx Go.RowKit
namespace Tt
set_option maxRecDepth 20000 in
set_option maxHeartbeats 4000000 in
theorem hist_ok (w : World) (a : Option Addr) (c : Nat) (l : List Opn) (hl : ∀ o ∈ l, OpnOk o) (hr : Rd w (.slice a l.length c) 23 (l.map oc)) : Calls Try.prog 39 #[.slice a l.length c] w (fun e w' => e = .returned (.bool (histB l)) ∧ Own w no w' []) := by
  refine calls_of_Wn (n := 63) Try.func39 rfl Try.ntmps39 rfl ?_
  have hs := Own.start w
  have hn := hr.sml
  refine W_seq ?_
  refine W_region ?_
  refine RW_op (L_assign (V := .bool false) rfl ?_)
  refine RW_nil ?_
  refine W_seq ?_
  refine W_seq ?_
  refine W_regO [some 10, some 11, some 12, some 13, some 14, some 15, some 16, some 17] [] [0, 1, 3, 7, 15, 31, 63, 127] [pv (.slice a l.length c), pv (.int .i64 ((l.length : Nat) : Int)), pv (.bool (decide (40 < ((l.length : Nat) : Int)))), pv (.bool (decide (40 < ((l.length : Nat) : Int)))), pg ((decide (40 < ((l.length : Nat) : Int))) == false) (.slice a l.length c), pg ((decide (40 < ((l.length : Nat) : Int))) == false) (.bool (closedR l)), pg ((decide (40 < ((l.length : Nat) : Int))) == false) (.bool (!(closedR l))), pv (.bool ((decide (40 < ((l.length : Nat) : Int))) || (!(closedR l))))] (fun _ _ => _) [7] (by kernel_rfl) hs ⟨?_, ?_, ?_, ?_, ?_, ?_, ?_, ?_, trivial⟩ ?_
  · exact ob [] [] rfl rfl fun D ρ w hs => L_move (V := .slice a l.length c) rfl ⟨rfl, hs⟩
  · exact ob [0] [] rfl rfl fun D ρ w hs => L_lenR (n := l.length) UD_82 (Rd.own' hr hs) (by simp) rfl ⟨rfl, hs⟩
  · exact ob [1] [] rfl rfl fun D ρ w hs => L_gtr rfl rfl ⟨rfl, hs⟩
  · exact ob [2] [] rfl rfl fun D ρ w hs => L_move (V := .bool (decide (40 < ((l.length : Nat) : Int)))) rfl ⟨rfl, hs⟩
  · refine obg [3] [] (decide (40 < ((l.length : Nat) : Int))) rfl (fun _ => rfl) rfl (fun _ _ _ _ h => h) fun D ρ w hG hs => ?_
    have hgd := of_decide_eq_false (eq_of_beq hG)
    exact L_move (V := .slice a l.length c) rfl ⟨rfl, hs⟩
  · refine obgy [3, 4] [] [4] (decide (40 < ((l.length : Nat) : Int))) rfl (fun _ => rfl) rfl (fun _ _ _ _ h => h) (fun hG => ⟨hG, trivial⟩) fun D ρ w hG hs => ?_
    have hgd := of_decide_eq_false (eq_of_beq hG)
    exact L_callP (vs := [.slice a l.length c]) (V := .bool (closedR l)) EN_41 rfl rfl (rClosedO_ok _ a c l hl (by omega) (Rd.own' hr hs)) hs fun _ hs => ⟨rfl, hs⟩
  · refine obgy [3, 5] [] [5] (decide (40 < ((l.length : Nat) : Int))) rfl (fun _ => rfl) rfl (fun _ _ _ _ h => h) (fun hG => ⟨hG, trivial⟩) fun D ρ w hG hs => ?_
    have hgd := of_decide_eq_false (eq_of_beq hG)
    exact L_not rfl ⟨rfl, hs⟩
  · exact ob [3, 6] [] rfl rfl fun D ρ w hs => L_orC (h' := !(closedR l)) rfl rfl rfl ⟨rfl, hs⟩
  rintro ρ1 w2 ρ2 hρ hs
  replace hρ : ρ2 = upd (mix [10, 11, 12, 13, 14, 15, 16, 17] ρ1 _) 17 (.bool ((decide (40 < ((l.length : Nat) : Int))) || (!(closedR l)))) := hρ
  subst hρ
  refine W_cond (t := (decide (40 < ((l.length : Nat) : Int))) || (!(closedR l))) rfl (fun c3 => ?_) (fun c3 => ?_)
  ·
    refine W_seq ?_
    refine W_region ?_
    refine RW_op (L_assign (V := .bool false) rfl ?_)
    refine RW_nil ?_
    refine W_ret ?_
    refine ⟨_, res_one (V := .bool false) Try.results39 rfl, ?_⟩
    refine ⟨congrArg Ending.returned ?_, hs.take 0⟩
    have hc := c3
    rcases Nat.lt_or_ge 40 l.length with q | q
    · exact congrArg Value.bool (hist_len q).symm
    · refine congrArg Value.bool (hist_closed ?_).symm
      rw [decide_eq_false (by omega)] at hc; simpa using hc
  ·
    have c3r := or_r c3
    replace c3 := or_l c3
    replace c3 := of_decide_eq_false c3
    replace c3r := not_f c3r
    refine W_skip ?_
    refine W_seq ?_
    refine W_region ?_
    refine RW_op (L_alloc (cs := vc vzero) ZV_53 rfl hs fun b4 w5 hs => ?_)
    refine RW_nil ?_
    refine W_seq ?_
    refine W_seq ?_
    refine W_region ?_
    refine RW_op (L_move (V := .slice a l.length c) rfl ?_)
    refine RW_op (L_lenR (n := l.length) UD_82 (Rd.own' hr hs) (by simp) rfl ?_)
    refine RW_op (L_move (V := .int .i64 0) rfl ?_)
    refine RW_nil ?_
    refine W_block ?_
    refine W_loopI (fun ρ μ ρ' w' => ∃ (ρo : Env) (k : Nat) (u : Vec), ρ' = upd (mix [2, 5, 20, 21, 22, 23, 24, 25, 26, 27, 28, 29, 30, 31, 32, 33, 34, 35] ρo ρ) 20 (.int .i64 ((k : Nat) : Int)) ∧ (k ≤ l.length) ∧ (u = knownL (l.take k)) ∧ (∀ j : Nat, j < k → decide (readyI (knownL (l.take j)) (gd l j) = 0) = true) ∧ μ = l.length - k ∧ Own w no w' [blk b4 (vc u) 53]) ?_ ?_
    · exact ⟨_, _, 0, vzero, upd_of (mix_of (ds := [2, 5, 20, 21, 22, 23, 24, 25, 26, 27, 28, 29, 30, 31, 32, 33, 34, 35]) (Agr.refl _ _)) rfl, (by omega), rfl, (fun j hj => absurd hj (Nat.not_lt_zero j)), rfl, hs⟩
    · rintro μ ρ' w6 ⟨ρo, k, u, rfl, hk, hu, hrd, rfl, hs⟩
      refine W_seq ?_
      refine W_region ?_
      refine RW_op (L_lss rfl rfl ?_)
      refine RW_nil ?_
      refine W_seq ?_
      refine W_cond (t := decide (((k : Nat) : Int) < ((l.length : Nat) : Int))) rfl (fun c7 => ?_) (fun c7 => ?_)
      ·
        replace c7 := of_decide_eq_true c7
        refine W_skip ?_
        refine W_seq ?_
        refine W_block ?_
        refine W_seq ?_
        refine W_region ?_
        refine RW_op (L_ixR UD_82 SA_98.1 (Rd.own' hr hs) rfl rfl (by omega) (by rw [List.length_map]; omega) ?_)
        refine RW_op (L_ldRA (j := 0) (vs := oc (gd l k)) k SA_98 (Rd.own' hr hs) (gd_at (by omega)) rfl rfl rfl (by omega) ?_)
        refine RW_op (L_alloc (cs := oc (⟨(⟨0, 0⟩ : Dot), 0, 0, 0, 0, 0, vzero⟩ : Opn)) ZV_98 rfl hs fun b8 w9 hs => ?_)
        refine RW_op (L_st (V := .agg (oc (gd l k)).toArray) (vs := oc (gd l k)) (cs' := oc (gd l k)) SA_98.1 hs 1 rfl rfl rfl rfl rfl (Nat.le_of_ble_eq_true rfl) (oc_one _) (spl_whole rfl) fun w10 hs => ?_)
        refine RW_nil ?_
        refine W_seq ?_
        refine W_seq ?_
        refine W_region ?_
        refine RW_op (L_ldW (cs := vc u) SA_53 hs 0 rfl rfl rfl ?_)
        refine RW_op (L_ldW (cs := oc (gd l k)) SA_98 hs 1 rfl rfl rfl ?_)
        refine RW_op (L_callP (vs := [.agg (vc u).toArray, .agg (oc (gd l k)).toArray]) (V := .int .i64 (readyI u (gd l k))) EN_77 rfl rfl ?hc hs fun w11 hs => ?_)
        case hc => exact (rReady_ok _ u (gd l k) (hl _ (gd_mem (by omega))))
        refine RW_op (L_neq rfl rfl ?_)
        refine RW_nil ?_
        refine W_cond (t := !decide (readyI u (gd l k) = 0)) rfl (fun c12 => ?_) (fun c12 => ?_)
        ·
          replace c12 := not_t c12
          replace c12 := of_decide_eq_false c12
          refine W_seq ?_
          refine W_region ?_
          refine RW_op (L_assign (V := .bool false) rfl ?_)
          refine RW_nil ?_
          refine W_ret ?_
          refine ⟨_, res_one (V := .bool false) Try.results39 rfl, ?_⟩
          refine ⟨congrArg Ending.returned ?_, hs.take 0⟩
          exact congrArg Value.bool (hist_ready (k := k) (by omega) (by rw [← hu]; exact c12)).symm
        ·
          replace c12 := not_f c12
          replace c12 := of_decide_eq_true c12
          refine W_skip ?_
          have ⟨⟨⟨hp1, hp2⟩, hp3, hp4⟩, _⟩ := hl _ (gd_mem (l := l) (i := k) (by omega))
          have hp5 := (readyI_dot (hl _ (gd_mem (l := l) (i := k) (by omega))) c12).1.r1
          refine W_region ?_
          refine RW_op (L_fieldAddr FA_98_0 rfl ?_)
          refine RW_op (L_fieldAddr FA_96_0 rfl ?_)
          refine RW_op (L_ld (V := .int .u8 (((gd l k).dot).rep)) S1_5 hs 1 rfl rfl rfl ?_)
          refine RW_op (L_fieldAddr FA_98_0 rfl ?_)
          refine RW_op (L_fieldAddr FA_96_1 rfl ?_)
          refine RW_op (L_ld (V := .int .u32 (((gd l k).dot).seq)) S1_51 hs 1 rfl rfl rfl ?_)
          refine RW_op (L_ixArr1 UD_53 S1_51.1 rfl rfl (by omega) (by omega) ?_)
          refine RW_op (L_st1 (V := .int .u32 (((gd l k).dot).seq)) (cs' := vc (vset u (((gd l k).dot).rep).toNat (((gd l k).dot).seq))) S1_51 hs 0 rfl rfl rfl rfl (vc_lt (by omega)) (vc_setO (by omega) (by omega)) fun w13 hs => ?_)
          replace hs : Own w no w13 [blk b4 (vc (vset u (((gd l k).dot).rep).toNat (((gd l k).dot).seq))) 53, blk b8 (oc (gd l k)) 98] := hs
          refine RW_nil ?_
          refine W_region ?_
          refine RW_op (L_add (a := ((k : Nat) : Int)) (b := 1) (c := ((k + 1 : Nat) : Int)) rfl rfl (nat_i64 (by omega) (by omega)) ?_)
          refine RW_op (L_move (V := .int .i64 ((k + 1 : Nat) : Int)) rfl ?_)
          refine RW_nil ?_
          refine ⟨_, ?_, _, k + 1, vset u (((gd l k).dot).rep).toNat (((gd l k).dot).seq), upd_of (mix_of (ds := [2, 5, 20, 21, 22, 23, 24, 25, 26, 27, 28, 29, 30, 31, 32, 33, 34, 35]) (by repeat (first | exact Agr.refl _ _ | refine Agr.upd ?_ rfl | refine Agr.mix ?_ rfl))) rfl, (by omega), (known_next hu (by omega)), (yes_step hrd (decide_eq_true (by rw [← hu]; exact c12))), rfl, hs.take 1⟩
          omega
      ·
        replace c7 := of_decide_eq_false c7
        refine W_exit ?_
        refine W_seq ?_
        refine W_seq ?_
        refine W_region ?_
        refine RW_op (L_move (V := .slice a l.length c) rfl ?_)
        refine RW_op (L_lenR (n := l.length) UD_82 (Rd.own' hr hs) (by simp) rfl ?_)
        refine RW_op (L_move (V := .int .i64 0) rfl ?_)
        refine RW_nil ?_
        refine W_block ?_
        refine W_loopI (fun ρ μ ρ' w' => ∃ (ρo : Env) (i2 : Nat), ρ' = upd (mix [2, 7, 9, 38, 39, 40, 41, 42, 43, 44, 45, 46, 47, 48, 49, 50, 51, 52, 53, 54, 55, 56, 57, 58, 59, 60, 61, 62] ρo ρ) 38 (.int .i64 ((i2 : Nat) : Int)) ∧ (i2 ≤ l.length) ∧ (∀ i, i < i2 → ∀ j, j < l.length → deepB l i j = false) ∧ μ = l.length - i2 ∧ Own w no w' [blk b4 (vc u) 53]) ?_ ?_
        · exact ⟨_, _, 0, upd_of (mix_of (ds := [2, 7, 9, 38, 39, 40, 41, 42, 43, 44, 45, 46, 47, 48, 49, 50, 51, 52, 53, 54, 55, 56, 57, 58, 59, 60, 61, 62]) (Agr.refl _ _)) rfl, (by omega), (fun i hi => absurd hi (Nat.not_lt_zero i)), rfl, hs⟩
        · rintro μ ρ' w14 ⟨ρo, i2, rfl, hi2, hdp, rfl, hs⟩
          refine W_seq ?_
          refine W_region ?_
          refine RW_op (L_lss rfl rfl ?_)
          refine RW_nil ?_
          refine W_seq ?_
          refine W_cond (t := decide (((i2 : Nat) : Int) < ((l.length : Nat) : Int))) rfl (fun c15 => ?_) (fun c15 => ?_)
          ·
            replace c15 := of_decide_eq_true c15
            refine W_skip ?_
            refine W_seq ?_
            refine W_block ?_
            refine W_seq ?_
            refine W_region ?_
            refine RW_op (L_ixR UD_82 SA_98.1 (Rd.own' hr hs) rfl rfl (by omega) (by rw [List.length_map]; omega) ?_)
            refine RW_op (L_ldRA (j := 0) (vs := oc (gd l i2)) i2 SA_98 (Rd.own' hr hs) (gd_at (by omega)) rfl rfl rfl (by omega) ?_)
            refine RW_op (L_alloc (cs := oc (⟨(⟨0, 0⟩ : Dot), 0, 0, 0, 0, 0, vzero⟩ : Opn)) ZV_98 rfl hs fun b16 w17 hs => ?_)
            refine RW_op (L_st (V := .agg (oc (gd l i2)).toArray) (vs := oc (gd l i2)) (cs' := oc (gd l i2)) SA_98.1 hs 1 rfl rfl rfl rfl rfl (Nat.le_of_ble_eq_true rfl) (oc_one _) (spl_whole rfl) fun w18 hs => ?_)
            refine RW_nil ?_
            refine W_seq ?_
            refine W_region ?_
            refine RW_op (L_move (V := .slice a l.length c) rfl ?_)
            refine RW_op (L_lenR (n := l.length) UD_82 (Rd.own' hr hs) (by simp) rfl ?_)
            refine RW_op (L_move (V := .int .i64 0) rfl ?_)
            refine RW_nil ?_
            refine W_block ?_
            refine W_loopI (fun ρ μ ρ' w' => ∃ (ρo : Env) (j3 : Nat), ρ' = upd (mix [2, 9, 44, 45, 46, 47, 48, 49, 50, 51, 52, 53, 54, 55, 56, 57, 58, 59, 60, 61] ρo ρ) 44 (.int .i64 ((j3 : Nat) : Int)) ∧ (j3 ≤ l.length) ∧ (∀ j : Nat, j < j3 → deepB l i2 j = false) ∧ μ = l.length - j3 ∧ Own w no w' [blk b4 (vc u) 53, blk b16 (oc (gd l i2)) 98]) ?_ ?_
            · exact ⟨_, _, 0, upd_of (mix_of (ds := [2, 9, 44, 45, 46, 47, 48, 49, 50, 51, 52, 53, 54, 55, 56, 57, 58, 59, 60, 61]) (Agr.refl _ _)) rfl, (by omega), (fun j hj => absurd hj (Nat.not_lt_zero j)), rfl, hs⟩
            · rintro μ ρ' w19 ⟨ρo, j3, rfl, hj3, hdj, rfl, hs⟩
              refine W_seq ?_
              refine W_region ?_
              refine RW_op (L_lss rfl rfl ?_)
              refine RW_nil ?_
              refine W_seq ?_
              refine W_cond (t := decide (((j3 : Nat) : Int) < ((l.length : Nat) : Int))) rfl (fun c20 => ?_) (fun c20 => ?_)
              ·
                replace c20 := of_decide_eq_true c20
                refine W_skip ?_
                refine W_seq ?_
                refine W_block ?_
                refine W_seq ?_
                refine W_region ?_
                refine RW_op (L_ixR UD_82 SA_98.1 (Rd.own' hr hs) rfl rfl (by omega) (by rw [List.length_map]; omega) ?_)
                refine RW_op (L_ldRA (j := 0) (vs := oc (gd l j3)) j3 SA_98 (Rd.own' hr hs) (gd_at (by omega)) rfl rfl rfl (by omega) ?_)
                refine RW_op (L_alloc (cs := oc (⟨(⟨0, 0⟩ : Dot), 0, 0, 0, 0, 0, vzero⟩ : Opn)) ZV_98 rfl hs fun b21 w22 hs => ?_)
                replace hs : Own w no w22 [blk b4 (vc u) 53, blk b16 (oc (gd l i2)) 98, blk b21 (oc (⟨(⟨0, 0⟩ : Dot), 0, 0, 0, 0, 0, vzero⟩ : Opn)) 98] := hs
                refine RW_op (L_st (V := .agg (oc (gd l j3)).toArray) (vs := oc (gd l j3)) (cs' := oc (gd l j3)) SA_98.1 hs 2 rfl rfl rfl rfl rfl (Nat.le_of_ble_eq_true rfl) (oc_one _) (spl_whole rfl) fun w23 hs => ?_)
                refine RW_nil ?_
                refine W_seq ?_
                have hdj3 := (hl _ (gd_mem (l := l) (i := j3) (by omega))).1
                refine W_regO [some 48, some 49, some 50, some 51, some 52, some 53, some 54, some 55, some 56, some 57, some 58, some 59, some 60] [] [0, 1, 0, 4, 15, 31, 63, 127, 63, 319, 1023, 2047, 4095] [pv (.pointer (some ⟨b16, 0 + 7, none⟩)), pv (.agg (vc ((gd l i2).ctx)).toArray), pv (.pointer (some ⟨b21, 0 + 0, none⟩)), pv (.agg (dc ((gd l j3).dot)).toArray), pv (.bool (hasB ((gd l i2).ctx) ((gd l j3).dot))), pv (.bool (hasB ((gd l i2).ctx) ((gd l j3).dot))), pg ((hasB ((gd l i2).ctx) ((gd l j3).dot)) == true) (.pointer (some ⟨b21, 0 + 7, none⟩)), pg ((hasB ((gd l i2).ctx) ((gd l j3).dot)) == true) (.agg (vc ((gd l j3).ctx)).toArray), pg ((hasB ((gd l i2).ctx) ((gd l j3).dot)) == true) (.pointer (some ⟨b16, 0 + 7, none⟩)), pg ((hasB ((gd l i2).ctx) ((gd l j3).dot)) == true) (.agg (vc ((gd l i2).ctx)).toArray), pg ((hasB ((gd l i2).ctx) ((gd l j3).dot)) == true) (.bool (vle ((gd l j3).ctx) ((gd l i2).ctx))), pg ((hasB ((gd l i2).ctx) ((gd l j3).dot)) == true) (.bool (!(vle ((gd l j3).ctx) ((gd l i2).ctx)))), pv (.bool ((hasB ((gd l i2).ctx) ((gd l j3).dot)) && (!(vle ((gd l j3).ctx) ((gd l i2).ctx)))))] (fun _ _ => _) [12] (by kernel_rfl) hs ⟨?_, ?_, ?_, ?_, ?_, ?_, ?_, ?_, ?_, ?_, ?_, ?_, ?_, trivial⟩ ?_
                · exact ob [] [] rfl rfl fun D ρ w hs => L_fieldAddr FA_98_6 rfl ⟨rfl, hs⟩
                · exact ob [0] [] rfl rfl fun D ρ w hs => L_ldA (vs := vc ((gd l i2).ctx)) SA_53 hs 1 rfl rfl rfl rfl ⟨rfl, hs⟩
                · exact ob [] [] rfl rfl fun D ρ w hs => L_fieldAddr FA_98_0 rfl ⟨rfl, hs⟩
                · exact ob [2] [] rfl rfl fun D ρ w hs => L_ldA (vs := dc ((gd l j3).dot)) SA_96 hs 2 rfl rfl rfl rfl ⟨rfl, hs⟩
                · exact ob [1, 3] [] rfl rfl fun D ρ w hs => L_callP (vs := [.agg (vc ((gd l i2).ctx)).toArray, .agg (dc ((gd l j3).dot)).toArray]) (V := .bool (hasB ((gd l i2).ctx) ((gd l j3).dot))) EN_67 rfl rfl (rHas_ok _ ((gd l i2).ctx) ((gd l j3).dot) (by first | assumption | exact dotOk_mk (by omega) (by omega) (by omega) (by omega))) hs fun _ hs => ⟨rfl, hs⟩
                · exact ob [4] [] rfl rfl fun D ρ w hs => L_move (V := .bool (hasB ((gd l i2).ctx) ((gd l j3).dot))) rfl ⟨rfl, hs⟩
                · exact obg [5] [] (hasB ((gd l i2).ctx) ((gd l j3).dot)) rfl (fun _ => rfl) rfl (fun _ _ _ _ h => h) fun D ρ w hG hs => L_fieldAddr FA_98_6 rfl ⟨rfl, hs⟩
                · exact obgy [5, 6] [] [6] (hasB ((gd l i2).ctx) ((gd l j3).dot)) rfl (fun _ => rfl) rfl (fun _ _ _ _ h => h) (fun hG => ⟨hG, trivial⟩) fun D ρ w hG hs => L_ldA (vs := vc ((gd l j3).ctx)) SA_53 hs 2 rfl rfl rfl rfl ⟨rfl, hs⟩
                · exact obg [5] [] (hasB ((gd l i2).ctx) ((gd l j3).dot)) rfl (fun _ => rfl) rfl (fun _ _ _ _ h => h) fun D ρ w hG hs => L_fieldAddr FA_98_6 rfl ⟨rfl, hs⟩
                · exact obgy [5, 8] [] [8] (hasB ((gd l i2).ctx) ((gd l j3).dot)) rfl (fun _ => rfl) rfl (fun _ _ _ _ h => h) (fun hG => ⟨hG, trivial⟩) fun D ρ w hG hs => L_ldA (vs := vc ((gd l i2).ctx)) SA_53 hs 1 rfl rfl rfl rfl ⟨rfl, hs⟩
                · exact obgy [5, 7, 9] [] [7, 9] (hasB ((gd l i2).ctx) ((gd l j3).dot)) rfl (fun _ => rfl) rfl (fun _ _ _ _ h => h) (fun hG => ⟨hG, hG, trivial⟩) fun D ρ w hG hs => L_callP (vs := [.agg (vc ((gd l j3).ctx)).toArray, .agg (vc ((gd l i2).ctx)).toArray]) (V := .bool (vle ((gd l j3).ctx) ((gd l i2).ctx))) EN_78 rfl rfl (rBelow_ok _ ((gd l j3).ctx) ((gd l i2).ctx)) hs fun _ hs => ⟨rfl, hs⟩
                · exact obgy [5, 10] [] [10] (hasB ((gd l i2).ctx) ((gd l j3).dot)) rfl (fun _ => rfl) rfl (fun _ _ _ _ h => h) (fun hG => ⟨hG, trivial⟩) fun D ρ w hG hs => L_not rfl ⟨rfl, hs⟩
                · exact ob [5, 11] [] rfl rfl fun D ρ w hs => L_andC (h' := !(vle ((gd l j3).ctx) ((gd l i2).ctx))) rfl rfl rfl ⟨rfl, hs⟩
                rintro ρ1 w26 ρ2 hρ hs
                replace hρ : ρ2 = upd (mix [48, 49, 50, 51, 52, 53, 54, 55, 56, 57, 58, 59, 60] ρ1 _) 60 (.bool ((hasB ((gd l i2).ctx) ((gd l j3).dot)) && (!(vle ((gd l j3).ctx) ((gd l i2).ctx))))) := hρ
                subst hρ
                refine W_cond (t := (hasB ((gd l i2).ctx) ((gd l j3).dot)) && (!(vle ((gd l j3).ctx) ((gd l i2).ctx)))) rfl (fun c27 => ?_) (fun c27 => ?_)
                ·
                  have c27r := and_r c27
                  replace c27 := and_l c27
                  replace c27r := not_t c27r
                  refine W_seq ?_
                  refine W_region ?_
                  refine RW_op (L_assign (V := .bool false) rfl ?_)
                  refine RW_nil ?_
                  refine W_ret ?_
                  refine ⟨_, res_one (V := .bool false) Try.results39 rfl, ?_⟩
                  refine ⟨congrArg Ending.returned ?_, hs.take 0⟩
                  exact congrArg Value.bool (hist_deep (i := i2) (j := j3) (by omega) (by omega) (by unfold deepB; rw [c27, c27r]; rfl)).symm
                ·
                  refine W_skip ?_
                  refine W_region ?_
                  refine RW_op (L_add (a := ((j3 : Nat) : Int)) (b := 1) (c := ((j3 + 1 : Nat) : Int)) rfl rfl (nat_i64 (by omega) (by omega)) ?_)
                  refine RW_op (L_move (V := .int .i64 ((j3 + 1 : Nat) : Int)) rfl ?_)
                  refine RW_nil ?_
                  refine ⟨_, ?_, _, j3 + 1, upd_of (mix_of (ds := [2, 9, 44, 45, 46, 47, 48, 49, 50, 51, 52, 53, 54, 55, 56, 57, 58, 59, 60, 61]) (by repeat (first | exact Agr.refl _ _ | refine Agr.upd ?_ rfl | refine Agr.mix ?_ rfl))) rfl, (by omega), (no_step2 hdj (by unfold deepB; exact c27)), rfl, hs.take 2⟩
                  omega
              ·
                replace c20 := of_decide_eq_false c20
                refine W_exit ?_
                refine W_region ?_
                refine RW_op (L_add (a := ((i2 : Nat) : Int)) (b := 1) (c := ((i2 + 1 : Nat) : Int)) rfl rfl (nat_i64 (by omega) (by omega)) ?_)
                refine RW_op (L_move (V := .int .i64 ((i2 + 1 : Nat) : Int)) rfl ?_)
                refine RW_nil ?_
                refine ⟨_, ?_, _, i2 + 1, upd_of (mix_of (ds := [2, 7, 9, 38, 39, 40, 41, 42, 43, 44, 45, 46, 47, 48, 49, 50, 51, 52, 53, 54, 55, 56, 57, 58, 59, 60, 61, 62]) (by repeat (first | exact Agr.refl _ _ | refine Agr.upd ?_ rfl | refine Agr.mix ?_ rfl))) rfl, (by omega), (fun i hi j hj => by
  rcases Nat.lt_or_eq_of_le (Nat.le_of_lt_succ hi) with q | q
  · exact hdp i q j hj
  · subst q; exact hdj j (by omega)), rfl, hs.take 1⟩
                omega
          ·
            replace c15 := of_decide_eq_false c15
            refine W_exit ?_
            refine W_seq ?_
            refine W_region ?_
            refine RW_op (L_assign (V := .bool true) rfl ?_)
            refine RW_nil ?_
            refine W_ret ?_
            refine ⟨_, res_one (V := .bool true) Try.results39 rfl, ?_⟩
            refine ⟨congrArg Ending.returned ?_, hs.take 0⟩
            exact congrArg Value.bool (hist_yes (by omega) c3r (fun k hk => of_decide_eq_true (hrd k (by omega))) fun i hi j hj => hdp i (by omega) j hj).symm
end Tt
end Go.Proofs
namespace Go.Proofs
open Go Go.Vx Go.RowKit
namespace Tt
set_option maxRecDepth 20000 in
set_option maxHeartbeats 4000000 in
theorem all_ok8 (w : World) (a : Option Addr) (c : Nat) (l : List Opn) (hl : ∀ o ∈ l, OpnOk o) (hlen : l.length ≤ 40) (hq : Seq l) (hr : Rd w (.slice a l.length c) 23 (l.map oc)) : Calls Try.prog 42 #[.slice a l.length c] w (fun e w' => ∃ x : (Option Addr × Nat) × (Option Addr × Nat), e = .returned (.tuple #[.agg (vc (allE l).known ++ [(.slice x.1.1 (allE l).ents.length x.1.2 : Value), (.slice x.2.1 (allE l).ticks.length x.2.2 : Value)]).toArray, .bool true]) ∧ Own w no w' [row (.slice x.1.1 (allE l).ents.length x.1.2) ((allE l).ents.map cec) 128 7, row (.slice x.2.1 (allE l).ticks.length x.2.2) ((allE l).ticks.map lsc) 126 2] ∧ True) := by
  refine calls_of_Wn (n := 27) Try.func42 rfl Try.ntmps42 rfl ?_
  have hs := Own.start w
  have hn := hr.sml
  refine W_seq ?_
  refine W_region ?_
  refine RW_op (L_alloc (cs := (vc vzero) ++ [(.slice none 0 0 : Value), (.slice none 0 0 : Value) ]) ZV_62 rfl hs fun b1 w2 hs => ?_)
  refine RW_op (L_assign (V := .bool false) rfl ?_)
  refine RW_nil ?_
  refine W_seq ?_
  refine W_region ?_
  refine RW_op (L_alloc (cs := (vc vzero) ++ [(.slice none 0 0 : Value), (.slice none 0 0 : Value) ]) ZV_62 rfl hs fun b3 w4 hs => ?_)
  refine RW_nil ?_
  refine W_seq ?_
  refine W_seq ?_
  refine W_region ?_
  refine RW_op (L_move (V := .slice a l.length c) rfl ?_)
  refine RW_op (L_lenR (n := l.length) UD_82 (Rd.own' hr hs) (by simp) rfl ?_)
  refine RW_op (L_move (V := .int .i64 0) rfl ?_)
  refine RW_nil ?_
  refine W_block ?_
  replace hs := hs.more (row (.slice none 0 0) (List.map cec []) 128 7) (row_nil _ _ _ _)
  replace hs := hs.more (row (.slice none 0 0) (List.map lsc []) 126 2) (row_nil _ _ _ _)
  refine W_loopI (fun ρ μ ρ' w' => ∃ (ρo : Env) (k : Nat) (s : Sta) (ae : Option Addr) (ce : Nat) (at_ : Option Addr) (ct : Nat), ρ' = upd (mix [3, 6, 7, 8, 11, 12, 13, 14, 15, 16, 17, 18, 19, 20, 21, 22, 23, 24, 25] ρo ρ) 11 (.int .i64 ((k : Nat) : Int)) ∧ (k ≤ l.length) ∧ (s = allE (l.take k)) ∧ μ = l.length - k ∧ Own w no w' [blk b1 ((vc vzero) ++ [(.slice none 0 0 : Value), (.slice none 0 0 : Value) ]) 62, blk b3 ((vc s.known) ++ [(.slice ae s.ents.length ce : Value), (.slice at_ s.ticks.length ct : Value) ]) 62, row (.slice ae s.ents.length ce) (s.ents.map cec) 128 7, row (.slice at_ s.ticks.length ct) (s.ticks.map lsc) 126 2]) ?_ ?_
  · exact ⟨_, _, 0, szero, none, 0, none, 0, upd_of (mix_of (ds := [3, 6, 7, 8, 11, 12, 13, 14, 15, 16, 17, 18, 19, 20, 21, 22, 23, 24, 25]) (Agr.refl _ _)) rfl, (by omega), rfl, rfl, hs⟩
  · rintro μ ρ' w5 ⟨ρo, k, s, ae, ce, at_, ct, rfl, hk, hsk, rfl, hs⟩
    have hao := all_ok hq hsk
    refine W_seq ?_
    refine W_region ?_
    refine RW_op (L_lss rfl rfl ?_)
    refine RW_nil ?_
    refine W_seq ?_
    refine W_cond (t := decide (((k : Nat) : Int) < ((l.length : Nat) : Int))) rfl (fun c6 => ?_) (fun c6 => ?_)
    ·
      replace c6 := of_decide_eq_true c6
      refine W_skip ?_
      refine W_seq ?_
      refine W_block ?_
      refine W_seq ?_
      refine W_region ?_
      refine RW_op (L_ixR UD_82 SA_98.1 (Rd.own' hr hs) rfl rfl (by omega) (by rw [List.length_map]; omega) ?_)
      refine RW_op (L_ldRA (j := 0) (vs := oc (gd l k)) k SA_98 (Rd.own' hr hs) (gd_at (by omega)) rfl rfl rfl (by omega) ?_)
      refine RW_op (L_alloc (cs := oc (⟨(⟨0, 0⟩ : Dot), 0, 0, 0, 0, 0, vzero⟩ : Opn)) ZV_98 rfl hs fun b7 w8 hs => ?_)
      refine RW_op (L_st (V := .agg (oc (gd l k)).toArray) (vs := oc (gd l k)) (cs' := oc (gd l k)) SA_98.1 hs 4 rfl rfl rfl rfl rfl (Nat.le_of_ble_eq_true rfl) (oc_one _) (spl_whole rfl) fun w9 hs => ?_)
      replace hs : Own w no w9 [blk b1 ((vc vzero) ++ [(.slice none 0 0 : Value), (.slice none 0 0 : Value) ]) 62, blk b3 ((vc s.known) ++ [(.slice ae s.ents.length ce : Value), (.slice at_ s.ticks.length ct : Value) ]) 62, row (.slice ae s.ents.length ce) (s.ents.map cec) 128 7, row (.slice at_ s.ticks.length ct) (s.ticks.map lsc) 126 2, blk b7 (oc (gd l k)) 98] := hs
      refine RW_nil ?_
      refine W_seq ?_
      have han := all_next hq hsk (by omega)
      refine W_region ?_
      refine RW_op (L_ldW (cs := (vc s.known) ++ [(.slice ae s.ents.length ce : Value), (.slice at_ s.ticks.length ct : Value) ]) SA_62 hs 1 rfl rfl rfl ?_)
      refine RW_op (L_ldW (cs := oc (gd l k)) SA_98 hs 4 rfl rfl rfl ?_)
      refine RW_op (L_callX (α := (Option Addr × Nat) × (Option Addr × Nat)) (vs := [.agg ((vc s.known) ++ [(.slice ae s.ents.length ce : Value), (.slice at_ s.ticks.length ct : Value) ]).toArray, .agg (oc (gd l k)).toArray]) (V := fun x : (Option Addr × Nat) × (Option Addr × Nat) => .tuple #[.agg (vc (applyR s (gd l k)).known ++ [(.slice x.1.1 ((applyR s (gd l k)).ents).length x.1.2 : Value), (.slice x.2.1 ((applyR s (gd l k)).ticks).length x.2.2 : Value)]).toArray, .int .i64 (applyI s (gd l k))]) (Lo := fun x => [row (.slice x.1.1 ((applyR s (gd l k)).ents).length x.1.2) (((applyR s (gd l k)).ents).map cec) 128 7, row (.slice x.2.1 ((applyR s (gd l k)).ticks).length x.2.2) (((applyR s (gd l k)).ticks).map lsc) 126 2]) (F := fun _ _ => True) EN_45 rfl rfl ?hc hs fun x11 w10 hs _ => ?_)
      case hc => exact (cApply_ok _ s ae ce at_ ct (gd l k) (hl _ (gd_mem (by omega))) hao.1 (by omega) (by omega) (hs.rd 2 rfl) (hs.rd 3 rfl))
      refine RW_op (L_move (V := .tuple #[.agg ((vc ((applyR s (gd l k)).known)) ++ [(.slice x11.1.1 (((applyR s (gd l k)).ents).length) x11.1.2 : Value), (.slice x11.2.1 (((applyR s (gd l k)).ticks).length) x11.2.2 : Value) ]).toArray, .int .i64 (applyI s (gd l k))]) rfl ?_)
      refine RW_op (L_extract (V := .agg ((vc ((applyR s (gd l k)).known)) ++ [(.slice x11.1.1 (((applyR s (gd l k)).ents).length) x11.1.2 : Value), (.slice x11.2.1 (((applyR s (gd l k)).ticks).length) x11.2.2 : Value) ]).toArray) rfl rfl ?_)
      refine RW_op (L_extract (V := .int .i64 (applyI s (gd l k))) rfl rfl ?_)
      refine RW_op (L_alloc (cs := (vc vzero) ++ [(.slice none 0 0 : Value), (.slice none 0 0 : Value) ]) ZV_62 rfl hs fun b12 w13 hs => ?_)
      refine RW_op (L_st (V := .agg ((vc ((applyR s (gd l k)).known)) ++ [(.slice x11.1.1 (((applyR s (gd l k)).ents).length) x11.1.2 : Value), (.slice x11.2.1 (((applyR s (gd l k)).ticks).length) x11.2.2 : Value) ]).toArray) (vs := (vc ((applyR s (gd l k)).known)) ++ [(.slice x11.1.1 (((applyR s (gd l k)).ents).length) x11.1.2 : Value), (.slice x11.2.1 (((applyR s (gd l k)).ticks).length) x11.2.2 : Value) ]) (cs' := (vc ((applyR s (gd l k)).known)) ++ [(.slice x11.1.1 (((applyR s (gd l k)).ents).length) x11.1.2 : Value), (.slice x11.2.1 (((applyR s (gd l k)).ticks).length) x11.2.2 : Value) ]) SA_62.1 hs 7 rfl rfl rfl rfl rfl (Nat.le_of_ble_eq_true rfl) (one_app (vc_one _) (one_cons rfl (one_cons rfl one_nil))) (spl_whole rfl) fun w14 hs => ?_)
      refine RW_op (L_assign (V := .int .i64 (applyI s (gd l k))) rfl ?_)
      refine RW_nil ?_
      refine W_seq ?_
      refine W_seq ?_
      refine W_region ?_
      refine RW_op (L_move (V := .int .i64 (applyI s (gd l k))) rfl ?_)
      refine RW_op (opW_to (V := .bool (!decide (applyI s (gd l k) = 0))) (V' := .bool false) (L_neq rfl rfl ⟨rfl, rfl⟩) (congrArg Value.bool (by rw [han.1]; rfl)) ?_)
      refine RW_nil ?_
      refine W_condF rfl ?_
      refine W_skip ?_
      refine W_region ?_
      refine RW_op (L_ldW (cs := (vc ((applyR s (gd l k)).known)) ++ [(.slice x11.1.1 (((applyR s (gd l k)).ents).length) x11.1.2 : Value), (.slice x11.2.1 (((applyR s (gd l k)).ticks).length) x11.2.2 : Value) ]) SA_62 hs 7 rfl rfl rfl ?_)
      refine RW_op (L_st (V := .agg ((vc ((applyR s (gd l k)).known)) ++ [(.slice x11.1.1 (((applyR s (gd l k)).ents).length) x11.1.2 : Value), (.slice x11.2.1 (((applyR s (gd l k)).ticks).length) x11.2.2 : Value) ]).toArray) (vs := (vc ((applyR s (gd l k)).known)) ++ [(.slice x11.1.1 (((applyR s (gd l k)).ents).length) x11.1.2 : Value), (.slice x11.2.1 (((applyR s (gd l k)).ticks).length) x11.2.2 : Value) ]) (cs' := (vc ((applyR s (gd l k)).known)) ++ [(.slice x11.1.1 (((applyR s (gd l k)).ents).length) x11.1.2 : Value), (.slice x11.2.1 (((applyR s (gd l k)).ticks).length) x11.2.2 : Value) ]) SA_62.1 hs 1 rfl rfl rfl rfl rfl (Nat.le_of_ble_eq_true rfl) (one_app (vc_one _) (one_cons rfl (one_cons rfl one_nil))) (spl_whole rfl) fun w15 hs => ?_)
      replace hs : Own w no w15 [blk b1 ((vc vzero) ++ [(.slice none 0 0 : Value), (.slice none 0 0 : Value) ]) 62, blk b3 ((vc ((applyR s (gd l k)).known)) ++ [(.slice x11.1.1 (((applyR s (gd l k)).ents).length) x11.1.2 : Value), (.slice x11.2.1 (((applyR s (gd l k)).ticks).length) x11.2.2 : Value) ]) 62, row (.slice ae s.ents.length ce) (s.ents.map cec) 128 7, row (.slice at_ s.ticks.length ct) (s.ticks.map lsc) 126 2, blk b7 (oc (gd l k)) 98, row (.slice x11.1.1 (((applyR s (gd l k)).ents).length) x11.1.2) (((applyR s (gd l k)).ents).map cec) 128 7, row (.slice x11.2.1 (((applyR s (gd l k)).ticks).length) x11.2.2) (((applyR s (gd l k)).ticks).map lsc) 126 2, blk b12 ((vc ((applyR s (gd l k)).known)) ++ [(.slice x11.1.1 (((applyR s (gd l k)).ents).length) x11.1.2 : Value), (.slice x11.2.1 (((applyR s (gd l k)).ticks).length) x11.2.2 : Value) ]) 62] := hs
      refine RW_nil ?_
      refine W_region ?_
      refine RW_op (L_add (a := ((k : Nat) : Int)) (b := 1) (c := ((k + 1 : Nat) : Int)) rfl rfl (nat_i64 (by omega) (by omega)) ?_)
      refine RW_op (L_move (V := .int .i64 ((k + 1 : Nat) : Int)) rfl ?_)
      refine RW_nil ?_
      have ho := hs.sel [0, 1, 5, 6] (L' := [blk b1 ((vc vzero) ++ [(.slice none 0 0 : Value), (.slice none 0 0 : Value) ]) 62, blk b3 ((vc ((applyR s (gd l k)).known)) ++ [(.slice x11.1.1 (((applyR s (gd l k)).ents).length) x11.1.2 : Value), (.slice x11.2.1 (((applyR s (gd l k)).ticks).length) x11.2.2 : Value) ]) 62, row (.slice x11.1.1 (((applyR s (gd l k)).ents).length) x11.1.2) (((applyR s (gd l k)).ents).map cec) 128 7, row (.slice x11.2.1 (((applyR s (gd l k)).ticks).length) x11.2.2) (((applyR s (gd l k)).ticks).map lsc) 126 2]) (by decide) rfl
      replace hs := ho
      refine ⟨_, ?_, _, k + 1, (applyR s (gd l k)), x11.1.1, x11.1.2, x11.2.1, x11.2.2, upd_of (mix_of (ds := [3, 6, 7, 8, 11, 12, 13, 14, 15, 16, 17, 18, 19, 20, 21, 22, 23, 24, 25]) (by repeat (first | exact Agr.refl _ _ | refine Agr.upd ?_ rfl | refine Agr.mix ?_ rfl))) rfl, (by omega), han.2, rfl, hs.take 4⟩
      omega
    ·
      replace c6 := of_decide_eq_false c6
      refine W_exit ?_
      refine W_seq ?_
      refine W_region ?_
      refine RW_op (L_ldW (cs := (vc s.known) ++ [(.slice ae s.ents.length ce : Value), (.slice at_ s.ticks.length ct : Value) ]) SA_62 hs 1 rfl rfl rfl ?_)
      refine RW_op (L_st (V := .agg ((vc s.known) ++ [(.slice ae s.ents.length ce : Value), (.slice at_ s.ticks.length ct : Value) ]).toArray) (vs := (vc s.known) ++ [(.slice ae s.ents.length ce : Value), (.slice at_ s.ticks.length ct : Value) ]) (cs' := (vc s.known) ++ [(.slice ae s.ents.length ce : Value), (.slice at_ s.ticks.length ct : Value) ]) SA_62.1 hs 0 rfl rfl rfl rfl rfl (Nat.le_of_ble_eq_true rfl) (one_app (vc_one _) (one_cons rfl (one_cons rfl one_nil))) (spl_whole rfl) fun w16 hs => ?_)
      refine RW_op (L_assign (V := .bool true) rfl ?_)
      refine RW_nil ?_
      refine W_ret ?_
      refine ⟨_, res_cell2 (cs := (vc s.known) ++ [(.slice ae s.ents.length ce : Value), (.slice at_ s.ticks.length ct : Value) ]) (V := .bool true) Try.results42 SA_62 hs 0 rfl rfl rfl rfl, ?_⟩
      have hX : s = allE l := by rw [hsk, take_all (by omega)]
      rw [hX] at hs ⊢
      exact ⟨((ae, ce), (at_, ct)), rfl, hs.two 2 3 (by decide) rfl rfl, trivial⟩
end Tt
end Go.Proofs
namespace Go.Proofs
open Go Go.Vx Go.RowKit
namespace Tt
set_option maxRecDepth 20000 in
set_option maxHeartbeats 4000000 in
theorem age_ok (w : World) (x y : Cen) : Calls Try.prog 111 #[.agg (cec x).toArray, .agg (cec y).toArray] w (fun e w' => e = .returned (.int .i64 (ageI x y)) ∧ Own w no w' []) := by
  refine calls_of_Wn (n := 26) Try.func111 rfl Try.ntmps111 rfl ?_
  have hs := Own.start w
  refine W_seq ?_
  refine W_region ?_
  refine RW_op (L_box (V := .agg (cec x).toArray) (cs := cec x) rfl rfl hs fun b1 w2 hs => ?_)
  refine RW_op (L_box (V := .agg (cec y).toArray) (cs := cec y) rfl rfl hs fun b3 w4 hs => ?_)
  refine RW_op (L_assign (V := .int .i64 0) rfl ?_)
  refine RW_nil ?_
  refine W_seq ?_
  replace hs := hs.more emp trivial
  refine W_regD HM [some 5, some 6, some 7, some 8, some 9, some 10, some 11, some 12, some 13, some 14, some 15, some 16, some 17, some 18, some 19, some 20, some 21, some 22, some 23, some 24, some 25, some 4] [[], [], [], [], [], [], [], [], [], [], [], [], [], [], [], [], [], [], [], [24]] [0, 1, 0, 4, 15, 0, 32, 96, 0, 256, 768, 2047, 0, 4096, 12288, 0, 32768, 98304, 262143, 524287, 1048575, 2097151] [pv (.pointer (some ⟨b1, 0 + 6, none⟩)), pv (.int .u64 x.count), pv (.pointer (some ⟨b3, 0 + 6, none⟩)), pv (.int .u64 y.count), pv (.int .i64 (cmpI x.count y.count)), pv (.pointer (some ⟨b1, 0 + 4, none⟩)), pv (.pointer (some ⟨b1, 0 + 4 + 0, none⟩)), pv (.int .u8 x.dot.rep), pv (.pointer (some ⟨b3, 0 + 4, none⟩)), pv (.pointer (some ⟨b3, 0 + 4 + 0, none⟩)), pv (.int .u8 y.dot.rep), pv (.int .i64 (cmpI x.dot.rep y.dot.rep)), pv (.pointer (some ⟨b1, 0 + 4, none⟩)), pv (.pointer (some ⟨b1, 0 + 4 + 1, none⟩)), pv (.int .u32 x.dot.seq), pv (.pointer (some ⟨b3, 0 + 4, none⟩)), pv (.pointer (some ⟨b3, 0 + 4 + 1, none⟩)), pv (.int .u32 y.dot.seq), pv (.int .i64 (cmpI x.dot.seq y.dot.seq)), (true, fun ρ => .slice (some ⟨(bOf (ρ 24)), 0, none⟩) 3 3), pv (.int .i64 (orI [cmpI x.count y.count, cmpI x.dot.rep y.dot.rep, cmpI x.dot.seq y.dot.seq])), pv (.int .i64 (orI [cmpI x.count y.count, cmpI x.dot.rep y.dot.rep, cmpI x.dot.seq y.dot.seq]))] (fun D ρ => [blk b1 (cec x) 128, blk b3 (cec y) 128, cond (D 19) (row (.slice (some ⟨(bOf (ρ 24)), 0, none⟩) 3 3) ([cmpI x.count y.count, cmpI x.dot.rep y.dot.rep, cmpI x.dot.seq y.dot.seq].map (ic .i64)) 3 1) (emp)]) [21] (by kernel_rfl) hs ⟨?_, ?_, ?_, ?_, ?_, ?_, ?_, ?_, ?_, ?_, ?_, ?_, ?_, ?_, ?_, ?_, ?_, ?_, ?_, ?_, ?_, ?_, trivial⟩ ?_
  · exact ob [] [] rfl rfl fun D ρ w hs => L_fieldAddr FA_128_5 rfl ⟨rfl, hs⟩
  · exact ob [0] [] rfl rfl fun D ρ w hs => L_ld (V := .int .u64 x.count) S1_92 hs 0 rfl rfl rfl ⟨rfl, hs⟩
  · exact ob [] [] rfl rfl fun D ρ w hs => L_fieldAddr FA_128_5 rfl ⟨rfl, hs⟩
  · exact ob [2] [] rfl rfl fun D ρ w hs => L_ld (V := .int .u64 y.count) S1_92 hs 1 rfl rfl rfl ⟨rfl, hs⟩
  · exact ob [1, 3] [] rfl rfl fun D ρ w hs => L_callP (vs := [.int .u64 x.count, .int .u64 y.count]) (V := .int .i64 (cmpI x.count y.count)) EN_140 rfl rfl (cmp_uint64_ok _ x.count y.count) hs fun _ hs => ⟨rfl, hs⟩
  · exact ob [] [] rfl rfl fun D ρ w hs => L_fieldAddr FA_128_4 rfl ⟨rfl, hs⟩
  · exact ob [5] [] rfl rfl fun D ρ w hs => L_fieldAddr FA_96_0 rfl ⟨rfl, hs⟩
  · exact ob [6] [] rfl rfl fun D ρ w hs => L_ld (V := .int .u8 x.dot.rep) S1_5 hs 0 rfl rfl rfl ⟨rfl, hs⟩
  · exact ob [] [] rfl rfl fun D ρ w hs => L_fieldAddr FA_128_4 rfl ⟨rfl, hs⟩
  · exact ob [8] [] rfl rfl fun D ρ w hs => L_fieldAddr FA_96_0 rfl ⟨rfl, hs⟩
  · exact ob [9] [] rfl rfl fun D ρ w hs => L_ld (V := .int .u8 y.dot.rep) S1_5 hs 1 rfl rfl rfl ⟨rfl, hs⟩
  · exact ob [7, 10] [] rfl rfl fun D ρ w hs => L_callP (vs := [.int .u8 x.dot.rep, .int .u8 y.dot.rep]) (V := .int .i64 (cmpI x.dot.rep y.dot.rep)) EN_104 rfl rfl (cmp_uint8_ok _ x.dot.rep y.dot.rep) hs fun _ hs => ⟨rfl, hs⟩
  · exact ob [] [] rfl rfl fun D ρ w hs => L_fieldAddr FA_128_4 rfl ⟨rfl, hs⟩
  · exact ob [12] [] rfl rfl fun D ρ w hs => L_fieldAddr FA_96_1 rfl ⟨rfl, hs⟩
  · exact ob [13] [] rfl rfl fun D ρ w hs => L_ld (V := .int .u32 x.dot.seq) S1_51 hs 0 rfl rfl rfl ⟨rfl, hs⟩
  · exact ob [] [] rfl rfl fun D ρ w hs => L_fieldAddr FA_128_4 rfl ⟨rfl, hs⟩
  · exact ob [15] [] rfl rfl fun D ρ w hs => L_fieldAddr FA_96_1 rfl ⟨rfl, hs⟩
  · exact ob [16] [] rfl rfl fun D ρ w hs => L_ld (V := .int .u32 y.dot.seq) S1_51 hs 1 rfl rfl rfl ⟨rfl, hs⟩
  · exact ob [14, 17] [] rfl rfl fun D ρ w hs => L_callP (vs := [.int .u32 x.dot.seq, .int .u32 y.dot.seq]) (V := .int .i64 (cmpI x.dot.seq y.dot.seq)) EN_105 rfl rfl (cmp_uint32_ok _ x.dot.seq y.dot.seq) hs fun _ hs => ⟨rfl, hs⟩
  · exact ob [4, 11, 18] [] rfl rfl fun D ρ w hs => L_bs (vals := [.int .i64 (cmpI x.count y.count), .int .i64 (cmpI x.dot.rep y.dot.rep), .int .i64 (cmpI x.dot.seq y.dot.seq)]) (ls := List.map (ic .i64) ([cmpI x.count y.count, cmpI x.dot.rep y.dot.rep, cmpI x.dot.seq y.dot.seq] : List Int)) EL_198 rfl rfl rfl (len_map (enc := (ic .i64)) (fun _ => rfl) _) (one_map (ic_one .i64) _) (Nat.le_of_ble_eq_true rfl) hs fun _ _ hs => ⟨rfl, hs.put 2 (Nat.le_of_ble_eq_true rfl)⟩
  · exact ob [19] [] rfl rfl fun D ρ w hs => L_callP (vs := [.slice (some ⟨(bOf (ρ 24)), 0, none⟩) 3 3]) (V := .int .i64 (orI [cmpI x.count y.count, cmpI x.dot.rep y.dot.rep, cmpI x.dot.seq y.dot.seq])) EN_103 rfl rfl (or_ok _ (some ⟨(bOf (ρ 24)), 0, none⟩) 3 [cmpI x.count y.count, cmpI x.dot.rep y.dot.rep, cmpI x.dot.seq y.dot.seq] (hs.rd 2 rfl)) hs fun _ hs => ⟨rfl, hs⟩
  · exact ob [20] [] rfl rfl fun D ρ w hs => L_assign (V := .int .i64 (orI [cmpI x.count y.count, cmpI x.dot.rep y.dot.rep, cmpI x.dot.seq y.dot.seq])) rfl ⟨rfl, hs⟩
  rintro ρ1 w10 ρ2 hρ hs
  replace hρ : ρ2 = upd (mix [5, 6, 7, 8, 9, 10, 11, 12, 13, 14, 15, 16, 17, 18, 19, 20, 21, 22, 23, 24, 25, 4] ρ1 _) 4 (.int .i64 (orI [cmpI x.count y.count, cmpI x.dot.rep y.dot.rep, cmpI x.dot.seq y.dot.seq])) := hρ
  replace hs : Own w no w10 [blk b1 (cec x) 128, blk b3 (cec y) 128, row (.slice (some ⟨(bOf (ρ1 24)), 0, none⟩) 3 3) ([cmpI x.count y.count, cmpI x.dot.rep y.dot.rep, cmpI x.dot.seq y.dot.seq].map (ic .i64)) 3 1] := hs
  generalize (bOf (ρ1 24)) = b11 at hs
  subst hρ
  refine W_ret ?_
  refine ⟨_, res_one (V := .int .i64 (orI [cmpI x.count y.count, cmpI x.dot.rep y.dot.rep, cmpI x.dot.seq y.dot.seq])) Try.results111 rfl, ?_⟩
  refine ⟨congrArg Ending.returned ?_, hs.take 0⟩
  rfl
set_option maxRecDepth 20000 in
set_option maxHeartbeats 4000000 in
theorem view1_ok (w : World) (x y : Cen) : Calls Try.prog 72 #[.agg (cec x).toArray, .agg (cec y).toArray] w (fun e w' => e = .returned (.int .i64 (cmpI x.item y.item)) ∧ Own w no w' []) := by
  refine calls_of_Wn (n := 10) Try.func72 rfl Try.ntmps72 rfl ?_
  have hs := Own.start w
  refine W_seq ?_
  refine W_region ?_
  refine RW_op (L_box (V := .agg (cec x).toArray) (cs := cec x) rfl rfl hs fun b1 w2 hs => ?_)
  refine RW_op (L_box (V := .agg (cec y).toArray) (cs := cec y) rfl rfl hs fun b3 w4 hs => ?_)
  refine RW_op (L_assign (V := .int .i64 0) rfl ?_)
  refine RW_nil ?_
  refine W_seq ?_
  refine W_region ?_
  refine RW_op (L_fieldAddr FA_128_1 rfl ?_)
  refine RW_op (L_ld (V := .int .u16 x.item) S1_70 hs 0 rfl rfl rfl ?_)
  refine RW_op (L_fieldAddr FA_128_1 rfl ?_)
  refine RW_op (L_ld (V := .int .u16 y.item) S1_70 hs 1 rfl rfl rfl ?_)
  refine RW_op (L_callP (vs := [.int .u16 x.item, .int .u16 y.item]) (V := .int .i64 (cmpI x.item y.item)) EN_73 rfl rfl ?hc hs fun w5 hs => ?_)
  case hc => exact (cmp_uint16_ok _ x.item y.item)
  refine RW_op (L_assign (V := .int .i64 (cmpI x.item y.item)) rfl ?_)
  refine RW_nil ?_
  refine W_ret ?_
  refine ⟨_, res_one (V := .int .i64 (cmpI x.item y.item)) Try.results72 rfl, ?_⟩
  refine ⟨congrArg Ending.returned ?_, hs.take 0⟩
  rfl
set_option maxRecDepth 20000 in
set_option maxHeartbeats 4000000 in
theorem line_ok (w : World) (item : Int) (a : Option Addr) (c : Nat) (l : List Cen) (hl : ∀ e ∈ l, CenOk e ∧ 1 ≤ e.count) (hr : Rd w (.slice a l.length c) 7 (l.map cec)) : Calls Try.prog 74 #[.int .u16 item, .slice a l.length c] w (fun e w' => e = .returned (.agg (lc ⟨item, qtyL l⟩).toArray) ∧ Own w no w' []) := by
  refine calls_of_Wn (n := 38) Try.func74 rfl Try.ntmps74 rfl ?_
  have hs := Own.start w
  have hn1 := hr.sml
  refine W_seq ?_
  refine W_region ?_
  refine RW_op (L_alloc (cs := lc (⟨0, 0⟩ : Line)) ZV_102 rfl hs fun b1 w2 hs => ?_)
  refine RW_nil ?_
  refine W_seq ?_
  refine W_region ?_
  refine RW_op (L_alloc (cs := cec (⟨0, 0, 0, 0, (⟨0, 0⟩ : Dot), 0⟩ : Cen)) ZV_128 rfl hs fun b3 w4 hs => ?_)
  refine RW_nil ?_
  refine W_seq ?_
  refine W_region ?_
  refine RW_op (L_assign (V := .int .u32 0) rfl ?_)
  refine RW_nil ?_
  refine W_seq ?_
  refine W_seq ?_
  refine W_region ?_
  refine RW_op (L_move (V := .slice a l.length c) rfl ?_)
  refine RW_op (L_lenR (n := l.length) UD_59 (Rd.own' hr hs) (by simp) rfl ?_)
  refine RW_op (L_move (V := .int .i64 0) rfl ?_)
  refine RW_nil ?_
  refine W_block ?_
  refine W_loopI (fun ρ μ ρ' w' => ∃ (ρo : Env) (k : Nat) (sm : Int) (u : Cen), ρ' = upd (upd (mix [6, 8, 11, 12, 13, 14, 15, 16, 17, 18, 19, 20, 21, 22, 23, 24, 25, 26, 27, 28, 29, 30] ρo ρ) 11 (.int .i64 ((k : Nat) : Int))) 6 (.int .u32 sm) ∧ (k ≤ l.length) ∧ (sm = sumE (l.take k)) ∧ (u = (l.take k).foldl setF cz) ∧ μ = l.length - k ∧ Own w no w' [blk b1 (lc (⟨0, 0⟩ : Line)) 102, blk b3 (cec u) 128]) ?_ ?_
  · exact ⟨_, _, 0, 0, cz, upd_of (upd_of (mix_of (ds := [6, 8, 11, 12, 13, 14, 15, 16, 17, 18, 19, 20, 21, 22, 23, 24, 25, 26, 27, 28, 29, 30]) (Agr.refl _ _)) rfl) rfl, (by omega), rfl, rfl, rfl, hs⟩
  · rintro μ ρ' w5 ⟨ρo, k, sm, u, rfl, hk, hsm, hset, rfl, hs⟩
    refine W_seq ?_
    refine W_region ?_
    refine RW_op (L_lss rfl rfl ?_)
    refine RW_nil ?_
    refine W_seq ?_
    refine W_cond (t := decide (((k : Nat) : Int) < ((l.length : Nat) : Int))) rfl (fun c6 => ?_) (fun c6 => ?_)
    ·
      replace c6 := of_decide_eq_true c6
      refine W_skip ?_
      refine W_seq ?_
      refine W_block ?_
      refine W_seq ?_
      refine W_region ?_
      refine RW_op (L_ixR UD_59 SA_128.1 (Rd.own' hr hs) rfl rfl (by omega) (by rw [List.length_map]; omega) ?_)
      refine RW_op (L_ldRA (j := 0) (vs := cec (gd l k)) k SA_128 (Rd.own' hr hs) (gd_at (by omega)) rfl rfl rfl (by omega) ?_)
      refine RW_op (L_alloc (cs := cec (⟨0, 0, 0, 0, (⟨0, 0⟩ : Dot), 0⟩ : Cen)) ZV_128 rfl hs fun b7 w8 hs => ?_)
      refine RW_op (L_st (V := .agg (cec (gd l k)).toArray) (vs := cec (gd l k)) (cs' := cec (gd l k)) SA_128.1 hs 2 rfl rfl rfl rfl rfl (Nat.le_of_ble_eq_true rfl) (cec_one _) (spl_whole rfl) fun w9 hs => ?_)
      replace hs : Own w no w9 [blk b1 (lc (⟨0, 0⟩ : Line)) 102, blk b3 (cec u) 128, blk b7 (cec (gd l k)) 128] := hs
      refine RW_nil ?_
      refine W_block ?_
      refine W_seq ?_
      refine W_region ?_
      refine RW_op (L_fieldAddr FA_128_3 rfl ?_)
      refine RW_op (L_ld (V := .int .u8 ((gd l k).kind)) S1_5 hs 2 rfl rfl rfl ?_)
      refine RW_op (L_eql rfl rfl ?_)
      refine RW_op (L_assign (V := .bool (decide ((gd l k).kind = 1))) rfl ?_)
      refine RW_nil ?_
      refine W_cond (t := decide ((gd l k).kind = 1)) rfl (fun c10 => ?_) (fun c10 => ?_)
      ·
        replace c10 := of_decide_eq_true c10
        have ⟨hq1, hq2⟩ := (hl _ (gd_mem (l := l) (i := k) (by omega))).1.2.2.1
        refine W_region ?_
        refine RW_op (L_move (V := .int .u32 sm) rfl ?_)
        refine RW_op (L_fieldAddr FA_128_2 rfl ?_)
        refine RW_op (L_ld (V := .int .u16 ((gd l k).qty)) S1_70 hs 2 rfl rfl rfl ?_)
        refine RW_op (L_conv UD_70 UD_51 rfl (wr_u32 (by omega) (by omega)) ?_)
        refine RW_op (L_add (a := sm) (b := (gd l k).qty) (c := (sm + ((gd l k).qty)) % 4294967296) rfl rfl (wm_u32 _) ?_)
        refine RW_op (L_assign (V := .int .u32 ((sm + ((gd l k).qty)) % 4294967296)) rfl ?_)
        refine RW_nil ?_
        refine W_region ?_
        refine RW_op (L_add (a := ((k : Nat) : Int)) (b := 1) (c := ((k + 1 : Nat) : Int)) rfl rfl (nat_i64 (by omega) (by omega)) ?_)
        refine RW_op (L_move (V := .int .i64 ((k + 1 : Nat) : Int)) rfl ?_)
        refine RW_nil ?_
        refine ⟨_, ?_, _, k + 1, (sm + ((gd l k).qty)) % 4294967296, u, upd_of (upd_of (mix_of (ds := [6, 8, 11, 12, 13, 14, 15, 16, 17, 18, 19, 20, 21, 22, 23, 24, 25, 26, 27, 28, 29, 30]) (by repeat (first | exact Agr.refl _ _ | refine Agr.upd ?_ rfl | refine Agr.mix ?_ rfl))) rfl) rfl, (by omega), (sumE_yes hsm (by omega) c10), (by rw [← setF_next hset (by omega), setF_kind c10]), rfl, hs.take 2⟩
        omega
      ·
        replace c10 := of_decide_eq_false c10
        refine W_seq ?_
        refine W_region ?_
        refine RW_op (L_ldW (cs := cec (gd l k)) SA_128 hs 2 rfl rfl rfl ?_)
        refine RW_op (L_ldW (cs := cec u) SA_128 hs 1 rfl rfl rfl ?_)
        refine RW_op (L_callP (vs := [.agg (cec (gd l k)).toArray, .agg (cec u).toArray]) (V := .int .i64 (ageI (gd l k) u)) EN_111 rfl rfl ?hc hs fun w11 hs => ?_)
        case hc => exact (age_ok _ (gd l k) u)
        refine RW_op (opW_to (V := .bool (decide (0 < ageI (gd l k) u))) (V' := .bool (lessC u (gd l k))) (L_gtr rfl rfl ⟨rfl, rfl⟩) (congrArg Value.bool (age_gt _ _)) ?_)
        refine RW_op (L_assign (V := .bool (lessC u (gd l k))) rfl ?_)
        refine RW_nil ?_
        refine W_cond (t := lessC u (gd l k)) rfl (fun c12 => ?_) (fun c12 => ?_)
        ·
          refine W_region ?_
          refine RW_op (L_ldW (cs := cec (gd l k)) SA_128 hs 2 rfl rfl rfl ?_)
          refine RW_op (L_st (V := .agg (cec (gd l k)).toArray) (vs := cec (gd l k)) (cs' := cec (gd l k)) SA_128.1 hs 1 rfl rfl rfl rfl rfl (Nat.le_of_ble_eq_true rfl) (cec_one _) (spl_whole rfl) fun w13 hs => ?_)
          refine RW_nil ?_
          refine W_region ?_
          refine RW_op (L_add (a := ((k : Nat) : Int)) (b := 1) (c := ((k + 1 : Nat) : Int)) rfl rfl (nat_i64 (by omega) (by omega)) ?_)
          refine RW_op (L_move (V := .int .i64 ((k + 1 : Nat) : Int)) rfl ?_)
          refine RW_nil ?_
          refine ⟨_, ?_, _, k + 1, sm, gd l k, upd_of (upd_of (mix_of (ds := [6, 8, 11, 12, 13, 14, 15, 16, 17, 18, 19, 20, 21, 22, 23, 24, 25, 26, 27, 28, 29, 30]) (by repeat (first | exact Agr.refl _ _ | refine Agr.upd ?_ rfl | refine Agr.mix ?_ rfl))) rfl) rfl, (by omega), (sumE_no hsm (by omega) c10), (by rw [← setF_next hset (by omega), setF_yes c10 c12]), rfl, hs.take 2⟩
          omega
        ·
          refine W_skip ?_
          refine W_region ?_
          refine RW_op (L_add (a := ((k : Nat) : Int)) (b := 1) (c := ((k + 1 : Nat) : Int)) rfl rfl (nat_i64 (by omega) (by omega)) ?_)
          refine RW_op (L_move (V := .int .i64 ((k + 1 : Nat) : Int)) rfl ?_)
          refine RW_nil ?_
          refine ⟨_, ?_, _, k + 1, sm, u, upd_of (upd_of (mix_of (ds := [6, 8, 11, 12, 13, 14, 15, 16, 17, 18, 19, 20, 21, 22, 23, 24, 25, 26, 27, 28, 29, 30]) (by repeat (first | exact Agr.refl _ _ | refine Agr.upd ?_ rfl | refine Agr.mix ?_ rfl))) rfl) rfl, (by omega), (sumE_no hsm (by omega) c10), (by rw [← setF_next hset (by omega), setF_no c10 c12]), rfl, hs.take 2⟩
          omega
    ·
      replace c6 := of_decide_eq_false c6
      refine W_exit ?_
      refine W_seq ?_
      have ⟨hq1, hq2⟩ : 0 ≤ u.qty ∧ u.qty < 65536 := by rw [hset]; exact setF_qty fun e he => (hl e (List.mem_of_mem_take he)).1
      refine W_region ?_
      refine RW_op (L_move (V := .int .u16 item) rfl ?_)
      refine RW_op (L_move (V := .int .u32 sm) rfl ?_)
      refine RW_op (L_fieldAddr FA_128_2 rfl ?_)
      refine RW_op (L_ld (V := .int .u16 u.qty) S1_70 hs 1 rfl rfl rfl ?_)
      refine RW_op (L_conv UD_70 UD_51 rfl (wr_u32 (by omega) (by omega)) ?_)
      refine RW_op (L_add (a := sm) (b := u.qty) (c := (sm + u.qty) % 4294967296) rfl rfl (wm_u32 _) ?_)
      refine RW_op (L_build (vs := [(0, .int .u16 item), (1, .int .u32 ((sm + u.qty) % 4294967296))]) (cs := lc (⟨item, (sm + u.qty) % 4294967296⟩ : Line)) BT_102 (rfl) rfl ?_)
      refine RW_op (L_st (V := .agg (lc (⟨item, (sm + u.qty) % 4294967296⟩ : Line)).toArray) (vs := lc (⟨item, (sm + u.qty) % 4294967296⟩ : Line)) (cs' := lc (⟨item, (sm + u.qty) % 4294967296⟩ : Line)) SA_102.1 hs 0 rfl rfl rfl rfl rfl (Nat.le_of_ble_eq_true rfl) (lc_one _) (spl_whole rfl) fun w14 hs => ?_)
      refine RW_nil ?_
      refine W_ret ?_
      refine ⟨_, res_cell (cs := lc (⟨item, (sm + u.qty) % 4294967296⟩ : Line)) Try.results74 SA_102 hs 0 rfl rfl rfl, ?_⟩
      refine ⟨congrArg Ending.returned ?_, hs.take 0⟩
      have hT := take_all (l := l) (k := k) (by omega)
      rw [hT] at hsm hset
      subst hsm hset
      rw [qtyL_set fun e he => (hl e he).2]
end Tt
end Go.Proofs
namespace Go.Proofs
open Go Go.Vx Go.RowKit
namespace Tt
set_option maxRecDepth 20000 in
set_option maxHeartbeats 4000000 in
theorem isS_ok (w : World) (S : Nat → Prop) (a : Option Addr) (N c : Nat) (l : List Cen) (hz : l.length = N) (hN : N ≤ 2305843009213693951) (lo hi : Nat) (hlo : lo ≤ hi) (hhi : hi ≤ N) (g : Nat) (hg : En Try.prog g) (cf : Cen → Cen → Int) (hc : CmpO cf) (hcmp : ∀ (w : World) (x y : Cen), Calls Try.prog g #[.agg (cec x).toArray, .agg (cec y).toArray] w (fun e w' => e = .returned (.int .i64 (cf x y)) ∧ Own w no w' [])) (hR : (row (.slice a N c) (l.map cec) 128 7).holds w S) (hlt : ∀ b, S b → b < w.heap.size) : Calls Try.prog 125 #[.slice a N c, .int .i64 ((lo : Nat) : Int), .int .i64 ((hi : Nat) : Int), .func (.func g) #[] #[]] w (fun e w' => ∃ x : List Cen, e = .returned (.tuple #[]) ∧ Own w S w' [row (.slice a N c) (x.map cec) 128 7] ∧ (x.length = N ∧ Merged cf l x lo hi)) := by
  refine calls_of_Wn (n := 53) Try.func125 rfl Try.ntmps125 rfl ?_
  have hs := Own.lent hR hlt
  refine W_seq ?_
  refine W_region ?_
  refine RW_op (L_move (V := .int .i64 ((lo : Nat) : Int)) rfl ?_)
  refine RW_op (L_add (a := ((lo : Nat) : Int)) (b := 1) (c := ((lo + 1 : Nat) : Int)) rfl rfl (nat_i64 (by omega) (by omega)) ?_)
  refine RW_op (L_assign (V := .int .i64 ((lo + 1 : Nat) : Int)) rfl ?_)
  refine RW_nil ?_
  refine W_block ?_
  refine W_loopI (fun ρ μ ρ' w' => ∃ (ρo : Env) (k : Nat) (m : List Cen), ρ' = upd (mix [8, 9, 12, 13, 14, 15, 16, 17, 18, 19, 20, 21, 22, 23, 24, 25, 26, 27, 28, 29, 30, 31, 32, 33, 34, 35, 36, 37, 38, 39, 40, 41, 42, 43, 44, 45, 46, 47, 48, 49, 50, 51, 52] ρo ρ) 8 (.int .i64 ((k : Nat) : Int)) ∧ (lo + 1 ≤ k) ∧ (k ≤ hi ∨ k = lo + 1) ∧ (m.length = N) ∧ (PermSeg l m lo hi) ∧ (OrdSeg cf m lo k) ∧ μ = hi - k ∧ Own w S w' [row (.slice a N c) (m.map cec) 128 7]) ?_ ?_
  · exact ⟨_, _, lo + 1, l, upd_of (mix_of (ds := [8, 9, 12, 13, 14, 15, 16, 17, 18, 19, 20, 21, 22, 23, 24, 25, 26, 27, 28, 29, 30, 31, 32, 33, 34, 35, 36, 37, 38, 39, 40, 41, 42, 43, 44, 45, 46, 47, 48, 49, 50, 51, 52]) (Agr.refl _ _)) rfl, (Nat.le_refl _), (Or.inr rfl), hz, (PermSeg.refl l hlo (by omega)), (OrdSeg.small (Nat.le_refl _)), rfl, hs⟩
  · rintro μ ρ' w1 ⟨ρo, k, m, rfl, hk0, hk, hz1, hpm, hor, rfl, hs⟩
    refine W_seq ?_
    refine W_seq ?_
    refine W_region ?_
    refine RW_op (L_move (V := .int .i64 ((k : Nat) : Int)) rfl ?_)
    refine RW_op (L_move (V := .int .i64 ((hi : Nat) : Int)) rfl ?_)
    refine RW_op (L_lss rfl rfl ?_)
    refine RW_nil ?_
    refine W_cond (t := decide (((k : Nat) : Int) < ((hi : Nat) : Int))) rfl (fun c2 => ?_) (fun c2 => ?_)
    ·
      replace c2 := of_decide_eq_true c2
      refine W_skip ?_
      refine W_seq ?_
      refine W_block ?_
      refine W_seq ?_
      refine W_region ?_
      refine RW_op (L_move (V := .int .i64 ((k : Nat) : Int)) rfl ?_)
      refine RW_op (L_assign (V := .int .i64 ((k : Nat) : Int)) rfl ?_)
      refine RW_nil ?_
      refine W_block ?_
      refine W_loopI (fun ρ μ ρ' w' => ∃ (ρo : Env) (j : Nat) (m2 : List Cen), ρ' = upd (mix [9, 18, 19, 20, 21, 22, 23, 24, 25, 26, 27, 28, 29, 30, 31, 32, 33, 34, 35, 36, 37, 38, 39, 40, 41, 42, 43, 44, 45, 46, 47, 48, 49, 50, 51, 52] ρo ρ) 9 (.int .i64 ((j : Nat) : Int)) ∧ (lo ≤ j) ∧ (j ≤ k) ∧ (m2.length = N) ∧ (PermSeg l m2 lo hi) ∧ (InsI cf m2 lo k j) ∧ μ = j + 1 ∧ Own w S w' [row (.slice a N c) (m2.map cec) 128 7]) ?_ ?_
      · exact ⟨_, _, k, m, upd_of (mix_of (ds := [9, 18, 19, 20, 21, 22, 23, 24, 25, 26, 27, 28, 29, 30, 31, 32, 33, 34, 35, 36, 37, 38, 39, 40, 41, 42, 43, 44, 45, 46, 47, 48, 49, 50, 51, 52]) (Agr.refl _ _)) rfl, (by omega), (Nat.le_refl _), hz1, hpm, (ins_start hor), rfl, hs⟩
      · rintro μ ρ' w3 ⟨ρo, j, m2, rfl, hj0, hj, hz2, hpm2, hin, rfl, hs⟩
        refine W_seq ?_
        refine W_seq ?_
        refine W_regD HM [some 18, some 19, some 20, some 21, some 22, some 23, some 24, some 25, some 26, some 27, some 28, some 29, some 30, some 31, some 32, some 33, some 34] [] [0, 0, 3, 7, 15, 15, 15, 111, 239, 15, 15, 1039, 3599, 7695, 16383, 32767, 65535] [pv (.int .i64 ((j : Nat) : Int)), pv (.int .i64 ((lo : Nat) : Int)), pv (.bool (decide (((lo : Nat) : Int) < ((j : Nat) : Int)))), pv (.bool (decide (((lo : Nat) : Int) < ((j : Nat) : Int)))), pg ((decide (((lo : Nat) : Int) < ((j : Nat) : Int))) == true) (.func (.func g) #[] #[]), pg ((decide (((lo : Nat) : Int) < ((j : Nat) : Int))) == true) (.slice a N c), pg ((decide (((lo : Nat) : Int) < ((j : Nat) : Int))) == true) (.int .i64 ((j : Nat) : Int)), pg ((decide (((lo : Nat) : Int) < ((j : Nat) : Int))) == true) (.pointer (some ⟨bkS (.slice a N c), ofS (.slice a N c) + ((j : Nat) : Int).toNat * 7, none⟩)), pg ((decide (((lo : Nat) : Int) < ((j : Nat) : Int))) == true) (.agg (cec (gd m2 j)).toArray), pg ((decide (((lo : Nat) : Int) < ((j : Nat) : Int))) == true) (.slice a N c), pg ((decide (((lo : Nat) : Int) < ((j : Nat) : Int))) == true) (.int .i64 ((j : Nat) : Int)), pg ((decide (((lo : Nat) : Int) < ((j : Nat) : Int))) == true) (.int .i64 ((j - 1 : Nat) : Int)), pg ((decide (((lo : Nat) : Int) < ((j : Nat) : Int))) == true) (.pointer (some ⟨bkS (.slice a N c), ofS (.slice a N c) + ((j - 1 : Nat) : Int).toNat * 7, none⟩)), pg ((decide (((lo : Nat) : Int) < ((j : Nat) : Int))) == true) (.agg (cec (gd m2 (j - 1))).toArray), pg ((decide (((lo : Nat) : Int) < ((j : Nat) : Int))) == true) (.int .i64 (cf (gd m2 j) (gd m2 (j - 1)))), pg ((decide (((lo : Nat) : Int) < ((j : Nat) : Int))) == true) (.bool (decide (cf (gd m2 j) (gd m2 (j - 1)) < 0))), pv (.bool ((decide (((lo : Nat) : Int) < ((j : Nat) : Int))) && (decide (cf (gd m2 j) (gd m2 (j - 1)) < 0))))] (fun _ _ => _) [16] (by kernel_rfl) hs ⟨?_, ?_, ?_, ?_, ?_, ?_, ?_, ?_, ?_, ?_, ?_, ?_, ?_, ?_, ?_, ?_, ?_, trivial⟩ ?_
        · exact ob [] [] rfl rfl fun D ρ w hs => L_move (V := .int .i64 ((j : Nat) : Int)) rfl ⟨rfl, hs⟩
        · exact ob [] [] rfl rfl fun D ρ w hs => L_move (V := .int .i64 ((lo : Nat) : Int)) rfl ⟨rfl, hs⟩
        · exact ob [0, 1] [] rfl rfl fun D ρ w hs => L_gtr rfl rfl ⟨rfl, hs⟩
        · exact ob [2] [] rfl rfl fun D ρ w hs => L_move (V := .bool (decide (((lo : Nat) : Int) < ((j : Nat) : Int)))) rfl ⟨rfl, hs⟩
        · exact obg [3] [] (decide (((lo : Nat) : Int) < ((j : Nat) : Int))) rfl (fun _ => rfl) rfl (fun _ _ _ _ h => h) fun D ρ w hG hs => L_move (V := .func (.func g) #[] #[]) rfl ⟨rfl, hs⟩
        · exact obg [3] [] (decide (((lo : Nat) : Int) < ((j : Nat) : Int))) rfl (fun _ => rfl) rfl (fun _ _ _ _ h => h) fun D ρ w hG hs => L_move (V := .slice a N c) rfl ⟨rfl, hs⟩
        · exact obg [3] [] (decide (((lo : Nat) : Int) < ((j : Nat) : Int))) rfl (fun _ => rfl) rfl (fun _ _ _ _ h => h) fun D ρ w hG hs => L_move (V := .int .i64 ((j : Nat) : Int)) rfl ⟨rfl, hs⟩
        · refine obgy [3, 5, 6] [] [5, 6] (decide (((lo : Nat) : Int) < ((j : Nat) : Int))) rfl (fun _ => rfl) rfl (fun _ _ _ _ h => h) (fun hG => ⟨hG, hG, trivial⟩) fun D ρ w hG hs => ?_
          have hgd := of_decide_eq_true (eq_of_beq (hG))
          exact L_ixR UD_59 SA_128.1 (hs.rd 0 rfl) rfl rfl (by omega) (by rw [List.length_map]; omega) ⟨rfl, hs⟩
        · refine obgy [3, 7] [] [7] (decide (((lo : Nat) : Int) < ((j : Nat) : Int))) rfl (fun _ => rfl) rfl (fun _ _ _ _ h => h) (fun hG => ⟨hG, trivial⟩) fun D ρ w hG hs => ?_
          have hgd := of_decide_eq_true (eq_of_beq (hG))
          exact L_ldRA (j := 0) (vs := cec (gd m2 j)) j SA_128 (hs.rd 0 rfl) (gd_at (by omega)) rfl rfl rfl (by omega) ⟨rfl, hs⟩
        · exact obg [3] [] (decide (((lo : Nat) : Int) < ((j : Nat) : Int))) rfl (fun _ => rfl) rfl (fun _ _ _ _ h => h) fun D ρ w hG hs => L_move (V := .slice a N c) rfl ⟨rfl, hs⟩
        · exact obg [3] [] (decide (((lo : Nat) : Int) < ((j : Nat) : Int))) rfl (fun _ => rfl) rfl (fun _ _ _ _ h => h) fun D ρ w hG hs => L_move (V := .int .i64 ((j : Nat) : Int)) rfl ⟨rfl, hs⟩
        · refine obgy [3, 10] [] [10] (decide (((lo : Nat) : Int) < ((j : Nat) : Int))) rfl (fun _ => rfl) rfl (fun _ _ _ _ h => h) (fun hG => ⟨hG, trivial⟩) fun D ρ w hG hs => ?_
          have hgd := of_decide_eq_true (eq_of_beq (hG))
          exact L_sub (a := ((j : Nat) : Int)) (b := 1) (c := ((j - 1 : Nat) : Int)) rfl rfl (nat_i64 (by omega) (by omega)) ⟨rfl, hs⟩
        · refine obgy [3, 9, 11] [] [9, 11] (decide (((lo : Nat) : Int) < ((j : Nat) : Int))) rfl (fun _ => rfl) rfl (fun _ _ _ _ h => h) (fun hG => ⟨hG, hG, trivial⟩) fun D ρ w hG hs => ?_
          have hgd := of_decide_eq_true (eq_of_beq (hG))
          exact L_ixR UD_59 SA_128.1 (hs.rd 0 rfl) rfl rfl (by omega) (by rw [List.length_map]; omega) ⟨rfl, hs⟩
        · refine obgy [3, 12] [] [12] (decide (((lo : Nat) : Int) < ((j : Nat) : Int))) rfl (fun _ => rfl) rfl (fun _ _ _ _ h => h) (fun hG => ⟨hG, trivial⟩) fun D ρ w hG hs => ?_
          have hgd := of_decide_eq_true (eq_of_beq (hG))
          exact L_ldRA (j := 0) (vs := cec (gd m2 (j - 1))) (j - 1) SA_128 (hs.rd 0 rfl) (gd_at (by omega)) rfl rfl rfl (by omega) ⟨rfl, hs⟩
        · exact obgy [3, 4, 8, 13] [] [4, 8, 13] (decide (((lo : Nat) : Int) < ((j : Nat) : Int))) rfl (fun _ => rfl) rfl (fun _ _ _ _ h => h) (fun hG => ⟨hG, hG, hG, trivial⟩) fun D ρ w hG hs => L_fnP (vs := [.agg (cec (gd m2 j)).toArray, .agg (cec (gd m2 (j - 1))).toArray]) (cs := []) (V := .int .i64 (cf (gd m2 j) (gd m2 (j - 1)))) hg rfl rfl (hcmp _ (gd m2 j) (gd m2 (j - 1))) hs fun _ hs => ⟨rfl, hs⟩
        · exact obgy [3, 14] [] [14] (decide (((lo : Nat) : Int) < ((j : Nat) : Int))) rfl (fun _ => rfl) rfl (fun _ _ _ _ h => h) (fun hG => ⟨hG, trivial⟩) fun D ρ w hG hs => L_lss rfl rfl ⟨rfl, hs⟩
        · exact ob [3, 15] [] rfl rfl fun D ρ w hs => L_andC (h' := decide (cf (gd m2 j) (gd m2 (j - 1)) < 0)) rfl rfl rfl ⟨rfl, hs⟩
        rintro ρ1 w5 ρ2 hρ hs
        replace hρ : ρ2 = upd (mix [18, 19, 20, 21, 22, 23, 24, 25, 26, 27, 28, 29, 30, 31, 32, 33, 34] ρ1 _) 34 (.bool ((decide (((lo : Nat) : Int) < ((j : Nat) : Int))) && (decide (cf (gd m2 j) (gd m2 (j - 1)) < 0)))) := hρ
        subst hρ
        refine W_cond (t := (decide (((lo : Nat) : Int) < ((j : Nat) : Int))) && (decide (cf (gd m2 j) (gd m2 (j - 1)) < 0))) rfl (fun c6 => ?_) (fun c6 => ?_)
        ·
          have c6r := and_r c6
          replace c6 := and_l c6
          replace c6 := of_decide_eq_true c6
          replace c6r := of_decide_eq_true c6r
          refine W_skip ?_
          refine W_seq ?_
          refine W_block ?_
          refine W_regD HM [some 37, some 38, some 39, some 40, some 41, some 42, some 43, some 44, some 45, some 46, some 47, some 48, some 49, some 50, some 51, none, some 52, none] [] [0, 0, 0, 0, 8, 0, 0, 64, 224, 480, 0, 0, 3072, 7168, 16355, 32739, 65535, 131071] [pv (.slice a N c), pv (.int .i64 ((j : Nat) : Int)), pv (.slice a N c), pv (.int .i64 ((j : Nat) : Int)), pv (.int .i64 ((j - 1 : Nat) : Int)), pv (.slice a N c), pv (.int .i64 ((j : Nat) : Int)), pv (.int .i64 ((j - 1 : Nat) : Int)), pv (.pointer (some ⟨bkS (.slice a N c), ofS (.slice a N c) + ((j - 1 : Nat) : Int).toNat * 7, none⟩)), pv (.agg (cec (gd m2 (j - 1))).toArray), pv (.slice a N c), pv (.int .i64 ((j : Nat) : Int)), pv (.pointer (some ⟨bkS (.slice a N c), ofS (.slice a N c) + ((j : Nat) : Int).toNat * 7, none⟩)), pv (.agg (cec (gd m2 j)).toArray), pv (.pointer (some ⟨bkS (.slice a N c), ofS (.slice a N c) + ((j : Nat) : Int).toNat * 7, none⟩)), pn, pv (.pointer (some ⟨bkS (.slice a N c), ofS (.slice a N c) + ((j - 1 : Nat) : Int).toNat * 7, none⟩)), pn] (fun D ρ => [cond (D 17) (row (.slice a N c) (((m2.set j (gd m2 (j - 1))).set (j - 1) (gd m2 j)).map cec) 128 7) (cond (D 15) (row (.slice a N c) ((m2.set j (gd m2 (j - 1))).map cec) 128 7) (row (.slice a N c) (m2.map cec) 128 7))]) [] (by kernel_rfl) hs ⟨?_, ?_, ?_, ?_, ?_, ?_, ?_, ?_, ?_, ?_, ?_, ?_, ?_, ?_, ?_, ?_, ?_, ?_, trivial⟩ ?_
          · exact ob [] [] rfl rfl fun D ρ w hs => L_move (V := .slice a N c) rfl ⟨rfl, hs⟩
          · exact ob [] [] rfl rfl fun D ρ w hs => L_move (V := .int .i64 ((j : Nat) : Int)) rfl ⟨rfl, hs⟩
          · exact ob [] [] rfl rfl fun D ρ w hs => L_move (V := .slice a N c) rfl ⟨rfl, hs⟩
          · exact ob [] [] rfl rfl fun D ρ w hs => L_move (V := .int .i64 ((j : Nat) : Int)) rfl ⟨rfl, hs⟩
          · exact ob [3] [] rfl rfl fun D ρ w hs => L_sub (a := ((j : Nat) : Int)) (b := 1) (c := ((j - 1 : Nat) : Int)) rfl rfl (nat_i64 (by omega) (by omega)) ⟨rfl, hs⟩
          · exact ob [] [] rfl rfl fun D ρ w hs => L_move (V := .slice a N c) rfl ⟨rfl, hs⟩
          · exact ob [] [] rfl rfl fun D ρ w hs => L_move (V := .int .i64 ((j : Nat) : Int)) rfl ⟨rfl, hs⟩
          · exact ob [6] [] rfl rfl fun D ρ w hs => L_sub (a := ((j : Nat) : Int)) (b := 1) (c := ((j - 1 : Nat) : Int)) rfl rfl (nat_i64 (by omega) (by omega)) ⟨rfl, hs⟩
          · exact ob [5, 7] [15, 17] rfl rfl fun D ρ w hs => L_ixR UD_59 SA_128.1 (hs.rd 0 rfl) rfl rfl (by omega) (by rw [List.length_map]; omega) ⟨rfl, hs⟩
          · exact ob [8] [15, 17] rfl rfl fun D ρ w hs => L_ldRA (j := 0) (vs := cec (gd m2 (j - 1))) (j - 1) SA_128 (hs.rd 0 rfl) (gd_at (by omega)) rfl rfl rfl (by omega) ⟨rfl, hs⟩
          · exact ob [] [] rfl rfl fun D ρ w hs => L_move (V := .slice a N c) rfl ⟨rfl, hs⟩
          · exact ob [] [] rfl rfl fun D ρ w hs => L_move (V := .int .i64 ((j : Nat) : Int)) rfl ⟨rfl, hs⟩
          · exact ob [10, 11] [15, 17] rfl rfl fun D ρ w hs => L_ixR UD_59 SA_128.1 (hs.rd 0 rfl) rfl rfl (by omega) (by rw [List.length_map]; omega) ⟨rfl, hs⟩
          · exact ob [12] [15, 17] rfl rfl fun D ρ w hs => L_ldRA (j := 0) (vs := cec (gd m2 j)) j SA_128 (hs.rd 0 rfl) (gd_at (by omega)) rfl rfl rfl (by omega) ⟨rfl, hs⟩
          · exact ob [0, 1] [15, 17] rfl rfl fun D ρ w hs => L_ixR UD_59 SA_128.1 (hs.rd 0 rfl) rfl rfl (by omega) (by rw [List.length_map]; omega) ⟨rfl, hs⟩
          · exact ob [9, 14] [17] rfl rfl fun D ρ w hs => L_stE (z := gd m2 (j - 1)) j SA_128.1 hs 0 rfl rfl rfl (by first | omega | (simp only [List.length_set]; omega)) rfl rfl rfl (cec_one _) fun _ hs => ⟨trivial, hs⟩
          · exact ob [2, 4, 15] [17] rfl rfl fun D ρ w hs => L_ixR UD_59 SA_128.1 (hs.rd 0 rfl) rfl rfl (by omega) (by simp only [List.length_map, List.length_set]; omega) ⟨rfl, hs⟩
          · exact ob [13, 15, 16] [] rfl rfl fun D ρ w hs => L_stE (z := gd m2 j) (j - 1) SA_128.1 hs 0 rfl rfl rfl (by first | omega | (simp only [List.length_set]; omega)) rfl rfl rfl (cec_one _) fun _ hs => ⟨trivial, hs⟩
          rintro ρ1 w9 ρ2 hρ hs
          replace hρ : ρ2 = mix [37, 38, 39, 40, 41, 42, 43, 44, 45, 46, 47, 48, 49, 50, 51, 52] ρ1 _ := hρ
          replace hs : Own w S w9 [row (.slice a N c) (((m2.set j (gd m2 (j - 1))).set (j - 1) (gd m2 j)).map cec) 128 7] := hs
          subst hρ
          replace hs : Own w S _ [row (.slice a N c) ((swL m2 j (j - 1)).map cec) 128 7] := hs.take 1
          refine W_region ?_
          refine RW_op (L_move (V := .int .i64 ((j : Nat) : Int)) rfl ?_)
          refine RW_op (L_sub (a := ((j : Nat) : Int)) (b := 1) (c := ((j - 1 : Nat) : Int)) rfl rfl (nat_i64 (by omega) (by omega)) ?_)
          refine RW_op (L_assign (V := .int .i64 ((j - 1 : Nat) : Int)) rfl ?_)
          refine RW_nil ?_
          refine ⟨_, ?_, _, j - 1, swL m2 j (j - 1), upd_of (mix_of (ds := [9, 18, 19, 20, 21, 22, 23, 24, 25, 26, 27, 28, 29, 30, 31, 32, 33, 34, 35, 36, 37, 38, 39, 40, 41, 42, 43, 44, 45, 46, 47, 48, 49, 50, 51, 52]) (by repeat (first | exact Agr.refl _ _ | refine Agr.upd ?_ rfl | refine Agr.mix ?_ rfl))) rfl, (by omega), (by omega), (by rw [swL_len]; exact hz2), (hpm2.trans (perm_sw (by omega) (by omega) (by omega) (by omega) (by omega))), (ins_next hc hin (by omega) (by omega) (by omega) c6r), rfl, hs.take 1⟩
          omega
        ·
          refine W_exit ?_
          have hor2 : OrdSeg cf m2 lo (k + 1) := ins_end hc hin hj0 (by
            have ht := c6
            rcases Nat.lt_or_ge lo j with q | q
            · right; intro h; simp [q, h] at ht
            · left; omega)
          refine W_region ?_
          refine RW_op (L_move (V := .int .i64 ((k : Nat) : Int)) rfl ?_)
          refine RW_op (L_add (a := ((k : Nat) : Int)) (b := 1) (c := ((k + 1 : Nat) : Int)) rfl rfl (nat_i64 (by omega) (by omega)) ?_)
          refine RW_op (L_assign (V := .int .i64 ((k + 1 : Nat) : Int)) rfl ?_)
          refine RW_nil ?_
          refine ⟨_, ?_, _, k + 1, m2, upd_of (mix_of (ds := [8, 9, 12, 13, 14, 15, 16, 17, 18, 19, 20, 21, 22, 23, 24, 25, 26, 27, 28, 29, 30, 31, 32, 33, 34, 35, 36, 37, 38, 39, 40, 41, 42, 43, 44, 45, 46, 47, 48, 49, 50, 51, 52]) (by repeat (first | exact Agr.refl _ _ | refine Agr.upd ?_ rfl | refine Agr.mix ?_ rfl))) rfl, (by omega), (by omega), hz2, hpm2, hor2, rfl, hs.take 1⟩
          omega
    ·
      replace c2 := of_decide_eq_false c2
      refine W_exit ?_
      refine ⟨_, res_none Try.results125, ?_⟩
      refine ⟨m, rfl, hs.take 1, hz1, hpm, ?_⟩
      rcases Nat.lt_or_ge k hi with q | q
      · omega
      · exact hor.sub (Nat.le_refl _) q
end Tt
end Go.Proofs
namespace Go.Proofs
open Go Go.Vx Go.RowKit
namespace Tt
set_option maxRecDepth 20000 in
set_option maxHeartbeats 4000000 in
theorem srS_ok (w : World) (S : Nat → Prop) (a : Option Addr) (N c : Nat) (l : List Cen) (hz : l.length = N) (hN : N ≤ 2305843009213693951) (p q n : Nat) (hp : p + n ≤ N) (hq : q + n ≤ N) (g : Nat) (hg : En Try.prog g) (cf : Cen → Cen → Int) (hc : CmpO cf) (hcmp : ∀ (w : World) (x y : Cen), Calls Try.prog g #[.agg (cec x).toArray, .agg (cec y).toArray] w (fun e w' => e = .returned (.int .i64 (cf x y)) ∧ Own w no w' [])) (hR : (row (.slice a N c) (l.map cec) 128 7).holds w S) (hlt : ∀ b, S b → b < w.heap.size) : Calls Try.prog 168 #[.slice a N c, .int .i64 ((p : Nat) : Int), .int .i64 ((q : Nat) : Int), .int .i64 ((n : Nat) : Int), .func (.func g) #[] #[]] w (fun e w' => ∃ x : List Cen, e = .returned (.tuple #[]) ∧ Own w S w' [row (.slice a N c) (x.map cec) 128 7] ∧ (x.length = N ∧ x = swN l p q n)) := by
  refine calls_of_Wn (n := 38) Try.func168 rfl Try.ntmps168 rfl ?_
  have hs := Own.lent hR hlt
  refine W_seq ?_
  refine W_region ?_
  refine RW_op (L_assign (V := .int .i64 0) rfl ?_)
  refine RW_nil ?_
  refine W_block ?_
  refine W_loopI (fun ρ μ ρ' w' => ∃ (ρo : Env) (k : Nat) (m : List Cen), ρ' = upd (mix [10, 11, 12, 13, 14, 15, 16, 17, 18, 19, 20, 21, 22, 23, 24, 25, 26, 27, 28, 29, 30, 31, 32, 33, 34, 35, 36, 37] ρo ρ) 10 (.int .i64 ((k : Nat) : Int)) ∧ (k ≤ n) ∧ (m.length = N) ∧ (m = swN l p q k) ∧ μ = n - k ∧ Own w S w' [row (.slice a N c) (m.map cec) 128 7]) ?_ ?_
  · exact ⟨_, _, 0, l, upd_of (mix_of (ds := [10, 11, 12, 13, 14, 15, 16, 17, 18, 19, 20, 21, 22, 23, 24, 25, 26, 27, 28, 29, 30, 31, 32, 33, 34, 35, 36, 37]) (Agr.refl _ _)) rfl, (Nat.zero_le _), hz, rfl, rfl, hs⟩
  · rintro μ ρ' w1 ⟨ρo, k, m, rfl, hk, hz1, hm, rfl, hs⟩
    refine W_seq ?_
    refine W_seq ?_
    refine W_region ?_
    refine RW_op (L_move (V := .int .i64 ((k : Nat) : Int)) rfl ?_)
    refine RW_op (L_move (V := .int .i64 ((n : Nat) : Int)) rfl ?_)
    refine RW_op (L_lss rfl rfl ?_)
    refine RW_nil ?_
    refine W_cond (t := decide (((k : Nat) : Int) < ((n : Nat) : Int))) rfl (fun c2 => ?_) (fun c2 => ?_)
    ·
      replace c2 := of_decide_eq_true c2
      refine W_skip ?_
      refine W_seq ?_
      refine W_block ?_
      refine W_regD HM [some 16, some 17, some 18, some 19, some 20, some 21, some 22, some 23, some 24, some 25, some 26, some 27, some 28, some 29, some 30, some 31, some 32, some 33, some 34, some 35, some 36, none, some 37, none] [] [0, 0, 0, 6, 0, 0, 0, 96, 0, 0, 0, 1536, 3840, 7936, 0, 0, 0, 98304, 245760, 507904, 1048335, 2096911, 4194303, 8388607] [pv (.slice a N c), pv (.int .i64 ((p : Nat) : Int)), pv (.int .i64 ((k : Nat) : Int)), pv (.int .i64 ((p + k : Nat) : Int)), pv (.slice a N c), pv (.int .i64 ((q : Nat) : Int)), pv (.int .i64 ((k : Nat) : Int)), pv (.int .i64 ((q + k : Nat) : Int)), pv (.slice a N c), pv (.int .i64 ((q : Nat) : Int)), pv (.int .i64 ((k : Nat) : Int)), pv (.int .i64 ((q + k : Nat) : Int)), pv (.pointer (some ⟨bkS (.slice a N c), ofS (.slice a N c) + ((q + k : Nat) : Int).toNat * 7, none⟩)), pv (.agg (cec (gd m (q + k))).toArray), pv (.slice a N c), pv (.int .i64 ((p : Nat) : Int)), pv (.int .i64 ((k : Nat) : Int)), pv (.int .i64 ((p + k : Nat) : Int)), pv (.pointer (some ⟨bkS (.slice a N c), ofS (.slice a N c) + ((p + k : Nat) : Int).toNat * 7, none⟩)), pv (.agg (cec (gd m (p + k))).toArray), pv (.pointer (some ⟨bkS (.slice a N c), ofS (.slice a N c) + ((p + k : Nat) : Int).toNat * 7, none⟩)), pn, pv (.pointer (some ⟨bkS (.slice a N c), ofS (.slice a N c) + ((q + k : Nat) : Int).toNat * 7, none⟩)), pn] (fun D ρ => [cond (D 23) (row (.slice a N c) (((m.set (p + k) (gd m (q + k))).set (q + k) (gd m (p + k))).map cec) 128 7) (cond (D 21) (row (.slice a N c) ((m.set (p + k) (gd m (q + k))).map cec) 128 7) (row (.slice a N c) (m.map cec) 128 7))]) [] (by kernel_rfl) hs ⟨?_, ?_, ?_, ?_, ?_, ?_, ?_, ?_, ?_, ?_, ?_, ?_, ?_, ?_, ?_, ?_, ?_, ?_, ?_, ?_, ?_, ?_, ?_, ?_, trivial⟩ ?_
      · exact ob [] [] rfl rfl fun D ρ w hs => L_move (V := .slice a N c) rfl ⟨rfl, hs⟩
      · exact ob [] [] rfl rfl fun D ρ w hs => L_move (V := .int .i64 ((p : Nat) : Int)) rfl ⟨rfl, hs⟩
      · exact ob [] [] rfl rfl fun D ρ w hs => L_move (V := .int .i64 ((k : Nat) : Int)) rfl ⟨rfl, hs⟩
      · exact ob [1, 2] [] rfl rfl fun D ρ w hs => L_add (a := ((p : Nat) : Int)) (b := ((k : Nat) : Int)) (c := ((p + k : Nat) : Int)) rfl rfl (nat_i64 (by omega) (by omega)) ⟨rfl, hs⟩
      · exact ob [] [] rfl rfl fun D ρ w hs => L_move (V := .slice a N c) rfl ⟨rfl, hs⟩
      · exact ob [] [] rfl rfl fun D ρ w hs => L_move (V := .int .i64 ((q : Nat) : Int)) rfl ⟨rfl, hs⟩
      · exact ob [] [] rfl rfl fun D ρ w hs => L_move (V := .int .i64 ((k : Nat) : Int)) rfl ⟨rfl, hs⟩
      · exact ob [5, 6] [] rfl rfl fun D ρ w hs => L_add (a := ((q : Nat) : Int)) (b := ((k : Nat) : Int)) (c := ((q + k : Nat) : Int)) rfl rfl (nat_i64 (by omega) (by omega)) ⟨rfl, hs⟩
      · exact ob [] [] rfl rfl fun D ρ w hs => L_move (V := .slice a N c) rfl ⟨rfl, hs⟩
      · exact ob [] [] rfl rfl fun D ρ w hs => L_move (V := .int .i64 ((q : Nat) : Int)) rfl ⟨rfl, hs⟩
      · exact ob [] [] rfl rfl fun D ρ w hs => L_move (V := .int .i64 ((k : Nat) : Int)) rfl ⟨rfl, hs⟩
      · exact ob [9, 10] [] rfl rfl fun D ρ w hs => L_add (a := ((q : Nat) : Int)) (b := ((k : Nat) : Int)) (c := ((q + k : Nat) : Int)) rfl rfl (nat_i64 (by omega) (by omega)) ⟨rfl, hs⟩
      · exact ob [8, 11] [21, 23] rfl rfl fun D ρ w hs => L_ixR UD_59 SA_128.1 (hs.rd 0 rfl) rfl rfl (by omega) (by rw [List.length_map]; omega) ⟨rfl, hs⟩
      · exact ob [12] [21, 23] rfl rfl fun D ρ w hs => L_ldRA (j := 0) (vs := cec (gd m (q + k))) (q + k) SA_128 (hs.rd 0 rfl) (gd_at (by omega)) rfl rfl rfl (by omega) ⟨rfl, hs⟩
      · exact ob [] [] rfl rfl fun D ρ w hs => L_move (V := .slice a N c) rfl ⟨rfl, hs⟩
      · exact ob [] [] rfl rfl fun D ρ w hs => L_move (V := .int .i64 ((p : Nat) : Int)) rfl ⟨rfl, hs⟩
      · exact ob [] [] rfl rfl fun D ρ w hs => L_move (V := .int .i64 ((k : Nat) : Int)) rfl ⟨rfl, hs⟩
      · exact ob [15, 16] [] rfl rfl fun D ρ w hs => L_add (a := ((p : Nat) : Int)) (b := ((k : Nat) : Int)) (c := ((p + k : Nat) : Int)) rfl rfl (nat_i64 (by omega) (by omega)) ⟨rfl, hs⟩
      · exact ob [14, 17] [21, 23] rfl rfl fun D ρ w hs => L_ixR UD_59 SA_128.1 (hs.rd 0 rfl) rfl rfl (by omega) (by rw [List.length_map]; omega) ⟨rfl, hs⟩
      · exact ob [18] [21, 23] rfl rfl fun D ρ w hs => L_ldRA (j := 0) (vs := cec (gd m (p + k))) (p + k) SA_128 (hs.rd 0 rfl) (gd_at (by omega)) rfl rfl rfl (by omega) ⟨rfl, hs⟩
      · exact ob [0, 3] [21, 23] rfl rfl fun D ρ w hs => L_ixR UD_59 SA_128.1 (hs.rd 0 rfl) rfl rfl (by omega) (by rw [List.length_map]; omega) ⟨rfl, hs⟩
      · exact ob [13, 20] [23] rfl rfl fun D ρ w hs => L_stE (z := gd m (q + k)) (p + k) SA_128.1 hs 0 rfl rfl rfl (by first | omega | (simp only [List.length_set]; omega)) rfl rfl rfl (cec_one _) fun _ hs => ⟨trivial, hs⟩
      · exact ob [4, 7, 21] [23] rfl rfl fun D ρ w hs => L_ixR UD_59 SA_128.1 (hs.rd 0 rfl) rfl rfl (by omega) (by simp only [List.length_map, List.length_set]; omega) ⟨rfl, hs⟩
      · exact ob [19, 21, 22] [] rfl rfl fun D ρ w hs => L_stE (z := gd m (p + k)) (q + k) SA_128.1 hs 0 rfl rfl rfl (by first | omega | (simp only [List.length_set]; omega)) rfl rfl rfl (cec_one _) fun _ hs => ⟨trivial, hs⟩
      rintro ρ1 w5 ρ2 hρ hs
      replace hρ : ρ2 = mix [16, 17, 18, 19, 20, 21, 22, 23, 24, 25, 26, 27, 28, 29, 30, 31, 32, 33, 34, 35, 36, 37] ρ1 _ := hρ
      replace hs : Own w S w5 [row (.slice a N c) (((m.set (p + k) (gd m (q + k))).set (q + k) (gd m (p + k))).map cec) 128 7] := hs
      subst hρ
      replace hs : Own w S _ [row (.slice a N c) ((swL m (p + k) (q + k)).map cec) 128 7] := hs.take 1
      refine W_region ?_
      refine RW_op (L_move (V := .int .i64 ((k : Nat) : Int)) rfl ?_)
      refine RW_op (L_add (a := ((k : Nat) : Int)) (b := 1) (c := ((k + 1 : Nat) : Int)) rfl rfl (nat_i64 (by omega) (by omega)) ?_)
      refine RW_op (L_assign (V := .int .i64 ((k + 1 : Nat) : Int)) rfl ?_)
      refine RW_nil ?_
      refine ⟨_, ?_, _, k + 1, swL m (p + k) (q + k), upd_of (mix_of (ds := [10, 11, 12, 13, 14, 15, 16, 17, 18, 19, 20, 21, 22, 23, 24, 25, 26, 27, 28, 29, 30, 31, 32, 33, 34, 35, 36, 37]) (by repeat (first | exact Agr.refl _ _ | refine Agr.upd ?_ rfl | refine Agr.mix ?_ rfl))) rfl, (by omega), (by rw [swL_len]; exact hz1), (by rw [swN_succ, ← hm]), rfl, hs.take 1⟩
      omega
    ·
      replace c2 := of_decide_eq_false c2
      refine W_exit ?_
      refine ⟨_, res_none Try.results168, ?_⟩
      exact ⟨m, rfl, hs.take 1, hz1, by rw [hm, show k = n by omega]⟩
set_option maxRecDepth 20000 in
set_option maxHeartbeats 4000000 in
theorem rtS_ok (w : World) (S : Nat → Prop) (a : Option Addr) (N c : Nat) (l : List Cen) (hz : l.length = N) (hN : N ≤ 2305843009213693951) (lo mid hi : Nat) (h1 : lo < mid) (h2 : mid < hi) (h3 : hi ≤ N) (g : Nat) (hg : En Try.prog g) (cf : Cen → Cen → Int) (hc : CmpO cf) (hcmp : ∀ (w : World) (x y : Cen), Calls Try.prog g #[.agg (cec x).toArray, .agg (cec y).toArray] w (fun e w' => e = .returned (.int .i64 (cf x y)) ∧ Own w no w' [])) (hR : (row (.slice a N c) (l.map cec) 128 7).holds w S) (hlt : ∀ b, S b → b < w.heap.size) : Calls Try.prog 159 #[.slice a N c, .int .i64 ((lo : Nat) : Int), .int .i64 ((mid : Nat) : Int), .int .i64 ((hi : Nat) : Int), .func (.func g) #[] #[]] w (fun e w' => ∃ x : List Cen, e = .returned (.tuple #[]) ∧ Own w S w' [row (.slice a N c) (x.map cec) 128 7] ∧ (x.length = N ∧ RotSeg l x lo mid hi)) := by
  refine calls_of_Wn (n := 58) Try.func159 rfl Try.ntmps159 rfl ?_
  have hs := Own.lent hR hlt
  obtain ⟨t, hrt, hro0⟩ := rotTo_start (l := l) (a := lo) (m := mid) (b := hi) (by omega) (by omega) (by omega)
  refine W_seq ?_
  refine W_region ?_
  refine RW_op (L_move (V := .int .i64 ((mid : Nat) : Int)) rfl ?_)
  refine RW_op (L_move (V := .int .i64 ((lo : Nat) : Int)) rfl ?_)
  refine RW_op (L_sub (a := ((mid : Nat) : Int)) (b := ((lo : Nat) : Int)) (c := ((mid - lo : Nat) : Int)) rfl rfl (nat_i64 (by omega) (by omega)) ?_)
  refine RW_op (L_assign (V := .int .i64 ((mid - lo : Nat) : Int)) rfl ?_)
  refine RW_nil ?_
  refine W_seq ?_
  refine W_region ?_
  refine RW_op (L_move (V := .int .i64 ((hi : Nat) : Int)) rfl ?_)
  refine RW_op (L_move (V := .int .i64 ((mid : Nat) : Int)) rfl ?_)
  refine RW_op (L_sub (a := ((hi : Nat) : Int)) (b := ((mid : Nat) : Int)) (c := ((hi - mid : Nat) : Int)) rfl rfl (nat_i64 (by omega) (by omega)) ?_)
  refine RW_op (L_assign (V := .int .i64 ((hi - mid : Nat) : Int)) rfl ?_)
  refine RW_nil ?_
  refine W_seq ?_
  refine W_block ?_
  refine W_loopI (fun ρ μ ρ' w' => ∃ (ρo : Env) (i : Nat) (j : Nat) (m : List Cen), ρ' = upd (upd (mix [10, 11, 18, 19, 20, 21, 22, 23, 24, 25, 26, 27, 28, 29, 30, 31, 32, 33, 34, 35, 36, 37, 38, 39, 40, 41, 42, 43, 44, 45, 46, 47, 48, 49] ρo ρ) 10 (.int .i64 ((i : Nat) : Int))) 11 (.int .i64 ((j : Nat) : Int)) ∧ (0 < i) ∧ (0 < j) ∧ (m.length = N) ∧ (RotTo m t mid i j) ∧ μ = i + j ∧ Own w S w' [row (.slice a N c) (m.map cec) 128 7]) ?_ ?_
  · exact ⟨_, _, mid - lo, hi - mid, l, upd_of (upd_of (mix_of (ds := [10, 11, 18, 19, 20, 21, 22, 23, 24, 25, 26, 27, 28, 29, 30, 31, 32, 33, 34, 35, 36, 37, 38, 39, 40, 41, 42, 43, 44, 45, 46, 47, 48, 49]) (Agr.refl _ _)) rfl) rfl, (by omega), (by omega), hz, hro0, rfl, hs⟩
  · rintro μ ρ' w1 ⟨ρo, i, j, m, rfl, hi0, hj0, hz1, hro, rfl, hs⟩
    have hrl := rotTo_len hro
    refine W_seq ?_
    refine W_seq ?_
    refine W_region ?_
    refine RW_op (L_move (V := .int .i64 ((i : Nat) : Int)) rfl ?_)
    refine RW_op (L_move (V := .int .i64 ((j : Nat) : Int)) rfl ?_)
    refine RW_op (L_neq rfl rfl ?_)
    refine RW_nil ?_
    refine W_cond (t := !decide (((i : Nat) : Int) = ((j : Nat) : Int))) rfl (fun c2 => ?_) (fun c2 => ?_)
    ·
      replace c2 := not_t c2
      replace c2 := of_decide_eq_false c2
      refine W_skip ?_
      refine W_block ?_
      refine W_seq ?_
      refine W_region ?_
      refine RW_op (L_move (V := .int .i64 ((i : Nat) : Int)) rfl ?_)
      refine RW_op (L_move (V := .int .i64 ((j : Nat) : Int)) rfl ?_)
      refine RW_op (L_gtr rfl rfl ?_)
      refine RW_nil ?_
      refine W_cond (t := decide (((j : Nat) : Int) < ((i : Nat) : Int))) rfl (fun c3 => ?_) (fun c3 => ?_)
      ·
        replace c3 := of_decide_eq_true c3
        refine W_seq ?_
        refine W_region ?_
        refine RW_op (L_move (V := .slice a N c) rfl ?_)
        refine RW_op (L_move (V := .int .i64 ((mid : Nat) : Int)) rfl ?_)
        refine RW_op (L_move (V := .int .i64 ((i : Nat) : Int)) rfl ?_)
        refine RW_op (L_sub (a := ((mid : Nat) : Int)) (b := ((i : Nat) : Int)) (c := ((mid - i : Nat) : Int)) rfl rfl (nat_i64 (by omega) (by omega)) ?_)
        refine RW_op (L_move (V := .int .i64 ((mid : Nat) : Int)) rfl ?_)
        refine RW_op (L_move (V := .int .i64 ((j : Nat) : Int)) rfl ?_)
        refine RW_op (L_move (V := .func (.func g) #[] #[]) rfl ?_)
        refine RW_op (L_callB (α := List Cen) (vs := [.slice a N c, .int .i64 ((mid - i : Nat) : Int), .int .i64 ((mid : Nat) : Int), .int .i64 ((j : Nat) : Int), .func (.func g) #[] #[]]) (V := fun _ => .tuple #[]) (R := row (.slice a N c) (m.map cec) 128 7) (R' := fun x => row (.slice a N c) (x.map cec) 128 7) (Lo := fun _ => []) (F := fun x _ => x.length = N ∧ x = swN m (mid - i) mid j) EN_168 rfl rfl hs 0 rfl (fun S hS hlt => srS_ok _ S a N c m (by first | assumption | omega) hN (mid - i) mid j (by omega) (by omega) g hg cf hc hcmp hS hlt) fun mz4 w5 hs hF6 => ?_)
        refine RW_nil ?_
        refine W_region ?_
        refine RW_op (L_move (V := .int .i64 ((i : Nat) : Int)) rfl ?_)
        refine RW_op (L_move (V := .int .i64 ((j : Nat) : Int)) rfl ?_)
        refine RW_op (L_sub (a := ((i : Nat) : Int)) (b := ((j : Nat) : Int)) (c := ((i - j : Nat) : Int)) rfl rfl (nat_i64 (by omega) (by omega)) ?_)
        refine RW_op (L_assign (V := .int .i64 ((i - j : Nat) : Int)) rfl ?_)
        refine RW_nil ?_
        refine ⟨_, ?_, _, i - j, j, mz4, upd_of (upd_of (mix_of (ds := [10, 11, 18, 19, 20, 21, 22, 23, 24, 25, 26, 27, 28, 29, 30, 31, 32, 33, 34, 35, 36, 37, 38, 39, 40, 41, 42, 43, 44, 45, 46, 47, 48, 49]) (by repeat (first | exact Agr.refl _ _ | refine Agr.upd ?_ rfl | refine Agr.mix ?_ rfl))) rfl) rfl, (by omega), (by omega), hF6.1, (by rw [hF6.2]; exact rotTo_gt hro (by omega)), rfl, hs.take 1⟩
        omega
      ·
        replace c3 := of_decide_eq_false c3
        refine W_seq ?_
        refine W_region ?_
        refine RW_op (L_move (V := .slice a N c) rfl ?_)
        refine RW_op (L_move (V := .int .i64 ((mid : Nat) : Int)) rfl ?_)
        refine RW_op (L_move (V := .int .i64 ((i : Nat) : Int)) rfl ?_)
        refine RW_op (L_sub (a := ((mid : Nat) : Int)) (b := ((i : Nat) : Int)) (c := ((mid - i : Nat) : Int)) rfl rfl (nat_i64 (by omega) (by omega)) ?_)
        refine RW_op (L_move (V := .int .i64 ((mid : Nat) : Int)) rfl ?_)
        refine RW_op (L_move (V := .int .i64 ((j : Nat) : Int)) rfl ?_)
        refine RW_op (L_add (a := ((mid : Nat) : Int)) (b := ((j : Nat) : Int)) (c := ((mid + j : Nat) : Int)) rfl rfl (nat_i64 (by omega) (by omega)) ?_)
        refine RW_op (L_move (V := .int .i64 ((i : Nat) : Int)) rfl ?_)
        refine RW_op (L_sub (a := ((mid + j : Nat) : Int)) (b := ((i : Nat) : Int)) (c := (((mid + j) - i : Nat) : Int)) rfl rfl (nat_i64 (by omega) (by omega)) ?_)
        refine RW_op (L_move (V := .int .i64 ((i : Nat) : Int)) rfl ?_)
        refine RW_op (L_move (V := .func (.func g) #[] #[]) rfl ?_)
        refine RW_op (L_callB (α := List Cen) (vs := [.slice a N c, .int .i64 ((mid - i : Nat) : Int), .int .i64 (((mid + j) - i : Nat) : Int), .int .i64 ((i : Nat) : Int), .func (.func g) #[] #[]]) (V := fun _ => .tuple #[]) (R := row (.slice a N c) (m.map cec) 128 7) (R' := fun x => row (.slice a N c) (x.map cec) 128 7) (Lo := fun _ => []) (F := fun x _ => x.length = N ∧ x = swN m (mid - i) ((mid + j) - i) i) EN_168 rfl rfl hs 0 rfl (fun S hS hlt => srS_ok _ S a N c m (by first | assumption | omega) hN (mid - i) ((mid + j) - i) i (by omega) (by omega) g hg cf hc hcmp hS hlt) fun mz7 w8 hs hF9 => ?_)
        refine RW_nil ?_
        refine W_region ?_
        refine RW_op (L_move (V := .int .i64 ((j : Nat) : Int)) rfl ?_)
        refine RW_op (L_move (V := .int .i64 ((i : Nat) : Int)) rfl ?_)
        refine RW_op (L_sub (a := ((j : Nat) : Int)) (b := ((i : Nat) : Int)) (c := ((j - i : Nat) : Int)) rfl rfl (nat_i64 (by omega) (by omega)) ?_)
        refine RW_op (L_assign (V := .int .i64 ((j - i : Nat) : Int)) rfl ?_)
        refine RW_nil ?_
        refine ⟨_, ?_, _, i, j - i, mz7, upd_of (upd_of (mix_of (ds := [10, 11, 18, 19, 20, 21, 22, 23, 24, 25, 26, 27, 28, 29, 30, 31, 32, 33, 34, 35, 36, 37, 38, 39, 40, 41, 42, 43, 44, 45, 46, 47, 48, 49]) (by repeat (first | exact Agr.refl _ _ | refine Agr.upd ?_ rfl | refine Agr.mix ?_ rfl))) rfl) rfl, (by omega), (by omega), hF9.1, (by rw [hF9.2]; exact rotTo_lt hro (by omega)), rfl, hs.take 1⟩
        omega
    ·
      replace c2 := not_f c2
      replace c2 := of_decide_eq_true c2
      refine W_exit ?_
      have hrl := rotTo_len hro
      have hij : i = j := by omega
      refine W_region ?_
      refine RW_op (L_move (V := .slice a N c) rfl ?_)
      refine RW_op (L_move (V := .int .i64 ((mid : Nat) : Int)) rfl ?_)
      refine RW_op (L_move (V := .int .i64 ((i : Nat) : Int)) rfl ?_)
      refine RW_op (L_sub (a := ((mid : Nat) : Int)) (b := ((i : Nat) : Int)) (c := ((mid - i : Nat) : Int)) rfl rfl (nat_i64 (by omega) (by omega)) ?_)
      refine RW_op (L_move (V := .int .i64 ((mid : Nat) : Int)) rfl ?_)
      refine RW_op (L_move (V := .int .i64 ((i : Nat) : Int)) rfl ?_)
      refine RW_op (L_move (V := .func (.func g) #[] #[]) rfl ?_)
      refine RW_op (L_callB (α := List Cen) (vs := [.slice a N c, .int .i64 ((mid - i : Nat) : Int), .int .i64 ((mid : Nat) : Int), .int .i64 ((i : Nat) : Int), .func (.func g) #[] #[]]) (V := fun _ => .tuple #[]) (R := row (.slice a N c) (m.map cec) 128 7) (R' := fun x => row (.slice a N c) (x.map cec) 128 7) (Lo := fun _ => []) (F := fun x _ => x.length = N ∧ x = swN m (mid - i) mid i) EN_168 rfl rfl hs 0 rfl (fun S hS hlt => srS_ok _ S a N c m (by first | assumption | omega) hN (mid - i) mid i (by omega) (by omega) g hg cf hc hcmp hS hlt) fun mz10 w11 hs hF12 => ?_)
      refine RW_nil ?_
      refine ⟨_, res_none Try.results159, ?_⟩
      have hxt : mz10 = t := by rw [hF12.2]; exact rotTo_eq hro (by omega)
      rw [hxt] at hs
      exact ⟨t, rfl, hs.take 1, by rw [← hxt]; exact hF12.1, hrt⟩
end Tt
end Go.Proofs
namespace Go.Proofs
open Go Go.Vx Go.RowKit
namespace Tt
set_option maxRecDepth 20000 in
set_option maxHeartbeats 4000000 in
theorem symS_step (d : Nat) (g : Nat) (hg : En Try.prog g) (cf : Cen → Cen → Int) (hc : CmpO cf) (hcmp : ∀ (w : World) (x y : Cen), Calls Try.prog g #[.agg (cec x).toArray, .agg (cec y).toArray] w (fun e w' => e = .returned (.int .i64 (cf x y)) ∧ Own w no w' [])) (ih : SymAt Try.prog 139 g 128 7 cec cf d) (w : World) (S : Nat → Prop) (a : Option Addr) (N c : Nat) (l : List Cen) (lo mid hi : Nat) (hz : l.length = N) (hN : N ≤ 2305843009213693951) (hd : hi - lo ≤ d + 1) (h1 : lo < mid) (h2 : mid < hi) (h3 : hi ≤ N) (ho1 : OrdSeg cf l lo mid) (ho2 : OrdSeg cf l mid hi) (hR : (row (.slice a N c) (l.map cec) 128 7).holds w S) (hlt : ∀ b, S b → b < w.heap.size) : Calls Try.prog 139 #[.slice a N c, .int .i64 ((lo : Nat) : Int), .int .i64 ((mid : Nat) : Int), .int .i64 ((hi : Nat) : Int), .func (.func g) #[] #[]] w (fun e w' => ∃ x : List Cen, e = .returned (.tuple #[]) ∧ Own w S w' [row (.slice a N c) (x.map cec) 128 7] ∧ (x.length = N ∧ Merged cf l x lo hi)) := by
  refine calls_of_Wn (n := 220) Try.func139 rfl Try.ntmps139 rfl ?_
  have hs := Own.lent hR hlt
  refine W_seq ?_
  refine W_seq ?_
  refine W_region ?_
  refine RW_op (L_move (V := .int .i64 ((mid : Nat) : Int)) rfl ?_)
  refine RW_op (L_move (V := .int .i64 ((lo : Nat) : Int)) rfl ?_)
  refine RW_op (L_sub (a := ((mid : Nat) : Int)) (b := ((lo : Nat) : Int)) (c := ((mid - lo : Nat) : Int)) rfl rfl (nat_i64 (by omega) (by omega)) ?_)
  refine RW_op (L_eql rfl rfl ?_)
  refine RW_nil ?_
  refine W_cond (t := decide (((mid - lo : Nat) : Int) = 1)) rfl (fun c1 => ?_) (fun c1 => ?_)
  ·
    replace c1 := of_decide_eq_true c1
    refine W_seq ?_
    refine W_region ?_
    refine RW_op (L_move (V := .int .i64 ((mid : Nat) : Int)) rfl ?_)
    refine RW_op (L_assign (V := .int .i64 ((mid : Nat) : Int)) rfl ?_)
    refine RW_nil ?_
    refine W_seq ?_
    refine W_region ?_
    refine RW_op (L_move (V := .int .i64 ((hi : Nat) : Int)) rfl ?_)
    refine RW_op (L_assign (V := .int .i64 ((hi : Nat) : Int)) rfl ?_)
    refine RW_nil ?_
    refine W_seq ?_
    refine W_block ?_
    refine W_loopI (fun ρ μ ρ' w' => ∃ (ρo : Env) (i : Nat) (j : Nat), ρ' = upd (upd (mix [10, 11, 12, 31, 32, 33, 34, 35, 36, 37, 38, 39, 40, 41, 42, 43, 44, 45, 46, 47, 48, 49, 50, 51, 52, 53] ρo ρ) 10 (.int .i64 ((i : Nat) : Int))) 11 (.int .i64 ((j : Nat) : Int)) ∧ (mid ≤ i) ∧ (i ≤ j) ∧ (j ≤ hi) ∧ (i = mid ∨ cf (gd l (i - 1)) (gd l lo) < 0) ∧ (j = hi ∨ ¬ cf (gd l j) (gd l lo) < 0) ∧ μ = j - i ∧ Own w S w' [row (.slice a N c) (l.map cec) 128 7]) ?_ ?_
    · exact ⟨_, _, mid, hi, upd_of (upd_of (mix_of (ds := [10, 11, 12, 31, 32, 33, 34, 35, 36, 37, 38, 39, 40, 41, 42, 43, 44, 45, 46, 47, 48, 49, 50, 51, 52, 53]) (Agr.refl _ _)) rfl) rfl, (Nat.le_refl _), (by omega), (Nat.le_refl _), (Or.inl rfl), (Or.inl rfl), rfl, hs⟩
    · rintro μ ρ' w2 ⟨ρo, i, j, rfl, hi1, hij, hj1, hi2, hj2, rfl, hs⟩
      refine W_seq ?_
      refine W_seq ?_
      refine W_region ?_
      refine RW_op (L_move (V := .int .i64 ((i : Nat) : Int)) rfl ?_)
      refine RW_op (L_move (V := .int .i64 ((j : Nat) : Int)) rfl ?_)
      refine RW_op (L_lss rfl rfl ?_)
      refine RW_nil ?_
      refine W_cond (t := decide (((i : Nat) : Int) < ((j : Nat) : Int))) rfl (fun c3 => ?_) (fun c3 => ?_)
      ·
        replace c3 := of_decide_eq_true c3
        refine W_skip ?_
        refine W_block ?_
        refine W_seq ?_
        refine W_region ?_
        refine RW_op (L_move (V := .int .i64 ((i : Nat) : Int)) rfl ?_)
        refine RW_op (L_move (V := .int .i64 ((j : Nat) : Int)) rfl ?_)
        refine RW_op (L_add (a := ((i : Nat) : Int)) (b := ((j : Nat) : Int)) (c := ((i + j : Nat) : Int)) rfl rfl (nat_i64 (by omega) (by omega)) ?_)
        refine RW_op (L_conv UD_3 UD_170 rfl (wr_u64 (by omega) (by omega)) ?_)
        refine RW_op (L_shrN rfl rfl ?_)
        refine RW_op (L_conv UD_170 UD_3 rfl (wr_i64 (by omega) (by omega)) ?_)
        refine RW_op (L_assign (V := .int .i64 (((i + j) / 2 : Nat) : Int)) rfl ?_)
        refine RW_nil ?_
        refine W_seq ?_
        refine W_regD HM [some 40, some 41, some 42, some 43, some 44, some 45, some 46, some 47, some 48, some 49, some 50] [] [0, 0, 0, 6, 14, 0, 0, 96, 224, 511, 1023] [pv (.func (.func g) #[] #[]), pv (.slice a N c), pv (.int .i64 (((i + j) / 2 : Nat) : Int)), pv (.pointer (some ⟨bkS (.slice a N c), ofS (.slice a N c) + (((i + j) / 2 : Nat) : Int).toNat * 7, none⟩)), pv (.agg (cec (gd l ((i + j) / 2))).toArray), pv (.slice a N c), pv (.int .i64 ((lo : Nat) : Int)), pv (.pointer (some ⟨bkS (.slice a N c), ofS (.slice a N c) + ((lo : Nat) : Int).toNat * 7, none⟩)), pv (.agg (cec (gd l lo)).toArray), pv (.int .i64 (cf (gd l ((i + j) / 2)) (gd l lo))), pv (.bool (decide (cf (gd l ((i + j) / 2)) (gd l lo) < 0)))] (fun _ _ => _) [10] (by kernel_rfl) hs ⟨?_, ?_, ?_, ?_, ?_, ?_, ?_, ?_, ?_, ?_, ?_, trivial⟩ ?_
        · exact ob [] [] rfl rfl fun D ρ w hs => L_move (V := .func (.func g) #[] #[]) rfl ⟨rfl, hs⟩
        · exact ob [] [] rfl rfl fun D ρ w hs => L_move (V := .slice a N c) rfl ⟨rfl, hs⟩
        · exact ob [] [] rfl rfl fun D ρ w hs => L_move (V := .int .i64 (((i + j) / 2 : Nat) : Int)) rfl ⟨rfl, hs⟩
        · exact ob [1, 2] [] rfl rfl fun D ρ w hs => L_ixR UD_59 SA_128.1 (hs.rd 0 rfl) rfl rfl (by omega) (by rw [List.length_map]; omega) ⟨rfl, hs⟩
        · exact ob [3] [] rfl rfl fun D ρ w hs => L_ldRA (j := 0) (vs := cec (gd l ((i + j) / 2))) ((i + j) / 2) SA_128 (hs.rd 0 rfl) (gd_at (by omega)) rfl rfl rfl (by omega) ⟨rfl, hs⟩
        · exact ob [] [] rfl rfl fun D ρ w hs => L_move (V := .slice a N c) rfl ⟨rfl, hs⟩
        · exact ob [] [] rfl rfl fun D ρ w hs => L_move (V := .int .i64 ((lo : Nat) : Int)) rfl ⟨rfl, hs⟩
        · exact ob [5, 6] [] rfl rfl fun D ρ w hs => L_ixR UD_59 SA_128.1 (hs.rd 0 rfl) rfl rfl (by omega) (by rw [List.length_map]; omega) ⟨rfl, hs⟩
        · exact ob [7] [] rfl rfl fun D ρ w hs => L_ldRA (j := 0) (vs := cec (gd l lo)) lo SA_128 (hs.rd 0 rfl) (gd_at (by omega)) rfl rfl rfl (by omega) ⟨rfl, hs⟩
        · exact ob [0, 4, 8] [] rfl rfl fun D ρ w hs => L_fnP (vs := [.agg (cec (gd l ((i + j) / 2))).toArray, .agg (cec (gd l lo)).toArray]) (cs := []) (V := .int .i64 (cf (gd l ((i + j) / 2)) (gd l lo))) hg rfl rfl (hcmp _ (gd l ((i + j) / 2)) (gd l lo)) hs fun _ hs => ⟨rfl, hs⟩
        · exact ob [9] [] rfl rfl fun D ρ w hs => L_lss rfl rfl ⟨rfl, hs⟩
        rintro ρ1 w5 ρ2 hρ hs
        replace hρ : ρ2 = upd (mix [40, 41, 42, 43, 44, 45, 46, 47, 48, 49, 50] ρ1 _) 50 (.bool (decide (cf (gd l ((i + j) / 2)) (gd l lo) < 0))) := hρ
        subst hρ
        refine W_cond (t := decide (cf (gd l ((i + j) / 2)) (gd l lo) < 0)) rfl (fun c6 => ?_) (fun c6 => ?_)
        ·
          replace c6 := of_decide_eq_true c6
          refine W_region ?_
          refine RW_op (L_move (V := .int .i64 (((i + j) / 2 : Nat) : Int)) rfl ?_)
          refine RW_op (L_add (a := (((i + j) / 2 : Nat) : Int)) (b := 1) (c := ((((i + j) / 2) + 1 : Nat) : Int)) rfl rfl (nat_i64 (by omega) (by omega)) ?_)
          refine RW_op (L_assign (V := .int .i64 ((((i + j) / 2) + 1 : Nat) : Int)) rfl ?_)
          refine RW_nil ?_
          refine ⟨_, ?_, _, ((i + j) / 2) + 1, j, upd_of (upd_of (mix_of (ds := [10, 11, 12, 31, 32, 33, 34, 35, 36, 37, 38, 39, 40, 41, 42, 43, 44, 45, 46, 47, 48, 49, 50, 51, 52, 53]) (by repeat (first | exact Agr.refl _ _ | refine Agr.upd ?_ rfl | refine Agr.mix ?_ rfl))) rfl) rfl, (by omega), (by omega), (by omega), (Or.inr (by rw [Nat.add_sub_cancel]; exact c6)), hj2, rfl, hs.take 1⟩
          omega
        ·
          replace c6 := of_decide_eq_false c6
          refine W_region ?_
          refine RW_op (L_move (V := .int .i64 (((i + j) / 2 : Nat) : Int)) rfl ?_)
          refine RW_op (L_assign (V := .int .i64 (((i + j) / 2 : Nat) : Int)) rfl ?_)
          refine RW_nil ?_
          refine ⟨_, ?_, _, i, (i + j) / 2, upd_of (upd_of (mix_of (ds := [10, 11, 12, 31, 32, 33, 34, 35, 36, 37, 38, 39, 40, 41, 42, 43, 44, 45, 46, 47, 48, 49, 50, 51, 52, 53]) (by repeat (first | exact Agr.refl _ _ | refine Agr.upd ?_ rfl | refine Agr.mix ?_ rfl))) rfl) rfl, (by omega), (by omega), (by omega), hi2, (Or.inr c6), rfl, hs.take 1⟩
          omega
      ·
        replace c3 := of_decide_eq_false c3
        refine W_exit ?_
        refine W_seq ?_
        refine W_seq ?_
        refine W_region ?_
        refine RW_op (L_move (V := .int .i64 ((lo : Nat) : Int)) rfl ?_)
        refine RW_op (L_assign (V := .int .i64 ((lo : Nat) : Int)) rfl ?_)
        refine RW_nil ?_
        refine W_block ?_
        have hie : i = j := by omega
        refine W_loopI (fun ρ μ ρ' w' => ∃ (ρo : Env) (k : Nat) (m : List Cen), ρ' = upd (mix [13, 55, 56, 57, 58, 59, 60, 61, 62, 63, 64, 65, 66, 67, 68, 69, 70, 71, 72, 73, 74, 75, 76] ρo ρ) 13 (.int .i64 ((k : Nat) : Int)) ∧ (lo ≤ k) ∧ (k + 1 ≤ i) ∧ (m.length = N) ∧ (RotSeg l m lo (lo + 1) (k + 1)) ∧ μ = i - k ∧ Own w S w' [row (.slice a N c) (m.map cec) 128 7]) ?_ ?_
        · exact ⟨_, _, lo, l, upd_of (mix_of (ds := [13, 55, 56, 57, 58, 59, 60, 61, 62, 63, 64, 65, 66, 67, 68, 69, 70, 71, 72, 73, 74, 75, 76]) (Agr.refl _ _)) rfl, (Nat.le_refl _), (by omega), hz, (RotSeg.refl (by omega) (by omega) (by omega) (Or.inr rfl)), rfl, hs⟩
        · rintro μ ρ' w7 ⟨ρo, k, m, rfl, hk1, hk2, hz1, hro, rfl, hs⟩
          refine W_seq ?_
          refine W_seq ?_
          refine W_region ?_
          refine RW_op (L_move (V := .int .i64 ((k : Nat) : Int)) rfl ?_)
          refine RW_op (L_move (V := .int .i64 ((i : Nat) : Int)) rfl ?_)
          refine RW_op (L_sub (a := ((i : Nat) : Int)) (b := 1) (c := ((i - 1 : Nat) : Int)) rfl rfl (nat_i64 (by omega) (by omega)) ?_)
          refine RW_op (L_lss rfl rfl ?_)
          refine RW_nil ?_
          refine W_cond (t := decide (((k : Nat) : Int) < ((i - 1 : Nat) : Int))) rfl (fun c8 => ?_) (fun c8 => ?_)
          ·
            replace c8 := of_decide_eq_true c8
            refine W_skip ?_
            refine W_seq ?_
            refine W_block ?_
            refine W_regD HM [some 61, some 62, some 63, some 64, some 65, some 66, some 67, some 68, some 69, some 70, some 71, some 72, some 73, some 74, some 75, none, some 76, none] [] [0, 0, 0, 0, 8, 0, 0, 64, 224, 480, 0, 0, 3072, 7168, 16355, 32739, 65535, 131071] [pv (.slice a N c), pv (.int .i64 ((k : Nat) : Int)), pv (.slice a N c), pv (.int .i64 ((k : Nat) : Int)), pv (.int .i64 ((k + 1 : Nat) : Int)), pv (.slice a N c), pv (.int .i64 ((k : Nat) : Int)), pv (.int .i64 ((k + 1 : Nat) : Int)), pv (.pointer (some ⟨bkS (.slice a N c), ofS (.slice a N c) + ((k + 1 : Nat) : Int).toNat * 7, none⟩)), pv (.agg (cec (gd m (k + 1))).toArray), pv (.slice a N c), pv (.int .i64 ((k : Nat) : Int)), pv (.pointer (some ⟨bkS (.slice a N c), ofS (.slice a N c) + ((k : Nat) : Int).toNat * 7, none⟩)), pv (.agg (cec (gd m k)).toArray), pv (.pointer (some ⟨bkS (.slice a N c), ofS (.slice a N c) + ((k : Nat) : Int).toNat * 7, none⟩)), pn, pv (.pointer (some ⟨bkS (.slice a N c), ofS (.slice a N c) + ((k + 1 : Nat) : Int).toNat * 7, none⟩)), pn] (fun D ρ => [cond (D 17) (row (.slice a N c) (((m.set k (gd m (k + 1))).set (k + 1) (gd m k)).map cec) 128 7) (cond (D 15) (row (.slice a N c) ((m.set k (gd m (k + 1))).map cec) 128 7) (row (.slice a N c) (m.map cec) 128 7))]) [] (by kernel_rfl) hs ⟨?_, ?_, ?_, ?_, ?_, ?_, ?_, ?_, ?_, ?_, ?_, ?_, ?_, ?_, ?_, ?_, ?_, ?_, trivial⟩ ?_
            · exact ob [] [] rfl rfl fun D ρ w hs => L_move (V := .slice a N c) rfl ⟨rfl, hs⟩
            · exact ob [] [] rfl rfl fun D ρ w hs => L_move (V := .int .i64 ((k : Nat) : Int)) rfl ⟨rfl, hs⟩
            · exact ob [] [] rfl rfl fun D ρ w hs => L_move (V := .slice a N c) rfl ⟨rfl, hs⟩
            · exact ob [] [] rfl rfl fun D ρ w hs => L_move (V := .int .i64 ((k : Nat) : Int)) rfl ⟨rfl, hs⟩
            · exact ob [3] [] rfl rfl fun D ρ w hs => L_add (a := ((k : Nat) : Int)) (b := 1) (c := ((k + 1 : Nat) : Int)) rfl rfl (nat_i64 (by omega) (by omega)) ⟨rfl, hs⟩
            · exact ob [] [] rfl rfl fun D ρ w hs => L_move (V := .slice a N c) rfl ⟨rfl, hs⟩
            · exact ob [] [] rfl rfl fun D ρ w hs => L_move (V := .int .i64 ((k : Nat) : Int)) rfl ⟨rfl, hs⟩
            · exact ob [6] [] rfl rfl fun D ρ w hs => L_add (a := ((k : Nat) : Int)) (b := 1) (c := ((k + 1 : Nat) : Int)) rfl rfl (nat_i64 (by omega) (by omega)) ⟨rfl, hs⟩
            · exact ob [5, 7] [15, 17] rfl rfl fun D ρ w hs => L_ixR UD_59 SA_128.1 (hs.rd 0 rfl) rfl rfl (by omega) (by rw [List.length_map]; omega) ⟨rfl, hs⟩
            · exact ob [8] [15, 17] rfl rfl fun D ρ w hs => L_ldRA (j := 0) (vs := cec (gd m (k + 1))) (k + 1) SA_128 (hs.rd 0 rfl) (gd_at (by omega)) rfl rfl rfl (by omega) ⟨rfl, hs⟩
            · exact ob [] [] rfl rfl fun D ρ w hs => L_move (V := .slice a N c) rfl ⟨rfl, hs⟩
            · exact ob [] [] rfl rfl fun D ρ w hs => L_move (V := .int .i64 ((k : Nat) : Int)) rfl ⟨rfl, hs⟩
            · exact ob [10, 11] [15, 17] rfl rfl fun D ρ w hs => L_ixR UD_59 SA_128.1 (hs.rd 0 rfl) rfl rfl (by omega) (by rw [List.length_map]; omega) ⟨rfl, hs⟩
            · exact ob [12] [15, 17] rfl rfl fun D ρ w hs => L_ldRA (j := 0) (vs := cec (gd m k)) k SA_128 (hs.rd 0 rfl) (gd_at (by omega)) rfl rfl rfl (by omega) ⟨rfl, hs⟩
            · exact ob [0, 1] [15, 17] rfl rfl fun D ρ w hs => L_ixR UD_59 SA_128.1 (hs.rd 0 rfl) rfl rfl (by omega) (by rw [List.length_map]; omega) ⟨rfl, hs⟩
            · exact ob [9, 14] [17] rfl rfl fun D ρ w hs => L_stE (z := gd m (k + 1)) k SA_128.1 hs 0 rfl rfl rfl (by first | omega | (simp only [List.length_set]; omega)) rfl rfl rfl (cec_one _) fun _ hs => ⟨trivial, hs⟩
            · exact ob [2, 4, 15] [17] rfl rfl fun D ρ w hs => L_ixR UD_59 SA_128.1 (hs.rd 0 rfl) rfl rfl (by omega) (by simp only [List.length_map, List.length_set]; omega) ⟨rfl, hs⟩
            · exact ob [13, 15, 16] [] rfl rfl fun D ρ w hs => L_stE (z := gd m k) (k + 1) SA_128.1 hs 0 rfl rfl rfl (by first | omega | (simp only [List.length_set]; omega)) rfl rfl rfl (cec_one _) fun _ hs => ⟨trivial, hs⟩
            rintro ρ1 w11 ρ2 hρ hs
            replace hρ : ρ2 = mix [61, 62, 63, 64, 65, 66, 67, 68, 69, 70, 71, 72, 73, 74, 75, 76] ρ1 _ := hρ
            replace hs : Own w S w11 [row (.slice a N c) (((m.set k (gd m (k + 1))).set (k + 1) (gd m k)).map cec) 128 7] := hs
            subst hρ
            replace hs : Own w S _ [row (.slice a N c) ((swL m k (k + 1)).map cec) 128 7] := hs.take 1
            refine W_region ?_
            refine RW_op (L_move (V := .int .i64 ((k : Nat) : Int)) rfl ?_)
            refine RW_op (L_add (a := ((k : Nat) : Int)) (b := 1) (c := ((k + 1 : Nat) : Int)) rfl rfl (nat_i64 (by omega) (by omega)) ?_)
            refine RW_op (L_assign (V := .int .i64 ((k + 1 : Nat) : Int)) rfl ?_)
            refine RW_nil ?_
            refine ⟨_, ?_, _, k + 1, swL m k (k + 1), upd_of (mix_of (ds := [13, 55, 56, 57, 58, 59, 60, 61, 62, 63, 64, 65, 66, 67, 68, 69, 70, 71, 72, 73, 74, 75, 76]) (by repeat (first | exact Agr.refl _ _ | refine Agr.upd ?_ rfl | refine Agr.mix ?_ rfl))) rfl, (by omega), (by omega), (by rw [swL_len]; exact hz1), (rot_up hro (by omega)), rfl, hs.take 1⟩
            omega
          ·
            replace c8 := of_decide_eq_false c8
            refine W_exit ?_
            refine W_ret ?_
            refine ⟨_, res_none Try.results139, ?_⟩
            have hke : k + 1 = i := by omega
            rw [hke] at hro
            exact ⟨m, rfl, hs.take 1, hz1, sym_up hc (by rw [show lo + 1 = mid by omega]; exact ho2) (by omega) (by omega) (by omega) hro (by rw [hie]; exact hj2) (by rw [show lo + 1 = mid by omega]; exact hi2)⟩
  ·
    replace c1 := of_decide_eq_false c1
    refine W_skip ?_
    refine W_seq ?_
    refine W_seq ?_
    refine W_region ?_
    refine RW_op (L_move (V := .int .i64 ((hi : Nat) : Int)) rfl ?_)
    refine RW_op (L_move (V := .int .i64 ((mid : Nat) : Int)) rfl ?_)
    refine RW_op (L_sub (a := ((hi : Nat) : Int)) (b := ((mid : Nat) : Int)) (c := ((hi - mid : Nat) : Int)) rfl rfl (nat_i64 (by omega) (by omega)) ?_)
    refine RW_op (L_eql rfl rfl ?_)
    refine RW_nil ?_
    refine W_cond (t := decide (((hi - mid : Nat) : Int) = 1)) rfl (fun c12 => ?_) (fun c12 => ?_)
    ·
      replace c12 := of_decide_eq_true c12
      refine W_seq ?_
      refine W_region ?_
      refine RW_op (L_move (V := .int .i64 ((lo : Nat) : Int)) rfl ?_)
      refine RW_op (L_assign (V := .int .i64 ((lo : Nat) : Int)) rfl ?_)
      refine RW_nil ?_
      refine W_seq ?_
      refine W_region ?_
      refine RW_op (L_move (V := .int .i64 ((mid : Nat) : Int)) rfl ?_)
      refine RW_op (L_assign (V := .int .i64 ((mid : Nat) : Int)) rfl ?_)
      refine RW_nil ?_
      refine W_seq ?_
      refine W_block ?_
      refine W_loopI (fun ρ μ ρ' w' => ∃ (ρo : Env) (i : Nat) (j : Nat), ρ' = upd (upd (mix [14, 15, 16, 83, 84, 85, 86, 87, 88, 89, 90, 91, 92, 93, 94, 95, 96, 97, 98, 99, 100, 101, 102, 103, 104, 105, 106] ρo ρ) 14 (.int .i64 ((i : Nat) : Int))) 15 (.int .i64 ((j : Nat) : Int)) ∧ (lo ≤ i) ∧ (i ≤ j) ∧ (j ≤ mid) ∧ (i = lo ∨ ¬ cf (gd l mid) (gd l (i - 1)) < 0) ∧ (j = mid ∨ cf (gd l mid) (gd l j) < 0) ∧ μ = j - i ∧ Own w S w' [row (.slice a N c) (l.map cec) 128 7]) ?_ ?_
      · exact ⟨_, _, lo, mid, upd_of (upd_of (mix_of (ds := [14, 15, 16, 83, 84, 85, 86, 87, 88, 89, 90, 91, 92, 93, 94, 95, 96, 97, 98, 99, 100, 101, 102, 103, 104, 105, 106]) (Agr.refl _ _)) rfl) rfl, (Nat.le_refl _), (by omega), (Nat.le_refl _), (Or.inl rfl), (Or.inl rfl), rfl, hs⟩
      · rintro μ ρ' w13 ⟨ρo, i, j, rfl, hi1, hij, hj1, hi2, hj2, rfl, hs⟩
        refine W_seq ?_
        refine W_seq ?_
        refine W_region ?_
        refine RW_op (L_move (V := .int .i64 ((i : Nat) : Int)) rfl ?_)
        refine RW_op (L_move (V := .int .i64 ((j : Nat) : Int)) rfl ?_)
        refine RW_op (L_lss rfl rfl ?_)
        refine RW_nil ?_
        refine W_cond (t := decide (((i : Nat) : Int) < ((j : Nat) : Int))) rfl (fun c14 => ?_) (fun c14 => ?_)
        ·
          replace c14 := of_decide_eq_true c14
          refine W_skip ?_
          refine W_block ?_
          refine W_seq ?_
          refine W_region ?_
          refine RW_op (L_move (V := .int .i64 ((i : Nat) : Int)) rfl ?_)
          refine RW_op (L_move (V := .int .i64 ((j : Nat) : Int)) rfl ?_)
          refine RW_op (L_add (a := ((i : Nat) : Int)) (b := ((j : Nat) : Int)) (c := ((i + j : Nat) : Int)) rfl rfl (nat_i64 (by omega) (by omega)) ?_)
          refine RW_op (L_conv UD_3 UD_170 rfl (wr_u64 (by omega) (by omega)) ?_)
          refine RW_op (L_shrN rfl rfl ?_)
          refine RW_op (L_conv UD_170 UD_3 rfl (wr_i64 (by omega) (by omega)) ?_)
          refine RW_op (L_assign (V := .int .i64 (((i + j) / 2 : Nat) : Int)) rfl ?_)
          refine RW_nil ?_
          refine W_seq ?_
          refine W_regD HM [some 92, some 93, some 94, some 95, some 96, some 97, some 98, some 99, some 100, some 101, some 102, some 103] [] [0, 0, 0, 6, 14, 0, 0, 96, 224, 511, 1023, 2047] [pv (.func (.func g) #[] #[]), pv (.slice a N c), pv (.int .i64 ((mid : Nat) : Int)), pv (.pointer (some ⟨bkS (.slice a N c), ofS (.slice a N c) + ((mid : Nat) : Int).toNat * 7, none⟩)), pv (.agg (cec (gd l mid)).toArray), pv (.slice a N c), pv (.int .i64 (((i + j) / 2 : Nat) : Int)), pv (.pointer (some ⟨bkS (.slice a N c), ofS (.slice a N c) + (((i + j) / 2 : Nat) : Int).toNat * 7, none⟩)), pv (.agg (cec (gd l ((i + j) / 2))).toArray), pv (.int .i64 (cf (gd l mid) (gd l ((i + j) / 2)))), pv (.bool (decide (cf (gd l mid) (gd l ((i + j) / 2)) < 0))), pv (.bool (!decide (cf (gd l mid) (gd l ((i + j) / 2)) < 0)))] (fun _ _ => _) [11] (by kernel_rfl) hs ⟨?_, ?_, ?_, ?_, ?_, ?_, ?_, ?_, ?_, ?_, ?_, ?_, trivial⟩ ?_
          · exact ob [] [] rfl rfl fun D ρ w hs => L_move (V := .func (.func g) #[] #[]) rfl ⟨rfl, hs⟩
          · exact ob [] [] rfl rfl fun D ρ w hs => L_move (V := .slice a N c) rfl ⟨rfl, hs⟩
          · exact ob [] [] rfl rfl fun D ρ w hs => L_move (V := .int .i64 ((mid : Nat) : Int)) rfl ⟨rfl, hs⟩
          · exact ob [1, 2] [] rfl rfl fun D ρ w hs => L_ixR UD_59 SA_128.1 (hs.rd 0 rfl) rfl rfl (by omega) (by rw [List.length_map]; omega) ⟨rfl, hs⟩
          · exact ob [3] [] rfl rfl fun D ρ w hs => L_ldRA (j := 0) (vs := cec (gd l mid)) mid SA_128 (hs.rd 0 rfl) (gd_at (by omega)) rfl rfl rfl (by omega) ⟨rfl, hs⟩
          · exact ob [] [] rfl rfl fun D ρ w hs => L_move (V := .slice a N c) rfl ⟨rfl, hs⟩
          · exact ob [] [] rfl rfl fun D ρ w hs => L_move (V := .int .i64 (((i + j) / 2 : Nat) : Int)) rfl ⟨rfl, hs⟩
          · exact ob [5, 6] [] rfl rfl fun D ρ w hs => L_ixR UD_59 SA_128.1 (hs.rd 0 rfl) rfl rfl (by omega) (by rw [List.length_map]; omega) ⟨rfl, hs⟩
          · exact ob [7] [] rfl rfl fun D ρ w hs => L_ldRA (j := 0) (vs := cec (gd l ((i + j) / 2))) ((i + j) / 2) SA_128 (hs.rd 0 rfl) (gd_at (by omega)) rfl rfl rfl (by omega) ⟨rfl, hs⟩
          · exact ob [0, 4, 8] [] rfl rfl fun D ρ w hs => L_fnP (vs := [.agg (cec (gd l mid)).toArray, .agg (cec (gd l ((i + j) / 2))).toArray]) (cs := []) (V := .int .i64 (cf (gd l mid) (gd l ((i + j) / 2)))) hg rfl rfl (hcmp _ (gd l mid) (gd l ((i + j) / 2))) hs fun _ hs => ⟨rfl, hs⟩
          · exact ob [9] [] rfl rfl fun D ρ w hs => L_lss rfl rfl ⟨rfl, hs⟩
          · exact ob [10] [] rfl rfl fun D ρ w hs => L_not rfl ⟨rfl, hs⟩
          rintro ρ1 w16 ρ2 hρ hs
          replace hρ : ρ2 = upd (mix [92, 93, 94, 95, 96, 97, 98, 99, 100, 101, 102, 103] ρ1 _) 103 (.bool (!decide (cf (gd l mid) (gd l ((i + j) / 2)) < 0))) := hρ
          subst hρ
          refine W_cond (t := !decide (cf (gd l mid) (gd l ((i + j) / 2)) < 0)) rfl (fun c17 => ?_) (fun c17 => ?_)
          ·
            replace c17 := not_t c17
            replace c17 := of_decide_eq_false c17
            refine W_region ?_
            refine RW_op (L_move (V := .int .i64 (((i + j) / 2 : Nat) : Int)) rfl ?_)
            refine RW_op (L_add (a := (((i + j) / 2 : Nat) : Int)) (b := 1) (c := ((((i + j) / 2) + 1 : Nat) : Int)) rfl rfl (nat_i64 (by omega) (by omega)) ?_)
            refine RW_op (L_assign (V := .int .i64 ((((i + j) / 2) + 1 : Nat) : Int)) rfl ?_)
            refine RW_nil ?_
            refine ⟨_, ?_, _, ((i + j) / 2) + 1, j, upd_of (upd_of (mix_of (ds := [14, 15, 16, 83, 84, 85, 86, 87, 88, 89, 90, 91, 92, 93, 94, 95, 96, 97, 98, 99, 100, 101, 102, 103, 104, 105, 106]) (by repeat (first | exact Agr.refl _ _ | refine Agr.upd ?_ rfl | refine Agr.mix ?_ rfl))) rfl) rfl, (by omega), (by omega), (by omega), (Or.inr (by rw [Nat.add_sub_cancel]; exact c17)), hj2, rfl, hs.take 1⟩
            omega
          ·
            replace c17 := not_f c17
            replace c17 := of_decide_eq_true c17
            refine W_region ?_
            refine RW_op (L_move (V := .int .i64 (((i + j) / 2 : Nat) : Int)) rfl ?_)
            refine RW_op (L_assign (V := .int .i64 (((i + j) / 2 : Nat) : Int)) rfl ?_)
            refine RW_nil ?_
            refine ⟨_, ?_, _, i, (i + j) / 2, upd_of (upd_of (mix_of (ds := [14, 15, 16, 83, 84, 85, 86, 87, 88, 89, 90, 91, 92, 93, 94, 95, 96, 97, 98, 99, 100, 101, 102, 103, 104, 105, 106]) (by repeat (first | exact Agr.refl _ _ | refine Agr.upd ?_ rfl | refine Agr.mix ?_ rfl))) rfl) rfl, (by omega), (by omega), (by omega), hi2, (Or.inr c17), rfl, hs.take 1⟩
            omega
        ·
          replace c14 := of_decide_eq_false c14
          refine W_exit ?_
          refine W_seq ?_
          refine W_seq ?_
          refine W_region ?_
          refine RW_op (L_move (V := .int .i64 ((mid : Nat) : Int)) rfl ?_)
          refine RW_op (L_assign (V := .int .i64 ((mid : Nat) : Int)) rfl ?_)
          refine RW_nil ?_
          refine W_block ?_
          have hie : i = j := by omega
          refine W_loopI (fun ρ μ ρ' w' => ∃ (ρo : Env) (k : Nat) (m : List Cen), ρ' = upd (mix [17, 108, 109, 110, 111, 112, 113, 114, 115, 116, 117, 118, 119, 120, 121, 122, 123, 124, 125, 126, 127, 128] ρo ρ) 17 (.int .i64 ((k : Nat) : Int)) ∧ (i ≤ k) ∧ (k ≤ mid) ∧ (m.length = N) ∧ (RotSeg l m k mid (mid + 1)) ∧ μ = k + 1 ∧ Own w S w' [row (.slice a N c) (m.map cec) 128 7]) ?_ ?_
          · exact ⟨_, _, mid, l, upd_of (mix_of (ds := [17, 108, 109, 110, 111, 112, 113, 114, 115, 116, 117, 118, 119, 120, 121, 122, 123, 124, 125, 126, 127, 128]) (Agr.refl _ _)) rfl, (by omega), (Nat.le_refl _), hz, (RotSeg.refl (by omega) (by omega) (by omega) (Or.inl rfl)), rfl, hs⟩
          · rintro μ ρ' w18 ⟨ρo, k, m, rfl, hk1, hk2, hz1, hro, rfl, hs⟩
            refine W_seq ?_
            refine W_seq ?_
            refine W_region ?_
            refine RW_op (L_move (V := .int .i64 ((k : Nat) : Int)) rfl ?_)
            refine RW_op (L_move (V := .int .i64 ((i : Nat) : Int)) rfl ?_)
            refine RW_op (L_gtr rfl rfl ?_)
            refine RW_nil ?_
            refine W_cond (t := decide (((i : Nat) : Int) < ((k : Nat) : Int))) rfl (fun c19 => ?_) (fun c19 => ?_)
            ·
              replace c19 := of_decide_eq_true c19
              refine W_skip ?_
              refine W_seq ?_
              refine W_block ?_
              refine W_regD HM [some 113, some 114, some 115, some 116, some 117, some 118, some 119, some 120, some 121, some 122, some 123, some 124, some 125, some 126, some 127, none, some 128, none] [] [0, 0, 0, 0, 8, 0, 0, 64, 224, 480, 0, 0, 3072, 7168, 16355, 32739, 65535, 131071] [pv (.slice a N c), pv (.int .i64 ((k : Nat) : Int)), pv (.slice a N c), pv (.int .i64 ((k : Nat) : Int)), pv (.int .i64 ((k - 1 : Nat) : Int)), pv (.slice a N c), pv (.int .i64 ((k : Nat) : Int)), pv (.int .i64 ((k - 1 : Nat) : Int)), pv (.pointer (some ⟨bkS (.slice a N c), ofS (.slice a N c) + ((k - 1 : Nat) : Int).toNat * 7, none⟩)), pv (.agg (cec (gd m (k - 1))).toArray), pv (.slice a N c), pv (.int .i64 ((k : Nat) : Int)), pv (.pointer (some ⟨bkS (.slice a N c), ofS (.slice a N c) + ((k : Nat) : Int).toNat * 7, none⟩)), pv (.agg (cec (gd m k)).toArray), pv (.pointer (some ⟨bkS (.slice a N c), ofS (.slice a N c) + ((k : Nat) : Int).toNat * 7, none⟩)), pn, pv (.pointer (some ⟨bkS (.slice a N c), ofS (.slice a N c) + ((k - 1 : Nat) : Int).toNat * 7, none⟩)), pn] (fun D ρ => [cond (D 17) (row (.slice a N c) (((m.set k (gd m (k - 1))).set (k - 1) (gd m k)).map cec) 128 7) (cond (D 15) (row (.slice a N c) ((m.set k (gd m (k - 1))).map cec) 128 7) (row (.slice a N c) (m.map cec) 128 7))]) [] (by kernel_rfl) hs ⟨?_, ?_, ?_, ?_, ?_, ?_, ?_, ?_, ?_, ?_, ?_, ?_, ?_, ?_, ?_, ?_, ?_, ?_, trivial⟩ ?_
              · exact ob [] [] rfl rfl fun D ρ w hs => L_move (V := .slice a N c) rfl ⟨rfl, hs⟩
              · exact ob [] [] rfl rfl fun D ρ w hs => L_move (V := .int .i64 ((k : Nat) : Int)) rfl ⟨rfl, hs⟩
              · exact ob [] [] rfl rfl fun D ρ w hs => L_move (V := .slice a N c) rfl ⟨rfl, hs⟩
              · exact ob [] [] rfl rfl fun D ρ w hs => L_move (V := .int .i64 ((k : Nat) : Int)) rfl ⟨rfl, hs⟩
              · exact ob [3] [] rfl rfl fun D ρ w hs => L_sub (a := ((k : Nat) : Int)) (b := 1) (c := ((k - 1 : Nat) : Int)) rfl rfl (nat_i64 (by omega) (by omega)) ⟨rfl, hs⟩
              · exact ob [] [] rfl rfl fun D ρ w hs => L_move (V := .slice a N c) rfl ⟨rfl, hs⟩
              · exact ob [] [] rfl rfl fun D ρ w hs => L_move (V := .int .i64 ((k : Nat) : Int)) rfl ⟨rfl, hs⟩
              · exact ob [6] [] rfl rfl fun D ρ w hs => L_sub (a := ((k : Nat) : Int)) (b := 1) (c := ((k - 1 : Nat) : Int)) rfl rfl (nat_i64 (by omega) (by omega)) ⟨rfl, hs⟩
              · exact ob [5, 7] [15, 17] rfl rfl fun D ρ w hs => L_ixR UD_59 SA_128.1 (hs.rd 0 rfl) rfl rfl (by omega) (by rw [List.length_map]; omega) ⟨rfl, hs⟩
              · exact ob [8] [15, 17] rfl rfl fun D ρ w hs => L_ldRA (j := 0) (vs := cec (gd m (k - 1))) (k - 1) SA_128 (hs.rd 0 rfl) (gd_at (by omega)) rfl rfl rfl (by omega) ⟨rfl, hs⟩
              · exact ob [] [] rfl rfl fun D ρ w hs => L_move (V := .slice a N c) rfl ⟨rfl, hs⟩
              · exact ob [] [] rfl rfl fun D ρ w hs => L_move (V := .int .i64 ((k : Nat) : Int)) rfl ⟨rfl, hs⟩
              · exact ob [10, 11] [15, 17] rfl rfl fun D ρ w hs => L_ixR UD_59 SA_128.1 (hs.rd 0 rfl) rfl rfl (by omega) (by rw [List.length_map]; omega) ⟨rfl, hs⟩
              · exact ob [12] [15, 17] rfl rfl fun D ρ w hs => L_ldRA (j := 0) (vs := cec (gd m k)) k SA_128 (hs.rd 0 rfl) (gd_at (by omega)) rfl rfl rfl (by omega) ⟨rfl, hs⟩
              · exact ob [0, 1] [15, 17] rfl rfl fun D ρ w hs => L_ixR UD_59 SA_128.1 (hs.rd 0 rfl) rfl rfl (by omega) (by rw [List.length_map]; omega) ⟨rfl, hs⟩
              · exact ob [9, 14] [17] rfl rfl fun D ρ w hs => L_stE (z := gd m (k - 1)) k SA_128.1 hs 0 rfl rfl rfl (by first | omega | (simp only [List.length_set]; omega)) rfl rfl rfl (cec_one _) fun _ hs => ⟨trivial, hs⟩
              · exact ob [2, 4, 15] [17] rfl rfl fun D ρ w hs => L_ixR UD_59 SA_128.1 (hs.rd 0 rfl) rfl rfl (by omega) (by simp only [List.length_map, List.length_set]; omega) ⟨rfl, hs⟩
              · exact ob [13, 15, 16] [] rfl rfl fun D ρ w hs => L_stE (z := gd m k) (k - 1) SA_128.1 hs 0 rfl rfl rfl (by first | omega | (simp only [List.length_set]; omega)) rfl rfl rfl (cec_one _) fun _ hs => ⟨trivial, hs⟩
              rintro ρ1 w22 ρ2 hρ hs
              replace hρ : ρ2 = mix [113, 114, 115, 116, 117, 118, 119, 120, 121, 122, 123, 124, 125, 126, 127, 128] ρ1 _ := hρ
              replace hs : Own w S w22 [row (.slice a N c) (((m.set k (gd m (k - 1))).set (k - 1) (gd m k)).map cec) 128 7] := hs
              subst hρ
              replace hs : Own w S _ [row (.slice a N c) ((swL m k (k - 1)).map cec) 128 7] := hs.take 1
              refine W_region ?_
              refine RW_op (L_move (V := .int .i64 ((k : Nat) : Int)) rfl ?_)
              refine RW_op (L_sub (a := ((k : Nat) : Int)) (b := 1) (c := ((k - 1 : Nat) : Int)) rfl rfl (nat_i64 (by omega) (by omega)) ?_)
              refine RW_op (L_assign (V := .int .i64 ((k - 1 : Nat) : Int)) rfl ?_)
              refine RW_nil ?_
              refine ⟨_, ?_, _, k - 1, swL m k (k - 1), upd_of (mix_of (ds := [17, 108, 109, 110, 111, 112, 113, 114, 115, 116, 117, 118, 119, 120, 121, 122, 123, 124, 125, 126, 127, 128]) (by repeat (first | exact Agr.refl _ _ | refine Agr.upd ?_ rfl | refine Agr.mix ?_ rfl))) rfl, (by omega), (by omega), (by rw [swL_len]; exact hz1), (rot_down hro (by omega)), rfl, hs.take 1⟩
              omega
            ·
              replace c19 := of_decide_eq_false c19
              refine W_exit ?_
              refine W_ret ?_
              refine ⟨_, res_none Try.results139, ?_⟩
              have hke : k = i := by omega
              rw [hke] at hro
              have hm := sym_down hc ho1 hi1 (by omega) (by omega) hro hi2 (by rw [hie]; exact hj2)
              rw [show mid + 1 = hi by omega] at hm
              exact ⟨m, rfl, hs.take 1, hz1, hm⟩
    ·
      replace c12 := of_decide_eq_false c12
      refine W_skip ?_
      refine W_seq ?_
      refine W_region ?_
      refine RW_op (L_move (V := .int .i64 ((lo : Nat) : Int)) rfl ?_)
      refine RW_op (L_move (V := .int .i64 ((hi : Nat) : Int)) rfl ?_)
      refine RW_op (L_add (a := ((lo : Nat) : Int)) (b := ((hi : Nat) : Int)) (c := ((lo + hi : Nat) : Int)) rfl rfl (nat_i64 (by omega) (by omega)) ?_)
      refine RW_op (L_conv UD_3 UD_170 rfl (wr_u64 (by omega) (by omega)) ?_)
      refine RW_op (L_shrN rfl rfl ?_)
      refine RW_op (L_conv UD_170 UD_3 rfl (wr_i64 (by omega) (by omega)) ?_)
      refine RW_op (L_assign (V := .int .i64 (((lo + hi) / 2 : Nat) : Int)) rfl ?_)
      refine RW_nil ?_
      refine W_seq ?_
      refine W_region ?_
      refine RW_op (L_move (V := .int .i64 (((lo + hi) / 2 : Nat) : Int)) rfl ?_)
      refine RW_op (L_move (V := .int .i64 ((mid : Nat) : Int)) rfl ?_)
      refine RW_op (L_add (a := (((lo + hi) / 2 : Nat) : Int)) (b := ((mid : Nat) : Int)) (c := ((((lo + hi) / 2) + mid : Nat) : Int)) rfl rfl (nat_i64 (by omega) (by omega)) ?_)
      refine RW_op (L_assign (V := .int .i64 ((((lo + hi) / 2) + mid : Nat) : Int)) rfl ?_)
      refine RW_nil ?_
      refine W_seq ?_
      refine W_region ?_
      refine RW_op (L_assign (V := .int .i64 0) rfl ?_)
      refine RW_op (L_assign (V := .int .i64 0) rfl ?_)
      refine RW_nil ?_
      refine W_seq ?_
      refine W_seq ?_
      refine W_region ?_
      refine RW_op (L_move (V := .int .i64 ((mid : Nat) : Int)) rfl ?_)
      refine RW_op (L_move (V := .int .i64 (((lo + hi) / 2 : Nat) : Int)) rfl ?_)
      refine RW_op (L_gtr rfl rfl ?_)
      refine RW_nil ?_
      refine W_mid (fun ρ ρ' w' => ∃ (ρo : Env) (s0 : Nat) (r0 : Nat), ρ' = upd (upd (mix [20, 21, 141, 142, 143, 144, 145, 146] ρo ρ) 20 (.int .i64 ((s0 : Nat) : Int))) 21 (.int .i64 ((r0 : Nat) : Int)) ∧ (lo ≤ s0) ∧ (s0 ≤ r0) ∧ (r0 ≤ mid) ∧ (r0 ≤ (lo + hi) / 2) ∧ ((lo + hi) / 2 + mid ≤ hi + s0) ∧ (s0 = lo ∨ (lo + hi) / 2 + mid = hi + s0) ∧ (r0 = mid ∨ r0 = (lo + hi) / 2) ∧ Own w S w' [row (.slice a N c) (l.map cec) 128 7]) ?_ ?_
      ·
        refine W_cond (t := decide ((((lo + hi) / 2 : Nat) : Int) < ((mid : Nat) : Int))) rfl (fun c23 => ?_) (fun c23 => ?_)
        ·
          replace c23 := of_decide_eq_true c23
          refine W_seq ?_
          refine W_region ?_
          refine RW_op (L_move (V := .int .i64 ((((lo + hi) / 2) + mid : Nat) : Int)) rfl ?_)
          refine RW_op (L_move (V := .int .i64 ((hi : Nat) : Int)) rfl ?_)
          refine RW_op (L_sub (a := ((((lo + hi) / 2) + mid : Nat) : Int)) (b := ((hi : Nat) : Int)) (c := (((((lo + hi) / 2) + mid) - hi : Nat) : Int)) rfl rfl (nat_i64 (by omega) (by omega)) ?_)
          refine RW_op (L_assign (V := .int .i64 (((((lo + hi) / 2) + mid) - hi : Nat) : Int)) rfl ?_)
          refine RW_nil ?_
          refine W_region ?_
          refine RW_op (L_move (V := .int .i64 (((lo + hi) / 2 : Nat) : Int)) rfl ?_)
          refine RW_op (L_assign (V := .int .i64 (((lo + hi) / 2 : Nat) : Int)) rfl ?_)
          refine RW_nil ?_
          exact ⟨_, (((lo + hi) / 2) + mid) - hi, (lo + hi) / 2, upd_of (upd_of (mix_of (ds := [20, 21, 141, 142, 143, 144, 145, 146]) (by repeat (first | exact Agr.refl _ _ | refine Agr.upd ?_ rfl | refine Agr.mix ?_ rfl))) rfl) rfl, (by omega), (by omega), (by omega), (by omega), (by omega), (by omega), (by omega), hs.take 1⟩
        ·
          replace c23 := of_decide_eq_false c23
          refine W_seq ?_
          refine W_region ?_
          refine RW_op (L_move (V := .int .i64 ((lo : Nat) : Int)) rfl ?_)
          refine RW_op (L_assign (V := .int .i64 ((lo : Nat) : Int)) rfl ?_)
          refine RW_nil ?_
          refine W_region ?_
          refine RW_op (L_move (V := .int .i64 ((mid : Nat) : Int)) rfl ?_)
          refine RW_op (L_assign (V := .int .i64 ((mid : Nat) : Int)) rfl ?_)
          refine RW_nil ?_
          exact ⟨_, lo, mid, upd_of (upd_of (mix_of (ds := [20, 21, 141, 142, 143, 144, 145, 146]) (by repeat (first | exact Agr.refl _ _ | refine Agr.upd ?_ rfl | refine Agr.mix ?_ rfl))) rfl) rfl, (by omega), (by omega), (by omega), (by omega), (by omega), (by omega), (by omega), hs.take 1⟩
      · rintro ρ' w24 ⟨ρo, s0, r0, rfl, q1, q2, q3, q4, q5, q6, q7, hs⟩
        refine W_seq ?_
        refine W_region ?_
        refine RW_op (L_move (V := .int .i64 ((((lo + hi) / 2) + mid : Nat) : Int)) rfl ?_)
        refine RW_op (L_sub (a := ((((lo + hi) / 2) + mid : Nat) : Int)) (b := 1) (c := (((((lo + hi) / 2) + mid) - 1 : Nat) : Int)) rfl rfl (nat_i64 (by omega) (by omega)) ?_)
        refine RW_op (L_assign (V := .int .i64 (((((lo + hi) / 2) + mid) - 1 : Nat) : Int)) rfl ?_)
        refine RW_nil ?_
        refine W_seq ?_
        refine W_block ?_
        refine W_loopI (fun ρ μ ρ' w' => ∃ (ρo : Env) (s : Nat) (r : Nat), ρ' = upd (upd (mix [20, 21, 23, 149, 150, 151, 152, 153, 154, 155, 156, 157, 158, 159, 160, 161, 162, 163, 164, 165, 166, 167, 168, 169, 170, 171, 172, 173, 174] ρo ρ) 20 (.int .i64 ((s : Nat) : Int))) 21 (.int .i64 ((r : Nat) : Int)) ∧ (s0 ≤ s) ∧ (s ≤ r) ∧ (r ≤ r0) ∧ (s = s0 ∨ ¬ cf (gd l ((lo + hi) / 2 + mid - 1 - (s - 1))) (gd l (s - 1)) < 0) ∧ (r = r0 ∨ cf (gd l ((lo + hi) / 2 + mid - 1 - r)) (gd l r) < 0) ∧ μ = r - s ∧ Own w S w' [row (.slice a N c) (l.map cec) 128 7]) ?_ ?_
        · exact ⟨_, _, s0, r0, upd_of (upd_of (mix_of (ds := [20, 21, 23, 149, 150, 151, 152, 153, 154, 155, 156, 157, 158, 159, 160, 161, 162, 163, 164, 165, 166, 167, 168, 169, 170, 171, 172, 173, 174]) (Agr.refl _ _)) rfl) rfl, (Nat.le_refl _), (by omega), (Nat.le_refl _), (Or.inl rfl), (Or.inl rfl), rfl, hs⟩
        · rintro μ ρ' w25 ⟨ρo, s, r, rfl, hs1, hsr, hr1, hs2, hr2, rfl, hs⟩
          refine W_seq ?_
          refine W_seq ?_
          refine W_region ?_
          refine RW_op (L_move (V := .int .i64 ((s : Nat) : Int)) rfl ?_)
          refine RW_op (L_move (V := .int .i64 ((r : Nat) : Int)) rfl ?_)
          refine RW_op (L_lss rfl rfl ?_)
          refine RW_nil ?_
          refine W_cond (t := decide (((s : Nat) : Int) < ((r : Nat) : Int))) rfl (fun c26 => ?_) (fun c26 => ?_)
          ·
            replace c26 := of_decide_eq_true c26
            refine W_skip ?_
            refine W_block ?_
            refine W_seq ?_
            refine W_region ?_
            refine RW_op (L_move (V := .int .i64 ((s : Nat) : Int)) rfl ?_)
            refine RW_op (L_move (V := .int .i64 ((r : Nat) : Int)) rfl ?_)
            refine RW_op (L_add (a := ((s : Nat) : Int)) (b := ((r : Nat) : Int)) (c := ((s + r : Nat) : Int)) rfl rfl (nat_i64 (by omega) (by omega)) ?_)
            refine RW_op (L_conv UD_3 UD_170 rfl (wr_u64 (by omega) (by omega)) ?_)
            refine RW_op (L_shrN rfl rfl ?_)
            refine RW_op (L_conv UD_170 UD_3 rfl (wr_i64 (by omega) (by omega)) ?_)
            refine RW_op (L_assign (V := .int .i64 (((s + r) / 2 : Nat) : Int)) rfl ?_)
            refine RW_nil ?_
            refine W_seq ?_
            refine W_regD HM [some 158, some 159, some 160, some 161, some 162, some 163, some 164, some 165, some 166, some 167, some 168, some 169, some 170, some 171] [] [0, 0, 0, 0, 12, 30, 62, 0, 0, 384, 896, 2047, 4095, 8191] [pv (.func (.func g) #[] #[]), pv (.slice a N c), pv (.int .i64 (((((lo + hi) / 2) + mid) - 1 : Nat) : Int)), pv (.int .i64 (((s + r) / 2 : Nat) : Int)), pv (.int .i64 ((((((lo + hi) / 2) + mid) - 1) - ((s + r) / 2) : Nat) : Int)), pv (.pointer (some ⟨bkS (.slice a N c), ofS (.slice a N c) + ((((((lo + hi) / 2) + mid) - 1) - ((s + r) / 2) : Nat) : Int).toNat * 7, none⟩)), pv (.agg (cec (gd l (((((lo + hi) / 2) + mid) - 1) - ((s + r) / 2)))).toArray), pv (.slice a N c), pv (.int .i64 (((s + r) / 2 : Nat) : Int)), pv (.pointer (some ⟨bkS (.slice a N c), ofS (.slice a N c) + (((s + r) / 2 : Nat) : Int).toNat * 7, none⟩)), pv (.agg (cec (gd l ((s + r) / 2))).toArray), pv (.int .i64 (cf (gd l (((((lo + hi) / 2) + mid) - 1) - ((s + r) / 2))) (gd l ((s + r) / 2)))), pv (.bool (decide (cf (gd l (((((lo + hi) / 2) + mid) - 1) - ((s + r) / 2))) (gd l ((s + r) / 2)) < 0))), pv (.bool (!decide (cf (gd l (((((lo + hi) / 2) + mid) - 1) - ((s + r) / 2))) (gd l ((s + r) / 2)) < 0)))] (fun _ _ => _) [13] (by kernel_rfl) hs ⟨?_, ?_, ?_, ?_, ?_, ?_, ?_, ?_, ?_, ?_, ?_, ?_, ?_, ?_, trivial⟩ ?_
            · exact ob [] [] rfl rfl fun D ρ w hs => L_move (V := .func (.func g) #[] #[]) rfl ⟨rfl, hs⟩
            · exact ob [] [] rfl rfl fun D ρ w hs => L_move (V := .slice a N c) rfl ⟨rfl, hs⟩
            · exact ob [] [] rfl rfl fun D ρ w hs => L_move (V := .int .i64 (((((lo + hi) / 2) + mid) - 1 : Nat) : Int)) rfl ⟨rfl, hs⟩
            · exact ob [] [] rfl rfl fun D ρ w hs => L_move (V := .int .i64 (((s + r) / 2 : Nat) : Int)) rfl ⟨rfl, hs⟩
            · exact ob [2, 3] [] rfl rfl fun D ρ w hs => L_sub (a := (((((lo + hi) / 2) + mid) - 1 : Nat) : Int)) (b := (((s + r) / 2 : Nat) : Int)) (c := ((((((lo + hi) / 2) + mid) - 1) - ((s + r) / 2) : Nat) : Int)) rfl rfl (nat_i64 (by omega) (by omega)) ⟨rfl, hs⟩
            · exact ob [1, 4] [] rfl rfl fun D ρ w hs => L_ixR UD_59 SA_128.1 (hs.rd 0 rfl) rfl rfl (by omega) (by rw [List.length_map]; omega) ⟨rfl, hs⟩
            · exact ob [5] [] rfl rfl fun D ρ w hs => L_ldRA (j := 0) (vs := cec (gd l (((((lo + hi) / 2) + mid) - 1) - ((s + r) / 2)))) (((((lo + hi) / 2) + mid) - 1) - ((s + r) / 2)) SA_128 (hs.rd 0 rfl) (gd_at (by omega)) rfl rfl rfl (by omega) ⟨rfl, hs⟩
            · exact ob [] [] rfl rfl fun D ρ w hs => L_move (V := .slice a N c) rfl ⟨rfl, hs⟩
            · exact ob [] [] rfl rfl fun D ρ w hs => L_move (V := .int .i64 (((s + r) / 2 : Nat) : Int)) rfl ⟨rfl, hs⟩
            · exact ob [7, 8] [] rfl rfl fun D ρ w hs => L_ixR UD_59 SA_128.1 (hs.rd 0 rfl) rfl rfl (by omega) (by rw [List.length_map]; omega) ⟨rfl, hs⟩
            · exact ob [9] [] rfl rfl fun D ρ w hs => L_ldRA (j := 0) (vs := cec (gd l ((s + r) / 2))) ((s + r) / 2) SA_128 (hs.rd 0 rfl) (gd_at (by omega)) rfl rfl rfl (by omega) ⟨rfl, hs⟩
            · exact ob [0, 6, 10] [] rfl rfl fun D ρ w hs => L_fnP (vs := [.agg (cec (gd l (((((lo + hi) / 2) + mid) - 1) - ((s + r) / 2)))).toArray, .agg (cec (gd l ((s + r) / 2))).toArray]) (cs := []) (V := .int .i64 (cf (gd l (((((lo + hi) / 2) + mid) - 1) - ((s + r) / 2))) (gd l ((s + r) / 2)))) hg rfl rfl (hcmp _ (gd l (((((lo + hi) / 2) + mid) - 1) - ((s + r) / 2))) (gd l ((s + r) / 2))) hs fun _ hs => ⟨rfl, hs⟩
            · exact ob [11] [] rfl rfl fun D ρ w hs => L_lss rfl rfl ⟨rfl, hs⟩
            · exact ob [12] [] rfl rfl fun D ρ w hs => L_not rfl ⟨rfl, hs⟩
            rintro ρ1 w28 ρ2 hρ hs
            replace hρ : ρ2 = upd (mix [158, 159, 160, 161, 162, 163, 164, 165, 166, 167, 168, 169, 170, 171] ρ1 _) 171 (.bool (!decide (cf (gd l (((((lo + hi) / 2) + mid) - 1) - ((s + r) / 2))) (gd l ((s + r) / 2)) < 0))) := hρ
            subst hρ
            refine W_cond (t := !decide (cf (gd l (((((lo + hi) / 2) + mid) - 1) - ((s + r) / 2))) (gd l ((s + r) / 2)) < 0)) rfl (fun c29 => ?_) (fun c29 => ?_)
            ·
              replace c29 := not_t c29
              replace c29 := of_decide_eq_false c29
              refine W_region ?_
              refine RW_op (L_move (V := .int .i64 (((s + r) / 2 : Nat) : Int)) rfl ?_)
              refine RW_op (L_add (a := (((s + r) / 2 : Nat) : Int)) (b := 1) (c := ((((s + r) / 2) + 1 : Nat) : Int)) rfl rfl (nat_i64 (by omega) (by omega)) ?_)
              refine RW_op (L_assign (V := .int .i64 ((((s + r) / 2) + 1 : Nat) : Int)) rfl ?_)
              refine RW_nil ?_
              refine ⟨_, ?_, _, ((s + r) / 2) + 1, r, upd_of (upd_of (mix_of (ds := [20, 21, 23, 149, 150, 151, 152, 153, 154, 155, 156, 157, 158, 159, 160, 161, 162, 163, 164, 165, 166, 167, 168, 169, 170, 171, 172, 173, 174]) (by repeat (first | exact Agr.refl _ _ | refine Agr.upd ?_ rfl | refine Agr.mix ?_ rfl))) rfl) rfl, (by omega), (by omega), (by omega), (Or.inr (by rw [Nat.add_sub_cancel]; exact c29)), hr2, rfl, hs.take 1⟩
              omega
            ·
              replace c29 := not_f c29
              replace c29 := of_decide_eq_true c29
              refine W_region ?_
              refine RW_op (L_move (V := .int .i64 (((s + r) / 2 : Nat) : Int)) rfl ?_)
              refine RW_op (L_assign (V := .int .i64 (((s + r) / 2 : Nat) : Int)) rfl ?_)
              refine RW_nil ?_
              refine ⟨_, ?_, _, s, (s + r) / 2, upd_of (upd_of (mix_of (ds := [20, 21, 23, 149, 150, 151, 152, 153, 154, 155, 156, 157, 158, 159, 160, 161, 162, 163, 164, 165, 166, 167, 168, 169, 170, 171, 172, 173, 174]) (by repeat (first | exact Agr.refl _ _ | refine Agr.upd ?_ rfl | refine Agr.mix ?_ rfl))) rfl) rfl, (by omega), (by omega), (by omega), hs2, (Or.inr c29), rfl, hs.take 1⟩
              omega
          ·
            replace c26 := of_decide_eq_false c26
            refine W_exit ?_
            refine W_seq ?_
            refine W_region ?_
            refine RW_op (L_move (V := .int .i64 ((((lo + hi) / 2) + mid : Nat) : Int)) rfl ?_)
            refine RW_op (L_move (V := .int .i64 ((s : Nat) : Int)) rfl ?_)
            refine RW_op (L_sub (a := ((((lo + hi) / 2) + mid : Nat) : Int)) (b := ((s : Nat) : Int)) (c := (((((lo + hi) / 2) + mid) - s : Nat) : Int)) rfl rfl (nat_i64 (by omega) (by omega)) ?_)
            refine RW_op (L_assign (V := .int .i64 (((((lo + hi) / 2) + mid) - s : Nat) : Int)) rfl ?_)
            refine RW_nil ?_
            refine W_seq ?_
            refine W_seq ?_
            refine W_regO [some 178, some 179, some 180, some 181, some 182, some 183, some 184, some 185] [] [0, 0, 3, 7, 15, 15, 63, 127] [pv (.int .i64 ((s : Nat) : Int)), pv (.int .i64 ((mid : Nat) : Int)), pv (.bool (decide (((s : Nat) : Int) < ((mid : Nat) : Int)))), pv (.bool (decide (((s : Nat) : Int) < ((mid : Nat) : Int)))), pg ((decide (((s : Nat) : Int) < ((mid : Nat) : Int))) == true) (.int .i64 ((mid : Nat) : Int)), pg ((decide (((s : Nat) : Int) < ((mid : Nat) : Int))) == true) (.int .i64 (((((lo + hi) / 2) + mid) - s : Nat) : Int)), pg ((decide (((s : Nat) : Int) < ((mid : Nat) : Int))) == true) (.bool (decide (((mid : Nat) : Int) < (((((lo + hi) / 2) + mid) - s : Nat) : Int)))), pv (.bool ((decide (((s : Nat) : Int) < ((mid : Nat) : Int))) && (decide (((mid : Nat) : Int) < (((((lo + hi) / 2) + mid) - s : Nat) : Int)))))] (fun _ _ => _) [7] (by kernel_rfl) hs ⟨?_, ?_, ?_, ?_, ?_, ?_, ?_, ?_, trivial⟩ ?_
            · exact ob [] [] rfl rfl fun D ρ w hs => L_move (V := .int .i64 ((s : Nat) : Int)) rfl ⟨rfl, hs⟩
            · exact ob [] [] rfl rfl fun D ρ w hs => L_move (V := .int .i64 ((mid : Nat) : Int)) rfl ⟨rfl, hs⟩
            · exact ob [0, 1] [] rfl rfl fun D ρ w hs => L_lss rfl rfl ⟨rfl, hs⟩
            · exact ob [2] [] rfl rfl fun D ρ w hs => L_move (V := .bool (decide (((s : Nat) : Int) < ((mid : Nat) : Int)))) rfl ⟨rfl, hs⟩
            · exact obg [3] [] (decide (((s : Nat) : Int) < ((mid : Nat) : Int))) rfl (fun _ => rfl) rfl (fun _ _ _ _ h => h) fun D ρ w hG hs => L_move (V := .int .i64 ((mid : Nat) : Int)) rfl ⟨rfl, hs⟩
            · exact obg [3] [] (decide (((s : Nat) : Int) < ((mid : Nat) : Int))) rfl (fun _ => rfl) rfl (fun _ _ _ _ h => h) fun D ρ w hG hs => L_move (V := .int .i64 (((((lo + hi) / 2) + mid) - s : Nat) : Int)) rfl ⟨rfl, hs⟩
            · exact obgy [3, 4, 5] [] [4, 5] (decide (((s : Nat) : Int) < ((mid : Nat) : Int))) rfl (fun _ => rfl) rfl (fun _ _ _ _ h => h) (fun hG => ⟨hG, hG, trivial⟩) fun D ρ w hG hs => L_lss rfl rfl ⟨rfl, hs⟩
            · exact ob [3, 6] [] rfl rfl fun D ρ w hs => L_andC (h' := decide (((mid : Nat) : Int) < (((((lo + hi) / 2) + mid) - s : Nat) : Int))) rfl rfl rfl ⟨rfl, hs⟩
            rintro ρ1 w30 ρ2 hρ hs
            replace hρ : ρ2 = upd (mix [178, 179, 180, 181, 182, 183, 184, 185] ρ1 _) 185 (.bool ((decide (((s : Nat) : Int) < ((mid : Nat) : Int))) && (decide (((mid : Nat) : Int) < (((((lo + hi) / 2) + mid) - s : Nat) : Int))))) := hρ
            subst hρ
            have hse : s = r := by omega
            rw [← hse] at hr2
            have hg1 := sym_g1 (lo := lo) (hi := hi) (e := (lo + hi) / 2 + mid - s) hs2 q6 hs1 rfl
            have hg2 := sym_g2 (md := (lo + hi) / 2) (e := (lo + hi) / 2 + mid - s) hr2 q7 rfl rfl (by omega)
            refine W_mid (fun ρ ρ' w' => ∃ (ρo : Env) (m1 : List Cen), ρ' = mix [186, 187, 188, 189, 190, 191] ρo ρ ∧ (m1.length = N) ∧ (RotSeg l m1 s mid ((lo + hi) / 2 + mid - s)) ∧ Own w S w' [row (.slice a N c) (m1.map cec) 128 7]) ?_ ?_
            ·
              refine W_cond (t := (decide (((s : Nat) : Int) < ((mid : Nat) : Int))) && (decide (((mid : Nat) : Int) < (((((lo + hi) / 2) + mid) - s : Nat) : Int)))) rfl (fun c31 => ?_) (fun c31 => ?_)
              ·
                have c31r := and_r c31
                replace c31 := and_l c31
                replace c31 := of_decide_eq_true c31
                replace c31r := of_decide_eq_true c31r
                refine W_region ?_
                refine RW_op (L_move (V := .slice a N c) rfl ?_)
                refine RW_op (L_move (V := .int .i64 ((s : Nat) : Int)) rfl ?_)
                refine RW_op (L_move (V := .int .i64 ((mid : Nat) : Int)) rfl ?_)
                refine RW_op (L_move (V := .int .i64 (((((lo + hi) / 2) + mid) - s : Nat) : Int)) rfl ?_)
                refine RW_op (L_move (V := .func (.func g) #[] #[]) rfl ?_)
                refine RW_op (L_callB (α := List Cen) (vs := [.slice a N c, .int .i64 ((s : Nat) : Int), .int .i64 ((mid : Nat) : Int), .int .i64 (((((lo + hi) / 2) + mid) - s : Nat) : Int), .func (.func g) #[] #[]]) (V := fun _ => .tuple #[]) (R := row (.slice a N c) (l.map cec) 128 7) (R' := fun x => row (.slice a N c) (x.map cec) 128 7) (Lo := fun _ => []) (F := fun x _ => x.length = N ∧ RotSeg l x s mid ((((lo + hi) / 2) + mid) - s)) EN_159 rfl rfl hs 0 rfl (fun S hS hlt => rtS_ok _ S a N c l hz hN s mid ((((lo + hi) / 2) + mid) - s) (by omega) (by omega) (by omega) g hg cf hc hcmp hS hlt) fun mz32 w33 hs hF34 => ?_)
                refine RW_nil ?_
                exact ⟨_, mz32, mix_of (ds := [186, 187, 188, 189, 190, 191]) (by repeat (first | exact Agr.refl _ _ | refine Agr.upd ?_ rfl | refine Agr.mix ?_ rfl)), hF34.1, hF34.2, hs.take 1⟩
              ·
                refine W_skip ?_
                exact ⟨_, l, mix_of (ds := [186, 187, 188, 189, 190, 191]) (by repeat (first | exact Agr.refl _ _ | refine Agr.upd ?_ rfl | refine Agr.mix ?_ rfl)), hz, (RotSeg.refl (by omega) (by omega) (by omega) (by
  have ht := c31
  rcases Nat.lt_or_ge s mid with q | q
  · right; simp [q] at ht; omega
  · left; omega)), hs.take 1⟩
            · rintro ρ' w35 ⟨ρo, m1, rfl, hz1, hro, hs⟩
              have hmd : s + ((lo + hi) / 2 + mid - s - mid) = (lo + hi) / 2 := by omega
              have hh := sym_halves hc ho1 ho2 (by omega) (by omega) (by omega) (by omega) hro hg1 hg2
              rw [hmd] at hh
              obtain ⟨k1, k2, k3, k4, k5⟩ := hh
              refine W_seq ?_
              refine W_seq ?_
              refine W_regO [some 192, some 193, some 194, some 195, some 196, some 197, some 198, some 199] [] [0, 0, 3, 7, 15, 15, 63, 127] [pv (.int .i64 ((lo : Nat) : Int)), pv (.int .i64 ((s : Nat) : Int)), pv (.bool (decide (((lo : Nat) : Int) < ((s : Nat) : Int)))), pv (.bool (decide (((lo : Nat) : Int) < ((s : Nat) : Int)))), pg ((decide (((lo : Nat) : Int) < ((s : Nat) : Int))) == true) (.int .i64 ((s : Nat) : Int)), pg ((decide (((lo : Nat) : Int) < ((s : Nat) : Int))) == true) (.int .i64 (((lo + hi) / 2 : Nat) : Int)), pg ((decide (((lo : Nat) : Int) < ((s : Nat) : Int))) == true) (.bool (decide (((s : Nat) : Int) < (((lo + hi) / 2 : Nat) : Int)))), pv (.bool ((decide (((lo : Nat) : Int) < ((s : Nat) : Int))) && (decide (((s : Nat) : Int) < (((lo + hi) / 2 : Nat) : Int)))))] (fun _ _ => _) [7] (by kernel_rfl) hs ⟨?_, ?_, ?_, ?_, ?_, ?_, ?_, ?_, trivial⟩ ?_
              · exact ob [] [] rfl rfl fun D ρ w hs => L_move (V := .int .i64 ((lo : Nat) : Int)) rfl ⟨rfl, hs⟩
              · exact ob [] [] rfl rfl fun D ρ w hs => L_move (V := .int .i64 ((s : Nat) : Int)) rfl ⟨rfl, hs⟩
              · exact ob [0, 1] [] rfl rfl fun D ρ w hs => L_lss rfl rfl ⟨rfl, hs⟩
              · exact ob [2] [] rfl rfl fun D ρ w hs => L_move (V := .bool (decide (((lo : Nat) : Int) < ((s : Nat) : Int)))) rfl ⟨rfl, hs⟩
              · exact obg [3] [] (decide (((lo : Nat) : Int) < ((s : Nat) : Int))) rfl (fun _ => rfl) rfl (fun _ _ _ _ h => h) fun D ρ w hG hs => L_move (V := .int .i64 ((s : Nat) : Int)) rfl ⟨rfl, hs⟩
              · exact obg [3] [] (decide (((lo : Nat) : Int) < ((s : Nat) : Int))) rfl (fun _ => rfl) rfl (fun _ _ _ _ h => h) fun D ρ w hG hs => L_move (V := .int .i64 (((lo + hi) / 2 : Nat) : Int)) rfl ⟨rfl, hs⟩
              · exact obgy [3, 4, 5] [] [4, 5] (decide (((lo : Nat) : Int) < ((s : Nat) : Int))) rfl (fun _ => rfl) rfl (fun _ _ _ _ h => h) (fun hG => ⟨hG, hG, trivial⟩) fun D ρ w hG hs => L_lss rfl rfl ⟨rfl, hs⟩
              · exact ob [3, 6] [] rfl rfl fun D ρ w hs => L_andC (h' := decide (((s : Nat) : Int) < (((lo + hi) / 2 : Nat) : Int))) rfl rfl rfl ⟨rfl, hs⟩
              rintro ρ1 w36 ρ2 hρ hs
              replace hρ : ρ2 = upd (mix [192, 193, 194, 195, 196, 197, 198, 199] ρ1 _) 199 (.bool ((decide (((lo : Nat) : Int) < ((s : Nat) : Int))) && (decide (((s : Nat) : Int) < (((lo + hi) / 2 : Nat) : Int))))) := hρ
              subst hρ
              refine W_mid (fun ρ ρ' w' => ∃ (ρo : Env) (m2 : List Cen), ρ' = mix [200, 201, 202, 203, 204, 205] ρo ρ ∧ (m2.length = N) ∧ (Merged cf m1 m2 lo ((lo + hi) / 2)) ∧ Own w S w' [row (.slice a N c) (m2.map cec) 128 7]) ?_ ?_
              ·
                refine W_cond (t := (decide (((lo : Nat) : Int) < ((s : Nat) : Int))) && (decide (((s : Nat) : Int) < (((lo + hi) / 2 : Nat) : Int)))) rfl (fun c37 => ?_) (fun c37 => ?_)
                ·
                  have c37r := and_r c37
                  replace c37 := and_l c37
                  replace c37 := of_decide_eq_true c37
                  replace c37r := of_decide_eq_true c37r
                  refine W_region ?_
                  refine RW_op (L_move (V := .slice a N c) rfl ?_)
                  refine RW_op (L_move (V := .int .i64 ((lo : Nat) : Int)) rfl ?_)
                  refine RW_op (L_move (V := .int .i64 ((s : Nat) : Int)) rfl ?_)
                  refine RW_op (L_move (V := .int .i64 (((lo + hi) / 2 : Nat) : Int)) rfl ?_)
                  refine RW_op (L_move (V := .func (.func g) #[] #[]) rfl ?_)
                  refine RW_op (L_callB (α := List Cen) (vs := [.slice a N c, .int .i64 ((lo : Nat) : Int), .int .i64 ((s : Nat) : Int), .int .i64 (((lo + hi) / 2 : Nat) : Int), .func (.func g) #[] #[]]) (V := fun _ => .tuple #[]) (R := row (.slice a N c) (m1.map cec) 128 7) (R' := fun x => row (.slice a N c) (x.map cec) 128 7) (Lo := fun _ => []) (F := fun x _ => x.length = N ∧ Merged cf m1 x lo ((lo + hi) / 2)) EN_139 rfl rfl hs 0 rfl (fun S hS hlt => ih _ S a N c m1 lo s ((lo + hi) / 2) hz1 hN (by omega) (by omega) (by omega) (by omega) k1 k2 hS hlt) fun mz38 w39 hs hF40 => ?_)
                  refine RW_nil ?_
                  exact ⟨_, mz38, mix_of (ds := [200, 201, 202, 203, 204, 205]) (by repeat (first | exact Agr.refl _ _ | refine Agr.upd ?_ rfl | refine Agr.mix ?_ rfl)), hF40.1, hF40.2, hs.take 1⟩
                ·
                  refine W_skip ?_
                  exact ⟨_, m1, mix_of (ds := [200, 201, 202, 203, 204, 205]) (by repeat (first | exact Agr.refl _ _ | refine Agr.upd ?_ rfl | refine Agr.mix ?_ rfl)), hz1, (⟨PermSeg.refl m1 (by omega) (by omega), by
  have ht := c37
  rcases Nat.lt_or_ge lo s with q | q
  · have q2 : (lo + hi) / 2 ≤ s := by simp [q] at ht; omega
    exact k1.sub (Nat.le_refl _) q2
  · exact k2.sub q (Nat.le_refl _)⟩), hs.take 1⟩
              · rintro ρ' w41 ⟨ρo, m2, rfl, hz2, hmg, hs⟩
                have k3b := k3.out hmg.1 (.inr (Nat.le_refl _))
                have k4b := k4.out hmg.1 (.inr (by omega))
                refine W_seq ?_
                refine W_regO [some 206, some 207, some 208, some 209, some 210, some 211, some 212, some 213] [] [0, 0, 3, 7, 15, 15, 63, 127] [pv (.int .i64 (((lo + hi) / 2 : Nat) : Int)), pv (.int .i64 (((((lo + hi) / 2) + mid) - s : Nat) : Int)), pv (.bool (decide ((((lo + hi) / 2 : Nat) : Int) < (((((lo + hi) / 2) + mid) - s : Nat) : Int)))), pv (.bool (decide ((((lo + hi) / 2 : Nat) : Int) < (((((lo + hi) / 2) + mid) - s : Nat) : Int)))), pg ((decide ((((lo + hi) / 2 : Nat) : Int) < (((((lo + hi) / 2) + mid) - s : Nat) : Int))) == true) (.int .i64 (((((lo + hi) / 2) + mid) - s : Nat) : Int)), pg ((decide ((((lo + hi) / 2 : Nat) : Int) < (((((lo + hi) / 2) + mid) - s : Nat) : Int))) == true) (.int .i64 ((hi : Nat) : Int)), pg ((decide ((((lo + hi) / 2 : Nat) : Int) < (((((lo + hi) / 2) + mid) - s : Nat) : Int))) == true) (.bool (decide ((((((lo + hi) / 2) + mid) - s : Nat) : Int) < ((hi : Nat) : Int)))), pv (.bool ((decide ((((lo + hi) / 2 : Nat) : Int) < (((((lo + hi) / 2) + mid) - s : Nat) : Int))) && (decide ((((((lo + hi) / 2) + mid) - s : Nat) : Int) < ((hi : Nat) : Int)))))] (fun _ _ => _) [7] (by kernel_rfl) hs ⟨?_, ?_, ?_, ?_, ?_, ?_, ?_, ?_, trivial⟩ ?_
                · exact ob [] [] rfl rfl fun D ρ w hs => L_move (V := .int .i64 (((lo + hi) / 2 : Nat) : Int)) rfl ⟨rfl, hs⟩
                · exact ob [] [] rfl rfl fun D ρ w hs => L_move (V := .int .i64 (((((lo + hi) / 2) + mid) - s : Nat) : Int)) rfl ⟨rfl, hs⟩
                · exact ob [0, 1] [] rfl rfl fun D ρ w hs => L_lss rfl rfl ⟨rfl, hs⟩
                · exact ob [2] [] rfl rfl fun D ρ w hs => L_move (V := .bool (decide ((((lo + hi) / 2 : Nat) : Int) < (((((lo + hi) / 2) + mid) - s : Nat) : Int)))) rfl ⟨rfl, hs⟩
                · exact obg [3] [] (decide ((((lo + hi) / 2 : Nat) : Int) < (((((lo + hi) / 2) + mid) - s : Nat) : Int))) rfl (fun _ => rfl) rfl (fun _ _ _ _ h => h) fun D ρ w hG hs => L_move (V := .int .i64 (((((lo + hi) / 2) + mid) - s : Nat) : Int)) rfl ⟨rfl, hs⟩
                · exact obg [3] [] (decide ((((lo + hi) / 2 : Nat) : Int) < (((((lo + hi) / 2) + mid) - s : Nat) : Int))) rfl (fun _ => rfl) rfl (fun _ _ _ _ h => h) fun D ρ w hG hs => L_move (V := .int .i64 ((hi : Nat) : Int)) rfl ⟨rfl, hs⟩
                · exact obgy [3, 4, 5] [] [4, 5] (decide ((((lo + hi) / 2 : Nat) : Int) < (((((lo + hi) / 2) + mid) - s : Nat) : Int))) rfl (fun _ => rfl) rfl (fun _ _ _ _ h => h) (fun hG => ⟨hG, hG, trivial⟩) fun D ρ w hG hs => L_lss rfl rfl ⟨rfl, hs⟩
                · exact ob [3, 6] [] rfl rfl fun D ρ w hs => L_andC (h' := decide ((((((lo + hi) / 2) + mid) - s : Nat) : Int) < ((hi : Nat) : Int))) rfl rfl rfl ⟨rfl, hs⟩
                rintro ρ1 w42 ρ2 hρ hs
                replace hρ : ρ2 = upd (mix [206, 207, 208, 209, 210, 211, 212, 213] ρ1 _) 213 (.bool ((decide ((((lo + hi) / 2 : Nat) : Int) < (((((lo + hi) / 2) + mid) - s : Nat) : Int))) && (decide ((((((lo + hi) / 2) + mid) - s : Nat) : Int) < ((hi : Nat) : Int))))) := hρ
                subst hρ
                refine W_mid (fun ρ ρ' w' => ∃ (ρo : Env) (m3 : List Cen), ρ' = mix [214, 215, 216, 217, 218, 219] ρo ρ ∧ (m3.length = N) ∧ (Merged cf m2 m3 ((lo + hi) / 2) hi) ∧ Own w S w' [row (.slice a N c) (m3.map cec) 128 7]) ?_ ?_
                ·
                  refine W_cond (t := (decide ((((lo + hi) / 2 : Nat) : Int) < (((((lo + hi) / 2) + mid) - s : Nat) : Int))) && (decide ((((((lo + hi) / 2) + mid) - s : Nat) : Int) < ((hi : Nat) : Int)))) rfl (fun c43 => ?_) (fun c43 => ?_)
                  ·
                    have c43r := and_r c43
                    replace c43 := and_l c43
                    replace c43 := of_decide_eq_true c43
                    replace c43r := of_decide_eq_true c43r
                    refine W_region ?_
                    refine RW_op (L_move (V := .slice a N c) rfl ?_)
                    refine RW_op (L_move (V := .int .i64 (((lo + hi) / 2 : Nat) : Int)) rfl ?_)
                    refine RW_op (L_move (V := .int .i64 (((((lo + hi) / 2) + mid) - s : Nat) : Int)) rfl ?_)
                    refine RW_op (L_move (V := .int .i64 ((hi : Nat) : Int)) rfl ?_)
                    refine RW_op (L_move (V := .func (.func g) #[] #[]) rfl ?_)
                    refine RW_op (L_callB (α := List Cen) (vs := [.slice a N c, .int .i64 (((lo + hi) / 2 : Nat) : Int), .int .i64 (((((lo + hi) / 2) + mid) - s : Nat) : Int), .int .i64 ((hi : Nat) : Int), .func (.func g) #[] #[]]) (V := fun _ => .tuple #[]) (R := row (.slice a N c) (m2.map cec) 128 7) (R' := fun x => row (.slice a N c) (x.map cec) 128 7) (Lo := fun _ => []) (F := fun x _ => x.length = N ∧ Merged cf m2 x ((lo + hi) / 2) hi) EN_139 rfl rfl hs 0 rfl (fun S hS hlt => ih _ S a N c m2 ((lo + hi) / 2) ((((lo + hi) / 2) + mid) - s) hi hz2 hN (by omega) (by omega) (by omega) (by omega) k3b k4b hS hlt) fun mz44 w45 hs hF46 => ?_)
                    refine RW_nil ?_
                    exact ⟨_, mz44, mix_of (ds := [214, 215, 216, 217, 218, 219]) (by repeat (first | exact Agr.refl _ _ | refine Agr.upd ?_ rfl | refine Agr.mix ?_ rfl)), hF46.1, hF46.2, hs.take 1⟩
                  ·
                    refine W_skip ?_
                    exact ⟨_, m2, mix_of (ds := [214, 215, 216, 217, 218, 219]) (by repeat (first | exact Agr.refl _ _ | refine Agr.upd ?_ rfl | refine Agr.mix ?_ rfl)), hz2, (⟨PermSeg.refl m2 (by omega) (by omega), by
  have ht := c43
  rcases Nat.lt_or_ge ((lo + hi) / 2) ((lo + hi) / 2 + mid - s) with q | q
  · have q2 : hi ≤ (lo + hi) / 2 + mid - s := by simp [q] at ht; omega
    exact k3b.sub (Nat.le_refl _) q2
  · exact k4b.sub q (Nat.le_refl _)⟩), hs.take 1⟩
                · rintro ρ' w47 ⟨ρo, m3, rfl, hz3, hmg2, hs⟩
                  refine ⟨_, res_none Try.results139, ?_⟩
                  exact ⟨m3, rfl, hs.take 1, hz3, sym_done (hro.perm.wide (by omega) (by omega) (by omega)) hmg hmg2 (by omega) (by omega) (by omega) k5⟩
theorem symS_all (g : Nat) (hg : En Try.prog g) (cf : Cen → Cen → Int) (hc : CmpO cf) (hcmp : ∀ (w : World) (x y : Cen), Calls Try.prog g #[.agg (cec x).toArray, .agg (cec y).toArray] w (fun e w' => e = .returned (.int .i64 (cf x y)) ∧ Own w no w' [])) (d : Nat) : SymAt Try.prog 139 g 128 7 cec cf d := by
  induction d with
  | zero => intro w S a N c l lo mid hi hz hN hd h1 h2; omega
  | succ d ih => intro w S a N c l lo mid hi hz hN hd h1 h2 h3 ho1 ho2 hR hlt; exact symS_step d g hg cf hc hcmp ih w S a N c l lo mid hi hz hN hd h1 h2 h3 ho1 ho2 hR hlt
end Tt
end Go.Proofs
namespace Go.Proofs
open Go Go.Vx Go.RowKit
namespace Tt
set_option maxRecDepth 20000 in
set_option maxHeartbeats 4000000 in
theorem stS_ok (w : World) (S : Nat → Prop) (a : Option Addr) (N c : Nat) (l : List Cen) (hz : l.length = N) (hN : N ≤ 1152921504606846975) (g : Nat) (hg : En Try.prog g) (cf : Cen → Cen → Int) (hc : CmpO cf) (hcmp : ∀ (w : World) (x y : Cen), Calls Try.prog g #[.agg (cec x).toArray, .agg (cec y).toArray] w (fun e w' => e = .returned (.int .i64 (cf x y)) ∧ Own w no w' [])) (hR : (row (.slice a N c) (l.map cec) 128 7).holds w S) (hlt : ∀ b, S b → b < w.heap.size) : Calls Try.prog 109 #[.slice a N c, .int .i64 ((N : Nat) : Int), .func (.func g) #[] #[]] w (fun e w' => ∃ x : List Cen, e = .returned (.tuple #[]) ∧ Own w S w' [row (.slice a N c) (x.map cec) 128 7] ∧ (x.length = N ∧ x.Perm l ∧ SrtL cf x)) := by
  refine calls_of_Wn (n := 63) Try.func109 rfl Try.ntmps109 rfl ?_
  have hN0 := hN
  replace hN : N ≤ 2305843009213693951 := by omega
  have hs := Own.lent hR hlt
  refine W_seq ?_
  refine W_region ?_
  refine RW_op (L_assign (V := .int .i64 20) rfl ?_)
  refine RW_nil ?_
  refine W_seq ?_
  refine W_region ?_
  refine RW_op (L_move (V := .int .i64 20) rfl ?_)
  refine RW_op (L_assign (V := .int .i64 0) rfl ?_)
  refine RW_op (L_assign (V := .int .i64 20) rfl ?_)
  refine RW_nil ?_
  refine W_seq ?_
  refine W_block ?_
  refine W_loopI (fun ρ μ ρ' w' => ∃ (ρo : Env) (t : Nat) (m : List Cen), ρ' = upd (upd (mix [7, 8, 11, 12, 13, 14, 15, 16, 17, 18, 19, 20, 21, 22] ρo ρ) 7 (.int .i64 ((t * 20 : Nat) : Int))) 8 (.int .i64 ((t * 20 + 20 : Nat) : Int)) ∧ (t * 20 ≤ N) ∧ (m.length = N) ∧ (PermSeg l m 0 N) ∧ (Blk cf m 20 (t * 20)) ∧ μ = N - t * 20 ∧ Own w S w' [row (.slice a N c) (m.map cec) 128 7]) ?_ ?_
  · exact ⟨_, _, 0, l, upd_of (upd_of (mix_of (ds := [7, 8, 11, 12, 13, 14, 15, 16, 17, 18, 19, 20, 21, 22]) (Agr.refl _ _)) rfl) rfl, (by omega), hz, (PermSeg.refl l (Nat.zero_le _) (by omega)), blk_zero, rfl, hs⟩
  · rintro μ ρ' w1 ⟨ρo, t, m, rfl, ht, hz1, hpm, hbl, rfl, hs⟩
    refine W_seq ?_
    refine W_seq ?_
    refine W_region ?_
    refine RW_op (L_move (V := .int .i64 ((t * 20 + 20 : Nat) : Int)) rfl ?_)
    refine RW_op (L_move (V := .int .i64 ((N : Nat) : Int)) rfl ?_)
    refine RW_op (L_leq rfl rfl ?_)
    refine RW_nil ?_
    refine W_cond (t := decide (((t * 20 + 20 : Nat) : Int) ≤ ((N : Nat) : Int))) rfl (fun c2 => ?_) (fun c2 => ?_)
    ·
      replace c2 := of_decide_eq_true c2
      refine W_skip ?_
      refine W_block ?_
      refine W_seq ?_
      refine W_region ?_
      refine RW_op (L_move (V := .slice a N c) rfl ?_)
      refine RW_op (L_move (V := .int .i64 ((t * 20 : Nat) : Int)) rfl ?_)
      refine RW_op (L_move (V := .int .i64 ((t * 20 + 20 : Nat) : Int)) rfl ?_)
      refine RW_op (L_move (V := .func (.func g) #[] #[]) rfl ?_)
      refine RW_op (L_callB (α := List Cen) (vs := [.slice a N c, .int .i64 ((t * 20 : Nat) : Int), .int .i64 ((t * 20 + 20 : Nat) : Int), .func (.func g) #[] #[]]) (V := fun _ => .tuple #[]) (R := row (.slice a N c) (m.map cec) 128 7) (R' := fun x => row (.slice a N c) (x.map cec) 128 7) (Lo := fun _ => []) (F := fun x _ => x.length = N ∧ Merged cf m x (t * 20) (t * 20 + 20)) EN_125 rfl rfl hs 0 rfl (fun S hS hlt => isS_ok _ S a N c m hz1 hN (t * 20) (t * 20 + 20) (by omega) (by omega) g hg cf hc hcmp hS hlt) fun mz3 w4 hs hF5 => ?_)
      refine RW_nil ?_
      refine W_seq ?_
      refine W_region ?_
      refine RW_op (L_move (V := .int .i64 ((t * 20 + 20 : Nat) : Int)) rfl ?_)
      refine RW_op (L_assign (V := .int .i64 ((t * 20 + 20 : Nat) : Int)) rfl ?_)
      refine RW_nil ?_
      refine W_region ?_
      refine RW_op (L_move (V := .int .i64 ((t * 20 + 20 : Nat) : Int)) rfl ?_)
      refine RW_op (L_move (V := .int .i64 20) rfl ?_)
      refine RW_op (L_add (a := ((t * 20 + 20 : Nat) : Int)) (b := 20) (c := (((t * 20 + 20) + 20 : Nat) : Int)) rfl rfl (nat_i64 (by omega) (by omega)) ?_)
      refine RW_op (L_assign (V := .int .i64 (((t * 20 + 20) + 20 : Nat) : Int)) rfl ?_)
      refine RW_nil ?_
      refine ⟨_, ?_, _, t + 1, mz3, upd_of (upd_of (mix_of (ds := [7, 8, 11, 12, 13, 14, 15, 16, 17, 18, 19, 20, 21, 22]) (by repeat (first | exact Agr.refl _ _ | refine Agr.upd ?_ rfl | refine Agr.mix ?_ rfl))) (congrArg (Value.int .i64) (by omega))) (congrArg (Value.int .i64) (by omega)), (by omega), hF5.1, (hpm.trans (hF5.2.1.wide (by omega) (by omega) (by omega))), (by rw [show (t + 1) * 20 = t * 20 + 20 by omega]; exact blk_step hbl hF5.2.1 hF5.2.2 (Nat.le_refl _)), rfl, hs.take 1⟩
      omega
    ·
      replace c2 := of_decide_eq_false c2
      refine W_exit ?_
      refine W_seq ?_
      refine W_region ?_
      refine RW_op (L_move (V := .slice a N c) rfl ?_)
      refine RW_op (L_move (V := .int .i64 ((t * 20 : Nat) : Int)) rfl ?_)
      refine RW_op (L_move (V := .int .i64 ((N : Nat) : Int)) rfl ?_)
      refine RW_op (L_move (V := .func (.func g) #[] #[]) rfl ?_)
      refine RW_op (L_callB (α := List Cen) (vs := [.slice a N c, .int .i64 ((t * 20 : Nat) : Int), .int .i64 ((N : Nat) : Int), .func (.func g) #[] #[]]) (V := fun _ => .tuple #[]) (R := row (.slice a N c) (m.map cec) 128 7) (R' := fun x => row (.slice a N c) (x.map cec) 128 7) (Lo := fun _ => []) (F := fun x _ => x.length = N ∧ Merged cf m x (t * 20) N) EN_125 rfl rfl hs 0 rfl (fun S hS hlt => isS_ok _ S a N c m hz1 hN (t * 20) N (by omega) (by omega) g hg cf hc hcmp hS hlt) fun mz6 w7 hs hF8 => ?_)
      refine RW_nil ?_
      refine W_block ?_
      have hb0 : Blk cf mz6 20 N := blk_step hbl hF8.2.1 hF8.2.2 (by omega)
      have hp0 := hpm.trans (hF8.2.1.wide (by omega) (by omega) (by omega))
      refine W_loopI (fun ρ μ ρ' w' => ∃ (ρo : Env) (s : Nat) (m2 : List Cen), ρ' = upd (mix [6, 7, 8, 9, 28, 29, 30, 31, 32, 33, 34, 35, 36, 37, 38, 39, 40, 41, 42, 43, 44, 45, 46, 47, 48, 49, 50, 51, 52, 53, 54, 55, 56, 57, 58, 59, 60, 61, 62] ρo ρ) 6 (.int .i64 ((s : Nat) : Int)) ∧ (0 < s) ∧ (s ≤ 2 * N + 20) ∧ (m2.length = N) ∧ (PermSeg l m2 0 N) ∧ (Blk cf m2 s N) ∧ μ = N - s ∧ Own w S w' [row (.slice a N c) (m2.map cec) 128 7]) ?_ ?_
      · exact ⟨_, _, 20, mz6, upd_of (mix_of (ds := [6, 7, 8, 9, 28, 29, 30, 31, 32, 33, 34, 35, 36, 37, 38, 39, 40, 41, 42, 43, 44, 45, 46, 47, 48, 49, 50, 51, 52, 53, 54, 55, 56, 57, 58, 59, 60, 61, 62]) (Agr.refl _ _)) rfl, (by omega), (by omega), hF8.1, hp0, hb0, rfl, hs⟩
      · rintro μ ρ' w9 ⟨ρo, s, m2, rfl, hs0, hsN, hz2, hpm2, hb2, rfl, hs⟩
        refine W_seq ?_
        refine W_seq ?_
        refine W_region ?_
        refine RW_op (L_move (V := .int .i64 ((s : Nat) : Int)) rfl ?_)
        refine RW_op (L_move (V := .int .i64 ((N : Nat) : Int)) rfl ?_)
        refine RW_op (L_lss rfl rfl ?_)
        refine RW_nil ?_
        refine W_cond (t := decide (((s : Nat) : Int) < ((N : Nat) : Int))) rfl (fun c10 => ?_) (fun c10 => ?_)
        ·
          replace c10 := of_decide_eq_true c10
          refine W_skip ?_
          refine W_block ?_
          refine W_seq ?_
          refine W_region ?_
          refine RW_op (L_move (V := .int .i64 ((s : Nat) : Int)) rfl ?_)
          refine RW_op (L_mul (a := 2) (b := ((s : Nat) : Int)) (c := ((2 * s : Nat) : Int)) rfl rfl (nat_i64 (by omega) (by omega)) ?_)
          refine RW_op (L_assign (V := .int .i64 0) rfl ?_)
          refine RW_op (L_assign (V := .int .i64 ((2 * s : Nat) : Int)) rfl ?_)
          refine RW_nil ?_
          refine W_seq ?_
          refine W_block ?_
          refine W_loopI (fun ρ μ ρ' w' => ∃ (ρo : Env) (t : Nat) (A : Nat) (m3 : List Cen), ρ' = upd (upd (mix [7, 8, 33, 34, 35, 36, 37, 38, 39, 40, 41, 42, 43, 44, 45, 46, 47, 48] ρo ρ) 7 (.int .i64 ((A : Nat) : Int))) 8 (.int .i64 ((A + 2 * s : Nat) : Int)) ∧ (A = t * (2 * s)) ∧ (A ≤ N) ∧ (m3.length = N) ∧ (PermSeg l m3 0 N) ∧ (Mrg cf m3 s t N) ∧ μ = N - A ∧ Own w S w' [row (.slice a N c) (m3.map cec) 128 7]) ?_ ?_
          · exact ⟨_, _, 0, 0, m2, upd_of (upd_of (mix_of (ds := [7, 8, 33, 34, 35, 36, 37, 38, 39, 40, 41, 42, 43, 44, 45, 46, 47, 48]) (Agr.refl _ _)) rfl) (congrArg (Value.int .i64) (by omega)), (by rw [Nat.zero_mul]), (by omega), hz2, hpm2, (mrg_start hb2), rfl, hs⟩
          · rintro μ ρ' w11 ⟨ρo, t, A, m3, rfl, hA, hAN, hz3, hpm3, hmr, rfl, hs⟩
            refine W_seq ?_
            refine W_seq ?_
            refine W_region ?_
            refine RW_op (L_move (V := .int .i64 ((A + 2 * s : Nat) : Int)) rfl ?_)
            refine RW_op (L_move (V := .int .i64 ((N : Nat) : Int)) rfl ?_)
            refine RW_op (L_leq rfl rfl ?_)
            refine RW_nil ?_
            refine W_cond (t := decide (((A + 2 * s : Nat) : Int) ≤ ((N : Nat) : Int))) rfl (fun c12 => ?_) (fun c12 => ?_)
            ·
              replace c12 := of_decide_eq_true c12
              refine W_skip ?_
              refine W_block ?_
              refine W_seq ?_
              have hpp := mrg_parts hmr
              rw [← hA] at hpp
              have hp1 := hpp.1.sub (Nat.le_refl _) (show A + s ≤ min (A + s) N by omega)
              have hp2 := hpp.2.sub (Nat.le_refl _) (show A + 2 * s ≤ min (A + 2 * s) N by omega)
              refine W_region ?_
              refine RW_op (L_move (V := .slice a N c) rfl ?_)
              refine RW_op (L_move (V := .int .i64 ((A : Nat) : Int)) rfl ?_)
              refine RW_op (L_move (V := .int .i64 ((A : Nat) : Int)) rfl ?_)
              refine RW_op (L_move (V := .int .i64 ((s : Nat) : Int)) rfl ?_)
              refine RW_op (L_add (a := ((A : Nat) : Int)) (b := ((s : Nat) : Int)) (c := ((A + s : Nat) : Int)) rfl rfl (nat_i64 (by omega) (by omega)) ?_)
              refine RW_op (L_move (V := .int .i64 ((A + 2 * s : Nat) : Int)) rfl ?_)
              refine RW_op (L_move (V := .func (.func g) #[] #[]) rfl ?_)
              refine RW_op (L_callB (α := List Cen) (vs := [.slice a N c, .int .i64 ((A : Nat) : Int), .int .i64 ((A + s : Nat) : Int), .int .i64 ((A + 2 * s : Nat) : Int), .func (.func g) #[] #[]]) (V := fun _ => .tuple #[]) (R := row (.slice a N c) (m3.map cec) 128 7) (R' := fun x => row (.slice a N c) (x.map cec) 128 7) (Lo := fun _ => []) (F := fun x _ => x.length = N ∧ Merged cf m3 x A (A + 2 * s)) EN_139 rfl rfl hs 0 rfl (fun S hS hlt => symS_all g hg cf hc hcmp N _ S a N c m3 A (A + s) (A + 2 * s) hz3 hN (by omega) (by omega) (by omega) (by omega) hp1 hp2 hS hlt) fun mz13 w14 hs hF15 => ?_)
              refine RW_nil ?_
              refine W_seq ?_
              refine W_region ?_
              refine RW_op (L_move (V := .int .i64 ((A + 2 * s : Nat) : Int)) rfl ?_)
              refine RW_op (L_assign (V := .int .i64 ((A + 2 * s : Nat) : Int)) rfl ?_)
              refine RW_nil ?_
              refine W_region ?_
              refine RW_op (L_move (V := .int .i64 ((A + 2 * s : Nat) : Int)) rfl ?_)
              refine RW_op (L_move (V := .int .i64 ((s : Nat) : Int)) rfl ?_)
              refine RW_op (L_mul (a := 2) (b := ((s : Nat) : Int)) (c := ((2 * s : Nat) : Int)) rfl rfl (nat_i64 (by omega) (by omega)) ?_)
              refine RW_op (L_add (a := ((A + 2 * s : Nat) : Int)) (b := ((2 * s : Nat) : Int)) (c := (((A + 2 * s) + (2 * s) : Nat) : Int)) rfl rfl (nat_i64 (by omega) (by omega)) ?_)
              refine RW_op (L_assign (V := .int .i64 (((A + 2 * s) + (2 * s) : Nat) : Int)) rfl ?_)
              refine RW_nil ?_
              refine ⟨_, ?_, _, t + 1, A + 2 * s, mz13, upd_of (upd_of (mix_of (ds := [7, 8, 33, 34, 35, 36, 37, 38, 39, 40, 41, 42, 43, 44, 45, 46, 47, 48]) (by repeat (first | exact Agr.refl _ _ | refine Agr.upd ?_ rfl | refine Agr.mix ?_ rfl))) rfl) (congrArg (Value.int .i64) (by omega)), (by rw [hA, Nat.add_mul, Nat.one_mul]), (by omega), hF15.1, (hpm3.trans (hF15.2.1.wide (by omega) (by omega) (by omega))), (mrg_step hmr (by rw [← hA]; exact hF15.2.1) (by rw [← hA]; exact hF15.2.2) (by omega)), rfl, hs.take 1⟩
              omega
            ·
              replace c12 := of_decide_eq_false c12
              refine W_exit ?_
              refine W_seq ?_
              refine W_seq ?_
              refine W_region ?_
              refine RW_op (L_move (V := .int .i64 ((A : Nat) : Int)) rfl ?_)
              refine RW_op (L_move (V := .int .i64 ((s : Nat) : Int)) rfl ?_)
              refine RW_op (L_add (a := ((A : Nat) : Int)) (b := ((s : Nat) : Int)) (c := ((A + s : Nat) : Int)) rfl rfl (nat_i64 (by omega) (by omega)) ?_)
              refine RW_op (L_assign (V := .int .i64 ((A + s : Nat) : Int)) rfl ?_)
              refine RW_nil ?_
              refine W_seq ?_
              refine W_region ?_
              refine RW_op (L_move (V := .int .i64 ((A + s : Nat) : Int)) rfl ?_)
              refine RW_op (L_move (V := .int .i64 ((N : Nat) : Int)) rfl ?_)
              refine RW_op (L_lss rfl rfl ?_)
              refine RW_nil ?_
              refine W_cond (t := decide (((A + s : Nat) : Int) < ((N : Nat) : Int))) rfl (fun c16 => ?_) (fun c16 => ?_)
              ·
                replace c16 := of_decide_eq_true c16
                have hpp := mrg_parts hmr
                rw [← hA] at hpp
                have hp1 := hpp.1.sub (Nat.le_refl _) (show A + s ≤ min (A + s) N by omega)
                have hp2 := hpp.2.sub (Nat.le_refl _) (show N ≤ min (A + 2 * s) N by omega)
                refine W_region ?_
                refine RW_op (L_move (V := .slice a N c) rfl ?_)
                refine RW_op (L_move (V := .int .i64 ((A : Nat) : Int)) rfl ?_)
                refine RW_op (L_move (V := .int .i64 ((A + s : Nat) : Int)) rfl ?_)
                refine RW_op (L_move (V := .int .i64 ((N : Nat) : Int)) rfl ?_)
                refine RW_op (L_move (V := .func (.func g) #[] #[]) rfl ?_)
                refine RW_op (L_callB (α := List Cen) (vs := [.slice a N c, .int .i64 ((A : Nat) : Int), .int .i64 ((A + s : Nat) : Int), .int .i64 ((N : Nat) : Int), .func (.func g) #[] #[]]) (V := fun _ => .tuple #[]) (R := row (.slice a N c) (m3.map cec) 128 7) (R' := fun x => row (.slice a N c) (x.map cec) 128 7) (Lo := fun _ => []) (F := fun x _ => x.length = N ∧ Merged cf m3 x A N) EN_139 rfl rfl hs 0 rfl (fun S hS hlt => symS_all g hg cf hc hcmp N _ S a N c m3 A (A + s) N hz3 hN (by omega) (by omega) (by omega) (by omega) hp1 hp2 hS hlt) fun mz17 w18 hs hF19 => ?_)
                refine RW_nil ?_
                refine W_region ?_
                refine RW_op (L_move (V := .int .i64 ((s : Nat) : Int)) rfl ?_)
                refine RW_op (L_mul (a := ((s : Nat) : Int)) (b := 2) (c := ((s * 2 : Nat) : Int)) rfl rfl (nat_i64 (by omega) (by omega)) ?_)
                refine RW_op (L_assign (V := .int .i64 ((s * 2 : Nat) : Int)) rfl ?_)
                refine RW_nil ?_
                refine ⟨_, ?_, _, s * 2, mz17, upd_of (mix_of (ds := [6, 7, 8, 9, 28, 29, 30, 31, 32, 33, 34, 35, 36, 37, 38, 39, 40, 41, 42, 43, 44, 45, 46, 47, 48, 49, 50, 51, 52, 53, 54, 55, 56, 57, 58, 59, 60, 61, 62]) (by repeat (first | exact Agr.refl _ _ | refine Agr.upd ?_ rfl | refine Agr.mix ?_ rfl))) rfl, (by omega), (by omega), hF19.1, (hpm3.trans (hF19.2.1.wide (by omega) (by omega) (by omega))), (by
  have hq := mrg_step hmr (by rw [← hA]; exact hF19.2.1) (by rw [← hA]; exact hF19.2.2) (by omega)
  have hq2 := mrg_end hq (by rw [Nat.add_mul, Nat.one_mul, ← hA]; omega)
  rw [Nat.mul_comm s 2]; exact hq2), rfl, hs.take 1⟩
                omega
              ·
                replace c16 := of_decide_eq_false c16
                refine W_skip ?_
                refine W_region ?_
                refine RW_op (L_move (V := .int .i64 ((s : Nat) : Int)) rfl ?_)
                refine RW_op (L_mul (a := ((s : Nat) : Int)) (b := 2) (c := ((s * 2 : Nat) : Int)) rfl rfl (nat_i64 (by omega) (by omega)) ?_)
                refine RW_op (L_assign (V := .int .i64 ((s * 2 : Nat) : Int)) rfl ?_)
                refine RW_nil ?_
                refine ⟨_, ?_, _, s * 2, m3, upd_of (mix_of (ds := [6, 7, 8, 9, 28, 29, 30, 31, 32, 33, 34, 35, 36, 37, 38, 39, 40, 41, 42, 43, 44, 45, 46, 47, 48, 49, 50, 51, 52, 53, 54, 55, 56, 57, 58, 59, 60, 61, 62]) (by repeat (first | exact Agr.refl _ _ | refine Agr.upd ?_ rfl | refine Agr.mix ?_ rfl))) rfl, (by omega), (by omega), hz3, hpm3, (by rw [Nat.mul_comm s 2]; exact mrg_last hmr (by omega)), rfl, hs.take 1⟩
                omega
        ·
          replace c10 := of_decide_eq_false c10
          refine W_exit ?_
          refine ⟨_, res_none Try.results109, ?_⟩
          exact ⟨m2, rfl, hs.take 1, hz2, hpm2.perm, ord_all (blk_all hb2 (by omega)) (by omega)⟩
set_option maxRecDepth 20000 in
set_option maxHeartbeats 4000000 in
theorem ssS_ok (w : World) (S : Nat → Prop) (a : Option Addr) (N c : Nat) (l : List Cen) (hz : l.length = N) (hN : N ≤ 1152921504606846975) (g : Nat) (hg : En Try.prog g) (cf : Cen → Cen → Int) (hc : CmpO cf) (hcmp : ∀ (w : World) (x y : Cen), Calls Try.prog g #[.agg (cec x).toArray, .agg (cec y).toArray] w (fun e w' => e = .returned (.int .i64 (cf x y)) ∧ Own w no w' [])) (hR : (row (.slice a N c) (l.map cec) 128 7).holds w S) (hlt : ∀ b, S b → b < w.heap.size) : Calls Try.prog 71 #[.slice a N c, .func (.func g) #[] #[]] w (fun e w' => ∃ x : List Cen, e = .returned (.tuple #[]) ∧ Own w S w' [row (.slice a N c) (x.map cec) 128 7] ∧ (x.length = N ∧ x.Perm l ∧ SrtL cf x)) := by
  refine calls_of_Wn (n := 9) Try.func71 rfl Try.ntmps71 rfl ?_
  have hs := Own.lent hR hlt
  refine W_region ?_
  refine RW_op (L_move (V := .slice a N c) rfl ?_)
  refine RW_op (L_move (V := .slice a N c) rfl ?_)
  refine RW_op (L_lenR (n := N) UD_59 (hs.rd 0 rfl) (by simp [hz]) rfl ?_)
  refine RW_op (L_move (V := .func (.func g) #[] #[]) rfl ?_)
  refine RW_op (L_callB (α := List Cen) (vs := [.slice a N c, .int .i64 ((N : Nat) : Int), .func (.func g) #[] #[]]) (V := fun _ => .tuple #[]) (R := row (.slice a N c) (l.map cec) 128 7) (R' := fun x => row (.slice a N c) (x.map cec) 128 7) (Lo := fun _ => []) (F := fun x _ => x.length = N ∧ x.Perm l ∧ SrtL cf x) EN_109 rfl rfl hs 0 rfl (fun S hS hlt => stS_ok _ S a N c l hz hN g hg cf hc hcmp hS hlt) fun mz1 w2 hs hF3 => ?_)
  refine RW_nil ?_
  refine ⟨_, res_none Try.results71, ?_⟩
  exact ⟨mz1, rfl, hs.take 1, hF3⟩
end Tt
end Go.Proofs
