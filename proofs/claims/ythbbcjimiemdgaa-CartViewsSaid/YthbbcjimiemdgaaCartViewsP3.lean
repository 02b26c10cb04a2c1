/- A part of a proof: what functions of the program compute, and plain facts on that. -/
import Derived.Test.YthbbcjimiemdgaaCartViewsP2
set_option linter.unusedVariables false
set_option linter.unusedSimpArgs false
namespace Go.Proofs
open Go Go.Vx Go.RowKit
namespace Tt
set_option maxRecDepth 20000 in
set_option maxHeartbeats 4000000 in
theorem cln128_ok (w : World) (a : Option Addr) (c : Nat) (l : List Cen) (hN : l.length * 25 ≤ 140737488355328) (hr : Rd w (.slice a l.length c) 7 (l.map cec)) : Calls Try.prog 116 #[.slice a l.length c] w (fun e w' => ∃ x : Option Addr × Nat, e = .returned (.slice x.1 (l).length x.2) ∧ Own w no w' [row (.slice x.1 (l).length x.2) ((l).map cec) 128 7] ∧ True) := by
  refine calls_of_Wn (n := 8) Try.func116 rfl Try.ntmps116 rfl ?_
  have hs := Own.start w
  have hn := hr.sml
  refine W_seq ?_
  refine W_region ?_
  refine RW_op (L_assign (V := .slice none 0 0) rfl ?_)
  refine RW_nil ?_
  refine W_seq ?_
  refine W_seq ?_
  refine W_region ?_
  refine RW_op (L_move (V := .slice a l.length c) rfl ?_)
  refine RW_op (L_slN UDR_59 rfl rfl ?_)
  refine RW_nil ?_
  refine W_cond (t := a.isNone) rfl (fun c1 => ?_) (fun c1 => ?_)
  ·
    refine W_seq ?_
    refine W_region ?_
    refine RW_op (L_assign (V := .slice none 0 0) rfl ?_)
    refine RW_nil ?_
    refine W_ret ?_
    refine ⟨_, res_one (V := .slice none 0 0) Try.results116 rfl, ?_⟩
    have hl0 := hr.isN c1
    subst hl0
    exact ⟨(none, 0), rfl, (hs.take 0).more _ (row_nil _ _ _ _), trivial⟩
  ·
    refine W_skip ?_
    refine W_seq ?_
    refine W_region ?_
    refine RW_op (L_bs (vals := []) (ls := List.map cec ([] : List Cen)) EL_59 rfl rfl rfl (len_map (enc := cec) (fun _ => rfl) _) (one_map cec_one _) (Nat.le_of_ble_eq_true rfl) hs fun b2 w3 hs => ?_)
    refine RW_op (L_move (V := .slice a l.length c) rfl ?_)
    refine RW_op (L_appN (ls' := l.map cec) (n := l.length) EL_59 hs 0 rfl rfl rfl (Rd.own' hr hs) (one_map cec_one _) (by simp only [List.length_map, List.length_append, List.length_cons, List.length_nil]; omega) (by simp) (by simp) fun a4 c4 w5 hs => ?_)
    refine RW_op (L_assign (V := .slice a4 l.length c4) rfl ?_)
    refine RW_nil ?_
    refine W_ret ?_
    refine ⟨_, res_one (V := .slice a4 l.length c4) Try.results116 rfl, ?_⟩
    exact ⟨(a4, c4), rfl, hs.only 0 rfl, trivial⟩
set_option maxRecDepth 20000 in
set_option maxHeartbeats 4000000 in
theorem cln126_ok (w : World) (a : Option Addr) (c : Nat) (l : List Lst) (hN : l.length * 9 ≤ 140737488355328) (hr : Rd w (.slice a l.length c) 2 (l.map lsc)) : Calls Try.prog 61 #[.slice a l.length c] w (fun e w' => ∃ x : Option Addr × Nat, e = .returned (.slice x.1 (l).length x.2) ∧ Own w no w' [row (.slice x.1 (l).length x.2) ((l).map lsc) 126 2] ∧ True) := by
  refine calls_of_Wn (n := 8) Try.func61 rfl Try.ntmps61 rfl ?_
  have hs := Own.start w
  have hn := hr.sml
  refine W_seq ?_
  refine W_region ?_
  refine RW_op (L_assign (V := .slice none 0 0) rfl ?_)
  refine RW_nil ?_
  refine W_seq ?_
  refine W_seq ?_
  refine W_region ?_
  refine RW_op (L_move (V := .slice a l.length c) rfl ?_)
  refine RW_op (L_slN UDR_60 rfl rfl ?_)
  refine RW_nil ?_
  refine W_cond (t := a.isNone) rfl (fun c1 => ?_) (fun c1 => ?_)
  ·
    refine W_seq ?_
    refine W_region ?_
    refine RW_op (L_assign (V := .slice none 0 0) rfl ?_)
    refine RW_nil ?_
    refine W_ret ?_
    refine ⟨_, res_one (V := .slice none 0 0) Try.results61 rfl, ?_⟩
    have hl0 := hr.isN c1
    subst hl0
    exact ⟨(none, 0), rfl, (hs.take 0).more _ (row_nil _ _ _ _), trivial⟩
  ·
    refine W_skip ?_
    refine W_seq ?_
    refine W_region ?_
    refine RW_op (L_bs (vals := []) (ls := List.map lsc ([] : List Lst)) EL_60 rfl rfl rfl (len_map (enc := lsc) (fun _ => rfl) _) (one_map lsc_one _) (Nat.le_of_ble_eq_true rfl) hs fun b2 w3 hs => ?_)
    refine RW_op (L_move (V := .slice a l.length c) rfl ?_)
    refine RW_op (L_appN (ls' := l.map lsc) (n := l.length) EL_60 hs 0 rfl rfl rfl (Rd.own' hr hs) (one_map lsc_one _) (by simp only [List.length_map, List.length_append, List.length_cons, List.length_nil]; omega) (by simp) (by simp) fun a4 c4 w5 hs => ?_)
    refine RW_op (L_assign (V := .slice a4 l.length c4) rfl ?_)
    refine RW_nil ?_
    refine W_ret ?_
    refine ⟨_, res_one (V := .slice a4 l.length c4) Try.results61 rfl, ?_⟩
    exact ⟨(a4, c4), rfl, hs.only 0 rfl, trivial⟩
set_option maxRecDepth 20000 in
set_option maxHeartbeats 4000000 in
theorem bsf128_ok (w : World) (a : Option Addr) (c : Nat) (l : List Cen) (t : Cen) (hsmall : l.length ≤ 4611686018427387904) (g : Nat) (hg : En Try.prog g) (cf : Cen → Int) (hcmp : ∀ (w : World) (x : Cen), Calls Try.prog g #[.agg (cec x).toArray, .agg (cec t).toArray] w (fun e w' => e = .returned (.int .i64 (cf x)) ∧ Own w no w' [])) (hm : MonoB (fun x => decide (cf x < 0)) l) (hr : Rd w (.slice a l.length c) 7 (l.map cec)) : Calls Try.prog 89 #[.slice a l.length c, .agg (cec t).toArray, .func (.func g) #[] #[]] w (fun e w' => e = .returned (.tuple #[.int .i64 ((posB (fun x => decide (cf x < 0)) l : Nat) : Int), .bool (decide (posB (fun x => decide (cf x < 0)) l < l.length) && decide (cf (gd l (posB (fun x => decide (cf x < 0)) l)) = 0))]) ∧ Own w no w' []) := by
  refine calls_of_Wn (n := 49) Try.func89 rfl Try.ntmps89 rfl ?_
  have hs := Own.start w
  have hn := hr.sml
  have hn2 : l.length ≤ 4611686018427387904 := hsmall
  refine W_seq ?_
  refine W_region ?_
  refine RW_op (L_box (V := .agg (cec t).toArray) (cs := cec t) rfl rfl hs fun b1 w2 hs => ?_)
  refine RW_op (L_assign (V := .int .i64 0) rfl ?_)
  refine RW_op (L_assign (V := .bool false) rfl ?_)
  refine RW_nil ?_
  refine W_seq ?_
  refine W_region ?_
  refine RW_op (L_move (V := .slice a l.length c) rfl ?_)
  refine RW_op (L_lenR (n := l.length) UD_59 (Rd.own' hr hs) (by simp) rfl ?_)
  refine RW_op (L_assign (V := .int .i64 ((l.length : Nat) : Int)) rfl ?_)
  refine RW_nil ?_
  refine W_seq ?_
  refine W_region ?_
  refine RW_op (L_move (V := .int .i64 ((l.length : Nat) : Int)) rfl ?_)
  refine RW_op (L_assign (V := .int .i64 0) rfl ?_)
  refine RW_op (L_assign (V := .int .i64 ((l.length : Nat) : Int)) rfl ?_)
  refine RW_nil ?_
  refine W_seq ?_
  refine W_block ?_
  refine W_loopI (fun ρ μ ρ' w' => ∃ (ρo : Env) (i : Nat) (j : Nat), ρ' = upd (upd (mix [9, 10, 11, 15, 16, 17, 18, 19, 20, 21, 22, 23, 24, 25, 26, 27, 28, 29, 30, 31, 32, 33, 34] ρo ρ) 9 (.int .i64 ((i : Nat) : Int))) 10 (.int .i64 ((j : Nat) : Int)) ∧ (i ≤ posB (fun x => decide (cf x < 0)) l) ∧ (posB (fun x => decide (cf x < 0)) l ≤ j) ∧ (j ≤ l.length) ∧ μ = j - i ∧ Own w no w' [blk b1 (cec t) 128]) ?_ ?_
  · exact ⟨_, _, 0, l.length, upd_of (upd_of (mix_of (ds := [9, 10, 11, 15, 16, 17, 18, 19, 20, 21, 22, 23, 24, 25, 26, 27, 28, 29, 30, 31, 32, 33, 34]) (Agr.refl _ _)) rfl) rfl, (Nat.zero_le _), posB_len, (Nat.le_refl _), rfl, hs⟩
  · rintro μ ρ' w3 ⟨ρo, i, j, rfl, hip, hpj, hjl, rfl, hs⟩
    refine W_seq ?_
    refine W_seq ?_
    refine W_region ?_
    refine RW_op (L_move (V := .int .i64 ((i : Nat) : Int)) rfl ?_)
    refine RW_op (L_move (V := .int .i64 ((j : Nat) : Int)) rfl ?_)
    refine RW_op (L_lss rfl rfl ?_)
    refine RW_nil ?_
    refine W_cond (t := decide (((i : Nat) : Int) < ((j : Nat) : Int))) rfl (fun c4 => ?_) (fun c4 => ?_)
    ·
      replace c4 := of_decide_eq_true c4
      refine W_skip ?_
      refine W_block ?_
      refine W_seq ?_
      refine W_region ?_
      refine RW_op (L_move (V := .int .i64 ((i : Nat) : Int)) rfl ?_)
      refine RW_op (L_move (V := .int .i64 ((j : Nat) : Int)) rfl ?_)
      refine RW_op (L_add (a := ((i : Nat) : Int)) (b := ((j : Nat) : Int)) (c := ((i + j : Nat) : Int)) rfl rfl (nat_i64 (by omega) (by omega)) ?_)
      refine RW_op (L_conv UD_3 UD_170 rfl (wr_u64 (by omega) (by omega)) ?_)
      refine RW_op (L_shrN rfl rfl ?_)
      refine RW_op (L_conv UD_170 UD_3 rfl (wr_i64 (by omega) (by omega)) ?_)
      refine RW_op (L_assign (V := .int .i64 (((i + j) / 2 : Nat) : Int)) rfl ?_)
      refine RW_nil ?_
      refine W_seq ?_
      refine W_regD HM [some 24, some 25, some 26, some 27, some 28, some 29, some 30, some 31] [] [0, 0, 0, 6, 14, 0, 63, 127] [pv (.func (.func g) #[] #[]), pv (.slice a l.length c), pv (.int .i64 (((i + j) / 2 : Nat) : Int)), pv (.pointer (some ⟨bkS (.slice a l.length c), ofS (.slice a l.length c) + (((i + j) / 2 : Nat) : Int).toNat * 7, none⟩)), pv (.agg (cec (gd l ((i + j) / 2))).toArray), pv (.agg (cec t).toArray), pv (.int .i64 (cf (gd l ((i + j) / 2)))), pv (.bool (decide (cf (gd l ((i + j) / 2)) < 0)))] (fun _ _ => _) [7] (by kernel_rfl) hs ⟨?_, ?_, ?_, ?_, ?_, ?_, ?_, ?_, trivial⟩ ?_
      · exact ob [] [] rfl rfl fun D ρ w hs => L_move (V := .func (.func g) #[] #[]) rfl ⟨rfl, hs⟩
      · exact ob [] [] rfl rfl fun D ρ w hs => L_move (V := .slice a l.length c) rfl ⟨rfl, hs⟩
      · exact ob [] [] rfl rfl fun D ρ w hs => L_move (V := .int .i64 (((i + j) / 2 : Nat) : Int)) rfl ⟨rfl, hs⟩
      · exact ob [1, 2] [] rfl rfl fun D ρ w hs => L_ixR UD_59 SA_128.1 (Rd.own' hr hs) rfl rfl (by omega) (by rw [List.length_map]; omega) ⟨rfl, hs⟩
      · exact ob [3] [] rfl rfl fun D ρ w hs => L_ldRA (j := 0) (vs := cec (gd l ((i + j) / 2))) ((i + j) / 2) SA_128 (Rd.own' hr hs) (gd_at (by omega)) rfl rfl rfl (by omega) ⟨rfl, hs⟩
      · exact ob [] [] rfl rfl fun D ρ w hs => L_ldW (cs := cec t) SA_128 hs 0 rfl rfl rfl ⟨rfl, hs⟩
      · exact ob [0, 4, 5] [] rfl rfl fun D ρ w hs => L_fnP (vs := [.agg (cec (gd l ((i + j) / 2))).toArray, .agg (cec t).toArray]) (cs := []) (V := .int .i64 (cf (gd l ((i + j) / 2)))) hg rfl rfl (hcmp _ (gd l ((i + j) / 2))) hs fun _ hs => ⟨rfl, hs⟩
      · exact ob [6] [] rfl rfl fun D ρ w hs => L_lss rfl rfl ⟨rfl, hs⟩
      rintro ρ1 w6 ρ2 hρ hs
      replace hρ : ρ2 = upd (mix [24, 25, 26, 27, 28, 29, 30, 31] ρ1 _) 31 (.bool (decide (cf (gd l ((i + j) / 2)) < 0))) := hρ
      subst hρ
      refine W_cond (t := decide (cf (gd l ((i + j) / 2)) < 0)) rfl (fun c7 => ?_) (fun c7 => ?_)
      ·
        replace c7 := of_decide_eq_true c7
        refine W_region ?_
        refine RW_op (L_move (V := .int .i64 (((i + j) / 2 : Nat) : Int)) rfl ?_)
        refine RW_op (L_add (a := (((i + j) / 2 : Nat) : Int)) (b := 1) (c := ((((i + j) / 2) + 1 : Nat) : Int)) rfl rfl (nat_i64 (by omega) (by omega)) ?_)
        refine RW_op (L_assign (V := .int .i64 ((((i + j) / 2) + 1 : Nat) : Int)) rfl ?_)
        refine RW_nil ?_
        refine ⟨_, ?_, _, ((i + j) / 2) + 1, j, upd_of (upd_of (mix_of (ds := [9, 10, 11, 15, 16, 17, 18, 19, 20, 21, 22, 23, 24, 25, 26, 27, 28, 29, 30, 31, 32, 33, 34]) (by repeat (first | exact Agr.refl _ _ | refine Agr.upd ?_ rfl | refine Agr.mix ?_ rfl))) rfl) rfl, (by have := posB_lt (f := (fun x => decide (cf x < 0))) hm (by omega) (decide_eq_true c7); omega), (by omega), (by omega), rfl, hs.take 1⟩
        omega
      ·
        replace c7 := of_decide_eq_false c7
        refine W_region ?_
        refine RW_op (L_move (V := .int .i64 (((i + j) / 2 : Nat) : Int)) rfl ?_)
        refine RW_op (L_assign (V := .int .i64 (((i + j) / 2 : Nat) : Int)) rfl ?_)
        refine RW_nil ?_
        refine ⟨_, ?_, _, i, (i + j) / 2, upd_of (upd_of (mix_of (ds := [9, 10, 11, 15, 16, 17, 18, 19, 20, 21, 22, 23, 24, 25, 26, 27, 28, 29, 30, 31, 32, 33, 34]) (by repeat (first | exact Agr.refl _ _ | refine Agr.upd ?_ rfl | refine Agr.mix ?_ rfl))) rfl) rfl, (by omega), (by have := posB_ge (f := (fun x => decide (cf x < 0))) (l := l) (decide_eq_false c7); omega), (by omega), rfl, hs.take 1⟩
        omega
    ·
      replace c4 := of_decide_eq_false c4
      refine W_exit ?_
      refine W_seq ?_
      have hij : i = j := by omega
      refine W_regD HM [some 35, some 36, some 37, some 38, some 39, some 40, some 41, some 42, some 43, some 44, some 45, some 46, some 47, some 48, some 6, some 7] [] [0, 0, 0, 6, 14, 30, 30, 30, 222, 478, 30, 2046, 4094, 8190, 4095, 32767] [pv (.int .i64 ((i : Nat) : Int)), pv (.int .i64 ((i : Nat) : Int)), pv (.int .i64 ((l.length : Nat) : Int)), pv (.bool (decide (((i : Nat) : Int) < ((l.length : Nat) : Int)))), pv (.bool (decide (((i : Nat) : Int) < ((l.length : Nat) : Int)))), pg ((decide (((i : Nat) : Int) < ((l.length : Nat) : Int))) == true) (.func (.func g) #[] #[]), pg ((decide (((i : Nat) : Int) < ((l.length : Nat) : Int))) == true) (.slice a l.length c), pg ((decide (((i : Nat) : Int) < ((l.length : Nat) : Int))) == true) (.int .i64 ((i : Nat) : Int)), pg ((decide (((i : Nat) : Int) < ((l.length : Nat) : Int))) == true) (.pointer (some ⟨bkS (.slice a l.length c), ofS (.slice a l.length c) + ((i : Nat) : Int).toNat * 7, none⟩)), pg ((decide (((i : Nat) : Int) < ((l.length : Nat) : Int))) == true) (.agg (cec (gd l i)).toArray), pg ((decide (((i : Nat) : Int) < ((l.length : Nat) : Int))) == true) (.agg (cec t).toArray), pg ((decide (((i : Nat) : Int) < ((l.length : Nat) : Int))) == true) (.int .i64 (cf (gd l i))), pg ((decide (((i : Nat) : Int) < ((l.length : Nat) : Int))) == true) (.bool (decide (cf (gd l i) = 0))), pv (.bool ((decide (((i : Nat) : Int) < ((l.length : Nat) : Int))) && (decide (cf (gd l i) = 0)))), pv (.int .i64 ((i : Nat) : Int)), pv (.bool ((decide (((i : Nat) : Int) < ((l.length : Nat) : Int))) && (decide (cf (gd l i) = 0))))] (fun _ _ => _) [15, 14] (by kernel_rfl) hs ⟨?_, ?_, ?_, ?_, ?_, ?_, ?_, ?_, ?_, ?_, ?_, ?_, ?_, ?_, ?_, ?_, trivial⟩ ?_
      · exact ob [] [] rfl rfl fun D ρ w hs => L_move (V := .int .i64 ((i : Nat) : Int)) rfl ⟨rfl, hs⟩
      · exact ob [] [] rfl rfl fun D ρ w hs => L_move (V := .int .i64 ((i : Nat) : Int)) rfl ⟨rfl, hs⟩
      · exact ob [] [] rfl rfl fun D ρ w hs => L_move (V := .int .i64 ((l.length : Nat) : Int)) rfl ⟨rfl, hs⟩
      · exact ob [1, 2] [] rfl rfl fun D ρ w hs => L_lss rfl rfl ⟨rfl, hs⟩
      · exact ob [3] [] rfl rfl fun D ρ w hs => L_move (V := .bool (decide (((i : Nat) : Int) < ((l.length : Nat) : Int)))) rfl ⟨rfl, hs⟩
      · exact obg [4] [] (decide (((i : Nat) : Int) < ((l.length : Nat) : Int))) rfl (fun _ => rfl) rfl (fun _ _ _ _ h => h) fun D ρ w hG hs => L_move (V := .func (.func g) #[] #[]) rfl ⟨rfl, hs⟩
      · exact obg [4] [] (decide (((i : Nat) : Int) < ((l.length : Nat) : Int))) rfl (fun _ => rfl) rfl (fun _ _ _ _ h => h) fun D ρ w hG hs => L_move (V := .slice a l.length c) rfl ⟨rfl, hs⟩
      · exact obg [4] [] (decide (((i : Nat) : Int) < ((l.length : Nat) : Int))) rfl (fun _ => rfl) rfl (fun _ _ _ _ h => h) fun D ρ w hG hs => L_move (V := .int .i64 ((i : Nat) : Int)) rfl ⟨rfl, hs⟩
      · refine obgy [4, 6, 7] [] [6, 7] (decide (((i : Nat) : Int) < ((l.length : Nat) : Int))) rfl (fun _ => rfl) rfl (fun _ _ _ _ h => h) (fun hG => ⟨hG, hG, trivial⟩) fun D ρ w hG hs => ?_
        have hgd := of_decide_eq_true (eq_of_beq (hG))
        exact L_ixR UD_59 SA_128.1 (Rd.own' hr hs) rfl rfl (by omega) (by rw [List.length_map]; omega) ⟨rfl, hs⟩
      · refine obgy [4, 8] [] [8] (decide (((i : Nat) : Int) < ((l.length : Nat) : Int))) rfl (fun _ => rfl) rfl (fun _ _ _ _ h => h) (fun hG => ⟨hG, trivial⟩) fun D ρ w hG hs => ?_
        have hgd := of_decide_eq_true (eq_of_beq (hG))
        exact L_ldRA (j := 0) (vs := cec (gd l i)) i SA_128 (Rd.own' hr hs) (gd_at (by omega)) rfl rfl rfl (by omega) ⟨rfl, hs⟩
      · exact obg [4] [] (decide (((i : Nat) : Int) < ((l.length : Nat) : Int))) rfl (fun _ => rfl) rfl (fun _ _ _ _ h => h) fun D ρ w hG hs => L_ldW (cs := cec t) SA_128 hs 0 rfl rfl rfl ⟨rfl, hs⟩
      · exact obgy [4, 5, 9, 10] [] [5, 9, 10] (decide (((i : Nat) : Int) < ((l.length : Nat) : Int))) rfl (fun _ => rfl) rfl (fun _ _ _ _ h => h) (fun hG => ⟨hG, hG, hG, trivial⟩) fun D ρ w hG hs => L_fnP (vs := [.agg (cec (gd l i)).toArray, .agg (cec t).toArray]) (cs := []) (V := .int .i64 (cf (gd l i))) hg rfl rfl (hcmp _ (gd l i)) hs fun _ hs => ⟨rfl, hs⟩
      · exact obgy [4, 11] [] [11] (decide (((i : Nat) : Int) < ((l.length : Nat) : Int))) rfl (fun _ => rfl) rfl (fun _ _ _ _ h => h) (fun hG => ⟨hG, trivial⟩) fun D ρ w hG hs => L_eql rfl rfl ⟨rfl, hs⟩
      · exact ob [4, 12] [] rfl rfl fun D ρ w hs => L_andC (h' := decide (cf (gd l i) = 0)) rfl rfl rfl ⟨rfl, hs⟩
      · exact ob [0] [] rfl rfl fun D ρ w hs => L_assign (V := .int .i64 ((i : Nat) : Int)) rfl ⟨rfl, hs⟩
      · exact ob [13] [] rfl rfl fun D ρ w hs => L_assign (V := .bool ((decide (((i : Nat) : Int) < ((l.length : Nat) : Int))) && (decide (cf (gd l i) = 0)))) rfl ⟨rfl, hs⟩
      rintro ρ1 w9 ρ2 hρ hs
      replace hρ : ρ2 = upd (upd (mix [35, 36, 37, 38, 39, 40, 41, 42, 43, 44, 45, 46, 47, 48, 6, 7] ρ1 _) 6 (.int .i64 ((i : Nat) : Int))) 7 (.bool ((decide (((i : Nat) : Int) < ((l.length : Nat) : Int))) && (decide (cf (gd l i) = 0)))) := hρ
      subst hρ
      refine W_ret ?_
      refine ⟨_, res_two (U := .int .i64 ((i : Nat) : Int)) (V := .bool ((decide (((i : Nat) : Int) < ((l.length : Nat) : Int))) && (decide (cf (gd l i) = 0)))) Try.results89 rfl rfl, ?_⟩
      refine ⟨congrArg Ending.returned ?_, hs.take 0⟩
      have hip2 : i = posB (fun x => decide (cf x < 0)) l := by omega
      rw [← hip2]
      congr 3
      by_cases h : i < l.length <;> simp [h]
set_option maxRecDepth 20000 in
set_option maxHeartbeats 4000000 in
theorem bsf126_ok (w : World) (a : Option Addr) (c : Nat) (l : List Lst) (t : Int) (hsmall : l.length ≤ 4611686018427387904) (g : Nat) (hg : En Try.prog g) (cf : Lst → Int) (hcmp : ∀ (w : World) (x : Lst), Calls Try.prog g #[.agg (lsc x).toArray, .int .u16 t] w (fun e w' => e = .returned (.int .i64 (cf x)) ∧ Own w no w' [])) (hm : MonoB (fun x => decide (cf x < 0)) l) (hr : Rd w (.slice a l.length c) 2 (l.map lsc)) : Calls Try.prog 107 #[.slice a l.length c, .int .u16 t, .func (.func g) #[] #[]] w (fun e w' => e = .returned (.tuple #[.int .i64 ((posB (fun x => decide (cf x < 0)) l : Nat) : Int), .bool (decide (posB (fun x => decide (cf x < 0)) l < l.length) && decide (cf (gd l (posB (fun x => decide (cf x < 0)) l)) = 0))]) ∧ Own w no w' []) := by
  refine calls_of_Wn (n := 49) Try.func107 rfl Try.ntmps107 rfl ?_
  have hs := Own.start w
  have hn := hr.sml
  have hn2 : l.length ≤ 4611686018427387904 := hsmall
  refine W_seq ?_
  refine W_region ?_
  refine RW_op (L_assign (V := .int .i64 0) rfl ?_)
  refine RW_op (L_assign (V := .bool false) rfl ?_)
  refine RW_nil ?_
  refine W_seq ?_
  refine W_region ?_
  refine RW_op (L_move (V := .slice a l.length c) rfl ?_)
  refine RW_op (L_lenR (n := l.length) UD_60 (Rd.own' hr hs) (by simp) rfl ?_)
  refine RW_op (L_assign (V := .int .i64 ((l.length : Nat) : Int)) rfl ?_)
  refine RW_nil ?_
  refine W_seq ?_
  refine W_region ?_
  refine RW_op (L_move (V := .int .i64 ((l.length : Nat) : Int)) rfl ?_)
  refine RW_op (L_assign (V := .int .i64 0) rfl ?_)
  refine RW_op (L_assign (V := .int .i64 ((l.length : Nat) : Int)) rfl ?_)
  refine RW_nil ?_
  refine W_seq ?_
  refine W_block ?_
  refine W_loopI (fun ρ μ ρ' w' => ∃ (ρo : Env) (i : Nat) (j : Nat), ρ' = upd (upd (mix [9, 10, 11, 15, 16, 17, 18, 19, 20, 21, 22, 23, 24, 25, 26, 27, 28, 29, 30, 31, 32, 33, 34] ρo ρ) 9 (.int .i64 ((i : Nat) : Int))) 10 (.int .i64 ((j : Nat) : Int)) ∧ (i ≤ posB (fun x => decide (cf x < 0)) l) ∧ (posB (fun x => decide (cf x < 0)) l ≤ j) ∧ (j ≤ l.length) ∧ μ = j - i ∧ Own w no w' []) ?_ ?_
  · exact ⟨_, _, 0, l.length, upd_of (upd_of (mix_of (ds := [9, 10, 11, 15, 16, 17, 18, 19, 20, 21, 22, 23, 24, 25, 26, 27, 28, 29, 30, 31, 32, 33, 34]) (Agr.refl _ _)) rfl) rfl, (Nat.zero_le _), posB_len, (Nat.le_refl _), rfl, hs⟩
  · rintro μ ρ' w1 ⟨ρo, i, j, rfl, hip, hpj, hjl, rfl, hs⟩
    refine W_seq ?_
    refine W_seq ?_
    refine W_region ?_
    refine RW_op (L_move (V := .int .i64 ((i : Nat) : Int)) rfl ?_)
    refine RW_op (L_move (V := .int .i64 ((j : Nat) : Int)) rfl ?_)
    refine RW_op (L_lss rfl rfl ?_)
    refine RW_nil ?_
    refine W_cond (t := decide (((i : Nat) : Int) < ((j : Nat) : Int))) rfl (fun c2 => ?_) (fun c2 => ?_)
    ·
      replace c2 := of_decide_eq_true c2
      refine W_skip ?_
      refine W_block ?_
      refine W_seq ?_
      refine W_region ?_
      refine RW_op (L_move (V := .int .i64 ((i : Nat) : Int)) rfl ?_)
      refine RW_op (L_move (V := .int .i64 ((j : Nat) : Int)) rfl ?_)
      refine RW_op (L_add (a := ((i : Nat) : Int)) (b := ((j : Nat) : Int)) (c := ((i + j : Nat) : Int)) rfl rfl (nat_i64 (by omega) (by omega)) ?_)
      refine RW_op (L_conv UD_3 UD_170 rfl (wr_u64 (by omega) (by omega)) ?_)
      refine RW_op (L_shrN rfl rfl ?_)
      refine RW_op (L_conv UD_170 UD_3 rfl (wr_i64 (by omega) (by omega)) ?_)
      refine RW_op (L_assign (V := .int .i64 (((i + j) / 2 : Nat) : Int)) rfl ?_)
      refine RW_nil ?_
      refine W_seq ?_
      refine W_region ?_
      refine RW_op (L_move (V := .func (.func g) #[] #[]) rfl ?_)
      refine RW_op (L_move (V := .slice a l.length c) rfl ?_)
      refine RW_op (L_move (V := .int .i64 (((i + j) / 2 : Nat) : Int)) rfl ?_)
      refine RW_op (L_ixR UD_60 SA_126.1 (Rd.own' hr hs) rfl rfl (by omega) (by rw [List.length_map]; omega) ?_)
      refine RW_op (L_ldRA (j := 0) (vs := lsc (gd l ((i + j) / 2))) ((i + j) / 2) SA_126 (Rd.own' hr hs) (gd_at (by omega)) rfl rfl rfl (by omega) ?_)
      refine RW_op (L_move (V := .int .u16 t) rfl ?_)
      refine RW_op (L_fnP (vs := [.agg (lsc (gd l ((i + j) / 2))).toArray, .int .u16 t]) (cs := []) (V := .int .i64 (cf (gd l ((i + j) / 2)))) hg rfl rfl (hcmp _ (gd l ((i + j) / 2))) hs fun w3 hs => ?_)
      refine RW_op (L_lss rfl rfl ?_)
      refine RW_nil ?_
      refine W_cond (t := decide (cf (gd l ((i + j) / 2)) < 0)) rfl (fun c4 => ?_) (fun c4 => ?_)
      ·
        replace c4 := of_decide_eq_true c4
        refine W_region ?_
        refine RW_op (L_move (V := .int .i64 (((i + j) / 2 : Nat) : Int)) rfl ?_)
        refine RW_op (L_add (a := (((i + j) / 2 : Nat) : Int)) (b := 1) (c := ((((i + j) / 2) + 1 : Nat) : Int)) rfl rfl (nat_i64 (by omega) (by omega)) ?_)
        refine RW_op (L_assign (V := .int .i64 ((((i + j) / 2) + 1 : Nat) : Int)) rfl ?_)
        refine RW_nil ?_
        refine ⟨_, ?_, _, ((i + j) / 2) + 1, j, upd_of (upd_of (mix_of (ds := [9, 10, 11, 15, 16, 17, 18, 19, 20, 21, 22, 23, 24, 25, 26, 27, 28, 29, 30, 31, 32, 33, 34]) (by repeat (first | exact Agr.refl _ _ | refine Agr.upd ?_ rfl | refine Agr.mix ?_ rfl))) rfl) rfl, (by have := posB_lt (f := (fun x => decide (cf x < 0))) hm (by omega) (decide_eq_true c4); omega), (by omega), (by omega), rfl, hs.take 0⟩
        omega
      ·
        replace c4 := of_decide_eq_false c4
        refine W_region ?_
        refine RW_op (L_move (V := .int .i64 (((i + j) / 2 : Nat) : Int)) rfl ?_)
        refine RW_op (L_assign (V := .int .i64 (((i + j) / 2 : Nat) : Int)) rfl ?_)
        refine RW_nil ?_
        refine ⟨_, ?_, _, i, (i + j) / 2, upd_of (upd_of (mix_of (ds := [9, 10, 11, 15, 16, 17, 18, 19, 20, 21, 22, 23, 24, 25, 26, 27, 28, 29, 30, 31, 32, 33, 34]) (by repeat (first | exact Agr.refl _ _ | refine Agr.upd ?_ rfl | refine Agr.mix ?_ rfl))) rfl) rfl, (by omega), (by have := posB_ge (f := (fun x => decide (cf x < 0))) (l := l) (decide_eq_false c4); omega), (by omega), rfl, hs.take 0⟩
        omega
    ·
      replace c2 := of_decide_eq_false c2
      refine W_exit ?_
      refine W_seq ?_
      have hij : i = j := by omega
      refine W_regO [some 35, some 36, some 37, some 38, some 39, some 40, some 41, some 42, some 43, some 44, some 45, some 46, some 47, some 48, some 6, some 7] [] [0, 0, 0, 6, 14, 30, 30, 30, 222, 478, 30, 2046, 4094, 8190, 4095, 32767] [pv (.int .i64 ((i : Nat) : Int)), pv (.int .i64 ((i : Nat) : Int)), pv (.int .i64 ((l.length : Nat) : Int)), pv (.bool (decide (((i : Nat) : Int) < ((l.length : Nat) : Int)))), pv (.bool (decide (((i : Nat) : Int) < ((l.length : Nat) : Int)))), pg ((decide (((i : Nat) : Int) < ((l.length : Nat) : Int))) == true) (.func (.func g) #[] #[]), pg ((decide (((i : Nat) : Int) < ((l.length : Nat) : Int))) == true) (.slice a l.length c), pg ((decide (((i : Nat) : Int) < ((l.length : Nat) : Int))) == true) (.int .i64 ((i : Nat) : Int)), pg ((decide (((i : Nat) : Int) < ((l.length : Nat) : Int))) == true) (.pointer (some ⟨bkS (.slice a l.length c), ofS (.slice a l.length c) + ((i : Nat) : Int).toNat * 2, none⟩)), pg ((decide (((i : Nat) : Int) < ((l.length : Nat) : Int))) == true) (.agg (lsc (gd l i)).toArray), pg ((decide (((i : Nat) : Int) < ((l.length : Nat) : Int))) == true) (.int .u16 t), pg ((decide (((i : Nat) : Int) < ((l.length : Nat) : Int))) == true) (.int .i64 (cf (gd l i))), pg ((decide (((i : Nat) : Int) < ((l.length : Nat) : Int))) == true) (.bool (decide (cf (gd l i) = 0))), pv (.bool ((decide (((i : Nat) : Int) < ((l.length : Nat) : Int))) && (decide (cf (gd l i) = 0)))), pv (.int .i64 ((i : Nat) : Int)), pv (.bool ((decide (((i : Nat) : Int) < ((l.length : Nat) : Int))) && (decide (cf (gd l i) = 0))))] (fun _ _ => _) [15, 14] (by kernel_rfl) hs ⟨?_, ?_, ?_, ?_, ?_, ?_, ?_, ?_, ?_, ?_, ?_, ?_, ?_, ?_, ?_, ?_, trivial⟩ ?_
      · exact ob [] [] rfl rfl fun D ρ w hs => L_move (V := .int .i64 ((i : Nat) : Int)) rfl ⟨rfl, hs⟩
      · exact ob [] [] rfl rfl fun D ρ w hs => L_move (V := .int .i64 ((i : Nat) : Int)) rfl ⟨rfl, hs⟩
      · exact ob [] [] rfl rfl fun D ρ w hs => L_move (V := .int .i64 ((l.length : Nat) : Int)) rfl ⟨rfl, hs⟩
      · exact ob [1, 2] [] rfl rfl fun D ρ w hs => L_lss rfl rfl ⟨rfl, hs⟩
      · exact ob [3] [] rfl rfl fun D ρ w hs => L_move (V := .bool (decide (((i : Nat) : Int) < ((l.length : Nat) : Int)))) rfl ⟨rfl, hs⟩
      · exact obg [4] [] (decide (((i : Nat) : Int) < ((l.length : Nat) : Int))) rfl (fun _ => rfl) rfl (fun _ _ _ _ h => h) fun D ρ w hG hs => L_move (V := .func (.func g) #[] #[]) rfl ⟨rfl, hs⟩
      · exact obg [4] [] (decide (((i : Nat) : Int) < ((l.length : Nat) : Int))) rfl (fun _ => rfl) rfl (fun _ _ _ _ h => h) fun D ρ w hG hs => L_move (V := .slice a l.length c) rfl ⟨rfl, hs⟩
      · exact obg [4] [] (decide (((i : Nat) : Int) < ((l.length : Nat) : Int))) rfl (fun _ => rfl) rfl (fun _ _ _ _ h => h) fun D ρ w hG hs => L_move (V := .int .i64 ((i : Nat) : Int)) rfl ⟨rfl, hs⟩
      · refine obgy [4, 6, 7] [] [6, 7] (decide (((i : Nat) : Int) < ((l.length : Nat) : Int))) rfl (fun _ => rfl) rfl (fun _ _ _ _ h => h) (fun hG => ⟨hG, hG, trivial⟩) fun D ρ w hG hs => ?_
        have hgd := of_decide_eq_true (eq_of_beq (hG))
        exact L_ixR UD_60 SA_126.1 (Rd.own' hr hs) rfl rfl (by omega) (by rw [List.length_map]; omega) ⟨rfl, hs⟩
      · refine obgy [4, 8] [] [8] (decide (((i : Nat) : Int) < ((l.length : Nat) : Int))) rfl (fun _ => rfl) rfl (fun _ _ _ _ h => h) (fun hG => ⟨hG, trivial⟩) fun D ρ w hG hs => ?_
        have hgd := of_decide_eq_true (eq_of_beq (hG))
        exact L_ldRA (j := 0) (vs := lsc (gd l i)) i SA_126 (Rd.own' hr hs) (gd_at (by omega)) rfl rfl rfl (by omega) ⟨rfl, hs⟩
      · exact obg [4] [] (decide (((i : Nat) : Int) < ((l.length : Nat) : Int))) rfl (fun _ => rfl) rfl (fun _ _ _ _ h => h) fun D ρ w hG hs => L_move (V := .int .u16 t) rfl ⟨rfl, hs⟩
      · exact obgy [4, 5, 9, 10] [] [5, 9, 10] (decide (((i : Nat) : Int) < ((l.length : Nat) : Int))) rfl (fun _ => rfl) rfl (fun _ _ _ _ h => h) (fun hG => ⟨hG, hG, hG, trivial⟩) fun D ρ w hG hs => L_fnP (vs := [.agg (lsc (gd l i)).toArray, .int .u16 t]) (cs := []) (V := .int .i64 (cf (gd l i))) hg rfl rfl (hcmp _ (gd l i)) hs fun _ hs => ⟨rfl, hs⟩
      · exact obgy [4, 11] [] [11] (decide (((i : Nat) : Int) < ((l.length : Nat) : Int))) rfl (fun _ => rfl) rfl (fun _ _ _ _ h => h) (fun hG => ⟨hG, trivial⟩) fun D ρ w hG hs => L_eql rfl rfl ⟨rfl, hs⟩
      · exact ob [4, 12] [] rfl rfl fun D ρ w hs => L_andC (h' := decide (cf (gd l i) = 0)) rfl rfl rfl ⟨rfl, hs⟩
      · exact ob [0] [] rfl rfl fun D ρ w hs => L_assign (V := .int .i64 ((i : Nat) : Int)) rfl ⟨rfl, hs⟩
      · exact ob [13] [] rfl rfl fun D ρ w hs => L_assign (V := .bool ((decide (((i : Nat) : Int) < ((l.length : Nat) : Int))) && (decide (cf (gd l i) = 0)))) rfl ⟨rfl, hs⟩
      rintro ρ1 w6 ρ2 hρ hs
      replace hρ : ρ2 = upd (upd (mix [35, 36, 37, 38, 39, 40, 41, 42, 43, 44, 45, 46, 47, 48, 6, 7] ρ1 _) 6 (.int .i64 ((i : Nat) : Int))) 7 (.bool ((decide (((i : Nat) : Int) < ((l.length : Nat) : Int))) && (decide (cf (gd l i) = 0)))) := hρ
      subst hρ
      refine W_ret ?_
      refine ⟨_, res_two (U := .int .i64 ((i : Nat) : Int)) (V := .bool ((decide (((i : Nat) : Int) < ((l.length : Nat) : Int))) && (decide (cf (gd l i) = 0)))) Try.results107 rfl rfl, ?_⟩
      refine ⟨congrArg Ending.returned ?_, hs.take 0⟩
      have hip2 : i = posB (fun x => decide (cf x < 0)) l := by omega
      rw [← hip2]
      congr 3
      by_cases h : i < l.length <;> simp [h]
end Tt
end Go.Proofs
namespace Go.Proofs
open Go Go.Vx Go.RowKit
namespace Tt
set_option maxRecDepth 20000 in
set_option maxHeartbeats 4000000 in
theorem place_ok (w : World) (x y : Cen) : Calls Try.prog 64 #[.agg (cec x).toArray, .agg (cec y).toArray] w (fun e w' => e = .returned (.int .i64 (placeI x y)) ∧ Own w no w' []) := by
  refine calls_of_Wn (n := 26) Try.func64 rfl Try.ntmps64 rfl ?_
  have hs := Own.start w
  refine W_seq ?_
  refine W_region ?_
  refine RW_op (L_box (V := .agg (cec x).toArray) (cs := cec x) rfl rfl hs fun b1 w2 hs => ?_)
  refine RW_op (L_box (V := .agg (cec y).toArray) (cs := cec y) rfl rfl hs fun b3 w4 hs => ?_)
  refine RW_op (L_assign (V := .int .i64 0) rfl ?_)
  refine RW_nil ?_
  refine W_seq ?_
  replace hs := hs.more emp trivial
  refine W_regD HM [some 5, some 6, some 7, some 8, some 9, some 10, some 11, some 12, some 13, some 14, some 15, some 16, some 17, some 18, some 19, some 20, some 21, some 22, some 23, some 24, some 25, some 4] [[], [], [], [], [], [], [], [], [], [], [], [], [], [], [], [], [], [], [], [24]] [0, 1, 0, 4, 15, 0, 32, 96, 0, 256, 768, 2047, 0, 4096, 12288, 0, 32768, 98304, 262143, 524287, 1048575, 2097151] [pv (.pointer (some ⟨b1, 0 + 0, none⟩)), pv (.int .u16 x.cart), pv (.pointer (some ⟨b3, 0 + 0, none⟩)), pv (.int .u16 y.cart), pv (.int .i64 (cmpI x.cart y.cart)), pv (.pointer (some ⟨b1, 0 + 4, none⟩)), pv (.pointer (some ⟨b1, 0 + 4 + 0, none⟩)), pv (.int .u8 x.dot.rep), pv (.pointer (some ⟨b3, 0 + 4, none⟩)), pv (.pointer (some ⟨b3, 0 + 4 + 0, none⟩)), pv (.int .u8 y.dot.rep), pv (.int .i64 (cmpI x.dot.rep y.dot.rep)), pv (.pointer (some ⟨b1, 0 + 4, none⟩)), pv (.pointer (some ⟨b1, 0 + 4 + 1, none⟩)), pv (.int .u32 x.dot.seq), pv (.pointer (some ⟨b3, 0 + 4, none⟩)), pv (.pointer (some ⟨b3, 0 + 4 + 1, none⟩)), pv (.int .u32 y.dot.seq), pv (.int .i64 (cmpI x.dot.seq y.dot.seq)), (true, fun ρ => .slice (some ⟨(bOf (ρ 24)), 0, none⟩) 3 3), pv (.int .i64 (orI [cmpI x.cart y.cart, cmpI x.dot.rep y.dot.rep, cmpI x.dot.seq y.dot.seq])), pv (.int .i64 (orI [cmpI x.cart y.cart, cmpI x.dot.rep y.dot.rep, cmpI x.dot.seq y.dot.seq]))] (fun D ρ => [blk b1 (cec x) 128, blk b3 (cec y) 128, cond (D 19) (row (.slice (some ⟨(bOf (ρ 24)), 0, none⟩) 3 3) ([cmpI x.cart y.cart, cmpI x.dot.rep y.dot.rep, cmpI x.dot.seq y.dot.seq].map (ic .i64)) 3 1) (emp)]) [21] (by kernel_rfl) hs ⟨?_, ?_, ?_, ?_, ?_, ?_, ?_, ?_, ?_, ?_, ?_, ?_, ?_, ?_, ?_, ?_, ?_, ?_, ?_, ?_, ?_, ?_, trivial⟩ ?_
  · exact ob [] [] rfl rfl fun D ρ w hs => L_fieldAddr FA_128_0 rfl ⟨rfl, hs⟩
  · exact ob [0] [] rfl rfl fun D ρ w hs => L_ld (V := .int .u16 x.cart) S1_70 hs 0 rfl rfl rfl ⟨rfl, hs⟩
  · exact ob [] [] rfl rfl fun D ρ w hs => L_fieldAddr FA_128_0 rfl ⟨rfl, hs⟩
  · exact ob [2] [] rfl rfl fun D ρ w hs => L_ld (V := .int .u16 y.cart) S1_70 hs 1 rfl rfl rfl ⟨rfl, hs⟩
  · exact ob [1, 3] [] rfl rfl fun D ρ w hs => L_callP (vs := [.int .u16 x.cart, .int .u16 y.cart]) (V := .int .i64 (cmpI x.cart y.cart)) EN_73 rfl rfl (cmp_uint16_ok _ x.cart y.cart) hs fun _ hs => ⟨rfl, hs⟩
  · exact ob [] [] rfl rfl fun D ρ w hs => L_fieldAddr FA_128_4 rfl ⟨rfl, hs⟩
  · exact ob [5] [] rfl rfl fun D ρ w hs => L_fieldAddr FA_96_0 rfl ⟨rfl, hs⟩
  · exact ob [6] [] rfl rfl fun D ρ w hs => L_ld (V := .int .u8 x.dot.rep) S1_5 hs 0 rfl rfl rfl ⟨rfl, hs⟩
  · exact ob [] [] rfl rfl fun D ρ w hs => L_fieldAddr FA_128_4 rfl ⟨rfl, hs⟩
  · exact ob [8] [] rfl rfl fun D ρ w hs => L_fieldAddr FA_96_0 rfl ⟨rfl, hs⟩
  · exact ob [9] [] rfl rfl fun D ρ w hs => L_ld (V := .int .u8 y.dot.rep) S1_5 hs 1 rfl rfl rfl ⟨rfl, hs⟩
  · exact ob [7, 10] [] rfl rfl fun D ρ w hs => L_callP (vs := [.int .u8 x.dot.rep, .int .u8 y.dot.rep]) (V := .int .i64 (cmpI x.dot.rep y.dot.rep)) EN_104 rfl rfl (cmp_uint8_ok _ x.dot.rep y.dot.rep) hs fun _ hs => ⟨rfl, hs⟩
  · exact ob [] [] rfl rfl fun D ρ w hs => L_fieldAddr FA_128_4 rfl ⟨rfl, hs⟩
  · exact ob [12] [] rfl rfl fun D ρ w hs => L_fieldAddr FA_96_1 rfl ⟨rfl, hs⟩
  · exact ob [13] [] rfl rfl fun D ρ w hs => L_ld (V := .int .u32 x.dot.seq) S1_51 hs 0 rfl rfl rfl ⟨rfl, hs⟩
  · exact ob [] [] rfl rfl fun D ρ w hs => L_fieldAddr FA_128_4 rfl ⟨rfl, hs⟩
  · exact ob [15] [] rfl rfl fun D ρ w hs => L_fieldAddr FA_96_1 rfl ⟨rfl, hs⟩
  · exact ob [16] [] rfl rfl fun D ρ w hs => L_ld (V := .int .u32 y.dot.seq) S1_51 hs 1 rfl rfl rfl ⟨rfl, hs⟩
  · exact ob [14, 17] [] rfl rfl fun D ρ w hs => L_callP (vs := [.int .u32 x.dot.seq, .int .u32 y.dot.seq]) (V := .int .i64 (cmpI x.dot.seq y.dot.seq)) EN_105 rfl rfl (cmp_uint32_ok _ x.dot.seq y.dot.seq) hs fun _ hs => ⟨rfl, hs⟩
  · exact ob [4, 11, 18] [] rfl rfl fun D ρ w hs => L_bs (vals := [.int .i64 (cmpI x.cart y.cart), .int .i64 (cmpI x.dot.rep y.dot.rep), .int .i64 (cmpI x.dot.seq y.dot.seq)]) (ls := List.map (ic .i64) ([cmpI x.cart y.cart, cmpI x.dot.rep y.dot.rep, cmpI x.dot.seq y.dot.seq] : List Int)) EL_198 rfl rfl rfl (len_map (enc := (ic .i64)) (fun _ => rfl) _) (one_map (ic_one .i64) _) (Nat.le_of_ble_eq_true rfl) hs fun _ _ hs => ⟨rfl, hs.put 2 (Nat.le_of_ble_eq_true rfl)⟩
  · exact ob [19] [] rfl rfl fun D ρ w hs => L_callP (vs := [.slice (some ⟨(bOf (ρ 24)), 0, none⟩) 3 3]) (V := .int .i64 (orI [cmpI x.cart y.cart, cmpI x.dot.rep y.dot.rep, cmpI x.dot.seq y.dot.seq])) EN_103 rfl rfl (or_ok _ (some ⟨(bOf (ρ 24)), 0, none⟩) 3 [cmpI x.cart y.cart, cmpI x.dot.rep y.dot.rep, cmpI x.dot.seq y.dot.seq] (hs.rd 2 rfl)) hs fun _ hs => ⟨rfl, hs⟩
  · exact ob [20] [] rfl rfl fun D ρ w hs => L_assign (V := .int .i64 (orI [cmpI x.cart y.cart, cmpI x.dot.rep y.dot.rep, cmpI x.dot.seq y.dot.seq])) rfl ⟨rfl, hs⟩
  rintro ρ1 w10 ρ2 hρ hs
  replace hρ : ρ2 = upd (mix [5, 6, 7, 8, 9, 10, 11, 12, 13, 14, 15, 16, 17, 18, 19, 20, 21, 22, 23, 24, 25, 4] ρ1 _) 4 (.int .i64 (orI [cmpI x.cart y.cart, cmpI x.dot.rep y.dot.rep, cmpI x.dot.seq y.dot.seq])) := hρ
  replace hs : Own w no w10 [blk b1 (cec x) 128, blk b3 (cec y) 128, row (.slice (some ⟨(bOf (ρ1 24)), 0, none⟩) 3 3) ([cmpI x.cart y.cart, cmpI x.dot.rep y.dot.rep, cmpI x.dot.seq y.dot.seq].map (ic .i64)) 3 1] := hs
  generalize (bOf (ρ1 24)) = b11 at hs
  subst hρ
  refine W_ret ?_
  refine ⟨_, res_one (V := .int .i64 (orI [cmpI x.cart y.cart, cmpI x.dot.rep y.dot.rep, cmpI x.dot.seq y.dot.seq])) Try.results64 rfl, ?_⟩
  refine ⟨congrArg Ending.returned ?_, hs.take 0⟩
  rfl
set_option maxRecDepth 20000 in
set_option maxHeartbeats 4000000 in
theorem eShaped_ok (w : World) (x : Cen) (hx : CenOk x) : Calls Try.prog 99 #[.agg (cec x).toArray] w (fun e w' => e = .returned (.bool (shapedB x)) ∧ Own w no w' []) := by
  refine calls_of_Wn (n := 25) Try.func99 rfl Try.ntmps99 rfl ?_
  have hs := Own.start w
  refine W_seq ?_
  refine W_region ?_
  refine RW_op (L_box (V := .agg (cec x).toArray) (cs := cec x) rfl rfl hs fun b1 w2 hs => ?_)
  refine RW_op (L_assign (V := .bool false) rfl ?_)
  refine RW_nil ?_
  refine W_seq ?_
  refine W_seq ?_
  refine W_region ?_
  refine RW_op (L_fieldAddr FA_128_3 rfl ?_)
  refine RW_op (L_ld (V := .int .u8 x.kind) S1_5 hs 0 rfl rfl rfl ?_)
  refine RW_nil ?_
  refine W_block ?_
  refine W_seq ?_
  refine W_region ?_
  refine RW_op (L_eql rfl rfl ?_)
  refine RW_op (L_assign (V := .bool (decide (x.kind = 1))) rfl ?_)
  refine RW_nil ?_
  refine W_cond (t := decide (x.kind = 1)) rfl (fun c3 => ?_) (fun c3 => ?_)
  ·
    replace c3 := of_decide_eq_true c3
    refine W_seq ?_
    refine W_region ?_
    refine RW_op (L_fieldAddr FA_128_2 rfl ?_)
    refine RW_op (L_ld (V := .int .u16 x.qty) S1_70 hs 0 rfl rfl rfl ?_)
    refine RW_op (L_gtr rfl rfl ?_)
    refine RW_op (L_assign (V := .bool (decide (0 < x.qty))) rfl ?_)
    refine RW_nil ?_
    refine W_ret ?_
    refine ⟨_, res_one (V := .bool (decide (0 < x.qty))) Try.results99 rfl, ?_⟩
    refine ⟨congrArg Ending.returned ?_, hs.take 0⟩
    refine congrArg Value.bool ?_
    unfold shapedB
    have ⟨_, _, ⟨hq1, hq2⟩, _, _, _⟩ := hx
    simp_all [Bool.and_assoc]
    try omega
  ·
    replace c3 := of_decide_eq_false c3
    refine W_seq ?_
    refine W_region ?_
    refine RW_op (L_eql rfl rfl ?_)
    refine RW_op (L_assign (V := .bool (decide (x.kind = 2))) rfl ?_)
    refine RW_nil ?_
    refine W_cond (t := decide (x.kind = 2)) rfl (fun c4 => ?_) (fun c4 => ?_)
    ·
      replace c4 := of_decide_eq_true c4
      refine W_seq ?_
      refine W_region ?_
      refine RW_op (L_assign (V := .bool true) rfl ?_)
      refine RW_nil ?_
      refine W_ret ?_
      refine ⟨_, res_one (V := .bool true) Try.results99 rfl, ?_⟩
      refine ⟨congrArg Ending.returned ?_, hs.take 0⟩
      refine congrArg Value.bool ?_
      unfold shapedB
      have ⟨_, _, ⟨hq1, hq2⟩, _, _, _⟩ := hx
      simp_all [Bool.and_assoc]
      try omega
    ·
      replace c4 := of_decide_eq_false c4
      refine W_skip ?_
      refine W_seq ?_
      refine W_regO [some 12, some 13, some 14, some 15, some 16, some 17, some 18, some 19, some 20, some 21, some 22, some 23, some 24, some 2] [] [0, 1, 3, 7, 15, 31, 63, 127, 255, 511, 1023, 2047, 4095, 8191] [pv (.pointer (some ⟨b1, 0 + 3, none⟩)), pv (.int .u8 x.kind), pv (.bool (decide (x.kind = 4))), pv (.bool (decide (x.kind = 4))), pg ((decide (x.kind = 4)) == true) (.pointer (some ⟨b1, 0 + 1, none⟩)), pg ((decide (x.kind = 4)) == true) (.int .u16 x.item), pg ((decide (x.kind = 4)) == true) (.bool (decide (x.item = 0))), pv (.bool ((decide (x.kind = 4)) && (decide (x.item = 0)))), pv (.bool ((decide (x.kind = 4)) && (decide (x.item = 0)))), pg (((decide (x.kind = 4)) && (decide (x.item = 0))) == true) (.pointer (some ⟨b1, 0 + 2, none⟩)), pg (((decide (x.kind = 4)) && (decide (x.item = 0))) == true) (.int .u16 x.qty), pg (((decide (x.kind = 4)) && (decide (x.item = 0))) == true) (.bool (decide (x.qty = 0))), pv (.bool (((decide (x.kind = 4)) && (decide (x.item = 0))) && (decide (x.qty = 0)))), pv (.bool (((decide (x.kind = 4)) && (decide (x.item = 0))) && (decide (x.qty = 0))))] (fun _ _ => _) [13] (by kernel_rfl) hs ⟨?_, ?_, ?_, ?_, ?_, ?_, ?_, ?_, ?_, ?_, ?_, ?_, ?_, ?_, trivial⟩ ?_
      · exact ob [] [] rfl rfl fun D ρ w hs => L_fieldAddr FA_128_3 rfl ⟨rfl, hs⟩
      · exact ob [0] [] rfl rfl fun D ρ w hs => L_ld (V := .int .u8 x.kind) S1_5 hs 0 rfl rfl rfl ⟨rfl, hs⟩
      · exact ob [1] [] rfl rfl fun D ρ w hs => L_eql rfl rfl ⟨rfl, hs⟩
      · exact ob [2] [] rfl rfl fun D ρ w hs => L_move (V := .bool (decide (x.kind = 4))) rfl ⟨rfl, hs⟩
      · exact obg [3] [] (decide (x.kind = 4)) rfl (fun _ => rfl) rfl (fun _ _ _ _ h => h) fun D ρ w hG hs => L_fieldAddr FA_128_1 rfl ⟨rfl, hs⟩
      · exact obgy [3, 4] [] [4] (decide (x.kind = 4)) rfl (fun _ => rfl) rfl (fun _ _ _ _ h => h) (fun hG => ⟨hG, trivial⟩) fun D ρ w hG hs => L_ld (V := .int .u16 x.item) S1_70 hs 0 rfl rfl rfl ⟨rfl, hs⟩
      · exact obgy [3, 5] [] [5] (decide (x.kind = 4)) rfl (fun _ => rfl) rfl (fun _ _ _ _ h => h) (fun hG => ⟨hG, trivial⟩) fun D ρ w hG hs => L_eql rfl rfl ⟨rfl, hs⟩
      · exact ob [3, 6] [] rfl rfl fun D ρ w hs => L_andC (h' := decide (x.item = 0)) rfl rfl rfl ⟨rfl, hs⟩
      · exact ob [7] [] rfl rfl fun D ρ w hs => L_move (V := .bool ((decide (x.kind = 4)) && (decide (x.item = 0)))) rfl ⟨rfl, hs⟩
      · exact obg [8] [] ((decide (x.kind = 4)) && (decide (x.item = 0))) rfl (fun _ => rfl) rfl (fun _ _ _ _ h => h) fun D ρ w hG hs => L_fieldAddr FA_128_2 rfl ⟨rfl, hs⟩
      · exact obgy [8, 9] [] [9] ((decide (x.kind = 4)) && (decide (x.item = 0))) rfl (fun _ => rfl) rfl (fun _ _ _ _ h => h) (fun hG => ⟨hG, trivial⟩) fun D ρ w hG hs => L_ld (V := .int .u16 x.qty) S1_70 hs 0 rfl rfl rfl ⟨rfl, hs⟩
      · exact obgy [8, 10] [] [10] ((decide (x.kind = 4)) && (decide (x.item = 0))) rfl (fun _ => rfl) rfl (fun _ _ _ _ h => h) (fun hG => ⟨hG, trivial⟩) fun D ρ w hG hs => L_eql rfl rfl ⟨rfl, hs⟩
      · exact ob [8, 11] [] rfl rfl fun D ρ w hs => L_andC (h' := decide (x.qty = 0)) rfl rfl rfl ⟨rfl, hs⟩
      · exact ob [12] [] rfl rfl fun D ρ w hs => L_assign (V := .bool (((decide (x.kind = 4)) && (decide (x.item = 0))) && (decide (x.qty = 0)))) rfl ⟨rfl, hs⟩
      rintro ρ1 w5 ρ2 hρ hs
      replace hρ : ρ2 = upd (mix [12, 13, 14, 15, 16, 17, 18, 19, 20, 21, 22, 23, 24, 2] ρ1 _) 2 (.bool (((decide (x.kind = 4)) && (decide (x.item = 0))) && (decide (x.qty = 0)))) := hρ
      subst hρ
      refine W_ret ?_
      refine ⟨_, res_one (V := .bool (((decide (x.kind = 4)) && (decide (x.item = 0))) && (decide (x.qty = 0)))) Try.results99 rfl, ?_⟩
      refine ⟨congrArg Ending.returned ?_, hs.take 0⟩
      refine congrArg Value.bool ?_
      unfold shapedB
      have ⟨_, _, ⟨hq1, hq2⟩, _, _, _⟩ := hx
      simp_all [Bool.and_assoc]
      try omega
set_option maxRecDepth 20000 in
set_option maxHeartbeats 4000000 in
theorem rShaped_ok (w : World) (x : Cen) (hx : CenOk x) : Calls Try.prog 122 #[.agg (cec x).toArray] w (fun e w' => e = .returned (.bool (shapedB x)) ∧ Own w no w' []) := by
  refine calls_of_Wn (n := 25) Try.func122 rfl Try.ntmps122 rfl ?_
  have hs := Own.start w
  refine W_seq ?_
  refine W_region ?_
  refine RW_op (L_box (V := .agg (cec x).toArray) (cs := cec x) rfl rfl hs fun b1 w2 hs => ?_)
  refine RW_op (L_assign (V := .bool false) rfl ?_)
  refine RW_nil ?_
  refine W_seq ?_
  refine W_seq ?_
  refine W_region ?_
  refine RW_op (L_fieldAddr FA_134_3 rfl ?_)
  refine RW_op (L_ld (V := .int .u8 x.kind) S1_5 hs 0 rfl rfl rfl ?_)
  refine RW_nil ?_
  refine W_block ?_
  refine W_seq ?_
  refine W_region ?_
  refine RW_op (L_eql rfl rfl ?_)
  refine RW_op (L_assign (V := .bool (decide (x.kind = 1))) rfl ?_)
  refine RW_nil ?_
  refine W_cond (t := decide (x.kind = 1)) rfl (fun c3 => ?_) (fun c3 => ?_)
  ·
    replace c3 := of_decide_eq_true c3
    refine W_seq ?_
    refine W_region ?_
    refine RW_op (L_fieldAddr FA_134_2 rfl ?_)
    refine RW_op (L_ld (V := .int .u16 x.qty) S1_70 hs 0 rfl rfl rfl ?_)
    refine RW_op (L_geq rfl rfl ?_)
    refine RW_op (L_assign (V := .bool (decide (1 ≤ x.qty))) rfl ?_)
    refine RW_nil ?_
    refine W_ret ?_
    refine ⟨_, res_one (V := .bool (decide (1 ≤ x.qty))) Try.results122 rfl, ?_⟩
    refine ⟨congrArg Ending.returned ?_, hs.take 0⟩
    refine congrArg Value.bool ?_
    unfold shapedB
    have ⟨_, _, ⟨hq1, hq2⟩, _, _, _⟩ := hx
    simp_all [Bool.and_assoc]
    try omega
  ·
    replace c3 := of_decide_eq_false c3
    refine W_seq ?_
    refine W_region ?_
    refine RW_op (L_eql rfl rfl ?_)
    refine RW_op (L_assign (V := .bool (decide (x.kind = 2))) rfl ?_)
    refine RW_nil ?_
    refine W_cond (t := decide (x.kind = 2)) rfl (fun c4 => ?_) (fun c4 => ?_)
    ·
      replace c4 := of_decide_eq_true c4
      refine W_seq ?_
      refine W_region ?_
      refine RW_op (L_assign (V := .bool true) rfl ?_)
      refine RW_nil ?_
      refine W_ret ?_
      refine ⟨_, res_one (V := .bool true) Try.results122 rfl, ?_⟩
      refine ⟨congrArg Ending.returned ?_, hs.take 0⟩
      refine congrArg Value.bool ?_
      unfold shapedB
      have ⟨_, _, ⟨hq1, hq2⟩, _, _, _⟩ := hx
      simp_all [Bool.and_assoc]
      try omega
    ·
      replace c4 := of_decide_eq_false c4
      refine W_skip ?_
      refine W_seq ?_
      refine W_regO [some 12, some 13, some 14, some 15, some 16, some 17, some 18, some 19, some 20, some 21, some 22, some 23, some 24, some 2] [] [0, 1, 3, 7, 15, 31, 63, 127, 255, 511, 1023, 2047, 4095, 8191] [pv (.pointer (some ⟨b1, 0 + 3, none⟩)), pv (.int .u8 x.kind), pv (.bool (decide (x.kind = 4))), pv (.bool (decide (x.kind = 4))), pg ((decide (x.kind = 4)) == true) (.pointer (some ⟨b1, 0 + 1, none⟩)), pg ((decide (x.kind = 4)) == true) (.int .u16 x.item), pg ((decide (x.kind = 4)) == true) (.bool (decide (x.item = 0))), pv (.bool ((decide (x.kind = 4)) && (decide (x.item = 0)))), pv (.bool ((decide (x.kind = 4)) && (decide (x.item = 0)))), pg (((decide (x.kind = 4)) && (decide (x.item = 0))) == true) (.pointer (some ⟨b1, 0 + 2, none⟩)), pg (((decide (x.kind = 4)) && (decide (x.item = 0))) == true) (.int .u16 x.qty), pg (((decide (x.kind = 4)) && (decide (x.item = 0))) == true) (.bool (decide (x.qty = 0))), pv (.bool (((decide (x.kind = 4)) && (decide (x.item = 0))) && (decide (x.qty = 0)))), pv (.bool (((decide (x.kind = 4)) && (decide (x.item = 0))) && (decide (x.qty = 0))))] (fun _ _ => _) [13] (by kernel_rfl) hs ⟨?_, ?_, ?_, ?_, ?_, ?_, ?_, ?_, ?_, ?_, ?_, ?_, ?_, ?_, trivial⟩ ?_
      · exact ob [] [] rfl rfl fun D ρ w hs => L_fieldAddr FA_134_3 rfl ⟨rfl, hs⟩
      · exact ob [0] [] rfl rfl fun D ρ w hs => L_ld (V := .int .u8 x.kind) S1_5 hs 0 rfl rfl rfl ⟨rfl, hs⟩
      · exact ob [1] [] rfl rfl fun D ρ w hs => L_eql rfl rfl ⟨rfl, hs⟩
      · exact ob [2] [] rfl rfl fun D ρ w hs => L_move (V := .bool (decide (x.kind = 4))) rfl ⟨rfl, hs⟩
      · exact obg [3] [] (decide (x.kind = 4)) rfl (fun _ => rfl) rfl (fun _ _ _ _ h => h) fun D ρ w hG hs => L_fieldAddr FA_134_1 rfl ⟨rfl, hs⟩
      · exact obgy [3, 4] [] [4] (decide (x.kind = 4)) rfl (fun _ => rfl) rfl (fun _ _ _ _ h => h) (fun hG => ⟨hG, trivial⟩) fun D ρ w hG hs => L_ld (V := .int .u16 x.item) S1_70 hs 0 rfl rfl rfl ⟨rfl, hs⟩
      · exact obgy [3, 5] [] [5] (decide (x.kind = 4)) rfl (fun _ => rfl) rfl (fun _ _ _ _ h => h) (fun hG => ⟨hG, trivial⟩) fun D ρ w hG hs => L_eql rfl rfl ⟨rfl, hs⟩
      · exact ob [3, 6] [] rfl rfl fun D ρ w hs => L_andC (h' := decide (x.item = 0)) rfl rfl rfl ⟨rfl, hs⟩
      · exact ob [7] [] rfl rfl fun D ρ w hs => L_move (V := .bool ((decide (x.kind = 4)) && (decide (x.item = 0)))) rfl ⟨rfl, hs⟩
      · exact obg [8] [] ((decide (x.kind = 4)) && (decide (x.item = 0))) rfl (fun _ => rfl) rfl (fun _ _ _ _ h => h) fun D ρ w hG hs => L_fieldAddr FA_134_2 rfl ⟨rfl, hs⟩
      · exact obgy [8, 9] [] [9] ((decide (x.kind = 4)) && (decide (x.item = 0))) rfl (fun _ => rfl) rfl (fun _ _ _ _ h => h) (fun hG => ⟨hG, trivial⟩) fun D ρ w hG hs => L_ld (V := .int .u16 x.qty) S1_70 hs 0 rfl rfl rfl ⟨rfl, hs⟩
      · exact obgy [8, 10] [] [10] ((decide (x.kind = 4)) && (decide (x.item = 0))) rfl (fun _ => rfl) rfl (fun _ _ _ _ h => h) (fun hG => ⟨hG, trivial⟩) fun D ρ w hG hs => L_eql rfl rfl ⟨rfl, hs⟩
      · exact ob [8, 11] [] rfl rfl fun D ρ w hs => L_andC (h' := decide (x.qty = 0)) rfl rfl rfl ⟨rfl, hs⟩
      · exact ob [12] [] rfl rfl fun D ρ w hs => L_assign (V := .bool (((decide (x.kind = 4)) && (decide (x.item = 0))) && (decide (x.qty = 0)))) rfl ⟨rfl, hs⟩
      rintro ρ1 w5 ρ2 hρ hs
      replace hρ : ρ2 = upd (mix [12, 13, 14, 15, 16, 17, 18, 19, 20, 21, 22, 23, 24, 2] ρ1 _) 2 (.bool (((decide (x.kind = 4)) && (decide (x.item = 0))) && (decide (x.qty = 0)))) := hρ
      subst hρ
      refine W_ret ?_
      refine ⟨_, res_one (V := .bool (((decide (x.kind = 4)) && (decide (x.item = 0))) && (decide (x.qty = 0)))) Try.results122 rfl, ?_⟩
      refine ⟨congrArg Ending.returned ?_, hs.take 0⟩
      refine congrArg Value.bool ?_
      unfold shapedB
      have ⟨_, _, ⟨hq1, hq2⟩, _, _, _⟩ := hx
      simp_all [Bool.and_assoc]
      try omega
set_option maxRecDepth 20000 in
set_option maxHeartbeats 4000000 in
theorem find1_ok (w : World) (x : Lst) (c : Int) : Calls Try.prog 108 #[.agg (lsc x).toArray, .int .u16 c] w (fun e w' => e = .returned (.int .i64 (cmpI x.cart c)) ∧ Own w no w' []) := by
  refine calls_of_Wn (n := 9) Try.func108 rfl Try.ntmps108 rfl ?_
  have hs := Own.start w
  refine W_seq ?_
  refine W_region ?_
  refine RW_op (L_box (V := .agg (lsc x).toArray) (cs := lsc x) rfl rfl hs fun b1 w2 hs => ?_)
  refine RW_op (L_assign (V := .int .i64 0) rfl ?_)
  refine RW_nil ?_
  refine W_seq ?_
  refine W_region ?_
  refine RW_op (L_fieldAddr FA_126_0 rfl ?_)
  refine RW_op (L_ld (V := .int .u16 x.cart) S1_70 hs 0 rfl rfl rfl ?_)
  refine RW_op (L_move (V := .int .u16 c) rfl ?_)
  refine RW_op (L_callP (vs := [.int .u16 x.cart, .int .u16 c]) (V := .int .i64 (cmpI x.cart c)) EN_73 rfl rfl ?hc hs fun w3 hs => ?_)
  case hc => exact (cmp_uint16_ok _ x.cart c)
  refine RW_op (L_assign (V := .int .i64 (cmpI x.cart c)) rfl ?_)
  refine RW_nil ?_
  refine W_ret ?_
  refine ⟨_, res_one (V := .int .i64 (cmpI x.cart c)) Try.results108 rfl, ?_⟩
  refine ⟨congrArg Ending.returned ?_, hs.take 0⟩
  rfl
set_option maxRecDepth 20000 in
set_option maxHeartbeats 4000000 in
theorem sFind_ok (w : World) (kn : Vec) (v1 : Value) (a2 : Option Addr) (c2 : Nat) (ts : List Lst) (c : Int) (hlt : ts.length ≤ 100000) (hT : RisT ts) (hr2 : Rd w (.slice a2 ts.length c2) 2 (ts.map lsc)) : Calls Try.prog 70 #[.agg ((vc kn) ++ [(v1 : Value), (.slice a2 ts.length c2 : Value) ]).toArray, .int .u16 c] w (fun e w' => e = .returned (.tuple #[.int .i64 ((posT ts c : Nat) : Int), .bool (tickP ts c).isSome]) ∧ Own w no w' []) := by
  refine calls_of_Wn (n := 12) Try.func70 rfl Try.ntmps70 rfl ?_
  have hs := Own.start w
  refine W_seq ?_
  refine W_region ?_
  refine RW_op (L_box (V := .agg ((vc kn) ++ [(v1 : Value), (.slice a2 ts.length c2 : Value) ]).toArray) (cs := (vc kn) ++ [(v1 : Value), (.slice a2 ts.length c2 : Value) ]) rfl rfl hs fun b1 w2 hs => ?_)
  refine RW_op (L_assign (V := .int .i64 0) rfl ?_)
  refine RW_op (L_assign (V := .bool false) rfl ?_)
  refine RW_nil ?_
  refine W_seq ?_
  refine W_region ?_
  refine RW_op (L_fieldAddr FA_62_2 rfl ?_)
  refine RW_op (L_ld (V := .slice a2 ts.length c2) S1_60 hs 0 rfl rfl rfl ?_)
  refine RW_op (L_move (V := .int .u16 c) rfl ?_)
  refine RW_op (L_callPV (vs := [.slice a2 ts.length c2, .int .u16 c, .func (.func 108) #[] #[]]) (V := .tuple #[.int .i64 ((posB (fun x => decide ((fun x : Lst => cmpI x.cart c) x < 0)) ts : Nat) : Int), .bool (decide (posB (fun x => decide ((fun x : Lst => cmpI x.cart c) x < 0)) ts < ts.length) && decide ((fun x : Lst => cmpI x.cart c) (gd ts (posB (fun x => decide ((fun x : Lst => cmpI x.cart c) x < 0)) ts)) = 0))]) (V' := .tuple #[.int .i64 ((posT ts c : Nat) : Int), .bool ((tickP ts c).isSome)]) (by rw [← find_found hT c]; rfl) EN_107 rfl rfl (bsf126_ok _ a2 c2 ts c (by omega) 108 EN_108 (fun x : Lst => cmpI x.cart c) (fun w x => find1_ok w x c) (posT_mono hT c) (Rd.own' hr2 hs)) hs fun w3 hs => ?_)
  refine RW_op (L_extract (V := .int .i64 ((posT ts c : Nat) : Int)) rfl rfl ?_)
  refine RW_op (L_extract (V := .bool ((tickP ts c).isSome)) rfl rfl ?_)
  refine RW_op (L_assign (V := .int .i64 ((posT ts c : Nat) : Int)) rfl ?_)
  refine RW_op (L_assign (V := .bool ((tickP ts c).isSome)) rfl ?_)
  refine RW_nil ?_
  refine W_ret ?_
  refine ⟨_, res_two (U := .int .i64 ((posT ts c : Nat) : Int)) (V := .bool ((tickP ts c).isSome)) Try.results70 rfl rfl, ?_⟩
  refine ⟨congrArg Ending.returned ?_, hs.take 0⟩
  rfl
end Tt
end Go.Proofs
namespace Go.Proofs
open Go Go.Vx Go.RowKit
namespace Tt
set_option maxRecDepth 20000 in
set_option maxHeartbeats 4000000 in
theorem vdot_ok (w : World) (d : Dot) : Calls Try.prog 100 #[.agg (dc d).toArray] w (fun e w' => e = .returned (.bool (dotB d)) ∧ Own w no w' []) := by
  refine calls_of_Wn (n := 16) Try.func100 rfl Try.ntmps100 rfl ?_
  have hs := Own.start w
  refine W_seq ?_
  refine W_region ?_
  refine RW_op (L_box (V := .agg (dc d).toArray) (cs := dc d) rfl rfl hs fun b1 w2 hs => ?_)
  refine RW_op (L_assign (V := .bool false) rfl ?_)
  refine RW_nil ?_
  refine W_seq ?_
  refine W_regO [some 3, some 4, some 5, some 6, some 7, some 8, some 9, some 10, some 11, some 12, some 13, some 14, some 15, some 2] [] [0, 1, 3, 7, 15, 31, 63, 127, 255, 511, 1023, 2047, 4095, 8191] [pv (.pointer (some ⟨b1, 0 + 0, none⟩)), pv (.int .u8 d.rep), pv (.bool (decide (d.rep < 16))), pv (.bool (decide (d.rep < 16))), pg ((decide (d.rep < 16)) == true) (.pointer (some ⟨b1, 0 + 1, none⟩)), pg ((decide (d.rep < 16)) == true) (.int .u32 d.seq), pg ((decide (d.rep < 16)) == true) (.bool (decide (1 ≤ d.seq))), pv (.bool ((decide (d.rep < 16)) && (decide (1 ≤ d.seq)))), pv (.bool ((decide (d.rep < 16)) && (decide (1 ≤ d.seq)))), pg (((decide (d.rep < 16)) && (decide (1 ≤ d.seq))) == true) (.pointer (some ⟨b1, 0 + 1, none⟩)), pg (((decide (d.rep < 16)) && (decide (1 ≤ d.seq))) == true) (.int .u32 d.seq), pg (((decide (d.rep < 16)) && (decide (1 ≤ d.seq))) == true) (.bool (decide (d.seq ≤ 1048576))), pv (.bool (((decide (d.rep < 16)) && (decide (1 ≤ d.seq))) && (decide (d.seq ≤ 1048576)))), pv (.bool (((decide (d.rep < 16)) && (decide (1 ≤ d.seq))) && (decide (d.seq ≤ 1048576))))] (fun _ _ => _) [13] (by kernel_rfl) hs ⟨?_, ?_, ?_, ?_, ?_, ?_, ?_, ?_, ?_, ?_, ?_, ?_, ?_, ?_, trivial⟩ ?_
  · exact ob [] [] rfl rfl fun D ρ w hs => L_fieldAddr FA_96_0 rfl ⟨rfl, hs⟩
  · exact ob [0] [] rfl rfl fun D ρ w hs => L_ld (V := .int .u8 d.rep) S1_5 hs 0 rfl rfl rfl ⟨rfl, hs⟩
  · exact ob [1] [] rfl rfl fun D ρ w hs => L_lss rfl rfl ⟨rfl, hs⟩
  · exact ob [2] [] rfl rfl fun D ρ w hs => L_move (V := .bool (decide (d.rep < 16))) rfl ⟨rfl, hs⟩
  · exact obg [3] [] (decide (d.rep < 16)) rfl (fun _ => rfl) rfl (fun _ _ _ _ h => h) fun D ρ w hG hs => L_fieldAddr FA_96_1 rfl ⟨rfl, hs⟩
  · exact obgy [3, 4] [] [4] (decide (d.rep < 16)) rfl (fun _ => rfl) rfl (fun _ _ _ _ h => h) (fun hG => ⟨hG, trivial⟩) fun D ρ w hG hs => L_ld (V := .int .u32 d.seq) S1_51 hs 0 rfl rfl rfl ⟨rfl, hs⟩
  · exact obgy [3, 5] [] [5] (decide (d.rep < 16)) rfl (fun _ => rfl) rfl (fun _ _ _ _ h => h) (fun hG => ⟨hG, trivial⟩) fun D ρ w hG hs => L_geq rfl rfl ⟨rfl, hs⟩
  · exact ob [3, 6] [] rfl rfl fun D ρ w hs => L_andC (h' := decide (1 ≤ d.seq)) rfl rfl rfl ⟨rfl, hs⟩
  · exact ob [7] [] rfl rfl fun D ρ w hs => L_move (V := .bool ((decide (d.rep < 16)) && (decide (1 ≤ d.seq)))) rfl ⟨rfl, hs⟩
  · exact obg [8] [] ((decide (d.rep < 16)) && (decide (1 ≤ d.seq))) rfl (fun _ => rfl) rfl (fun _ _ _ _ h => h) fun D ρ w hG hs => L_fieldAddr FA_96_1 rfl ⟨rfl, hs⟩
  · exact obgy [8, 9] [] [9] ((decide (d.rep < 16)) && (decide (1 ≤ d.seq))) rfl (fun _ => rfl) rfl (fun _ _ _ _ h => h) (fun hG => ⟨hG, trivial⟩) fun D ρ w hG hs => L_ld (V := .int .u32 d.seq) S1_51 hs 0 rfl rfl rfl ⟨rfl, hs⟩
  · exact obgy [8, 10] [] [10] ((decide (d.rep < 16)) && (decide (1 ≤ d.seq))) rfl (fun _ => rfl) rfl (fun _ _ _ _ h => h) (fun hG => ⟨hG, trivial⟩) fun D ρ w hG hs => L_leq rfl rfl ⟨rfl, hs⟩
  · exact ob [8, 11] [] rfl rfl fun D ρ w hs => L_andC (h' := decide (d.seq ≤ 1048576)) rfl rfl rfl ⟨rfl, hs⟩
  · exact ob [12] [] rfl rfl fun D ρ w hs => L_assign (V := .bool (((decide (d.rep < 16)) && (decide (1 ≤ d.seq))) && (decide (d.seq ≤ 1048576)))) rfl ⟨rfl, hs⟩
  rintro ρ1 w3 ρ2 hρ hs
  replace hρ : ρ2 = upd (mix [3, 4, 5, 6, 7, 8, 9, 10, 11, 12, 13, 14, 15, 2] ρ1 _) 2 (.bool (((decide (d.rep < 16)) && (decide (1 ≤ d.seq))) && (decide (d.seq ≤ 1048576)))) := hρ
  subst hρ
  refine W_ret ?_
  refine ⟨_, res_one (V := .bool (((decide (d.rep < 16)) && (decide (1 ≤ d.seq))) && (decide (d.seq ≤ 1048576)))) Try.results100 rfl, ?_⟩
  refine ⟨congrArg Ending.returned ?_, hs.take 0⟩
  rfl
set_option maxRecDepth 20000 in
set_option maxHeartbeats 4000000 in
theorem rDot_ok (w : World) (d : Dot) : Calls Try.prog 79 #[.agg (dc d).toArray] w (fun e w' => e = .returned (.bool (dotB d)) ∧ Own w no w' []) := by
  refine calls_of_Wn (n := 16) Try.func79 rfl Try.ntmps79 rfl ?_
  have hs := Own.start w
  refine W_seq ?_
  refine W_region ?_
  refine RW_op (L_box (V := .agg (dc d).toArray) (cs := dc d) rfl rfl hs fun b1 w2 hs => ?_)
  refine RW_op (L_assign (V := .bool false) rfl ?_)
  refine RW_nil ?_
  refine W_seq ?_
  refine W_regO [some 3, some 4, some 5, some 6, some 7, some 8, some 9, some 10, some 11, some 12, some 13, some 14, some 15, some 2] [] [0, 1, 3, 7, 15, 31, 63, 127, 255, 511, 1023, 2047, 4095, 8191] [pv (.pointer (some ⟨b1, 0 + 0, none⟩)), pv (.int .u8 d.rep), pv (.bool (decide (d.rep < 16))), pv (.bool (decide (d.rep < 16))), pg ((decide (d.rep < 16)) == true) (.pointer (some ⟨b1, 0 + 1, none⟩)), pg ((decide (d.rep < 16)) == true) (.int .u32 d.seq), pg ((decide (d.rep < 16)) == true) (.bool (decide (1 ≤ d.seq))), pv (.bool ((decide (d.rep < 16)) && (decide (1 ≤ d.seq)))), pv (.bool ((decide (d.rep < 16)) && (decide (1 ≤ d.seq)))), pg (((decide (d.rep < 16)) && (decide (1 ≤ d.seq))) == true) (.pointer (some ⟨b1, 0 + 1, none⟩)), pg (((decide (d.rep < 16)) && (decide (1 ≤ d.seq))) == true) (.int .u32 d.seq), pg (((decide (d.rep < 16)) && (decide (1 ≤ d.seq))) == true) (.bool (decide (d.seq ≤ 1048576))), pv (.bool (((decide (d.rep < 16)) && (decide (1 ≤ d.seq))) && (decide (d.seq ≤ 1048576)))), pv (.bool (((decide (d.rep < 16)) && (decide (1 ≤ d.seq))) && (decide (d.seq ≤ 1048576))))] (fun _ _ => _) [13] (by kernel_rfl) hs ⟨?_, ?_, ?_, ?_, ?_, ?_, ?_, ?_, ?_, ?_, ?_, ?_, ?_, ?_, trivial⟩ ?_
  · exact ob [] [] rfl rfl fun D ρ w hs => L_fieldAddr FA_96_0 rfl ⟨rfl, hs⟩
  · exact ob [0] [] rfl rfl fun D ρ w hs => L_ld (V := .int .u8 d.rep) S1_5 hs 0 rfl rfl rfl ⟨rfl, hs⟩
  · exact ob [1] [] rfl rfl fun D ρ w hs => L_lss rfl rfl ⟨rfl, hs⟩
  · exact ob [2] [] rfl rfl fun D ρ w hs => L_move (V := .bool (decide (d.rep < 16))) rfl ⟨rfl, hs⟩
  · exact obg [3] [] (decide (d.rep < 16)) rfl (fun _ => rfl) rfl (fun _ _ _ _ h => h) fun D ρ w hG hs => L_fieldAddr FA_96_1 rfl ⟨rfl, hs⟩
  · exact obgy [3, 4] [] [4] (decide (d.rep < 16)) rfl (fun _ => rfl) rfl (fun _ _ _ _ h => h) (fun hG => ⟨hG, trivial⟩) fun D ρ w hG hs => L_ld (V := .int .u32 d.seq) S1_51 hs 0 rfl rfl rfl ⟨rfl, hs⟩
  · exact obgy [3, 5] [] [5] (decide (d.rep < 16)) rfl (fun _ => rfl) rfl (fun _ _ _ _ h => h) (fun hG => ⟨hG, trivial⟩) fun D ρ w hG hs => L_geq rfl rfl ⟨rfl, hs⟩
  · exact ob [3, 6] [] rfl rfl fun D ρ w hs => L_andC (h' := decide (1 ≤ d.seq)) rfl rfl rfl ⟨rfl, hs⟩
  · exact ob [7] [] rfl rfl fun D ρ w hs => L_move (V := .bool ((decide (d.rep < 16)) && (decide (1 ≤ d.seq)))) rfl ⟨rfl, hs⟩
  · exact obg [8] [] ((decide (d.rep < 16)) && (decide (1 ≤ d.seq))) rfl (fun _ => rfl) rfl (fun _ _ _ _ h => h) fun D ρ w hG hs => L_fieldAddr FA_96_1 rfl ⟨rfl, hs⟩
  · exact obgy [8, 9] [] [9] ((decide (d.rep < 16)) && (decide (1 ≤ d.seq))) rfl (fun _ => rfl) rfl (fun _ _ _ _ h => h) (fun hG => ⟨hG, trivial⟩) fun D ρ w hG hs => L_ld (V := .int .u32 d.seq) S1_51 hs 0 rfl rfl rfl ⟨rfl, hs⟩
  · exact obgy [8, 10] [] [10] ((decide (d.rep < 16)) && (decide (1 ≤ d.seq))) rfl (fun _ => rfl) rfl (fun _ _ _ _ h => h) (fun hG => ⟨hG, trivial⟩) fun D ρ w hG hs => L_leq rfl rfl ⟨rfl, hs⟩
  · exact ob [8, 11] [] rfl rfl fun D ρ w hs => L_andC (h' := decide (d.seq ≤ 1048576)) rfl rfl rfl ⟨rfl, hs⟩
  · exact ob [12] [] rfl rfl fun D ρ w hs => L_assign (V := .bool (((decide (d.rep < 16)) && (decide (1 ≤ d.seq))) && (decide (d.seq ≤ 1048576)))) rfl ⟨rfl, hs⟩
  rintro ρ1 w3 ρ2 hρ hs
  replace hρ : ρ2 = upd (mix [3, 4, 5, 6, 7, 8, 9, 10, 11, 12, 13, 14, 15, 2] ρ1 _) 2 (.bool (((decide (d.rep < 16)) && (decide (1 ≤ d.seq))) && (decide (d.seq ≤ 1048576)))) := hρ
  subst hρ
  refine W_ret ?_
  refine ⟨_, res_one (V := .bool (((decide (d.rep < 16)) && (decide (1 ≤ d.seq))) && (decide (d.seq ≤ 1048576)))) Try.results79 rfl, ?_⟩
  refine ⟨congrArg Ending.returned ?_, hs.take 0⟩
  rfl
set_option maxRecDepth 20000 in
set_option maxHeartbeats 4000000 in
theorem vHas_ok (w : World) (v : Vec) (d : Dot) (hd : DotOk d) : Calls Try.prog 62 #[.agg (vc v).toArray, .agg (dc d).toArray] w (fun e w' => e = .returned (.bool (hasB v d)) ∧ Own w no w' []) := by
  refine calls_of_Wn (n := 16) Try.func62 rfl Try.ntmps62 rfl ?_
  have hs := Own.start w
  have ⟨⟨hd1, hd2⟩, hd3, hd4⟩ := hd
  refine W_seq ?_
  refine W_region ?_
  refine RW_op (L_box (V := .agg (vc v).toArray) (cs := vc v) rfl rfl hs fun b1 w2 hs => ?_)
  refine RW_op (L_box (V := .agg (dc d).toArray) (cs := dc d) rfl rfl hs fun b3 w4 hs => ?_)
  refine RW_op (L_assign (V := .bool false) rfl ?_)
  refine RW_nil ?_
  refine W_seq ?_
  refine W_regD HM [some 5, some 6, some 7, some 8, some 9, some 10, some 11, some 12, some 13, some 14, some 15, some 4] [] [0, 1, 3, 7, 15, 7, 39, 103, 231, 511, 1023, 2047] [pv (.agg (dc d).toArray), pv (.bool (dotB d)), pv (.bool (dotB d)), pg ((dotB d) == true) (.pointer (some ⟨b3, 0 + 1, none⟩)), pg ((dotB d) == true) (.int .u32 d.seq), pg ((dotB d) == true) (.pointer (some ⟨b3, 0 + 0, none⟩)), pg ((dotB d) == true) (.int .u8 d.rep), pg ((dotB d) == true) (.pointer (some ⟨b1, 0 + d.rep.toNat, none⟩)), pg ((dotB d) == true) (.int .u32 (vat v d.rep.toNat)), pg ((dotB d) == true) (.bool (decide (d.seq ≤ vat v d.rep.toNat))), pv (.bool ((dotB d) && (decide (d.seq ≤ vat v d.rep.toNat)))), pv (.bool ((dotB d) && (decide (d.seq ≤ vat v d.rep.toNat))))] (fun _ _ => _) [11] (by kernel_rfl) hs ⟨?_, ?_, ?_, ?_, ?_, ?_, ?_, ?_, ?_, ?_, ?_, ?_, trivial⟩ ?_
  · exact ob [] [] rfl rfl fun D ρ w hs => L_ldW (cs := dc d) SA_96 hs 1 rfl rfl rfl ⟨rfl, hs⟩
  · exact ob [0] [] rfl rfl fun D ρ w hs => L_callP (vs := [.agg (dc d).toArray]) (V := .bool (dotB d)) EN_100 rfl rfl (vdot_ok _ d) hs fun _ hs => ⟨rfl, hs⟩
  · exact ob [1] [] rfl rfl fun D ρ w hs => L_move (V := .bool (dotB d)) rfl ⟨rfl, hs⟩
  · refine obg [2] [] (dotB d) rfl (fun _ => rfl) rfl (fun _ _ _ _ h => h) fun D ρ w hG hs => ?_
    have hb := dotB_spec (eq_of_beq hG)
    exact L_fieldAddr FA_96_1 rfl ⟨rfl, hs⟩
  · refine obgy [2, 3] [] [3] (dotB d) rfl (fun _ => rfl) rfl (fun _ _ _ _ h => h) (fun hG => ⟨hG, trivial⟩) fun D ρ w hG hs => ?_
    have hb := dotB_spec (eq_of_beq hG)
    exact L_ld (V := .int .u32 d.seq) S1_51 hs 1 rfl rfl rfl ⟨rfl, hs⟩
  · refine obg [2] [] (dotB d) rfl (fun _ => rfl) rfl (fun _ _ _ _ h => h) fun D ρ w hG hs => ?_
    have hb := dotB_spec (eq_of_beq hG)
    exact L_fieldAddr FA_96_0 rfl ⟨rfl, hs⟩
  · refine obgy [2, 5] [] [5] (dotB d) rfl (fun _ => rfl) rfl (fun _ _ _ _ h => h) (fun hG => ⟨hG, trivial⟩) fun D ρ w hG hs => ?_
    have hb := dotB_spec (eq_of_beq hG)
    exact L_ld (V := .int .u8 d.rep) S1_5 hs 1 rfl rfl rfl ⟨rfl, hs⟩
  · refine obgy [2, 6] [] [6] (dotB d) rfl (fun _ => rfl) rfl (fun _ _ _ _ h => h) (fun hG => ⟨hG, trivial⟩) fun D ρ w hG hs => ?_
    have hb := dotB_spec (eq_of_beq hG)
    exact L_ixArr1 UD_53 S1_51.1 rfl rfl (by omega) (by omega) ⟨rfl, hs⟩
  · refine obgy [2, 7] [] [7] (dotB d) rfl (fun _ => rfl) rfl (fun _ _ _ _ h => h) (fun hG => ⟨hG, trivial⟩) fun D ρ w hG hs => ?_
    have hb := dotB_spec (eq_of_beq hG)
    exact L_ld (V := .int .u32 (vat v d.rep.toNat)) S1_51 hs 0 rfl rfl (vc_atO (by omega) (by omega)) ⟨rfl, hs⟩
  · refine obgy [2, 4, 8] [] [4, 8] (dotB d) rfl (fun _ => rfl) rfl (fun _ _ _ _ h => h) (fun hG => ⟨hG, hG, trivial⟩) fun D ρ w hG hs => ?_
    have hb := dotB_spec (eq_of_beq hG)
    exact L_leq rfl rfl ⟨rfl, hs⟩
  · exact ob [2, 9] [] rfl rfl fun D ρ w hs => L_andC (h' := decide (d.seq ≤ vat v d.rep.toNat)) rfl rfl rfl ⟨rfl, hs⟩
  · exact ob [10] [] rfl rfl fun D ρ w hs => L_assign (V := .bool ((dotB d) && (decide (d.seq ≤ vat v d.rep.toNat)))) rfl ⟨rfl, hs⟩
  rintro ρ1 w6 ρ2 hρ hs
  replace hρ : ρ2 = upd (mix [5, 6, 7, 8, 9, 10, 11, 12, 13, 14, 15, 4] ρ1 _) 4 (.bool ((dotB d) && (decide (d.seq ≤ vat v d.rep.toNat)))) := hρ
  subst hρ
  refine W_ret ?_
  refine ⟨_, res_one (V := .bool ((dotB d) && (decide (d.seq ≤ vat v d.rep.toNat)))) Try.results62 rfl, ?_⟩
  refine ⟨congrArg Ending.returned ?_, hs.take 0⟩
  rfl
set_option maxRecDepth 20000 in
set_option maxHeartbeats 4000000 in
theorem rHas_ok (w : World) (v : Vec) (d : Dot) (hd : DotOk d) : Calls Try.prog 67 #[.agg (vc v).toArray, .agg (dc d).toArray] w (fun e w' => e = .returned (.bool (hasB v d)) ∧ Own w no w' []) := by
  refine calls_of_Wn (n := 16) Try.func67 rfl Try.ntmps67 rfl ?_
  have hs := Own.start w
  have ⟨⟨hd1, hd2⟩, hd3, hd4⟩ := hd
  refine W_seq ?_
  refine W_region ?_
  refine RW_op (L_box (V := .agg (vc v).toArray) (cs := vc v) rfl rfl hs fun b1 w2 hs => ?_)
  refine RW_op (L_box (V := .agg (dc d).toArray) (cs := dc d) rfl rfl hs fun b3 w4 hs => ?_)
  refine RW_op (L_assign (V := .bool false) rfl ?_)
  refine RW_nil ?_
  refine W_seq ?_
  refine W_regD HM [some 5, some 6, some 7, some 8, some 9, some 10, some 11, some 12, some 13, some 14, some 15, some 4] [] [0, 1, 3, 7, 15, 7, 39, 103, 231, 511, 1023, 2047] [pv (.agg (dc d).toArray), pv (.bool (dotB d)), pv (.bool (dotB d)), pg ((dotB d) == true) (.pointer (some ⟨b3, 0 + 1, none⟩)), pg ((dotB d) == true) (.int .u32 d.seq), pg ((dotB d) == true) (.pointer (some ⟨b3, 0 + 0, none⟩)), pg ((dotB d) == true) (.int .u8 d.rep), pg ((dotB d) == true) (.pointer (some ⟨b1, 0 + d.rep.toNat, none⟩)), pg ((dotB d) == true) (.int .u32 (vat v d.rep.toNat)), pg ((dotB d) == true) (.bool (decide (d.seq ≤ vat v d.rep.toNat))), pv (.bool ((dotB d) && (decide (d.seq ≤ vat v d.rep.toNat)))), pv (.bool ((dotB d) && (decide (d.seq ≤ vat v d.rep.toNat))))] (fun _ _ => _) [11] (by kernel_rfl) hs ⟨?_, ?_, ?_, ?_, ?_, ?_, ?_, ?_, ?_, ?_, ?_, ?_, trivial⟩ ?_
  · exact ob [] [] rfl rfl fun D ρ w hs => L_ldW (cs := dc d) SA_96 hs 1 rfl rfl rfl ⟨rfl, hs⟩
  · exact ob [0] [] rfl rfl fun D ρ w hs => L_callP (vs := [.agg (dc d).toArray]) (V := .bool (dotB d)) EN_79 rfl rfl (rDot_ok _ d) hs fun _ hs => ⟨rfl, hs⟩
  · exact ob [1] [] rfl rfl fun D ρ w hs => L_move (V := .bool (dotB d)) rfl ⟨rfl, hs⟩
  · refine obg [2] [] (dotB d) rfl (fun _ => rfl) rfl (fun _ _ _ _ h => h) fun D ρ w hG hs => ?_
    have hb := dotB_spec (eq_of_beq hG)
    exact L_fieldAddr FA_96_1 rfl ⟨rfl, hs⟩
  · refine obgy [2, 3] [] [3] (dotB d) rfl (fun _ => rfl) rfl (fun _ _ _ _ h => h) (fun hG => ⟨hG, trivial⟩) fun D ρ w hG hs => ?_
    have hb := dotB_spec (eq_of_beq hG)
    exact L_ld (V := .int .u32 d.seq) S1_51 hs 1 rfl rfl rfl ⟨rfl, hs⟩
  · refine obg [2] [] (dotB d) rfl (fun _ => rfl) rfl (fun _ _ _ _ h => h) fun D ρ w hG hs => ?_
    have hb := dotB_spec (eq_of_beq hG)
    exact L_fieldAddr FA_96_0 rfl ⟨rfl, hs⟩
  · refine obgy [2, 5] [] [5] (dotB d) rfl (fun _ => rfl) rfl (fun _ _ _ _ h => h) (fun hG => ⟨hG, trivial⟩) fun D ρ w hG hs => ?_
    have hb := dotB_spec (eq_of_beq hG)
    exact L_ld (V := .int .u8 d.rep) S1_5 hs 1 rfl rfl rfl ⟨rfl, hs⟩
  · refine obgy [2, 6] [] [6] (dotB d) rfl (fun _ => rfl) rfl (fun _ _ _ _ h => h) (fun hG => ⟨hG, trivial⟩) fun D ρ w hG hs => ?_
    have hb := dotB_spec (eq_of_beq hG)
    exact L_ixArr1 UD_53 S1_51.1 rfl rfl (by omega) (by omega) ⟨rfl, hs⟩
  · refine obgy [2, 7] [] [7] (dotB d) rfl (fun _ => rfl) rfl (fun _ _ _ _ h => h) (fun hG => ⟨hG, trivial⟩) fun D ρ w hG hs => ?_
    have hb := dotB_spec (eq_of_beq hG)
    exact L_ld (V := .int .u32 (vat v d.rep.toNat)) S1_51 hs 0 rfl rfl (vc_atO (by omega) (by omega)) ⟨rfl, hs⟩
  · refine obgy [2, 4, 8] [] [4, 8] (dotB d) rfl (fun _ => rfl) rfl (fun _ _ _ _ h => h) (fun hG => ⟨hG, hG, trivial⟩) fun D ρ w hG hs => ?_
    have hb := dotB_spec (eq_of_beq hG)
    exact L_leq rfl rfl ⟨rfl, hs⟩
  · exact ob [2, 9] [] rfl rfl fun D ρ w hs => L_andC (h' := decide (d.seq ≤ vat v d.rep.toNat)) rfl rfl rfl ⟨rfl, hs⟩
  · exact ob [10] [] rfl rfl fun D ρ w hs => L_assign (V := .bool ((dotB d) && (decide (d.seq ≤ vat v d.rep.toNat)))) rfl ⟨rfl, hs⟩
  rintro ρ1 w6 ρ2 hρ hs
  replace hρ : ρ2 = upd (mix [5, 6, 7, 8, 9, 10, 11, 12, 13, 14, 15, 4] ρ1 _) 4 (.bool ((dotB d) && (decide (d.seq ≤ vat v d.rep.toNat)))) := hρ
  subst hρ
  refine W_ret ?_
  refine ⟨_, res_one (V := .bool ((dotB d) && (decide (d.seq ≤ vat v d.rep.toNat)))) Try.results67 rfl, ?_⟩
  refine ⟨congrArg Ending.returned ?_, hs.take 0⟩
  rfl
set_option maxRecDepth 20000 in
set_option maxHeartbeats 4000000 in
theorem vRight_ok (w : World) (v : Vec) (n : Int) (hv : VecOk v) : Calls Try.prog 98 #[.agg (vc v).toArray, .int .i64 n] w (fun e w' => e = .returned (.bool (rightB v n)) ∧ Own w no w' []) := by
  refine calls_of_Wn (n := 30) Try.func98 rfl Try.ntmps98 rfl ?_
  have hs := Own.start w
  refine W_seq ?_
  refine W_region ?_
  refine RW_op (L_box (V := .agg (vc v).toArray) (cs := vc v) rfl rfl hs fun b1 w2 hs => ?_)
  refine RW_op (L_assign (V := .bool false) rfl ?_)
  refine RW_nil ?_
  refine W_seq ?_
  refine W_seq ?_
  refine W_regO [some 7, some 8, some 9, some 10, some 11, some 12] [] [0, 1, 3, 7, 15, 31] [pv (.int .i64 n), pv (.bool (decide (n < 1))), pv (.bool (decide (n < 1))), pg ((decide (n < 1)) == false) (.int .i64 n), pg ((decide (n < 1)) == false) (.bool (decide (16 < n))), pv (.bool ((decide (n < 1)) || (decide (16 < n))))] (fun _ _ => _) [5] (by kernel_rfl) hs ⟨?_, ?_, ?_, ?_, ?_, ?_, trivial⟩ ?_
  · exact ob [] [] rfl rfl fun D ρ w hs => L_move (V := .int .i64 n) rfl ⟨rfl, hs⟩
  · exact ob [0] [] rfl rfl fun D ρ w hs => L_lss rfl rfl ⟨rfl, hs⟩
  · exact ob [1] [] rfl rfl fun D ρ w hs => L_move (V := .bool (decide (n < 1))) rfl ⟨rfl, hs⟩
  · exact obg [2] [] (decide (n < 1)) rfl (fun _ => rfl) rfl (fun _ _ _ _ h => h) fun D ρ w hG hs => L_move (V := .int .i64 n) rfl ⟨rfl, hs⟩
  · exact obgy [2, 3] [] [3] (decide (n < 1)) rfl (fun _ => rfl) rfl (fun _ _ _ _ h => h) (fun hG => ⟨hG, trivial⟩) fun D ρ w hG hs => L_gtr rfl rfl ⟨rfl, hs⟩
  · exact ob [2, 4] [] rfl rfl fun D ρ w hs => L_orC (h' := decide (16 < n)) rfl rfl rfl ⟨rfl, hs⟩
  rintro ρ1 w3 ρ2 hρ hs
  replace hρ : ρ2 = upd (mix [7, 8, 9, 10, 11, 12] ρ1 _) 12 (.bool ((decide (n < 1)) || (decide (16 < n)))) := hρ
  subst hρ
  refine W_cond (t := (decide (n < 1)) || (decide (16 < n))) rfl (fun c4 => ?_) (fun c4 => ?_)
  ·
    refine W_seq ?_
    refine W_region ?_
    refine RW_op (L_assign (V := .bool false) rfl ?_)
    refine RW_nil ?_
    refine W_ret ?_
    refine ⟨_, res_one (V := .bool false) Try.results98 rfl, ?_⟩
    refine ⟨congrArg Ending.returned ?_, hs.take 0⟩
    exact congrArg Value.bool (rightB_out c4).symm
  ·
    have c4r := or_r c4
    replace c4 := or_l c4
    replace c4 := of_decide_eq_false c4
    replace c4r := of_decide_eq_false c4r
    refine W_skip ?_
    refine W_seq ?_
    refine W_seq ?_
    refine W_region ?_
    refine RW_op (L_ldW (cs := vc v) SA_53 hs 0 rfl rfl rfl ?_)
    refine RW_op (L_move (V := .int .i64 0) rfl ?_)
    refine RW_nil ?_
    refine W_block ?_
    refine W_loopI (fun ρ μ ρ' w' => ∃ (ρo : Env) (k : Nat), ρ' = upd (mix [4, 5, 6, 14, 15, 16, 17, 18, 19, 20, 21, 22, 23, 24, 25, 26, 27, 28, 29] ρo ρ) 14 (.int .i64 (k : Int)) ∧ (k ≤ 16) ∧ (∀ j : Nat, j < k → okAt v n j = true) ∧ μ = 16 - k ∧ Own w no w' [blk b1 (vc v) 53]) ?_ ?_
    · exact ⟨_, _, 0, upd_of (mix_of (ds := [4, 5, 6, 14, 15, 16, 17, 18, 19, 20, 21, 22, 23, 24, 25, 26, 27, 28, 29]) (Agr.refl _ _)) rfl, (by omega), (fun j hj => absurd hj (Nat.not_lt_zero j)), rfl, hs⟩
    · rintro μ ρ' w5 ⟨ρo, k, rfl, hk, hok, rfl, hs⟩
      have hv1 := vat_ok hv ((k : Int).toNat)
      have hkk : ((k : Int)).toNat = k := rfl
      refine W_seq ?_
      refine W_region ?_
      refine RW_op (L_lss rfl rfl ?_)
      refine RW_nil ?_
      refine W_seq ?_
      refine W_cond (t := decide ((k : Int) < 16)) rfl (fun c6 => ?_) (fun c6 => ?_)
      ·
        replace c6 := of_decide_eq_true c6
        refine W_skip ?_
        refine W_seq ?_
        refine W_block ?_
        refine W_seq ?_
        refine W_region ?_
        refine RW_op (L_move (V := .int .i64 (k : Int)) rfl ?_)
        refine RW_op (L_index (V := .int .u32 (vat v k)) UD_53 S1_51 rfl rfl (by omega) (by omega) (by rw [List.getElem?_toArray]; exact vc_at _ _ (by omega)) ?_)
        refine RW_op (L_assign (V := .int .i64 (k : Int)) rfl ?_)
        refine RW_op (L_assign (V := .int .u32 (vat v k)) rfl ?_)
        refine RW_nil ?_
        refine W_seq ?_
        refine W_regO [some 18, some 19, some 20, some 21, some 22, some 23, some 24, some 25, some 26, some 27, some 28] [] [0, 1, 3, 7, 7, 31, 63, 127, 255, 511, 1023] [pv (.int .u32 (vat v k)), pv (.bool (decide (1048576 < vat v k))), pv (.bool (decide (1048576 < vat v k))), pg ((decide (1048576 < vat v k)) == false) (.int .i64 (k : Int)), pg ((decide (1048576 < vat v k)) == false) (.int .i64 n), pg ((decide (1048576 < vat v k)) == false) (.bool (decide (n ≤ (k : Int)))), pg ((decide (1048576 < vat v k)) == false) (.bool (decide (n ≤ (k : Int)))), pg (((decide (1048576 < vat v k)) == false) && ((decide (n ≤ (k : Int))) == true)) (.int .u32 (vat v k)), pg (((decide (1048576 < vat v k)) == false) && ((decide (n ≤ (k : Int))) == true)) (.bool (decide (0 < vat v k))), pg ((decide (1048576 < vat v k)) == false) (.bool ((decide (n ≤ (k : Int))) && (decide (0 < vat v k)))), pv (.bool ((decide (1048576 < vat v k)) || ((decide (n ≤ (k : Int))) && (decide (0 < vat v k)))))] (fun _ _ => _) [10] (by kernel_rfl) hs ⟨?_, ?_, ?_, ?_, ?_, ?_, ?_, ?_, ?_, ?_, ?_, trivial⟩ ?_
        · exact ob [] [] rfl rfl fun D ρ w hs => L_move (V := .int .u32 (vat v k)) rfl ⟨rfl, hs⟩
        · exact ob [0] [] rfl rfl fun D ρ w hs => L_gtr rfl rfl ⟨rfl, hs⟩
        · exact ob [1] [] rfl rfl fun D ρ w hs => L_move (V := .bool (decide (1048576 < vat v k))) rfl ⟨rfl, hs⟩
        · exact obg [2] [] (decide (1048576 < vat v k)) rfl (fun _ => rfl) rfl (fun _ _ _ _ h => h) fun D ρ w hG hs => L_move (V := .int .i64 (k : Int)) rfl ⟨rfl, hs⟩
        · exact obg [2] [] (decide (1048576 < vat v k)) rfl (fun _ => rfl) rfl (fun _ _ _ _ h => h) fun D ρ w hG hs => L_move (V := .int .i64 n) rfl ⟨rfl, hs⟩
        · exact obgy [2, 3, 4] [] [3, 4] (decide (1048576 < vat v k)) rfl (fun _ => rfl) rfl (fun _ _ _ _ h => h) (fun hG => ⟨hG, hG, trivial⟩) fun D ρ w hG hs => L_geq rfl rfl ⟨rfl, hs⟩
        · exact obgy [2, 5] [] [5] (decide (1048576 < vat v k)) rfl (fun _ => rfl) rfl (fun _ _ _ _ h => h) (fun hG => ⟨hG, trivial⟩) fun D ρ w hG hs => L_move (V := .bool (decide (n ≤ (k : Int)))) rfl ⟨rfl, hs⟩
        · exact obg [6] [] (decide (n ≤ (k : Int))) rfl (fun _ => rfl) rfl (fun _ _ _ _ h => h) fun D ρ w hG hs => L_move (V := .int .u32 (vat v k)) rfl ⟨rfl, hs⟩
        · exact obgy [6, 7] [] [7] (decide (n ≤ (k : Int))) rfl (fun _ => rfl) rfl (fun _ _ _ _ h => h) (fun hG => ⟨hG, trivial⟩) fun D ρ w hG hs => L_gtr rfl rfl ⟨rfl, hs⟩
        · exact obgy [2, 6, 8] [] [6] (decide (1048576 < vat v k)) rfl (fun _ => rfl) rfl (fun _ _ _ _ h => h) (fun hG => ⟨hG, trivial⟩) fun D ρ w hG hs => L_andN (h' := decide (0 < vat v k)) (G := ((decide (1048576 < vat v k)) == false)) hG rfl rfl rfl ⟨rfl, hs⟩
        · exact ob [2, 9] [] rfl rfl fun D ρ w hs => L_orC (h' := (decide (n ≤ (k : Int))) && (decide (0 < vat v k))) rfl rfl rfl ⟨rfl, hs⟩
        rintro ρ1 w7 ρ2 hρ hs
        replace hρ : ρ2 = upd (mix [18, 19, 20, 21, 22, 23, 24, 25, 26, 27, 28] ρ1 _) 28 (.bool ((decide (1048576 < vat v k)) || ((decide (n ≤ (k : Int))) && (decide (0 < vat v k))))) := hρ
        subst hρ
        refine W_cond (t := (decide (1048576 < vat v k)) || ((decide (n ≤ (k : Int))) && (decide (0 < vat v k)))) rfl (fun c8 => ?_) (fun c8 => ?_)
        ·
          refine W_seq ?_
          refine W_region ?_
          refine RW_op (L_assign (V := .bool false) rfl ?_)
          refine RW_nil ?_
          refine W_ret ?_
          refine ⟨_, res_one (V := .bool false) Try.results98 rfl, ?_⟩
          refine ⟨congrArg Ending.returned ?_, hs.take 0⟩
          exact congrArg Value.bool (rightB_no (k := k) (by omega) (okAt_no c8)).symm
        ·
          have c8r := or_r c8
          replace c8 := or_l c8
          replace c8 := of_decide_eq_false c8
          refine W_skip ?_
          refine W_region ?_
          refine RW_op (L_add (a := (k : Int)) (b := 1) (c := (k : Int) + 1) rfl rfl (wr_i64 (by omega) (by omega)) ?_)
          refine RW_op (L_move (V := .int .i64 ((k : Int) + 1)) rfl ?_)
          refine RW_nil ?_
          refine ⟨_, ?_, _, k + 1, upd_of (mix_of (ds := [4, 5, 6, 14, 15, 16, 17, 18, 19, 20, 21, 22, 23, 24, 25, 26, 27, 28, 29]) (by repeat (first | exact Agr.refl _ _ | refine Agr.upd ?_ rfl | refine Agr.mix ?_ rfl))) rfl, (by omega), (okAt_step hok (okAt_yes c8 c8r)), rfl, hs.take 1⟩
          omega
      ·
        replace c6 := of_decide_eq_false c6
        refine W_exit ?_
        refine W_seq ?_
        refine W_region ?_
        refine RW_op (L_assign (V := .bool true) rfl ?_)
        refine RW_nil ?_
        refine W_ret ?_
        refine ⟨_, res_one (V := .bool true) Try.results98 rfl, ?_⟩
        refine ⟨congrArg Ending.returned ?_, hs.take 0⟩
        exact congrArg Value.bool ((rightB_yes fun j hj => hok j (by omega)).trans (by simp; omega)).symm
set_option maxRecDepth 20000 in
set_option maxHeartbeats 4000000 in
theorem rRight_ok (w : World) (v : Vec) (n : Int) (hv : VecOk v) : Calls Try.prog 93 #[.agg (vc v).toArray, .int .i64 n] w (fun e w' => e = .returned (.bool (rightB v n)) ∧ Own w no w' []) := by
  refine calls_of_Wn (n := 31) Try.func93 rfl Try.ntmps93 rfl ?_
  have hs := Own.start w
  refine W_seq ?_
  refine W_region ?_
  refine RW_op (L_box (V := .agg (vc v).toArray) (cs := vc v) rfl rfl hs fun b1 w2 hs => ?_)
  refine RW_op (L_assign (V := .bool false) rfl ?_)
  refine RW_nil ?_
  refine W_seq ?_
  refine W_seq ?_
  refine W_region ?_
  refine RW_op (L_assign (V := .int .i64 0) rfl ?_)
  refine RW_nil ?_
  refine W_block ?_
  refine W_loopI (fun ρ μ ρ' w' => ∃ (ρo : Env) (k : Nat), ρ' = upd (mix [4, 5, 6, 7, 8, 9, 10, 11, 12, 13, 14, 15, 16, 17, 18, 19, 20, 21, 22, 23, 24] ρo ρ) 5 (.int .i64 (k : Int)) ∧ (k ≤ 16) ∧ (∀ j : Nat, j < k → okAt v n j = true) ∧ μ = 16 - k ∧ Own w no w' [blk b1 (vc v) 53]) ?_ ?_
  · exact ⟨_, _, 0, upd_of (mix_of (ds := [4, 5, 6, 7, 8, 9, 10, 11, 12, 13, 14, 15, 16, 17, 18, 19, 20, 21, 22, 23, 24]) (Agr.refl _ _)) rfl, (by omega), (fun j hj => absurd hj (Nat.not_lt_zero j)), rfl, hs⟩
  · rintro μ ρ' w3 ⟨ρo, k, rfl, hk, hok, rfl, hs⟩
    have hv1 := vat_ok hv ((k : Int).toNat)
    have hkk : ((k : Int)).toNat = k := rfl
    refine W_seq ?_
    refine W_seq ?_
    refine W_region ?_
    refine RW_op (L_move (V := .int .i64 (k : Int)) rfl ?_)
    refine RW_op (L_lss rfl rfl ?_)
    refine RW_nil ?_
    refine W_cond (t := decide ((k : Int) < 16)) rfl (fun c4 => ?_) (fun c4 => ?_)
    ·
      replace c4 := of_decide_eq_true c4
      refine W_skip ?_
      refine W_seq ?_
      refine W_block ?_
      refine W_seq ?_
      refine W_regO [some 10, some 11, some 12, some 13, some 14, some 15, some 16, some 17, some 18, some 19, some 20, some 21, some 22, some 23, some 24] [] [0, 1, 3, 7, 15, 31, 31, 127, 255, 511, 1023, 2047, 4095, 8191, 16383] [pv (.int .i64 (k : Int)), pv (.pointer (some ⟨b1, 0 + (k : Int).toNat, none⟩)), pv (.int .u32 (vat v k)), pv (.bool (decide (1048576 < vat v k))), pv (.bool (decide (1048576 < vat v k))), pg ((decide (1048576 < vat v k)) == false) (.int .i64 (k : Int)), pg ((decide (1048576 < vat v k)) == false) (.int .i64 n), pg ((decide (1048576 < vat v k)) == false) (.bool (decide (n ≤ (k : Int)))), pg ((decide (1048576 < vat v k)) == false) (.bool (decide (n ≤ (k : Int)))), pg (((decide (1048576 < vat v k)) == false) && ((decide (n ≤ (k : Int))) == true)) (.int .i64 (k : Int)), pg (((decide (1048576 < vat v k)) == false) && ((decide (n ≤ (k : Int))) == true)) (.pointer (some ⟨b1, 0 + (k : Int).toNat, none⟩)), pg (((decide (1048576 < vat v k)) == false) && ((decide (n ≤ (k : Int))) == true)) (.int .u32 (vat v k)), pg (((decide (1048576 < vat v k)) == false) && ((decide (n ≤ (k : Int))) == true)) (.bool (!decide (vat v k = 0))), pg ((decide (1048576 < vat v k)) == false) (.bool ((decide (n ≤ (k : Int))) && (!decide (vat v k = 0)))), pv (.bool ((decide (1048576 < vat v k)) || ((decide (n ≤ (k : Int))) && (!decide (vat v k = 0)))))] (fun _ _ => _) [14] (by kernel_rfl) hs ⟨?_, ?_, ?_, ?_, ?_, ?_, ?_, ?_, ?_, ?_, ?_, ?_, ?_, ?_, ?_, trivial⟩ ?_
      · exact ob [] [] rfl rfl fun D ρ w hs => L_move (V := .int .i64 (k : Int)) rfl ⟨rfl, hs⟩
      · exact ob [0] [] rfl rfl fun D ρ w hs => L_ixArr1 UD_53 S1_51.1 rfl rfl (by omega) (by omega) ⟨rfl, hs⟩
      · exact ob [1] [] rfl rfl fun D ρ w hs => L_ld (V := .int .u32 (vat v k)) S1_51 hs 0 rfl rfl (vc_atO (by omega) (by omega)) ⟨rfl, hs⟩
      · exact ob [2] [] rfl rfl fun D ρ w hs => L_gtr rfl rfl ⟨rfl, hs⟩
      · exact ob [3] [] rfl rfl fun D ρ w hs => L_move (V := .bool (decide (1048576 < vat v k))) rfl ⟨rfl, hs⟩
      · exact obg [4] [] (decide (1048576 < vat v k)) rfl (fun _ => rfl) rfl (fun _ _ _ _ h => h) fun D ρ w hG hs => L_move (V := .int .i64 (k : Int)) rfl ⟨rfl, hs⟩
      · exact obg [4] [] (decide (1048576 < vat v k)) rfl (fun _ => rfl) rfl (fun _ _ _ _ h => h) fun D ρ w hG hs => L_move (V := .int .i64 n) rfl ⟨rfl, hs⟩
      · exact obgy [4, 5, 6] [] [5, 6] (decide (1048576 < vat v k)) rfl (fun _ => rfl) rfl (fun _ _ _ _ h => h) (fun hG => ⟨hG, hG, trivial⟩) fun D ρ w hG hs => L_geq rfl rfl ⟨rfl, hs⟩
      · exact obgy [4, 7] [] [7] (decide (1048576 < vat v k)) rfl (fun _ => rfl) rfl (fun _ _ _ _ h => h) (fun hG => ⟨hG, trivial⟩) fun D ρ w hG hs => L_move (V := .bool (decide (n ≤ (k : Int)))) rfl ⟨rfl, hs⟩
      · exact obg [8] [] (decide (n ≤ (k : Int))) rfl (fun _ => rfl) rfl (fun _ _ _ _ h => h) fun D ρ w hG hs => L_move (V := .int .i64 (k : Int)) rfl ⟨rfl, hs⟩
      · refine obgy [8, 9] [] [9] (decide (n ≤ (k : Int))) rfl (fun _ => rfl) rfl (fun _ _ _ _ h => h) (fun hG => ⟨hG, trivial⟩) fun D ρ w hG hs => ?_
        have hgd0 := of_decide_eq_false (eq_of_beq (and_l (hG)))
        have hgd1 := of_decide_eq_true (eq_of_beq (and_r (hG)))
        exact L_ixArr1 UD_53 S1_51.1 rfl rfl (by omega) (by omega) ⟨rfl, hs⟩
      · refine obgy [8, 10] [] [10] (decide (n ≤ (k : Int))) rfl (fun _ => rfl) rfl (fun _ _ _ _ h => h) (fun hG => ⟨hG, trivial⟩) fun D ρ w hG hs => ?_
        have hgd0 := of_decide_eq_false (eq_of_beq (and_l (hG)))
        have hgd1 := of_decide_eq_true (eq_of_beq (and_r (hG)))
        exact L_ld (V := .int .u32 (vat v k)) S1_51 hs 0 rfl rfl (vc_atO (by omega) (by omega)) ⟨rfl, hs⟩
      · exact obgy [8, 11] [] [11] (decide (n ≤ (k : Int))) rfl (fun _ => rfl) rfl (fun _ _ _ _ h => h) (fun hG => ⟨hG, trivial⟩) fun D ρ w hG hs => L_neq rfl rfl ⟨rfl, hs⟩
      · exact obgy [4, 8, 12] [] [8] (decide (1048576 < vat v k)) rfl (fun _ => rfl) rfl (fun _ _ _ _ h => h) (fun hG => ⟨hG, trivial⟩) fun D ρ w hG hs => L_andN (h' := !decide (vat v k = 0)) (G := ((decide (1048576 < vat v k)) == false)) hG rfl rfl rfl ⟨rfl, hs⟩
      · exact ob [4, 13] [] rfl rfl fun D ρ w hs => L_orC (h' := (decide (n ≤ (k : Int))) && (!decide (vat v k = 0))) rfl rfl rfl ⟨rfl, hs⟩
      rintro ρ1 w5 ρ2 hρ hs
      replace hρ : ρ2 = upd (mix [10, 11, 12, 13, 14, 15, 16, 17, 18, 19, 20, 21, 22, 23, 24] ρ1 _) 24 (.bool ((decide (1048576 < vat v k)) || ((decide (n ≤ (k : Int))) && (!decide (vat v k = 0))))) := hρ
      subst hρ
      refine W_cond (t := (decide (1048576 < vat v k)) || ((decide (n ≤ (k : Int))) && (!decide (vat v k = 0)))) rfl (fun c6 => ?_) (fun c6 => ?_)
      ·
        refine W_seq ?_
        refine W_region ?_
        refine RW_op (L_assign (V := .bool false) rfl ?_)
        refine RW_nil ?_
        refine W_ret ?_
        refine ⟨_, res_one (V := .bool false) Try.results93 rfl, ?_⟩
        refine ⟨congrArg Ending.returned ?_, hs.take 0⟩
        exact congrArg Value.bool (rightB_no (k := k) (by omega) (okAt_no' hv c6)).symm
      ·
        have c6r := or_r c6
        replace c6 := or_l c6
        replace c6 := of_decide_eq_false c6
        refine W_skip ?_
        refine W_region ?_
        refine RW_op (L_move (V := .int .i64 (k : Int)) rfl ?_)
        refine RW_op (L_add (a := (k : Int)) (b := 1) (c := (k : Int) + 1) rfl rfl (wr_i64 (by omega) (by omega)) ?_)
        refine RW_op (L_assign (V := .int .i64 ((k : Int) + 1)) rfl ?_)
        refine RW_nil ?_
        refine ⟨_, ?_, _, k + 1, upd_of (mix_of (ds := [4, 5, 6, 7, 8, 9, 10, 11, 12, 13, 14, 15, 16, 17, 18, 19, 20, 21, 22, 23, 24]) (by repeat (first | exact Agr.refl _ _ | refine Agr.upd ?_ rfl | refine Agr.mix ?_ rfl))) rfl, (by omega), (okAt_step hok (okAt_yes' hv c6 c6r)), rfl, hs.take 1⟩
        omega
    ·
      replace c4 := of_decide_eq_false c4
      refine W_exit ?_
      refine W_seq ?_
      refine W_regO [some 25, some 26, some 27, some 28, some 29, some 30, some 4] [] [0, 1, 3, 7, 15, 31, 63] [pv (.int .i64 n), pv (.bool (decide (1 ≤ n))), pv (.bool (decide (1 ≤ n))), pg ((decide (1 ≤ n)) == true) (.int .i64 n), pg ((decide (1 ≤ n)) == true) (.bool (decide (n ≤ 16))), pv (.bool ((decide (1 ≤ n)) && (decide (n ≤ 16)))), pv (.bool ((decide (1 ≤ n)) && (decide (n ≤ 16))))] (fun _ _ => _) [6] (by kernel_rfl) hs ⟨?_, ?_, ?_, ?_, ?_, ?_, ?_, trivial⟩ ?_
      · exact ob [] [] rfl rfl fun D ρ w hs => L_move (V := .int .i64 n) rfl ⟨rfl, hs⟩
      · exact ob [0] [] rfl rfl fun D ρ w hs => L_geq rfl rfl ⟨rfl, hs⟩
      · exact ob [1] [] rfl rfl fun D ρ w hs => L_move (V := .bool (decide (1 ≤ n))) rfl ⟨rfl, hs⟩
      · exact obg [2] [] (decide (1 ≤ n)) rfl (fun _ => rfl) rfl (fun _ _ _ _ h => h) fun D ρ w hG hs => L_move (V := .int .i64 n) rfl ⟨rfl, hs⟩
      · exact obgy [2, 3] [] [3] (decide (1 ≤ n)) rfl (fun _ => rfl) rfl (fun _ _ _ _ h => h) (fun hG => ⟨hG, trivial⟩) fun D ρ w hG hs => L_leq rfl rfl ⟨rfl, hs⟩
      · exact ob [2, 4] [] rfl rfl fun D ρ w hs => L_andC (h' := decide (n ≤ 16)) rfl rfl rfl ⟨rfl, hs⟩
      · exact ob [5] [] rfl rfl fun D ρ w hs => L_assign (V := .bool ((decide (1 ≤ n)) && (decide (n ≤ 16)))) rfl ⟨rfl, hs⟩
      rintro ρ1 w7 ρ2 hρ hs
      replace hρ : ρ2 = upd (mix [25, 26, 27, 28, 29, 30, 4] ρ1 _) 4 (.bool ((decide (1 ≤ n)) && (decide (n ≤ 16)))) := hρ
      subst hρ
      refine W_ret ?_
      refine ⟨_, res_one (V := .bool ((decide (1 ≤ n)) && (decide (n ≤ 16)))) Try.results93 rfl, ?_⟩
      refine ⟨congrArg Ending.returned ?_, hs.take 0⟩
      exact congrArg Value.bool (rightB_yes fun j hj => hok j (by omega)).symm
set_option maxRecDepth 20000 in
set_option maxHeartbeats 4000000 in
theorem vJoin_ok (w : World) (a b : Vec) : Calls Try.prog 60 #[.agg (vc a).toArray, .agg (vc b).toArray] w (fun e w' => e = .returned (.agg (vc (vjoin a b)).toArray) ∧ Own w no w' []) := by
  refine calls_of_Wn (n := 21) Try.func60 rfl Try.ntmps60 rfl ?_
  have hs := Own.start w
  refine W_seq ?_
  refine W_region ?_
  refine RW_op (L_box (V := .agg (vc a).toArray) (cs := vc a) rfl rfl hs fun b1 w2 hs => ?_)
  refine RW_op (L_box (V := .agg (vc b).toArray) (cs := vc b) rfl rfl hs fun b3 w4 hs => ?_)
  refine RW_op (L_alloc (cs := vc vzero) ZV_53 rfl hs fun b5 w6 hs => ?_)
  refine RW_nil ?_
  refine W_seq ?_
  refine W_seq ?_
  refine W_region ?_
  refine RW_op (L_ldW (cs := vc b) SA_53 hs 1 rfl rfl rfl ?_)
  refine RW_op (L_move (V := .int .i64 0) rfl ?_)
  refine RW_nil ?_
  refine W_block ?_
  refine W_loopI (fun ρ μ ρ' w' => ∃ (ρo : Env) (k : Nat) (u : Vec), ρ' = upd (mix [5, 6, 8, 9, 10, 11, 12, 13, 14, 15, 16, 17, 18, 19] ρo ρ) 8 (.int .i64 (k : Int)) ∧ (k ≤ 16) ∧ (u = joinK a b k) ∧ μ = 16 - k ∧ Own w no w' [blk b1 (vc u) 53, blk b3 (vc b) 53, blk b5 (vc vzero) 53]) ?_ ?_
  · exact ⟨_, _, 0, a, upd_of (mix_of (ds := [5, 6, 8, 9, 10, 11, 12, 13, 14, 15, 16, 17, 18, 19]) (Agr.refl _ _)) rfl, (by omega), ((joinK_0 a b).symm), rfl, hs⟩
  · rintro μ ρ' w7 ⟨ρo, k, u, rfl, hk, hu, rfl, hs⟩
    refine W_seq ?_
    refine W_region ?_
    refine RW_op (L_lss rfl rfl ?_)
    refine RW_nil ?_
    refine W_seq ?_
    refine W_cond (t := decide ((k : Int) < 16)) rfl (fun c8 => ?_) (fun c8 => ?_)
    ·
      replace c8 := of_decide_eq_true c8
      refine W_skip ?_
      refine W_seq ?_
      refine W_block ?_
      refine W_seq ?_
      refine W_region ?_
      refine RW_op (L_move (V := .int .i64 (k : Int)) rfl ?_)
      refine RW_op (L_index (V := .int .u32 (vat b k)) UD_53 S1_51 rfl rfl (by omega) (by omega) (by rw [List.getElem?_toArray]; exact vc_at _ _ (by omega)) ?_)
      refine RW_op (L_assign (V := .int .i64 (k : Int)) rfl ?_)
      refine RW_op (L_assign (V := .int .u32 (vat b k)) rfl ?_)
      refine RW_nil ?_
      refine W_region ?_
      refine RW_op (L_move (V := .int .i64 (k : Int)) rfl ?_)
      refine RW_op (L_move (V := .int .i64 (k : Int)) rfl ?_)
      refine RW_op (L_ixArr1 UD_53 S1_51.1 rfl rfl (by omega) (by omega) ?_)
      refine RW_op (L_ld (V := .int .u32 (vat u k)) S1_51 hs 0 rfl rfl (vc_atO (by omega) (by omega)) ?_)
      refine RW_op (L_move (V := .int .u32 (vat b k)) rfl ?_)
      refine RW_op (L_max rfl rfl ?_)
      refine RW_op (L_ixArr1 UD_53 S1_51.1 rfl rfl (by omega) (by omega) ?_)
      refine RW_op (L_st1 (V := .int .u32 (max (vat u k) (vat b k))) (cs' := vc (vset u k (max (vat u k) (vat b k)))) S1_51 hs 0 rfl rfl rfl rfl (vc_lt (by omega)) (vc_setO (by omega) (by omega)) fun w9 hs => ?_)
      replace hs : Own w no w9 [blk b1 (vc (vset u k (max (vat u k) (vat b k)))) 53, blk b3 (vc b) 53, blk b5 (vc vzero) 53] := hs
      refine RW_nil ?_
      refine W_region ?_
      refine RW_op (L_add (a := (k : Int)) (b := 1) (c := (k : Int) + 1) rfl rfl (wr_i64 (by omega) (by omega)) ?_)
      refine RW_op (L_move (V := .int .i64 ((k : Int) + 1)) rfl ?_)
      refine RW_nil ?_
      refine ⟨_, ?_, _, k + 1, vset u k (max (vat u k) (vat b k)), upd_of (mix_of (ds := [5, 6, 8, 9, 10, 11, 12, 13, 14, 15, 16, 17, 18, 19]) (by repeat (first | exact Agr.refl _ _ | refine Agr.upd ?_ rfl | refine Agr.mix ?_ rfl))) rfl, (by omega), (by subst hu; exact joinK_step (by omega)), rfl, hs.take 3⟩
      omega
    ·
      replace c8 := of_decide_eq_false c8
      refine W_exit ?_
      refine W_seq ?_
      refine W_region ?_
      refine RW_op (L_ldW (cs := vc u) SA_53 hs 0 rfl rfl rfl ?_)
      refine RW_op (L_st (V := .agg (vc u).toArray) (vs := vc u) (cs' := vc u) SA_53.1 hs 2 rfl rfl rfl rfl rfl (Nat.le_of_ble_eq_true rfl) (vc_one _) (spl_whole rfl) fun w10 hs => ?_)
      replace hs : Own w no w10 [blk b1 (vc u) 53, blk b3 (vc b) 53, blk b5 (vc u) 53] := hs
      refine RW_nil ?_
      refine W_ret ?_
      refine ⟨_, res_cell (cs := vc u) Try.results60 SA_53 hs 2 rfl rfl rfl, ?_⟩
      refine ⟨congrArg Ending.returned ?_, hs.take 0⟩
      rw [hu, show k = 16 by omega, joinK_16]
set_option maxRecDepth 20000 in
set_option maxHeartbeats 4000000 in
theorem vBelow_ok (w : World) (a b : Vec) : Calls Try.prog 115 #[.agg (vc a).toArray, .agg (vc b).toArray] w (fun e w' => e = .returned (.bool (vle a b)) ∧ Own w no w' []) := by
  refine calls_of_Wn (n := 10) Try.func115 rfl Try.ntmps115 rfl ?_
  have hs := Own.start w
  refine W_seq ?_
  refine W_region ?_
  refine RW_op (L_box (V := .agg (vc a).toArray) (cs := vc a) rfl rfl hs fun b1 w2 hs => ?_)
  refine RW_op (L_box (V := .agg (vc b).toArray) (cs := vc b) rfl rfl hs fun b3 w4 hs => ?_)
  refine RW_op (L_assign (V := .bool false) rfl ?_)
  refine RW_nil ?_
  refine W_seq ?_
  refine W_regD HM [some 5, some 6, some 7, some 8, some 9, some 4] [] [0, 0, 3, 0, 15, 31] [pv (.agg (vc a).toArray), pv (.agg (vc b).toArray), pv (.agg (vc (vjoin a b)).toArray), pv (.agg (vc b).toArray), pv (.bool (decide (vjoin a b = b))), pv (.bool (decide (vjoin a b = b)))] (fun _ _ => _) [5] (by kernel_rfl) hs ⟨?_, ?_, ?_, ?_, ?_, ?_, trivial⟩ ?_
  · exact ob [] [] rfl rfl fun D ρ w hs => L_ldW (cs := vc a) SA_53 hs 0 rfl rfl rfl ⟨rfl, hs⟩
  · exact ob [] [] rfl rfl fun D ρ w hs => L_ldW (cs := vc b) SA_53 hs 1 rfl rfl rfl ⟨rfl, hs⟩
  · exact ob [0, 1] [] rfl rfl fun D ρ w hs => L_callP (vs := [.agg (vc a).toArray, .agg (vc b).toArray]) (V := .agg (vc (vjoin a b)).toArray) EN_60 rfl rfl (vJoin_ok _ a b) hs fun _ hs => ⟨rfl, hs⟩
  · exact ob [] [] rfl rfl fun D ρ w hs => L_ldW (cs := vc b) SA_53 hs 1 rfl rfl rfl ⟨rfl, hs⟩
  · exact ob [2, 3] [] rfl rfl fun D ρ w hs => L_eqA (xs := vc (vjoin a b)) (ys := vc b) Try.eqGuardType53 (EQ_53 (vjoin a b) b) rfl rfl rfl ⟨rfl, hs⟩
  · exact ob [4] [] rfl rfl fun D ρ w hs => L_assign (V := .bool (decide (vjoin a b = b))) rfl ⟨rfl, hs⟩
  rintro ρ1 w6 ρ2 hρ hs
  replace hρ : ρ2 = upd (mix [5, 6, 7, 8, 9, 4] ρ1 _) 4 (.bool (decide (vjoin a b = b))) := hρ
  subst hρ
  refine W_ret ?_
  refine ⟨_, res_one (V := .bool (decide (vjoin a b = b))) Try.results115 rfl, ?_⟩
  refine ⟨congrArg Ending.returned ?_, hs.take 0⟩
  exact congrArg Value.bool (join_le a b)
set_option maxRecDepth 20000 in
set_option maxHeartbeats 4000000 in
theorem vSum_ok (w : World) (v : Vec) (hv : VecOk v) : Calls Try.prog 119 #[.agg (vc v).toArray] w (fun e w' => e = .returned (.int .u64 (vsum v)) ∧ Own w no w' []) := by
  refine calls_of_Wn (n := 16) Try.func119 rfl Try.ntmps119 rfl ?_
  have hs := Own.start w
  refine W_seq ?_
  refine W_region ?_
  refine RW_op (L_box (V := .agg (vc v).toArray) (cs := vc v) rfl rfl hs fun b1 w2 hs => ?_)
  refine RW_op (L_assign (V := .int .u64 0) rfl ?_)
  refine RW_nil ?_
  refine W_seq ?_
  refine W_region ?_
  refine RW_op (L_assign (V := .int .u64 0) rfl ?_)
  refine RW_nil ?_
  refine W_seq ?_
  refine W_seq ?_
  refine W_region ?_
  refine RW_op (L_ldW (cs := vc v) SA_53 hs 0 rfl rfl rfl ?_)
  refine RW_op (L_move (V := .int .i64 0) rfl ?_)
  refine RW_nil ?_
  refine W_block ?_
  refine W_loopI (fun ρ μ ρ' w' => ∃ (ρo : Env) (k : Nat) (n : Int), ρ' = upd (upd (mix [3, 5, 7, 8, 9, 10, 11, 12, 13, 14] ρo ρ) 7 (.int .i64 (k : Int))) 3 (.int .u64 n) ∧ (k ≤ 16) ∧ (n = vsumK v k) ∧ (0 ≤ n ∧ n ≤ (k : Int) * 4294967296) ∧ μ = 16 - k ∧ Own w no w' [blk b1 (vc v) 53]) ?_ ?_
  · exact ⟨_, _, 0, 0, upd_of (upd_of (mix_of (ds := [3, 5, 7, 8, 9, 10, 11, 12, 13, 14]) (Agr.refl _ _)) rfl) rfl, (by omega), rfl, (⟨by omega, by omega⟩), rfl, hs⟩
  · rintro μ ρ' w3 ⟨ρo, k, n, rfl, hk, hn, hnb, rfl, hs⟩
    refine W_seq ?_
    refine W_region ?_
    refine RW_op (L_lss rfl rfl ?_)
    refine RW_nil ?_
    refine W_seq ?_
    refine W_cond (t := decide ((k : Int) < 16)) rfl (fun c4 => ?_) (fun c4 => ?_)
    ·
      replace c4 := of_decide_eq_true c4
      refine W_skip ?_
      refine W_seq ?_
      refine W_block ?_
      refine W_seq ?_
      have hv1 := vat_ok hv k
      refine W_region ?_
      refine RW_op (L_index (V := .int .u32 (vat v k)) UD_53 S1_51 rfl rfl (by omega) (by omega) (by rw [List.getElem?_toArray]; exact vc_at _ _ (by omega)) ?_)
      refine RW_op (L_assign (V := .int .u32 (vat v k)) rfl ?_)
      refine RW_nil ?_
      refine W_region ?_
      refine RW_op (L_move (V := .int .u64 n) rfl ?_)
      refine RW_op (L_move (V := .int .u32 (vat v k)) rfl ?_)
      refine RW_op (L_conv UD_51 UD_92 rfl (wr_u64 (by omega) (by omega)) ?_)
      refine RW_op (L_add (a := n) (b := vat v k) (c := n + (vat v k)) rfl rfl (wr_u64 (by omega) (by omega)) ?_)
      refine RW_op (L_assign (V := .int .u64 (n + (vat v k))) rfl ?_)
      refine RW_nil ?_
      refine W_region ?_
      refine RW_op (L_add (a := (k : Int)) (b := 1) (c := (k : Int) + 1) rfl rfl (wr_i64 (by omega) (by omega)) ?_)
      refine RW_op (L_move (V := .int .i64 ((k : Int) + 1)) rfl ?_)
      refine RW_nil ?_
      refine ⟨_, ?_, _, k + 1, n + (vat v k), upd_of (upd_of (mix_of (ds := [3, 5, 7, 8, 9, 10, 11, 12, 13, 14]) (by repeat (first | exact Agr.refl _ _ | refine Agr.upd ?_ rfl | refine Agr.mix ?_ rfl))) rfl) rfl, (by omega), (vsumK_step hn), (⟨by omega, by omega⟩), rfl, hs.take 1⟩
      omega
    ·
      replace c4 := of_decide_eq_false c4
      refine W_exit ?_
      refine W_seq ?_
      refine W_region ?_
      refine RW_op (L_move (V := .int .u64 n) rfl ?_)
      refine RW_op (L_assign (V := .int .u64 n) rfl ?_)
      refine RW_nil ?_
      refine W_ret ?_
      refine ⟨_, res_one (V := .int .u64 n) Try.results119 rfl, ?_⟩
      refine ⟨congrArg Ending.returned ?_, hs.take 0⟩
      rw [hn, show k = 16 by omega, vsum_K]
end Tt
end Go.Proofs
namespace Go.Proofs
open Go Go.Vx Go.RowKit
namespace Tt
set_option maxRecDepth 20000 in
set_option maxHeartbeats 4000000 in
theorem cRight_ok (w : World) (s : Sta) (a1 : Option Addr) (c1 : Nat) (a2 : Option Addr) (c2 : Nat) (hok : StaOk s) (hle : s.ents.length ≤ 1000) (hlt : s.ticks.length ≤ 1000) (hr1 : Rd w (.slice a1 s.ents.length c1) 7 (s.ents.map cec)) (hr2 : Rd w (.slice a2 s.ticks.length c2) 2 (s.ticks.map lsc)) : Calls Try.prog 58 #[.agg ((vc s.known) ++ [(.slice a1 s.ents.length c1 : Value), (.slice a2 s.ticks.length c2 : Value) ]).toArray] w (fun e w' => e = .returned (.bool (rightS s)) ∧ Own w no w' []) := by
  refine calls_of_Wn (n := 107) Try.func58 rfl Try.ntmps58 rfl ?_
  have hs := Own.start w
  have ⟨hv0, hE0, hT0⟩ := hok
  have hn1 := hr1.sml
  have hn2 := hr2.sml
  refine W_seq ?_
  refine W_region ?_
  refine RW_op (L_box (V := .agg ((vc s.known) ++ [(.slice a1 s.ents.length c1 : Value), (.slice a2 s.ticks.length c2 : Value) ]).toArray) (cs := (vc s.known) ++ [(.slice a1 s.ents.length c1 : Value), (.slice a2 s.ticks.length c2 : Value) ]) rfl rfl hs fun b1 w2 hs => ?_)
  refine RW_op (L_assign (V := .bool false) rfl ?_)
  refine RW_nil ?_
  refine W_seq ?_
  refine W_seq ?_
  refine W_region ?_
  refine RW_op (L_fieldAddr FA_62_0 rfl ?_)
  refine RW_op (L_ldA (vs := vc s.known) SA_53 hs 0 rfl rfl rfl rfl ?_)
  refine RW_op (L_callP (vs := [.agg (vc s.known).toArray, .int .i64 16]) (V := .bool (rightB s.known 16)) EN_98 rfl rfl ?hc hs fun w3 hs => ?_)
  case hc => exact (vRight_ok _ s.known 16 (by first | assumption | exact vzero_ok))
  refine RW_op (L_not rfl ?_)
  refine RW_nil ?_
  refine W_cond (t := !(rightB s.known 16)) rfl (fun c4 => ?_) (fun c4 => ?_)
  ·
    replace c4 := not_t c4
    refine W_seq ?_
    refine W_region ?_
    refine RW_op (L_assign (V := .bool false) rfl ?_)
    refine RW_nil ?_
    refine W_ret ?_
    refine ⟨_, res_one (V := .bool false) Try.results58 rfl, ?_⟩
    refine ⟨congrArg Ending.returned ?_, hs.take 0⟩
    exact congrArg Value.bool (right_badK c4).symm
  ·
    replace c4 := not_f c4
    refine W_skip ?_
    refine W_seq ?_
    refine W_seq ?_
    refine W_region ?_
    refine RW_op (L_fieldAddr FA_62_2 rfl ?_)
    refine RW_op (L_ld (V := .slice a2 s.ticks.length c2) S1_60 hs 0 rfl rfl rfl ?_)
    refine RW_op (L_lenR (n := s.ticks.length) UD_60 (Rd.own' hr2 hs) (by simp) rfl ?_)
    refine RW_op (L_move (V := .int .i64 0) rfl ?_)
    refine RW_nil ?_
    refine W_block ?_
    refine W_loopI (fun ρ μ ρ' w' => ∃ (ρo : Env) (k : Nat), ρ' = upd (mix [2, 3, 4, 19, 20, 21, 22, 23, 24, 25, 26, 27, 28, 29, 30, 31, 32, 33, 34, 35, 36, 37, 38, 39, 40, 41, 42, 43] ρo ρ) 19 (.int .i64 ((k : Nat) : Int)) ∧ (k ≤ s.ticks.length) ∧ (∀ j : Nat, j < k → badT s.ticks j = false) ∧ μ = s.ticks.length - k ∧ Own w no w' [blk b1 ((vc s.known) ++ [(.slice a1 s.ents.length c1 : Value), (.slice a2 s.ticks.length c2 : Value) ]) 62]) ?_ ?_
    · exact ⟨_, _, 0, upd_of (mix_of (ds := [2, 3, 4, 19, 20, 21, 22, 23, 24, 25, 26, 27, 28, 29, 30, 31, 32, 33, 34, 35, 36, 37, 38, 39, 40, 41, 42, 43]) (Agr.refl _ _)) rfl, (by omega), (fun j hj => absurd hj (Nat.not_lt_zero j)), rfl, hs⟩
    · rintro μ ρ' w5 ⟨ρo, k, rfl, hk, hbt, rfl, hs⟩
      refine W_seq ?_
      refine W_region ?_
      refine RW_op (L_lss rfl rfl ?_)
      refine RW_nil ?_
      refine W_seq ?_
      refine W_cond (t := decide (((k : Nat) : Int) < ((s.ticks.length : Nat) : Int))) rfl (fun c6 => ?_) (fun c6 => ?_)
      ·
        replace c6 := of_decide_eq_true c6
        refine W_skip ?_
        refine W_seq ?_
        refine W_block ?_
        refine W_seq ?_
        refine W_region ?_
        refine RW_op (L_move (V := .int .i64 ((k : Nat) : Int)) rfl ?_)
        refine RW_op (L_ixR UD_60 SA_126.1 (Rd.own' hr2 hs) rfl rfl (by omega) (by rw [List.length_map]; omega) ?_)
        refine RW_op (L_ldRA (j := 0) (vs := lsc (gd s.ticks k)) k SA_126 (Rd.own' hr2 hs) (gd_at (by omega)) rfl rfl rfl (by omega) ?_)
        refine RW_op (L_alloc (cs := lsc (⟨0, 0⟩ : Lst)) ZV_126 rfl hs fun b7 w8 hs => ?_)
        refine RW_op (L_assign (V := .int .i64 ((k : Nat) : Int)) rfl ?_)
        refine RW_op (L_st (V := .agg (lsc (gd s.ticks k)).toArray) (vs := lsc (gd s.ticks k)) (cs' := lsc (gd s.ticks k)) SA_126.1 hs 1 rfl rfl rfl rfl rfl (Nat.le_of_ble_eq_true rfl) (lsc_one _) (spl_whole rfl) fun w9 hs => ?_)
        refine RW_nil ?_
        refine W_seq ?_
        refine W_regD HM [some 24, some 25, some 26, some 27, some 28, some 29, some 30, some 31, some 32, some 33, some 34, some 35, some 36, some 37, some 38, some 39, some 40, some 41, some 42] [] [0, 1, 3, 7, 15, 31, 63, 127, 255, 127, 639, 2047, 4095, 8191, 127, 16511, 65535, 131071, 262143] [pv (.pointer (some ⟨b7, 0 + 1, none⟩)), pv (.int .u32 ((gd s.ticks k).tick)), pv (.bool (decide (1073741824 < (gd s.ticks k).tick))), pv (.bool (decide (1073741824 < (gd s.ticks k).tick))), pg ((decide (1073741824 < (gd s.ticks k).tick)) == false) (.int .i64 ((k : Nat) : Int)), pg ((decide (1073741824 < (gd s.ticks k).tick)) == false) (.bool (decide (0 < ((k : Nat) : Int)))), pg ((decide (1073741824 < (gd s.ticks k).tick)) == false) (.bool (decide (0 < ((k : Nat) : Int)))), pg (((decide (1073741824 < (gd s.ticks k).tick)) == false) && ((decide (0 < ((k : Nat) : Int))) == true)) (.pointer (some ⟨b1, 0 + 17, none⟩)), pg (((decide (1073741824 < (gd s.ticks k).tick)) == false) && ((decide (0 < ((k : Nat) : Int))) == true)) (.slice a2 s.ticks.length c2), pg (((decide (1073741824 < (gd s.ticks k).tick)) == false) && ((decide (0 < ((k : Nat) : Int))) == true)) (.int .i64 ((k : Nat) : Int)), pg (((decide (1073741824 < (gd s.ticks k).tick)) == false) && ((decide (0 < ((k : Nat) : Int))) == true)) (.int .i64 ((k - 1 : Nat) : Int)), pg (((decide (1073741824 < (gd s.ticks k).tick)) == false) && ((decide (0 < ((k : Nat) : Int))) == true)) (.pointer (some ⟨bkS (.slice a2 s.ticks.length c2), ofS (.slice a2 s.ticks.length c2) + ((k - 1 : Nat) : Int).toNat * 2, none⟩)), pg (((decide (1073741824 < (gd s.ticks k).tick)) == false) && ((decide (0 < ((k : Nat) : Int))) == true)) (.pointer (some ⟨bkS (.slice a2 s.ticks.length c2), ofS (.slice a2 s.ticks.length c2) + ((k - 1 : Nat) : Int).toNat * 2 + 0, none⟩)), pg (((decide (1073741824 < (gd s.ticks k).tick)) == false) && ((decide (0 < ((k : Nat) : Int))) == true)) (.int .u16 ((gd s.ticks (k - 1)).cart)), pg (((decide (1073741824 < (gd s.ticks k).tick)) == false) && ((decide (0 < ((k : Nat) : Int))) == true)) (.pointer (some ⟨b7, 0 + 0, none⟩)), pg (((decide (1073741824 < (gd s.ticks k).tick)) == false) && ((decide (0 < ((k : Nat) : Int))) == true)) (.int .u16 ((gd s.ticks k).cart)), pg (((decide (1073741824 < (gd s.ticks k).tick)) == false) && ((decide (0 < ((k : Nat) : Int))) == true)) (.bool (decide ((gd s.ticks k).cart ≤ (gd s.ticks (k - 1)).cart))), pg ((decide (1073741824 < (gd s.ticks k).tick)) == false) (.bool ((decide (0 < ((k : Nat) : Int))) && (decide ((gd s.ticks k).cart ≤ (gd s.ticks (k - 1)).cart)))), pv (.bool ((decide (1073741824 < (gd s.ticks k).tick)) || ((decide (0 < ((k : Nat) : Int))) && (decide ((gd s.ticks k).cart ≤ (gd s.ticks (k - 1)).cart)))))] (fun _ _ => _) [18] (by kernel_rfl) hs ⟨?_, ?_, ?_, ?_, ?_, ?_, ?_, ?_, ?_, ?_, ?_, ?_, ?_, ?_, ?_, ?_, ?_, ?_, ?_, trivial⟩ ?_
        · exact ob [] [] rfl rfl fun D ρ w hs => L_fieldAddr FA_126_1 rfl ⟨rfl, hs⟩
        · exact ob [0] [] rfl rfl fun D ρ w hs => L_ld (V := .int .u32 ((gd s.ticks k).tick)) S1_51 hs 1 rfl rfl rfl ⟨rfl, hs⟩
        · exact ob [1] [] rfl rfl fun D ρ w hs => L_gtr rfl rfl ⟨rfl, hs⟩
        · exact ob [2] [] rfl rfl fun D ρ w hs => L_move (V := .bool (decide (1073741824 < (gd s.ticks k).tick))) rfl ⟨rfl, hs⟩
        · exact obg [3] [] (decide (1073741824 < (gd s.ticks k).tick)) rfl (fun _ => rfl) rfl (fun _ _ _ _ h => h) fun D ρ w hG hs => L_move (V := .int .i64 ((k : Nat) : Int)) rfl ⟨rfl, hs⟩
        · exact obgy [3, 4] [] [4] (decide (1073741824 < (gd s.ticks k).tick)) rfl (fun _ => rfl) rfl (fun _ _ _ _ h => h) (fun hG => ⟨hG, trivial⟩) fun D ρ w hG hs => L_gtr rfl rfl ⟨rfl, hs⟩
        · exact obgy [3, 5] [] [5] (decide (1073741824 < (gd s.ticks k).tick)) rfl (fun _ => rfl) rfl (fun _ _ _ _ h => h) (fun hG => ⟨hG, trivial⟩) fun D ρ w hG hs => L_move (V := .bool (decide (0 < ((k : Nat) : Int)))) rfl ⟨rfl, hs⟩
        · exact obg [6] [] (decide (0 < ((k : Nat) : Int))) rfl (fun _ => rfl) rfl (fun _ _ _ _ h => h) fun D ρ w hG hs => L_fieldAddr FA_62_2 rfl ⟨rfl, hs⟩
        · exact obgy [6, 7] [] [7] (decide (0 < ((k : Nat) : Int))) rfl (fun _ => rfl) rfl (fun _ _ _ _ h => h) (fun hG => ⟨hG, trivial⟩) fun D ρ w hG hs => L_ld (V := .slice a2 s.ticks.length c2) S1_60 hs 0 rfl rfl rfl ⟨rfl, hs⟩
        · exact obg [6] [] (decide (0 < ((k : Nat) : Int))) rfl (fun _ => rfl) rfl (fun _ _ _ _ h => h) fun D ρ w hG hs => L_move (V := .int .i64 ((k : Nat) : Int)) rfl ⟨rfl, hs⟩
        · refine obgy [6, 9] [] [9] (decide (0 < ((k : Nat) : Int))) rfl (fun _ => rfl) rfl (fun _ _ _ _ h => h) (fun hG => ⟨hG, trivial⟩) fun D ρ w hG hs => ?_
          have hgd0 := of_decide_eq_false (eq_of_beq (and_l (hG)))
          have hgd1 := of_decide_eq_true (eq_of_beq (and_r (hG)))
          exact L_sub (a := ((k : Nat) : Int)) (b := 1) (c := ((k - 1 : Nat) : Int)) rfl rfl (nat_i64 (by omega) (by omega)) ⟨rfl, hs⟩
        · refine obgy [6, 8, 10] [] [8, 10] (decide (0 < ((k : Nat) : Int))) rfl (fun _ => rfl) rfl (fun _ _ _ _ h => h) (fun hG => ⟨hG, hG, trivial⟩) fun D ρ w hG hs => ?_
          have hgd0 := of_decide_eq_false (eq_of_beq (and_l (hG)))
          have hgd1 := of_decide_eq_true (eq_of_beq (and_r (hG)))
          exact L_ixR UD_60 SA_126.1 (Rd.own' hr2 hs) rfl rfl (by omega) (by rw [List.length_map]; omega) ⟨rfl, hs⟩
        · exact obgy [6, 11] [] [11] (decide (0 < ((k : Nat) : Int))) rfl (fun _ => rfl) rfl (fun _ _ _ _ h => h) (fun hG => ⟨hG, trivial⟩) fun D ρ w hG hs => L_fieldAddr FA_126_0 rfl ⟨rfl, hs⟩
        · refine obgy [6, 12] [] [12] (decide (0 < ((k : Nat) : Int))) rfl (fun _ => rfl) rfl (fun _ _ _ _ h => h) (fun hG => ⟨hG, trivial⟩) fun D ρ w hG hs => ?_
          have hgd0 := of_decide_eq_false (eq_of_beq (and_l (hG)))
          have hgd1 := of_decide_eq_true (eq_of_beq (and_r (hG)))
          exact L_ldR (j := 0) (V := .int .u16 ((gd s.ticks (k - 1)).cart)) (k - 1) S1_70 (Rd.own' hr2 hs) (gd_at (by omega)) rfl rfl (by omega) ⟨rfl, hs⟩
        · exact obg [6] [] (decide (0 < ((k : Nat) : Int))) rfl (fun _ => rfl) rfl (fun _ _ _ _ h => h) fun D ρ w hG hs => L_fieldAddr FA_126_0 rfl ⟨rfl, hs⟩
        · exact obgy [6, 14] [] [14] (decide (0 < ((k : Nat) : Int))) rfl (fun _ => rfl) rfl (fun _ _ _ _ h => h) (fun hG => ⟨hG, trivial⟩) fun D ρ w hG hs => L_ld (V := .int .u16 ((gd s.ticks k).cart)) S1_70 hs 1 rfl rfl rfl ⟨rfl, hs⟩
        · exact obgy [6, 13, 15] [] [13, 15] (decide (0 < ((k : Nat) : Int))) rfl (fun _ => rfl) rfl (fun _ _ _ _ h => h) (fun hG => ⟨hG, hG, trivial⟩) fun D ρ w hG hs => L_geq rfl rfl ⟨rfl, hs⟩
        · exact obgy [3, 6, 16] [] [6] (decide (1073741824 < (gd s.ticks k).tick)) rfl (fun _ => rfl) rfl (fun _ _ _ _ h => h) (fun hG => ⟨hG, trivial⟩) fun D ρ w hG hs => L_andN (h' := decide ((gd s.ticks k).cart ≤ (gd s.ticks (k - 1)).cart)) (G := ((decide (1073741824 < (gd s.ticks k).tick)) == false)) hG rfl rfl rfl ⟨rfl, hs⟩
        · exact ob [3, 17] [] rfl rfl fun D ρ w hs => L_orC (h' := (decide (0 < ((k : Nat) : Int))) && (decide ((gd s.ticks k).cart ≤ (gd s.ticks (k - 1)).cart))) rfl rfl rfl ⟨rfl, hs⟩
        rintro ρ1 w10 ρ2 hρ hs
        replace hρ : ρ2 = upd (mix [24, 25, 26, 27, 28, 29, 30, 31, 32, 33, 34, 35, 36, 37, 38, 39, 40, 41, 42] ρ1 _) 42 (.bool ((decide (1073741824 < (gd s.ticks k).tick)) || ((decide (0 < ((k : Nat) : Int))) && (decide ((gd s.ticks k).cart ≤ (gd s.ticks (k - 1)).cart))))) := hρ
        subst hρ
        refine W_cond (t := (decide (1073741824 < (gd s.ticks k).tick)) || ((decide (0 < ((k : Nat) : Int))) && (decide ((gd s.ticks k).cart ≤ (gd s.ticks (k - 1)).cart)))) rfl (fun c11 => ?_) (fun c11 => ?_)
        ·
          refine W_seq ?_
          refine W_region ?_
          refine RW_op (L_assign (V := .bool false) rfl ?_)
          refine RW_nil ?_
          refine W_ret ?_
          refine ⟨_, res_one (V := .bool false) Try.results58 rfl, ?_⟩
          refine ⟨congrArg Ending.returned ?_, hs.take 0⟩
          exact congrArg Value.bool (right_badT (i := k) (by omega) (by unfold badT; have hq := c11; simpa using hq)).symm
        ·
          have c11r := or_r c11
          replace c11 := or_l c11
          replace c11 := of_decide_eq_false c11
          refine W_skip ?_
          refine W_region ?_
          refine RW_op (L_add (a := ((k : Nat) : Int)) (b := 1) (c := ((k + 1 : Nat) : Int)) rfl rfl (nat_i64 (by omega) (by omega)) ?_)
          refine RW_op (L_move (V := .int .i64 ((k + 1 : Nat) : Int)) rfl ?_)
          refine RW_nil ?_
          refine ⟨_, ?_, _, k + 1, upd_of (mix_of (ds := [2, 3, 4, 19, 20, 21, 22, 23, 24, 25, 26, 27, 28, 29, 30, 31, 32, 33, 34, 35, 36, 37, 38, 39, 40, 41, 42, 43]) (by repeat (first | exact Agr.refl _ _ | refine Agr.upd ?_ rfl | refine Agr.mix ?_ rfl))) rfl, (by omega), (no_step2 hbt (by unfold badT; rw [decide_eq_false c11, Bool.false_or]; have hq := c11r; simpa using hq)), rfl, hs.take 1⟩
          omega
      ·
        replace c6 := of_decide_eq_false c6
        refine W_exit ?_
        refine W_seq ?_
        refine W_region ?_
        refine RW_op (L_makeMap rfl hs dv uv fun mr12 w13 hs => ?_)
        refine RW_op (L_assign (V := .map (some mr12)) rfl ?_)
        refine RW_nil ?_
        refine W_seq ?_
        refine W_seq ?_
        refine W_region ?_
        refine RW_op (L_fieldAddr FA_62_1 rfl ?_)
        refine RW_op (L_ld (V := .slice a1 s.ents.length c1) S1_59 hs 0 rfl rfl rfl ?_)
        refine RW_op (L_lenR (n := s.ents.length) UD_59 (Rd.own' hr1 hs) (by simp) rfl ?_)
        refine RW_op (L_move (V := .int .i64 0) rfl ?_)
        refine RW_nil ?_
        refine W_block ?_
        have hbt2 := fun j (hj : j < s.ticks.length) => hbt j (by omega)
        have hT : RisT s.ticks := by have := ris_of (Nat.le_refl _) hbt2; rwa [List.take_length] at this
        refine W_loopI (fun ρ μ ρ' w' => ∃ (ρo : Env) (k2 : Nat) (sm : List (Dot × Unit)), ρ' = upd (mix [2, 6, 7, 8, 9, 10, 11, 48, 49, 50, 51, 52, 53, 54, 55, 56, 57, 58, 59, 60, 61, 62, 63, 64, 65, 66, 67, 68, 69, 70, 71, 72, 73, 74, 75, 76, 77, 78, 79, 80, 81, 82, 83, 84, 85, 86, 87, 88, 89, 90, 91, 92, 93, 94, 95, 96, 97, 98, 99, 100, 101, 102, 103, 104, 105, 106] ρo ρ) 48 (.int .i64 ((k2 : Nat) : Int)) ∧ (k2 ≤ s.ents.length) ∧ (∀ j : Nat, j < k2 → badE s j = false) ∧ (sm = seenE (s.ents.take k2)) ∧ μ = s.ents.length - k2 ∧ Own w no w' [blk b1 ((vc s.known) ++ [(.slice a1 s.ents.length c1 : Value), (.slice a2 s.ticks.length c2 : Value) ]) 62, mapR mr12 dv uv sm]) ?_ ?_
        · exact ⟨_, _, 0, [], upd_of (mix_of (ds := [2, 6, 7, 8, 9, 10, 11, 48, 49, 50, 51, 52, 53, 54, 55, 56, 57, 58, 59, 60, 61, 62, 63, 64, 65, 66, 67, 68, 69, 70, 71, 72, 73, 74, 75, 76, 77, 78, 79, 80, 81, 82, 83, 84, 85, 86, 87, 88, 89, 90, 91, 92, 93, 94, 95, 96, 97, 98, 99, 100, 101, 102, 103, 104, 105, 106]) (Agr.refl _ _)) rfl, (by omega), (fun j hj => absurd hj (Nat.not_lt_zero j)), rfl, rfl, hs⟩
        · rintro μ ρ' w14 ⟨ρo, k2, sm, rfl, hk2, hbe, hsm, rfl, hs⟩
          refine W_seq ?_
          refine W_region ?_
          refine RW_op (L_lss rfl rfl ?_)
          refine RW_nil ?_
          refine W_seq ?_
          refine W_cond (t := decide (((k2 : Nat) : Int) < ((s.ents.length : Nat) : Int))) rfl (fun c15 => ?_) (fun c15 => ?_)
          ·
            replace c15 := of_decide_eq_true c15
            refine W_skip ?_
            refine W_seq ?_
            refine W_block ?_
            refine W_seq ?_
            refine W_region ?_
            refine RW_op (L_move (V := .int .i64 ((k2 : Nat) : Int)) rfl ?_)
            refine RW_op (L_ixR UD_59 SA_128.1 (Rd.own' hr1 hs) rfl rfl (by omega) (by rw [List.length_map]; omega) ?_)
            refine RW_op (L_ldRA (j := 0) (vs := cec (gd s.ents k2)) k2 SA_128 (Rd.own' hr1 hs) (gd_at (by omega)) rfl rfl rfl (by omega) ?_)
            refine RW_op (L_alloc (cs := cec (⟨0, 0, 0, 0, (⟨0, 0⟩ : Dot), 0⟩ : Cen)) ZV_128 rfl hs fun b16 w17 hs => ?_)
            refine RW_op (L_assign (V := .int .i64 ((k2 : Nat) : Int)) rfl ?_)
            refine RW_op (L_st (V := .agg (cec (gd s.ents k2)).toArray) (vs := cec (gd s.ents k2)) (cs' := cec (gd s.ents k2)) SA_128.1 hs 2 rfl rfl rfl rfl rfl (Nat.le_of_ble_eq_true rfl) (cec_one _) (spl_whole rfl) fun w18 hs => ?_)
            replace hs : Own w no w18 [blk b1 ((vc s.known) ++ [(.slice a1 s.ents.length c1 : Value), (.slice a2 s.ticks.length c2 : Value) ]) 62, mapR mr12 dv uv sm, blk b16 (cec (gd s.ents k2)) 128] := hs
            refine RW_nil ?_
            refine W_seq ?_
            have hce := hE0 _ (gd_mem (l := s.ents) (i := k2) (by omega))
            have ⟨_, _, _, _, hdk, _⟩ := hce
            refine W_region ?_
            refine RW_op (L_ldW (cs := (vc s.known) ++ [(.slice a1 s.ents.length c1 : Value), (.slice a2 s.ticks.length c2 : Value) ]) SA_62 hs 0 rfl rfl rfl ?_)
            refine RW_op (L_fieldAddr FA_128_0 rfl ?_)
            refine RW_op (L_ld (V := .int .u16 ((gd s.ents k2).cart)) S1_70 hs 2 rfl rfl rfl ?_)
            refine RW_op (L_callP (vs := [.agg ((vc s.known) ++ [(.slice a1 s.ents.length c1 : Value), (.slice a2 s.ticks.length c2 : Value) ]).toArray, .int .u16 ((gd s.ents k2).cart)]) (V := .tuple #[.int .i64 ((posT s.ticks ((gd s.ents k2).cart) : Nat) : Int), .bool ((tickP s.ticks ((gd s.ents k2).cart)).isSome)]) EN_70 rfl rfl ?hc hs fun w19 hs => ?_)
            case hc => exact (sFind_ok _ s.known (.slice a1 s.ents.length c1) a2 c2 s.ticks ((gd s.ents k2).cart) (by omega) hT (Rd.own' hr2 hs))
            refine RW_op (L_move (V := .tuple #[.int .i64 ((posT s.ticks ((gd s.ents k2).cart) : Nat) : Int), .bool ((tickP s.ticks ((gd s.ents k2).cart)).isSome)]) rfl ?_)
            refine RW_op (L_extract (V := .int .i64 ((posT s.ticks ((gd s.ents k2).cart) : Nat) : Int)) rfl rfl ?_)
            refine RW_op (L_extract (V := .bool ((tickP s.ticks ((gd s.ents k2).cart)).isSome)) rfl rfl ?_)
            refine RW_op (L_assign (V := .int .i64 ((posT s.ticks ((gd s.ents k2).cart) : Nat) : Int)) rfl ?_)
            refine RW_op (L_assign (V := .bool ((tickP s.ticks ((gd s.ents k2).cart)).isSome)) rfl ?_)
            refine RW_nil ?_
            refine W_seq ?_
            refine W_region ?_
            refine RW_op (L_move (V := .map (some mr12)) rfl ?_)
            refine RW_op (L_fieldAddr FA_128_4 rfl ?_)
            refine RW_op (L_ldA (vs := dc ((gd s.ents k2).dot)) SA_96 hs 2 rfl rfl rfl rfl ?_)
            refine RW_op (L_lookupOkU (k := (gd s.ents k2).dot) UD_165 KO_96 ZV_166 (hs.mapf 1 rfl) rfl rfl ?_)
            refine RW_op (L_move (V := .tuple #[.agg #[], .bool ((mget ((gd s.ents k2).dot) sm).isSome)]) rfl ?_)
            refine RW_op (L_extract (V := .agg #[]) rfl rfl ?_)
            refine RW_op (L_extract (V := .bool ((mget ((gd s.ents k2).dot) sm).isSome)) rfl rfl ?_)
            refine RW_op (L_alloc (cs := []) ZV_166 rfl hs fun b20 w21 hs => ?_)
            refine RW_op (L_st (V := .agg #[]) (vs := []) (cs' := []) SA_166.1 hs 3 rfl rfl rfl rfl rfl (Nat.le_of_ble_eq_true rfl) one_nil (spl_whole rfl) fun w22 hs => ?_)
            refine RW_op (L_assign (V := .bool ((mget ((gd s.ents k2).dot) sm).isSome)) rfl ?_)
            refine RW_nil ?_
            refine W_seq ?_
            refine W_block ?_
            refine W_seq ?_
            refine W_seq ?_
            refine W_region ?_
            refine RW_op (L_move (V := .bool ((tickP s.ticks ((gd s.ents k2).cart)).isSome)) rfl ?_)
            refine RW_op (L_not rfl ?_)
            refine RW_op (L_assign (V := .bool (!((tickP s.ticks ((gd s.ents k2).cart)).isSome))) rfl ?_)
            refine RW_nil ?_
            refine W_cond (t := !((tickP s.ticks ((gd s.ents k2).cart)).isSome)) rfl (fun c23 => ?_) (fun c23 => ?_)
            ·
              replace c23 := not_t c23
              refine W_skip ?_
              refine W_condT (congrArg Value.bool (by rw [c23]; rfl)) ?_
              refine W_seq ?_
              refine W_region ?_
              refine RW_op (L_assign (V := .bool false) rfl ?_)
              refine RW_nil ?_
              refine W_ret ?_
              refine ⟨_, res_one (V := .bool false) Try.results58 rfl, ?_⟩
              refine ⟨congrArg Ending.returned ?_, hs.take 0⟩
              refine congrArg Value.bool (right_badE (i := k2) (by omega) ?_).symm
              unfold badE entB; rw [c23]; simp
            ·
              replace c23 := not_f c23
              refine W_seq ?_
              refine W_region ?_
              refine RW_op (L_move (V := .bool ((mget ((gd s.ents k2).dot) sm).isSome)) rfl ?_)
              refine RW_op (L_assign (V := .bool ((mget ((gd s.ents k2).dot) sm).isSome)) rfl ?_)
              refine RW_nil ?_
              refine W_cond (t := (mget ((gd s.ents k2).dot) sm).isSome) rfl (fun c24 => ?_) (fun c24 => ?_)
              ·
                refine W_skip ?_
                refine W_condT (congrArg Value.bool c24) ?_
                refine W_seq ?_
                refine W_region ?_
                refine RW_op (L_assign (V := .bool false) rfl ?_)
                refine RW_nil ?_
                refine W_ret ?_
                refine ⟨_, res_one (V := .bool false) Try.results58 rfl, ?_⟩
                refine ⟨congrArg Ending.returned ?_, hs.take 0⟩
                refine congrArg Value.bool (right_badE (i := k2) (by omega) ?_).symm
                unfold badE; rw [← seenE_get, ← hsm, c24]; simp
              ·
                refine W_seq ?_
                refine W_region ?_
                refine RW_op (L_ldW (cs := cec (gd s.ents k2)) SA_128 hs 2 rfl rfl rfl ?_)
                refine RW_op (L_callP (vs := [.agg (cec (gd s.ents k2)).toArray]) (V := .bool (shapedB (gd s.ents k2))) EN_99 rfl rfl ?hc hs fun w25 hs => ?_)
                case hc => exact (eShaped_ok _ (gd s.ents k2) (by assumption))
                refine RW_op (L_not rfl ?_)
                refine RW_op (L_assign (V := .bool (!(shapedB (gd s.ents k2)))) rfl ?_)
                refine RW_nil ?_
                refine W_cond (t := !(shapedB (gd s.ents k2))) rfl (fun c26 => ?_) (fun c26 => ?_)
                ·
                  replace c26 := not_t c26
                  refine W_skip ?_
                  refine W_condT (congrArg Value.bool (by rw [c26]; rfl)) ?_
                  refine W_seq ?_
                  refine W_region ?_
                  refine RW_op (L_assign (V := .bool false) rfl ?_)
                  refine RW_nil ?_
                  refine W_ret ?_
                  refine ⟨_, res_one (V := .bool false) Try.results58 rfl, ?_⟩
                  refine ⟨congrArg Ending.returned ?_, hs.take 0⟩
                  refine congrArg Value.bool (right_badE (i := k2) (by omega) ?_).symm
                  unfold badE entB; rw [c26]; simp
                ·
                  replace c26 := not_f c26
                  refine W_seq ?_
                  refine W_region ?_
                  refine RW_op (L_fieldAddr FA_62_0 rfl ?_)
                  refine RW_op (L_ldA (vs := vc s.known) SA_53 hs 0 rfl rfl rfl rfl ?_)
                  refine RW_op (L_fieldAddr FA_128_4 rfl ?_)
                  refine RW_op (L_ldA (vs := dc ((gd s.ents k2).dot)) SA_96 hs 2 rfl rfl rfl rfl ?_)
                  refine RW_op (L_callP (vs := [.agg (vc s.known).toArray, .agg (dc ((gd s.ents k2).dot)).toArray]) (V := .bool (hasB s.known ((gd s.ents k2).dot))) EN_62 rfl rfl ?hc hs fun w27 hs => ?_)
                  case hc => exact (vHas_ok _ s.known ((gd s.ents k2).dot) (by first | assumption | exact dotOk_mk (by omega) (by omega) (by omega) (by omega)))
                  refine RW_op (L_not rfl ?_)
                  refine RW_op (L_assign (V := .bool (!(hasB s.known ((gd s.ents k2).dot)))) rfl ?_)
                  refine RW_nil ?_
                  refine W_cond (t := !(hasB s.known ((gd s.ents k2).dot))) rfl (fun c28 => ?_) (fun c28 => ?_)
                  ·
                    replace c28 := not_t c28
                    refine W_skip ?_
                    refine W_condT (congrArg Value.bool (by rw [c28]; rfl)) ?_
                    refine W_seq ?_
                    refine W_region ?_
                    refine RW_op (L_assign (V := .bool false) rfl ?_)
                    refine RW_nil ?_
                    refine W_ret ?_
                    refine ⟨_, res_one (V := .bool false) Try.results58 rfl, ?_⟩
                    refine ⟨congrArg Ending.returned ?_, hs.take 0⟩
                    refine congrArg Value.bool (right_badE (i := k2) (by omega) ?_).symm
                    unfold badE entB; rw [c28]; simp
                  ·
                    replace c28 := not_f c28
                    refine W_regO [some 80, some 81, some 82, some 83, some 84, some 85, some 86, some 87, some 67] [] [0, 1, 3, 7, 15, 31, 63, 127, 255] [pv (.pointer (some ⟨b16, 0 + 6, none⟩)), pv (.int .u64 ((gd s.ents k2).count)), pv (.bool (decide ((gd s.ents k2).count < 1))), pv (.bool (decide ((gd s.ents k2).count < 1))), pg ((decide ((gd s.ents k2).count < 1)) == false) (.pointer (some ⟨b16, 0 + 6, none⟩)), pg ((decide ((gd s.ents k2).count < 1)) == false) (.int .u64 ((gd s.ents k2).count)), pg ((decide ((gd s.ents k2).count < 1)) == false) (.bool (decide (16777217 < (gd s.ents k2).count))), pv (.bool ((decide ((gd s.ents k2).count < 1)) || (decide (16777217 < (gd s.ents k2).count)))), pv (.bool ((decide ((gd s.ents k2).count < 1)) || (decide (16777217 < (gd s.ents k2).count))))] (fun _ _ => _) [8] (by kernel_rfl) hs ⟨?_, ?_, ?_, ?_, ?_, ?_, ?_, ?_, ?_, trivial⟩ ?_
                    · exact ob [] [] rfl rfl fun D ρ w hs => L_fieldAddr FA_128_5 rfl ⟨rfl, hs⟩
                    · exact ob [0] [] rfl rfl fun D ρ w hs => L_ld (V := .int .u64 ((gd s.ents k2).count)) S1_92 hs 2 rfl rfl rfl ⟨rfl, hs⟩
                    · exact ob [1] [] rfl rfl fun D ρ w hs => L_lss rfl rfl ⟨rfl, hs⟩
                    · exact ob [2] [] rfl rfl fun D ρ w hs => L_move (V := .bool (decide ((gd s.ents k2).count < 1))) rfl ⟨rfl, hs⟩
                    · exact obg [3] [] (decide ((gd s.ents k2).count < 1)) rfl (fun _ => rfl) rfl (fun _ _ _ _ h => h) fun D ρ w hG hs => L_fieldAddr FA_128_5 rfl ⟨rfl, hs⟩
                    · exact obgy [3, 4] [] [4] (decide ((gd s.ents k2).count < 1)) rfl (fun _ => rfl) rfl (fun _ _ _ _ h => h) (fun hG => ⟨hG, trivial⟩) fun D ρ w hG hs => L_ld (V := .int .u64 ((gd s.ents k2).count)) S1_92 hs 2 rfl rfl rfl ⟨rfl, hs⟩
                    · exact obgy [3, 5] [] [5] (decide ((gd s.ents k2).count < 1)) rfl (fun _ => rfl) rfl (fun _ _ _ _ h => h) (fun hG => ⟨hG, trivial⟩) fun D ρ w hG hs => L_gtr rfl rfl ⟨rfl, hs⟩
                    · exact ob [3, 6] [] rfl rfl fun D ρ w hs => L_orC (h' := decide (16777217 < (gd s.ents k2).count)) rfl rfl rfl ⟨rfl, hs⟩
                    · exact ob [7] [] rfl rfl fun D ρ w hs => L_assign (V := .bool ((decide ((gd s.ents k2).count < 1)) || (decide (16777217 < (gd s.ents k2).count)))) rfl ⟨rfl, hs⟩
                    rintro ρ1 w29 ρ2 hρ hs
                    replace hρ : ρ2 = upd (mix [80, 81, 82, 83, 84, 85, 86, 87, 67] ρ1 _) 67 (.bool ((decide ((gd s.ents k2).count < 1)) || (decide (16777217 < (gd s.ents k2).count)))) := hρ
                    subst hρ
                    refine W_cond (t := (decide ((gd s.ents k2).count < 1)) || (decide (16777217 < (gd s.ents k2).count))) rfl (fun c30 => ?_) (fun c30 => ?_)
                    ·
                      refine W_seq ?_
                      refine W_region ?_
                      refine RW_op (L_assign (V := .bool false) rfl ?_)
                      refine RW_nil ?_
                      refine W_ret ?_
                      refine ⟨_, res_one (V := .bool false) Try.results58 rfl, ?_⟩
                      refine ⟨congrArg Ending.returned ?_, hs.take 0⟩
                      refine congrArg Value.bool (right_badE (i := k2) (by omega) ?_).symm
                      have hq := c30
                      unfold badE entB
                      rcases Int.lt_or_le (gd s.ents k2).count 1 with q | q
                      · rw [decide_eq_false (p := 1 ≤ _) (by omega)]; simp
                      · rw [decide_eq_false (p := _ ≤ 16777217) (by simp at hq; omega)]; simp
                    ·
                      have c30r := or_r c30
                      replace c30 := or_l c30
                      replace c30 := of_decide_eq_false c30
                      replace c30r := of_decide_eq_false c30r
                      refine W_seq ?_
                      refine W_regD HM [some 89, some 90, some 91, some 92, some 93, some 94, some 95, some 96, some 97, some 98, some 99, some 100, some 101, some 88] [] [0, 1, 3, 7, 15, 7, 39, 127, 255, 7, 1023, 2047, 4095, 8191] [pv (.int .i64 ((k2 : Nat) : Int)), pv (.bool (decide (0 < ((k2 : Nat) : Int)))), pv (.bool (decide (0 < ((k2 : Nat) : Int)))), pg ((decide (0 < ((k2 : Nat) : Int))) == true) (.pointer (some ⟨b1, 0 + 16, none⟩)), pg ((decide (0 < ((k2 : Nat) : Int))) == true) (.slice a1 s.ents.length c1), pg ((decide (0 < ((k2 : Nat) : Int))) == true) (.int .i64 ((k2 : Nat) : Int)), pg ((decide (0 < ((k2 : Nat) : Int))) == true) (.int .i64 ((k2 - 1 : Nat) : Int)), pg ((decide (0 < ((k2 : Nat) : Int))) == true) (.pointer (some ⟨bkS (.slice a1 s.ents.length c1), ofS (.slice a1 s.ents.length c1) + ((k2 - 1 : Nat) : Int).toNat * 7, none⟩)), pg ((decide (0 < ((k2 : Nat) : Int))) == true) (.agg (cec (gd s.ents (k2 - 1))).toArray), pg ((decide (0 < ((k2 : Nat) : Int))) == true) (.agg (cec (gd s.ents k2)).toArray), pg ((decide (0 < ((k2 : Nat) : Int))) == true) (.int .i64 (placeI (gd s.ents (k2 - 1)) (gd s.ents k2))), pg ((decide (0 < ((k2 : Nat) : Int))) == true) (.bool (decide (0 ≤ placeI (gd s.ents (k2 - 1)) (gd s.ents k2)))), pv (.bool ((decide (0 < ((k2 : Nat) : Int))) && (decide (0 ≤ placeI (gd s.ents (k2 - 1)) (gd s.ents k2))))), pv (.bool ((decide (0 < ((k2 : Nat) : Int))) && (decide (0 ≤ placeI (gd s.ents (k2 - 1)) (gd s.ents k2)))))] (fun _ _ => _) [13] (by kernel_rfl) hs ⟨?_, ?_, ?_, ?_, ?_, ?_, ?_, ?_, ?_, ?_, ?_, ?_, ?_, ?_, trivial⟩ ?_
                      · exact ob [] [] rfl rfl fun D ρ w hs => L_move (V := .int .i64 ((k2 : Nat) : Int)) rfl ⟨rfl, hs⟩
                      · exact ob [0] [] rfl rfl fun D ρ w hs => L_gtr rfl rfl ⟨rfl, hs⟩
                      · exact ob [1] [] rfl rfl fun D ρ w hs => L_move (V := .bool (decide (0 < ((k2 : Nat) : Int)))) rfl ⟨rfl, hs⟩
                      · exact obg [2] [] (decide (0 < ((k2 : Nat) : Int))) rfl (fun _ => rfl) rfl (fun _ _ _ _ h => h) fun D ρ w hG hs => L_fieldAddr FA_62_1 rfl ⟨rfl, hs⟩
                      · exact obgy [2, 3] [] [3] (decide (0 < ((k2 : Nat) : Int))) rfl (fun _ => rfl) rfl (fun _ _ _ _ h => h) (fun hG => ⟨hG, trivial⟩) fun D ρ w hG hs => L_ld (V := .slice a1 s.ents.length c1) S1_59 hs 0 rfl rfl rfl ⟨rfl, hs⟩
                      · exact obg [2] [] (decide (0 < ((k2 : Nat) : Int))) rfl (fun _ => rfl) rfl (fun _ _ _ _ h => h) fun D ρ w hG hs => L_move (V := .int .i64 ((k2 : Nat) : Int)) rfl ⟨rfl, hs⟩
                      · refine obgy [2, 5] [] [5] (decide (0 < ((k2 : Nat) : Int))) rfl (fun _ => rfl) rfl (fun _ _ _ _ h => h) (fun hG => ⟨hG, trivial⟩) fun D ρ w hG hs => ?_
                        have hgd := of_decide_eq_true (eq_of_beq (hG))
                        exact L_sub (a := ((k2 : Nat) : Int)) (b := 1) (c := ((k2 - 1 : Nat) : Int)) rfl rfl (nat_i64 (by omega) (by omega)) ⟨rfl, hs⟩
                      · refine obgy [2, 4, 6] [] [4, 6] (decide (0 < ((k2 : Nat) : Int))) rfl (fun _ => rfl) rfl (fun _ _ _ _ h => h) (fun hG => ⟨hG, hG, trivial⟩) fun D ρ w hG hs => ?_
                        have hgd := of_decide_eq_true (eq_of_beq (hG))
                        exact L_ixR UD_59 SA_128.1 (Rd.own' hr1 hs) rfl rfl (by omega) (by rw [List.length_map]; omega) ⟨rfl, hs⟩
                      · refine obgy [2, 7] [] [7] (decide (0 < ((k2 : Nat) : Int))) rfl (fun _ => rfl) rfl (fun _ _ _ _ h => h) (fun hG => ⟨hG, trivial⟩) fun D ρ w hG hs => ?_
                        have hgd := of_decide_eq_true (eq_of_beq (hG))
                        exact L_ldRA (j := 0) (vs := cec (gd s.ents (k2 - 1))) (k2 - 1) SA_128 (Rd.own' hr1 hs) (gd_at (by omega)) rfl rfl rfl (by omega) ⟨rfl, hs⟩
                      · exact obg [2] [] (decide (0 < ((k2 : Nat) : Int))) rfl (fun _ => rfl) rfl (fun _ _ _ _ h => h) fun D ρ w hG hs => L_ldW (cs := cec (gd s.ents k2)) SA_128 hs 2 rfl rfl rfl ⟨rfl, hs⟩
                      · exact obgy [2, 8, 9] [] [8, 9] (decide (0 < ((k2 : Nat) : Int))) rfl (fun _ => rfl) rfl (fun _ _ _ _ h => h) (fun hG => ⟨hG, hG, trivial⟩) fun D ρ w hG hs => L_callP (vs := [.agg (cec (gd s.ents (k2 - 1))).toArray, .agg (cec (gd s.ents k2)).toArray]) (V := .int .i64 (placeI (gd s.ents (k2 - 1)) (gd s.ents k2))) EN_64 rfl rfl (place_ok _ (gd s.ents (k2 - 1)) (gd s.ents k2)) hs fun _ hs => ⟨rfl, hs⟩
                      · exact obgy [2, 10] [] [10] (decide (0 < ((k2 : Nat) : Int))) rfl (fun _ => rfl) rfl (fun _ _ _ _ h => h) (fun hG => ⟨hG, trivial⟩) fun D ρ w hG hs => L_geq rfl rfl ⟨rfl, hs⟩
                      · exact ob [2, 11] [] rfl rfl fun D ρ w hs => L_andC (h' := decide (0 ≤ placeI (gd s.ents (k2 - 1)) (gd s.ents k2))) rfl rfl rfl ⟨rfl, hs⟩
                      · exact ob [12] [] rfl rfl fun D ρ w hs => L_assign (V := .bool ((decide (0 < ((k2 : Nat) : Int))) && (decide (0 ≤ placeI (gd s.ents (k2 - 1)) (gd s.ents k2))))) rfl ⟨rfl, hs⟩
                      rintro ρ1 w32 ρ2 hρ hs
                      replace hρ : ρ2 = upd (mix [89, 90, 91, 92, 93, 94, 95, 96, 97, 98, 99, 100, 101, 88] ρ1 _) 88 (.bool ((decide (0 < ((k2 : Nat) : Int))) && (decide (0 ≤ placeI (gd s.ents (k2 - 1)) (gd s.ents k2))))) := hρ
                      subst hρ
                      refine W_cond (t := (decide (0 < ((k2 : Nat) : Int))) && (decide (0 ≤ placeI (gd s.ents (k2 - 1)) (gd s.ents k2)))) rfl (fun c33 => ?_) (fun c33 => ?_)
                      ·
                        have c33r := and_r c33
                        replace c33 := and_l c33
                        replace c33 := of_decide_eq_true c33
                        replace c33r := of_decide_eq_true c33r
                        refine W_seq ?_
                        refine W_region ?_
                        refine RW_op (L_assign (V := .bool false) rfl ?_)
                        refine RW_nil ?_
                        refine W_ret ?_
                        refine ⟨_, res_one (V := .bool false) Try.results58 rfl, ?_⟩
                        refine ⟨congrArg Ending.returned ?_, hs.take 0⟩
                        refine congrArg Value.bool (right_badE (i := k2) (by omega) ?_).symm
                        have hq := decide_eq_true c33r
                        rw [place_ge] at hq
                        unfold badE
                        rw [hq, decide_eq_true (by omega : 0 < k2)]
                        simp
                      ·
                        refine W_skip ?_
                        refine W_region ?_
                        refine RW_op (L_move (V := .map (some mr12)) rfl ?_)
                        refine RW_op (L_fieldAddr FA_128_4 rfl ?_)
                        refine RW_op (L_ldA (vs := dc ((gd s.ents k2).dot)) SA_96 hs 2 rfl rfl rfl rfl ?_)
                        refine RW_op (L_build (vs := []) (cs := []) BT_166 (rfl) rfl ?_)
                        refine RW_op (L_mapSet (k := (gd s.ents k2).dot) (v := ()) UD_165 KO_96 hs 1 rfl rfl rfl rfl fun w34 hs => ?_)
                        refine RW_nil ?_
                        refine W_region ?_
                        refine RW_op (L_add (a := ((k2 : Nat) : Int)) (b := 1) (c := ((k2 + 1 : Nat) : Int)) rfl rfl (nat_i64 (by omega) (by omega)) ?_)
                        refine RW_op (L_move (V := .int .i64 ((k2 + 1 : Nat) : Int)) rfl ?_)
                        refine RW_nil ?_
                        have hbk : badE s k2 = false := by
                          unfold badE entB
                          rw [c23, c26, c28, decide_eq_true (p := 1 ≤ _) (by omega), decide_eq_true (p := _ ≤ 16777217) (by omega), ← seenE_get, ← hsm, c24]
                          have hq := c33
                          rw [place_ge] at hq
                          simpa using hq
                        refine ⟨_, ?_, _, k2 + 1, mput ((gd s.ents k2).dot) () sm, upd_of (mix_of (ds := [2, 6, 7, 8, 9, 10, 11, 48, 49, 50, 51, 52, 53, 54, 55, 56, 57, 58, 59, 60, 61, 62, 63, 64, 65, 66, 67, 68, 69, 70, 71, 72, 73, 74, 75, 76, 77, 78, 79, 80, 81, 82, 83, 84, 85, 86, 87, 88, 89, 90, 91, 92, 93, 94, 95, 96, 97, 98, 99, 100, 101, 102, 103, 104, 105, 106]) (by repeat (first | exact Agr.refl _ _ | refine Agr.upd ?_ rfl | refine Agr.mix ?_ rfl))) rfl, (by omega), (no_step2 hbe hbk), (by rw [seenE_next (by omega), ← hsm]), rfl, hs.take 2⟩
                        omega
          ·
            replace c15 := of_decide_eq_false c15
            refine W_exit ?_
            refine W_seq ?_
            refine W_region ?_
            refine RW_op (L_assign (V := .bool true) rfl ?_)
            refine RW_nil ?_
            refine W_ret ?_
            refine ⟨_, res_one (V := .bool true) Try.results58 rfl, ?_⟩
            refine ⟨congrArg Ending.returned ?_, hs.take 0⟩
            exact congrArg Value.bool (rightS_iff.2 (rightS_of c4 hbt2 fun j hj => hbe j (by omega))).symm
end Tt
end Go.Proofs
namespace Go.Proofs
open Go Go.Vx Go.RowKit
namespace Tt
set_option maxRecDepth 20000 in
set_option maxHeartbeats 4000000 in
theorem cCarts_ok (w : World) (s : Sta) (a1 : Option Addr) (c1 : Nat) (a2 : Option Addr) (c2 : Nat) (hok : StaOk s) (hle : s.ents.length ≤ 1000) (hlt : s.ticks.length ≤ 1000) (hr1 : Rd w (.slice a1 s.ents.length c1) 7 (s.ents.map cec)) (hr2 : Rd w (.slice a2 s.ticks.length c2) 2 (s.ticks.map lsc)) : Calls Try.prog 37 #[.agg ((vc s.known) ++ [(.slice a1 s.ents.length c1 : Value), (.slice a2 s.ticks.length c2 : Value) ]).toArray] w (fun e w' => ∃ x : Option Addr × Nat, e = .returned (.slice x.1 (cartsS s).length x.2) ∧ Own w no w' [row (.slice x.1 (cartsS s).length x.2) ((cartsS s).map (ic .u16)) 70 1] ∧ True) := by
  refine calls_of_Wn (n := 23) Try.func37 rfl Try.ntmps37 rfl ?_
  have hs := Own.start w
  have ⟨hv0, hE0, hT0⟩ := hok
  refine W_seq ?_
  refine W_region ?_
  refine RW_op (L_box (V := .agg ((vc s.known) ++ [(.slice a1 s.ents.length c1 : Value), (.slice a2 s.ticks.length c2 : Value) ]).toArray) (cs := (vc s.known) ++ [(.slice a1 s.ents.length c1 : Value), (.slice a2 s.ticks.length c2 : Value) ]) rfl rfl hs fun b1 w2 hs => ?_)
  refine RW_op (L_assign (V := .slice none 0 0) rfl ?_)
  refine RW_nil ?_
  refine W_seq ?_
  refine W_seq ?_
  refine W_region ?_
  refine RW_op (L_ldW (cs := (vc s.known) ++ [(.slice a1 s.ents.length c1 : Value), (.slice a2 s.ticks.length c2 : Value) ]) SA_62 hs 0 rfl rfl rfl ?_)
  refine RW_op (L_callP (vs := [.agg ((vc s.known) ++ [(.slice a1 s.ents.length c1 : Value), (.slice a2 s.ticks.length c2 : Value) ]).toArray]) (V := .bool (rightS s)) EN_58 rfl rfl ?hc hs fun w3 hs => ?_)
  case hc => exact (cRight_ok _ s a1 c1 a2 c2 hok (by omega) (by omega) (Rd.own' hr1 hs) (Rd.own' hr2 hs))
  refine RW_op (L_not rfl ?_)
  refine RW_nil ?_
  refine W_cond (t := !(rightS s)) rfl (fun c4 => ?_) (fun c4 => ?_)
  ·
    replace c4 := not_t c4
    refine W_seq ?_
    refine W_region ?_
    refine RW_op (L_assign (V := .slice none 0 0) rfl ?_)
    refine RW_nil ?_
    refine W_ret ?_
    refine ⟨_, res_one (V := .slice none 0 0) Try.results37 rfl, ?_⟩
    have hX : cartsS s = [] := by unfold cartsS; rw [if_neg (by rw [c4]; decide)]
    rw [hX]
    exact ⟨(none, 0), rfl, (hs.take 0).more _ (row_nil _ _ _ _), trivial⟩
  ·
    replace c4 := not_f c4
    refine W_skip ?_
    refine W_seq ?_
    refine W_region ?_
    refine RW_op (L_assign (V := .slice none 0 0) rfl ?_)
    refine RW_nil ?_
    refine W_seq ?_
    refine W_seq ?_
    refine W_region ?_
    refine RW_op (L_fieldAddr FA_62_2 rfl ?_)
    refine RW_op (L_ld (V := .slice a2 s.ticks.length c2) S1_60 hs 0 rfl rfl rfl ?_)
    refine RW_op (L_lenR (n := s.ticks.length) UD_60 (Rd.own' hr2 hs) (by simp) rfl ?_)
    refine RW_op (L_move (V := .int .i64 0) rfl ?_)
    refine RW_nil ?_
    refine W_block ?_
    replace hs := hs.more (row (.slice none 0 0) (List.map (ic .u16) []) 70 1) (row_nil _ _ _ _)
    refine W_loopI (fun ρ μ ρ' w' => ∃ (ρo : Env) (k : Nat) (a9 : Option Addr) (c9 : Nat) (L9 : List Int), ρ' = upd (upd (mix [3, 5, 12, 13, 14, 15, 16, 17, 18, 19, 20, 21] ρo ρ) 12 (.int .i64 ((k : Nat) : Int))) 3 (.slice a9 L9.length c9) ∧ (k ≤ s.ticks.length) ∧ (L9 = (s.ticks.take k).map (·.cart)) ∧ (L9.length ≤ k) ∧ μ = s.ticks.length - k ∧ Own w no w' [blk b1 ((vc s.known) ++ [(.slice a1 s.ents.length c1 : Value), (.slice a2 s.ticks.length c2 : Value) ]) 62, row (.slice a9 L9.length c9) (L9.map (ic .u16)) 70 1]) ?_ ?_
    · exact ⟨_, _, 0, none, 0, [], upd_of (upd_of (mix_of (ds := [3, 5, 12, 13, 14, 15, 16, 17, 18, 19, 20, 21]) (Agr.refl _ _)) rfl) rfl, (by omega), rfl, (Nat.le_refl _), rfl, hs⟩
    · rintro μ ρ' w5 ⟨ρo, k, a9, c9, L9, rfl, hk, hL9, hl9, rfl, hs⟩
      refine W_seq ?_
      refine W_region ?_
      refine RW_op (L_lss rfl rfl ?_)
      refine RW_nil ?_
      refine W_seq ?_
      refine W_cond (t := decide (((k : Nat) : Int) < ((s.ticks.length : Nat) : Int))) rfl (fun c6 => ?_) (fun c6 => ?_)
      ·
        replace c6 := of_decide_eq_true c6
        refine W_skip ?_
        refine W_seq ?_
        refine W_block ?_
        refine W_seq ?_
        refine W_region ?_
        refine RW_op (L_ixR UD_60 SA_126.1 (Rd.own' hr2 hs) rfl rfl (by omega) (by rw [List.length_map]; omega) ?_)
        refine RW_op (L_ldRA (j := 0) (vs := lsc (gd s.ticks k)) k SA_126 (Rd.own' hr2 hs) (gd_at (by omega)) rfl rfl rfl (by omega) ?_)
        refine RW_op (L_alloc (cs := lsc (⟨0, 0⟩ : Lst)) ZV_126 rfl hs fun b7 w8 hs => ?_)
        refine RW_op (L_st (V := .agg (lsc (gd s.ticks k)).toArray) (vs := lsc (gd s.ticks k)) (cs' := lsc (gd s.ticks k)) SA_126.1 hs 2 rfl rfl rfl rfl rfl (Nat.le_of_ble_eq_true rfl) (lsc_one _) (spl_whole rfl) fun w9 hs => ?_)
        refine RW_nil ?_
        refine W_region ?_
        refine RW_op (L_move (V := .slice a9 L9.length c9) rfl ?_)
        refine RW_op (L_fieldAddr FA_126_0 rfl ?_)
        refine RW_op (L_ld (V := .int .u16 ((gd s.ticks k).cart)) S1_70 hs 2 rfl rfl rfl ?_)
        refine RW_op (L_bs (vals := [.int .u16 ((gd s.ticks k).cart)]) (ls := List.map (ic .u16) ([(gd s.ticks k).cart] : List Int)) EL_78 rfl rfl rfl (len_map (enc := (ic .u16)) (fun _ => rfl) _) (one_map (ic_one .u16) _) (Nat.le_of_ble_eq_true rfl) hs fun b10 w11 hs => ?_)
        replace hs : Own w no w11 [blk b1 ((vc s.known) ++ [(.slice a1 s.ents.length c1 : Value), (.slice a2 s.ticks.length c2 : Value) ]) 62, row (.slice a9 L9.length c9) (L9.map (ic .u16)) 70 1, blk b7 (lsc (gd s.ticks k)) 126, row (.slice (some ⟨b10, 0, none⟩) 1 1) ([(gd s.ticks k).cart].map (ic .u16)) 70 1] := hs
        refine RW_op (L_appN (ls' := (L9 ++ [(gd s.ticks k).cart]).map (ic .u16)) (n := (L9 ++ [(gd s.ticks k).cart]).length) EL_78 hs 1 rfl rfl rfl (hs.rd 3 rfl) (one_map (ic_one .u16) _) (by simp only [List.length_map, List.length_append, List.length_cons, List.length_nil]; omega) (by simp) (by simp) fun a12 c12 w13 hs => ?_)
        refine RW_op (L_assign (V := .slice a12 ((L9 ++ [(gd s.ticks k).cart]).length) c12) rfl ?_)
        refine RW_nil ?_
        refine W_region ?_
        refine RW_op (L_add (a := ((k : Nat) : Int)) (b := 1) (c := ((k + 1 : Nat) : Int)) rfl rfl (nat_i64 (by omega) (by omega)) ?_)
        refine RW_op (L_move (V := .int .i64 ((k + 1 : Nat) : Int)) rfl ?_)
        refine RW_nil ?_
        refine ⟨_, ?_, _, k + 1, a12, c12, L9 ++ [(gd s.ticks k).cart], upd_of (upd_of (mix_of (ds := [3, 5, 12, 13, 14, 15, 16, 17, 18, 19, 20, 21]) (by repeat (first | exact Agr.refl _ _ | refine Agr.upd ?_ rfl | refine Agr.mix ?_ rfl))) rfl) rfl, (by omega), (map_next (f := fun x : Lst => x.cart) hL9 (by omega)), (by rw [List.length_append, List.length_singleton]; omega), rfl, hs.take 2⟩
        omega
      ·
        replace c6 := of_decide_eq_false c6
        refine W_exit ?_
        refine W_seq ?_
        refine W_region ?_
        refine RW_op (L_move (V := .slice a9 L9.length c9) rfl ?_)
        refine RW_op (L_assign (V := .slice a9 L9.length c9) rfl ?_)
        refine RW_nil ?_
        refine W_ret ?_
        refine ⟨_, res_one (V := .slice a9 L9.length c9) Try.results37 rfl, ?_⟩
        have hX : L9 = cartsS s := by unfold cartsS; rw [if_pos c4, hL9, take_all (by omega)]
        rw [hX] at hs ⊢
        exact ⟨(a9, c9), rfl, hs.only 1 rfl, trivial⟩
end Tt
end Go.Proofs
namespace Go.Proofs
open Go Go.Vx Go.RowKit
namespace Tt
set_option maxRecDepth 20000 in
set_option maxHeartbeats 4000000 in
theorem eqU_ok (w : World) (a b : Option Addr) (c e : Nat) (l l2 : List Int) (hr : Rd w (.slice a l.length c) 1 (l.map (ic .u16))) (hq : Rd w (.slice b l2.length e) 1 (l2.map (ic .u16))) : Calls Try.prog 36 #[.slice a l.length c, .slice b l2.length e] w (fun e w' => e = .returned (.bool (decide (l = l2))) ∧ Own w no w' []) := by
  refine calls_of_Wn (n := 26) Try.func36 rfl Try.ntmps36 rfl ?_
  have hs := Own.start w
  have hn := hr.sml
  refine W_seq ?_
  refine W_region ?_
  refine RW_op (L_assign (V := .bool false) rfl ?_)
  refine RW_nil ?_
  refine W_seq ?_
  refine W_seq ?_
  refine W_region ?_
  refine RW_op (L_move (V := .slice a l.length c) rfl ?_)
  refine RW_op (L_lenR (n := l.length) UD_78 (Rd.own' hr hs) (by simp) rfl ?_)
  refine RW_op (L_move (V := .slice b l2.length e) rfl ?_)
  refine RW_op (L_lenR (n := l2.length) UD_78 (Rd.own' hq hs) (by simp) rfl ?_)
  refine RW_op (L_neq rfl rfl ?_)
  refine RW_nil ?_
  refine W_cond (t := !decide (((l.length : Nat) : Int) = ((l2.length : Nat) : Int))) rfl (fun c1 => ?_) (fun c1 => ?_)
  ·
    replace c1 := not_t c1
    replace c1 := of_decide_eq_false c1
    refine W_seq ?_
    refine W_region ?_
    refine RW_op (L_assign (V := .bool false) rfl ?_)
    refine RW_nil ?_
    refine W_ret ?_
    refine ⟨_, res_one (V := .bool false) Try.results36 rfl, ?_⟩
    refine ⟨congrArg Ending.returned ?_, hs.take 0⟩
    refine congrArg Value.bool (decide_eq_false fun e => ?_).symm
    subst e
    omega
  ·
    replace c1 := not_f c1
    replace c1 := of_decide_eq_true c1
    refine W_skip ?_
    refine W_seq ?_
    refine W_seq ?_
    refine W_region ?_
    refine RW_op (L_move (V := .slice a l.length c) rfl ?_)
    refine RW_op (L_lenR (n := l.length) UD_78 (Rd.own' hr hs) (by simp) rfl ?_)
    refine RW_op (L_move (V := .int .i64 0) rfl ?_)
    refine RW_nil ?_
    refine W_block ?_
    refine W_loopI (fun ρ μ ρ' w' => ∃ (ρo : Env) (k : Nat), ρ' = upd (mix [4, 5, 13, 14, 15, 16, 17, 18, 19, 20, 21, 22, 23, 24, 25] ρo ρ) 13 (.int .i64 (k : Int)) ∧ (k ≤ l.length) ∧ (∀ j : Nat, j < k → gd l j = gd l2 j) ∧ μ = l.length - k ∧ Own w no w' []) ?_ ?_
    · exact ⟨_, _, 0, upd_of (mix_of (ds := [4, 5, 13, 14, 15, 16, 17, 18, 19, 20, 21, 22, 23, 24, 25]) (Agr.refl _ _)) rfl, (by omega), (fun j hj => absurd hj (Nat.not_lt_zero j)), rfl, hs⟩
    · rintro μ ρ' w2 ⟨ρo, k, rfl, hk, heq, rfl, hs⟩
      refine W_seq ?_
      refine W_region ?_
      refine RW_op (L_lss rfl rfl ?_)
      refine RW_nil ?_
      refine W_seq ?_
      refine W_cond (t := decide ((k : Int) < ((l.length : Nat) : Int))) rfl (fun c3 => ?_) (fun c3 => ?_)
      ·
        replace c3 := of_decide_eq_true c3
        refine W_skip ?_
        refine W_seq ?_
        refine W_block ?_
        refine W_seq ?_
        refine W_region ?_
        refine RW_op (L_move (V := .int .i64 (k : Int)) rfl ?_)
        refine RW_op (L_assign (V := .int .i64 (k : Int)) rfl ?_)
        refine RW_nil ?_
        refine W_seq ?_
        refine W_regD HM [some 16, some 17, some 18, some 19, some 20, some 21, some 22, some 23, some 24] [] [0, 0, 3, 7, 0, 0, 48, 112, 255] [pv (.slice a l.length c), pv (.int .i64 (k : Int)), pv (.pointer (some ⟨bkS (.slice a l.length c), ofS (.slice a l.length c) + (k : Int).toNat * 1, none⟩)), pv (.int .u16 (gd l k)), pv (.slice b l2.length e), pv (.int .i64 (k : Int)), pv (.pointer (some ⟨bkS (.slice b l2.length e), ofS (.slice b l2.length e) + (k : Int).toNat * 1, none⟩)), pv (.int .u16 (gd l2 k)), pv (.bool (!decide (gd l k = gd l2 k)))] (fun _ _ => _) [8] (by kernel_rfl) hs ⟨?_, ?_, ?_, ?_, ?_, ?_, ?_, ?_, ?_, trivial⟩ ?_
        · exact ob [] [] rfl rfl fun D ρ w hs => L_move (V := .slice a l.length c) rfl ⟨rfl, hs⟩
        · exact ob [] [] rfl rfl fun D ρ w hs => L_move (V := .int .i64 (k : Int)) rfl ⟨rfl, hs⟩
        · exact ob [0, 1] [] rfl rfl fun D ρ w hs => L_ixR UD_78 S1_70.1 (Rd.own' hr hs) rfl rfl (by omega) (by rw [List.length_map]; omega) ⟨rfl, hs⟩
        · exact ob [2] [] rfl rfl fun D ρ w hs => L_ldR (j := 0) (V := .int .u16 (gd l k)) k S1_70 (Rd.own' hr hs) (gd_at (by omega)) rfl rfl (by omega) ⟨rfl, hs⟩
        · exact ob [] [] rfl rfl fun D ρ w hs => L_move (V := .slice b l2.length e) rfl ⟨rfl, hs⟩
        · exact ob [] [] rfl rfl fun D ρ w hs => L_move (V := .int .i64 (k : Int)) rfl ⟨rfl, hs⟩
        · exact ob [4, 5] [] rfl rfl fun D ρ w hs => L_ixR UD_78 S1_70.1 (Rd.own' hq hs) rfl rfl (by omega) (by rw [List.length_map]; omega) ⟨rfl, hs⟩
        · exact ob [6] [] rfl rfl fun D ρ w hs => L_ldR (j := 0) (V := .int .u16 (gd l2 k)) k S1_70 (Rd.own' hq hs) (gd_at (by omega)) rfl rfl (by omega) ⟨rfl, hs⟩
        · exact ob [3, 7] [] rfl rfl fun D ρ w hs => L_neq rfl rfl ⟨rfl, hs⟩
        rintro ρ1 w4 ρ2 hρ hs
        replace hρ : ρ2 = upd (mix [16, 17, 18, 19, 20, 21, 22, 23, 24] ρ1 _) 24 (.bool (!decide (gd l k = gd l2 k))) := hρ
        subst hρ
        refine W_cond (t := !decide (gd l k = gd l2 k)) rfl (fun c5 => ?_) (fun c5 => ?_)
        ·
          replace c5 := not_t c5
          replace c5 := of_decide_eq_false c5
          refine W_seq ?_
          refine W_region ?_
          refine RW_op (L_assign (V := .bool false) rfl ?_)
          refine RW_nil ?_
          refine W_ret ?_
          refine ⟨_, res_one (V := .bool false) Try.results36 rfl, ?_⟩
          refine ⟨congrArg Ending.returned ?_, hs.take 0⟩
          refine congrArg Value.bool (decide_eq_false fun e => ?_).symm
          subst e
          exact c5 rfl
        ·
          replace c5 := not_f c5
          replace c5 := of_decide_eq_true c5
          refine W_skip ?_
          refine W_region ?_
          refine RW_op (L_add (a := (k : Int)) (b := 1) (c := (k : Int) + 1) rfl rfl (wr_i64 (by omega) (by omega)) ?_)
          refine RW_op (L_move (V := .int .i64 ((k : Int) + 1)) rfl ?_)
          refine RW_nil ?_
          refine ⟨_, ?_, _, k + 1, upd_of (mix_of (ds := [4, 5, 13, 14, 15, 16, 17, 18, 19, 20, 21, 22, 23, 24, 25]) (by repeat (first | exact Agr.refl _ _ | refine Agr.upd ?_ rfl | refine Agr.mix ?_ rfl))) rfl, (by omega), (eqG_step heq c5), rfl, hs.take 0⟩
          omega
      ·
        replace c3 := of_decide_eq_false c3
        refine W_exit ?_
        refine W_seq ?_
        refine W_region ?_
        refine RW_op (L_assign (V := .bool true) rfl ?_)
        refine RW_nil ?_
        refine W_ret ?_
        refine ⟨_, res_one (V := .bool true) Try.results36 rfl, ?_⟩
        refine ⟨congrArg Ending.returned ?_, hs.take 0⟩
        exact congrArg Value.bool (decide_eq_true (sameG_yes (by omega) fun j hj => heq j (by omega))).symm
set_option maxRecDepth 20000 in
set_option maxHeartbeats 4000000 in
theorem same7_ok (w : World) (cu cv tu tw : Int) (ou ov : Bool) (a b : Option Addr) (c e : Nat) (l l2 : List Line) (hr : Rd w (.slice a l.length c) 2 (l.map lc)) (hq : Rd w (.slice b l2.length e) 2 (l2.map lc)) : Calls Try.prog 33 #[.agg #[.int .u16 cu, .slice a l.length c, .bool ou, .int .u32 tu], .agg #[.int .u16 cv, .slice b l2.length e, .bool ov, .int .u32 tw]] w (fun e w' => e = .returned (.bool (decide (cu = cv) && (ou == ov) && decide (tu = tw) && decide (l = l2))) ∧ Own w no w' []) := by
  refine calls_of_Wn (n := 52) Try.func33 rfl Try.ntmps33 rfl ?_
  have hs := Own.start w
  have hn := hr.sml
  refine W_seq ?_
  refine W_region ?_
  refine RW_op (L_box (V := .agg #[.int .u16 cu, .slice a l.length c, .bool ou, .int .u32 tu]) (cs := [.int .u16 cu, .slice a l.length c, .bool ou, .int .u32 tu]) rfl rfl hs fun b1 w2 hs => ?_)
  refine RW_op (L_box (V := .agg #[.int .u16 cv, .slice b l2.length e, .bool ov, .int .u32 tw]) (cs := [.int .u16 cv, .slice b l2.length e, .bool ov, .int .u32 tw]) rfl rfl hs fun b3 w4 hs => ?_)
  refine RW_op (L_assign (V := .bool false) rfl ?_)
  refine RW_nil ?_
  refine W_seq ?_
  refine W_seq ?_
  refine W_regO [some 6, some 7, some 8, some 9, some 10, some 11, some 12, some 13, some 14, some 15, some 16, some 17, some 18, some 19, some 20, some 21, some 22, some 23, some 24, some 25, some 26, some 27, some 28, some 29, some 30, some 31, some 32, some 33] [] [0, 1, 0, 4, 15, 31, 63, 127, 63, 319, 1023, 2047, 4095, 8191, 16383, 8191, 40959, 131071, 262143, 524287, 1048575, 2097151, 4194303, 1048575, 9437183, 26214399, 67108863, 134217727] [pv (.pointer (some ⟨b1, 0 + 0, none⟩)), pv (.int .u16 cu), pv (.pointer (some ⟨b3, 0 + 0, none⟩)), pv (.int .u16 cv), pv (.bool (!decide (cu = cv))), pv (.bool (!decide (cu = cv))), pg ((!decide (cu = cv)) == false) (.pointer (some ⟨b1, 0 + 2, none⟩)), pg ((!decide (cu = cv)) == false) (.bool ou), pg ((!decide (cu = cv)) == false) (.pointer (some ⟨b3, 0 + 2, none⟩)), pg ((!decide (cu = cv)) == false) (.bool ov), pg ((!decide (cu = cv)) == false) (.bool (!(ou == ov))), pv (.bool ((!decide (cu = cv)) || (!(ou == ov)))), pv (.bool ((!decide (cu = cv)) || (!(ou == ov)))), pg (((!decide (cu = cv)) || (!(ou == ov))) == false) (.pointer (some ⟨b1, 0 + 3, none⟩)), pg (((!decide (cu = cv)) || (!(ou == ov))) == false) (.int .u32 tu), pg (((!decide (cu = cv)) || (!(ou == ov))) == false) (.pointer (some ⟨b3, 0 + 3, none⟩)), pg (((!decide (cu = cv)) || (!(ou == ov))) == false) (.int .u32 tw), pg (((!decide (cu = cv)) || (!(ou == ov))) == false) (.bool (!decide (tu = tw))), pv (.bool (((!decide (cu = cv)) || (!(ou == ov))) || (!decide (tu = tw)))), pv (.bool (((!decide (cu = cv)) || (!(ou == ov))) || (!decide (tu = tw)))), pg ((((!decide (cu = cv)) || (!(ou == ov))) || (!decide (tu = tw))) == false) (.pointer (some ⟨b1, 0 + 1, none⟩)), pg ((((!decide (cu = cv)) || (!(ou == ov))) || (!decide (tu = tw))) == false) (.slice a l.length c), pg ((((!decide (cu = cv)) || (!(ou == ov))) || (!decide (tu = tw))) == false) (.int .i64 ((l.length : Nat) : Int)), pg ((((!decide (cu = cv)) || (!(ou == ov))) || (!decide (tu = tw))) == false) (.pointer (some ⟨b3, 0 + 1, none⟩)), pg ((((!decide (cu = cv)) || (!(ou == ov))) || (!decide (tu = tw))) == false) (.slice b l2.length e), pg ((((!decide (cu = cv)) || (!(ou == ov))) || (!decide (tu = tw))) == false) (.int .i64 ((l2.length : Nat) : Int)), pg ((((!decide (cu = cv)) || (!(ou == ov))) || (!decide (tu = tw))) == false) (.bool (!decide (((l.length : Nat) : Int) = ((l2.length : Nat) : Int)))), pv (.bool ((((!decide (cu = cv)) || (!(ou == ov))) || (!decide (tu = tw))) || (!decide (((l.length : Nat) : Int) = ((l2.length : Nat) : Int)))))] (fun _ _ => _) [27] (by kernel_rfl) hs ⟨?_, ?_, ?_, ?_, ?_, ?_, ?_, ?_, ?_, ?_, ?_, ?_, ?_, ?_, ?_, ?_, ?_, ?_, ?_, ?_, ?_, ?_, ?_, ?_, ?_, ?_, ?_, ?_, trivial⟩ ?_
  · exact ob [] [] rfl rfl fun D ρ w hs => L_fieldAddr FA_74_0 rfl ⟨rfl, hs⟩
  · exact ob [0] [] rfl rfl fun D ρ w hs => L_ld (V := .int .u16 cu) S1_70 hs 0 rfl rfl rfl ⟨rfl, hs⟩
  · exact ob [] [] rfl rfl fun D ρ w hs => L_fieldAddr FA_74_0 rfl ⟨rfl, hs⟩
  · exact ob [2] [] rfl rfl fun D ρ w hs => L_ld (V := .int .u16 cv) S1_70 hs 1 rfl rfl rfl ⟨rfl, hs⟩
  · exact ob [1, 3] [] rfl rfl fun D ρ w hs => L_neq rfl rfl ⟨rfl, hs⟩
  · exact ob [4] [] rfl rfl fun D ρ w hs => L_move (V := .bool (!decide (cu = cv))) rfl ⟨rfl, hs⟩
  · exact obg [5] [] (!decide (cu = cv)) rfl (fun _ => rfl) rfl (fun _ _ _ _ h => h) fun D ρ w hG hs => L_fieldAddr FA_74_2 rfl ⟨rfl, hs⟩
  · exact obgy [5, 6] [] [6] (!decide (cu = cv)) rfl (fun _ => rfl) rfl (fun _ _ _ _ h => h) (fun hG => ⟨hG, trivial⟩) fun D ρ w hG hs => L_ld (V := .bool ou) S1_4 hs 0 rfl rfl rfl ⟨rfl, hs⟩
  · exact obg [5] [] (!decide (cu = cv)) rfl (fun _ => rfl) rfl (fun _ _ _ _ h => h) fun D ρ w hG hs => L_fieldAddr FA_74_2 rfl ⟨rfl, hs⟩
  · exact obgy [5, 8] [] [8] (!decide (cu = cv)) rfl (fun _ => rfl) rfl (fun _ _ _ _ h => h) (fun hG => ⟨hG, trivial⟩) fun D ρ w hG hs => L_ld (V := .bool ov) S1_4 hs 1 rfl rfl rfl ⟨rfl, hs⟩
  · exact obgy [5, 7, 9] [] [7, 9] (!decide (cu = cv)) rfl (fun _ => rfl) rfl (fun _ _ _ _ h => h) (fun hG => ⟨hG, hG, trivial⟩) fun D ρ w hG hs => L_neb UDR_4 rfl rfl ⟨rfl, hs⟩
  · exact ob [5, 10] [] rfl rfl fun D ρ w hs => L_orC (h' := !(ou == ov)) rfl rfl rfl ⟨rfl, hs⟩
  · exact ob [11] [] rfl rfl fun D ρ w hs => L_move (V := .bool ((!decide (cu = cv)) || (!(ou == ov)))) rfl ⟨rfl, hs⟩
  · exact obg [12] [] ((!decide (cu = cv)) || (!(ou == ov))) rfl (fun _ => rfl) rfl (fun _ _ _ _ h => h) fun D ρ w hG hs => L_fieldAddr FA_74_3 rfl ⟨rfl, hs⟩
  · exact obgy [12, 13] [] [13] ((!decide (cu = cv)) || (!(ou == ov))) rfl (fun _ => rfl) rfl (fun _ _ _ _ h => h) (fun hG => ⟨hG, trivial⟩) fun D ρ w hG hs => L_ld (V := .int .u32 tu) S1_51 hs 0 rfl rfl rfl ⟨rfl, hs⟩
  · exact obg [12] [] ((!decide (cu = cv)) || (!(ou == ov))) rfl (fun _ => rfl) rfl (fun _ _ _ _ h => h) fun D ρ w hG hs => L_fieldAddr FA_74_3 rfl ⟨rfl, hs⟩
  · exact obgy [12, 15] [] [15] ((!decide (cu = cv)) || (!(ou == ov))) rfl (fun _ => rfl) rfl (fun _ _ _ _ h => h) (fun hG => ⟨hG, trivial⟩) fun D ρ w hG hs => L_ld (V := .int .u32 tw) S1_51 hs 1 rfl rfl rfl ⟨rfl, hs⟩
  · exact obgy [12, 14, 16] [] [14, 16] ((!decide (cu = cv)) || (!(ou == ov))) rfl (fun _ => rfl) rfl (fun _ _ _ _ h => h) (fun hG => ⟨hG, hG, trivial⟩) fun D ρ w hG hs => L_neq rfl rfl ⟨rfl, hs⟩
  · exact ob [12, 17] [] rfl rfl fun D ρ w hs => L_orC (h' := !decide (tu = tw)) rfl rfl rfl ⟨rfl, hs⟩
  · exact ob [18] [] rfl rfl fun D ρ w hs => L_move (V := .bool (((!decide (cu = cv)) || (!(ou == ov))) || (!decide (tu = tw)))) rfl ⟨rfl, hs⟩
  · exact obg [19] [] (((!decide (cu = cv)) || (!(ou == ov))) || (!decide (tu = tw))) rfl (fun _ => rfl) rfl (fun _ _ _ _ h => h) fun D ρ w hG hs => L_fieldAddr FA_74_1 rfl ⟨rfl, hs⟩
  · exact obgy [19, 20] [] [20] (((!decide (cu = cv)) || (!(ou == ov))) || (!decide (tu = tw))) rfl (fun _ => rfl) rfl (fun _ _ _ _ h => h) (fun hG => ⟨hG, trivial⟩) fun D ρ w hG hs => L_ld (V := .slice a l.length c) S1_72 hs 0 rfl rfl rfl ⟨rfl, hs⟩
  · exact obgy [19, 21] [] [21] (((!decide (cu = cv)) || (!(ou == ov))) || (!decide (tu = tw))) rfl (fun _ => rfl) rfl (fun _ _ _ _ h => h) (fun hG => ⟨hG, trivial⟩) fun D ρ w hG hs => L_lenR (n := l.length) UD_72 (Rd.own' hr hs) (by simp) rfl ⟨rfl, hs⟩
  · exact obg [19] [] (((!decide (cu = cv)) || (!(ou == ov))) || (!decide (tu = tw))) rfl (fun _ => rfl) rfl (fun _ _ _ _ h => h) fun D ρ w hG hs => L_fieldAddr FA_74_1 rfl ⟨rfl, hs⟩
  · exact obgy [19, 23] [] [23] (((!decide (cu = cv)) || (!(ou == ov))) || (!decide (tu = tw))) rfl (fun _ => rfl) rfl (fun _ _ _ _ h => h) (fun hG => ⟨hG, trivial⟩) fun D ρ w hG hs => L_ld (V := .slice b l2.length e) S1_72 hs 1 rfl rfl rfl ⟨rfl, hs⟩
  · exact obgy [19, 24] [] [24] (((!decide (cu = cv)) || (!(ou == ov))) || (!decide (tu = tw))) rfl (fun _ => rfl) rfl (fun _ _ _ _ h => h) (fun hG => ⟨hG, trivial⟩) fun D ρ w hG hs => L_lenR (n := l2.length) UD_72 (Rd.own' hq hs) (by simp) rfl ⟨rfl, hs⟩
  · exact obgy [19, 22, 25] [] [22, 25] (((!decide (cu = cv)) || (!(ou == ov))) || (!decide (tu = tw))) rfl (fun _ => rfl) rfl (fun _ _ _ _ h => h) (fun hG => ⟨hG, hG, trivial⟩) fun D ρ w hG hs => L_neq rfl rfl ⟨rfl, hs⟩
  · exact ob [19, 26] [] rfl rfl fun D ρ w hs => L_orC (h' := !decide (((l.length : Nat) : Int) = ((l2.length : Nat) : Int))) rfl rfl rfl ⟨rfl, hs⟩
  rintro ρ1 w5 ρ2 hρ hs
  replace hρ : ρ2 = upd (mix [6, 7, 8, 9, 10, 11, 12, 13, 14, 15, 16, 17, 18, 19, 20, 21, 22, 23, 24, 25, 26, 27, 28, 29, 30, 31, 32, 33] ρ1 _) 33 (.bool ((((!decide (cu = cv)) || (!(ou == ov))) || (!decide (tu = tw))) || (!decide (((l.length : Nat) : Int) = ((l2.length : Nat) : Int))))) := hρ
  subst hρ
  refine W_cond (t := (((!decide (cu = cv)) || (!(ou == ov))) || (!decide (tu = tw))) || (!decide (((l.length : Nat) : Int) = ((l2.length : Nat) : Int)))) rfl (fun c6 => ?_) (fun c6 => ?_)
  ·
    refine W_seq ?_
    refine W_region ?_
    refine RW_op (L_assign (V := .bool false) rfl ?_)
    refine RW_nil ?_
    refine W_ret ?_
    refine ⟨_, res_one (V := .bool false) Try.results33 rfl, ?_⟩
    refine ⟨congrArg Ending.returned ?_, hs.take 0⟩
    refine congrArg Value.bool ?_
    have hc := c6
    by_cases hll : l = l2
    · subst hll; simp at hc ⊢; grind
    · rw [decide_eq_false hll, Bool.and_false]
  ·
    have c6r := or_r c6
    replace c6 := or_l c6
    have c6rr := or_r c6
    replace c6 := or_l c6
    have c6rrr := or_r c6
    replace c6 := or_l c6
    replace c6 := not_f c6
    replace c6 := of_decide_eq_true c6
    replace c6rrr := not_f c6rrr
    replace c6rr := not_f c6rr
    replace c6rr := of_decide_eq_true c6rr
    replace c6r := not_f c6r
    replace c6r := of_decide_eq_true c6r
    refine W_skip ?_
    refine W_seq ?_
    refine W_seq ?_
    refine W_region ?_
    refine RW_op (L_assign (V := .int .i64 0) rfl ?_)
    refine RW_nil ?_
    refine W_block ?_
    refine W_loopI (fun ρ μ ρ' w' => ∃ (ρo : Env) (k : Nat), ρ' = upd (mix [4, 5, 34, 35, 36, 37, 38, 39, 40, 41, 42, 43, 44, 45, 46, 47, 48, 49, 50, 51] ρo ρ) 5 (.int .i64 (k : Int)) ∧ (k ≤ l.length) ∧ (∀ j : Nat, j < k → gd l j = gd l2 j) ∧ μ = l.length - k ∧ Own w no w' [blk b1 [.int .u16 cu, .slice a l.length c, .bool ou, .int .u32 tu] 74, blk b3 [.int .u16 cv, .slice b l2.length e, .bool ov, .int .u32 tw] 74]) ?_ ?_
    · exact ⟨_, _, 0, upd_of (mix_of (ds := [4, 5, 34, 35, 36, 37, 38, 39, 40, 41, 42, 43, 44, 45, 46, 47, 48, 49, 50, 51]) (Agr.refl _ _)) rfl, (by omega), (fun j hj => absurd hj (Nat.not_lt_zero j)), rfl, hs⟩
    · rintro μ ρ' w7 ⟨ρo, k, rfl, hk, heq, rfl, hs⟩
      refine W_seq ?_
      refine W_seq ?_
      refine W_region ?_
      refine RW_op (L_move (V := .int .i64 (k : Int)) rfl ?_)
      refine RW_op (L_fieldAddr FA_74_1 rfl ?_)
      refine RW_op (L_ld (V := .slice a l.length c) S1_72 hs 0 rfl rfl rfl ?_)
      refine RW_op (L_lenR (n := l.length) UD_72 (Rd.own' hr hs) (by simp) rfl ?_)
      refine RW_op (L_lss rfl rfl ?_)
      refine RW_nil ?_
      refine W_cond (t := decide ((k : Int) < ((l.length : Nat) : Int))) rfl (fun c8 => ?_) (fun c8 => ?_)
      ·
        replace c8 := of_decide_eq_true c8
        refine W_skip ?_
        refine W_seq ?_
        refine W_block ?_
        refine W_seq ?_
        refine W_regD HM [some 41, some 42, some 43, some 44, some 45, some 46, some 47, some 48, some 49, some 50, some 51] [] [0, 1, 0, 7, 15, 0, 32, 0, 224, 480, 1023] [pv (.pointer (some ⟨b1, 0 + 1, none⟩)), pv (.slice a l.length c), pv (.int .i64 (k : Int)), pv (.pointer (some ⟨bkS (.slice a l.length c), ofS (.slice a l.length c) + (k : Int).toNat * 2, none⟩)), pv (.agg (lc (gd l k)).toArray), pv (.pointer (some ⟨b3, 0 + 1, none⟩)), pv (.slice b l2.length e), pv (.int .i64 (k : Int)), pv (.pointer (some ⟨bkS (.slice b l2.length e), ofS (.slice b l2.length e) + (k : Int).toNat * 2, none⟩)), pv (.agg (lc (gd l2 k)).toArray), pv (.bool (!decide (gd l k = gd l2 k)))] (fun _ _ => _) [10] (by kernel_rfl) hs ⟨?_, ?_, ?_, ?_, ?_, ?_, ?_, ?_, ?_, ?_, ?_, trivial⟩ ?_
        · exact ob [] [] rfl rfl fun D ρ w hs => L_fieldAddr FA_74_1 rfl ⟨rfl, hs⟩
        · exact ob [0] [] rfl rfl fun D ρ w hs => L_ld (V := .slice a l.length c) S1_72 hs 0 rfl rfl rfl ⟨rfl, hs⟩
        · exact ob [] [] rfl rfl fun D ρ w hs => L_move (V := .int .i64 (k : Int)) rfl ⟨rfl, hs⟩
        · exact ob [1, 2] [] rfl rfl fun D ρ w hs => L_ixR UD_72 SA_102.1 (Rd.own' hr hs) rfl rfl (by omega) (by rw [List.length_map]; omega) ⟨rfl, hs⟩
        · exact ob [3] [] rfl rfl fun D ρ w hs => L_ldRA (j := 0) (vs := lc (gd l k)) k SA_102 (Rd.own' hr hs) (gd_at (by omega)) rfl rfl rfl (by omega) ⟨rfl, hs⟩
        · exact ob [] [] rfl rfl fun D ρ w hs => L_fieldAddr FA_74_1 rfl ⟨rfl, hs⟩
        · exact ob [5] [] rfl rfl fun D ρ w hs => L_ld (V := .slice b l2.length e) S1_72 hs 1 rfl rfl rfl ⟨rfl, hs⟩
        · exact ob [] [] rfl rfl fun D ρ w hs => L_move (V := .int .i64 (k : Int)) rfl ⟨rfl, hs⟩
        · exact ob [6, 7] [] rfl rfl fun D ρ w hs => L_ixR UD_72 SA_102.1 (Rd.own' hq hs) rfl rfl (by omega) (by rw [List.length_map]; omega) ⟨rfl, hs⟩
        · exact ob [8] [] rfl rfl fun D ρ w hs => L_ldRA (j := 0) (vs := lc (gd l2 k)) k SA_102 (Rd.own' hq hs) (gd_at (by omega)) rfl rfl rfl (by omega) ⟨rfl, hs⟩
        · exact ob [4, 9] [] rfl rfl fun D ρ w hs => L_neA (xs := lc (gd l k)) (ys := lc (gd l2 k)) Try.eqGuardType102 (EQ_102 (gd l k) (gd l2 k)) rfl rfl rfl ⟨rfl, hs⟩
        rintro ρ1 w9 ρ2 hρ hs
        replace hρ : ρ2 = upd (mix [41, 42, 43, 44, 45, 46, 47, 48, 49, 50, 51] ρ1 _) 51 (.bool (!decide (gd l k = gd l2 k))) := hρ
        subst hρ
        refine W_cond (t := !decide (gd l k = gd l2 k)) rfl (fun c10 => ?_) (fun c10 => ?_)
        ·
          replace c10 := not_t c10
          replace c10 := of_decide_eq_false c10
          refine W_seq ?_
          refine W_region ?_
          refine RW_op (L_assign (V := .bool false) rfl ?_)
          refine RW_nil ?_
          refine W_ret ?_
          refine ⟨_, res_one (V := .bool false) Try.results33 rfl, ?_⟩
          refine ⟨congrArg Ending.returned ?_, hs.take 0⟩
          refine congrArg Value.bool ?_
          have hne : ¬ l = l2 := fun e => by subst e; exact c10 rfl
          rw [decide_eq_false hne, Bool.and_false]
        ·
          replace c10 := not_f c10
          replace c10 := of_decide_eq_true c10
          refine W_skip ?_
          refine W_region ?_
          refine RW_op (L_move (V := .int .i64 (k : Int)) rfl ?_)
          refine RW_op (L_add (a := (k : Int)) (b := 1) (c := (k : Int) + 1) rfl rfl (wr_i64 (by omega) (by omega)) ?_)
          refine RW_op (L_assign (V := .int .i64 ((k : Int) + 1)) rfl ?_)
          refine RW_nil ?_
          refine ⟨_, ?_, _, k + 1, upd_of (mix_of (ds := [4, 5, 34, 35, 36, 37, 38, 39, 40, 41, 42, 43, 44, 45, 46, 47, 48, 49, 50, 51]) (by repeat (first | exact Agr.refl _ _ | refine Agr.upd ?_ rfl | refine Agr.mix ?_ rfl))) rfl, (by omega), (eqG_step heq c10), rfl, hs.take 2⟩
          omega
      ·
        replace c8 := of_decide_eq_false c8
        refine W_exit ?_
        refine W_seq ?_
        refine W_region ?_
        refine RW_op (L_assign (V := .bool true) rfl ?_)
        refine RW_nil ?_
        refine W_ret ?_
        refine ⟨_, res_one (V := .bool true) Try.results33 rfl, ?_⟩
        refine ⟨congrArg Ending.returned ?_, hs.take 0⟩
        refine congrArg Value.bool ?_
        have hll := sameG_yes (l := l) (m := l2) (by omega) fun j hj => heq j (by omega)
        rw [decide_eq_true hll, decide_eq_true c6, decide_eq_true c6rr, c6rrr]; rfl
end Tt
end Go.Proofs
namespace Go.Proofs
open Go Go.Vx Go.RowKit
namespace Tt
set_option maxRecDepth 20000 in
set_option maxHeartbeats 4000000 in
theorem age_ok (w : World) (x y : Cen) : Calls Try.prog 111 #[.agg (cec x).toArray, .agg (cec y).toArray] w (fun e w' => e = .returned (.int .i64 (ageI x y)) ∧ Own w no w' []) := by
  refine calls_of_Wn (n := 26) Try.func111 rfl Try.ntmps111 rfl ?_
  have hs := Own.start w
  refine W_seq ?_
  refine W_region ?_
  refine RW_op (L_box (V := .agg (cec x).toArray) (cs := cec x) rfl rfl hs fun b1 w2 hs => ?_)
  refine RW_op (L_box (V := .agg (cec y).toArray) (cs := cec y) rfl rfl hs fun b3 w4 hs => ?_)
  refine RW_op (L_assign (V := .int .i64 0) rfl ?_)
  refine RW_nil ?_
  refine W_seq ?_
  replace hs := hs.more emp trivial
  refine W_regD HM [some 5, some 6, some 7, some 8, some 9, some 10, some 11, some 12, some 13, some 14, some 15, some 16, some 17, some 18, some 19, some 20, some 21, some 22, some 23, some 24, some 25, some 4] [[], [], [], [], [], [], [], [], [], [], [], [], [], [], [], [], [], [], [], [24]] [0, 1, 0, 4, 15, 0, 32, 96, 0, 256, 768, 2047, 0, 4096, 12288, 0, 32768, 98304, 262143, 524287, 1048575, 2097151] [pv (.pointer (some ⟨b1, 0 + 6, none⟩)), pv (.int .u64 x.count), pv (.pointer (some ⟨b3, 0 + 6, none⟩)), pv (.int .u64 y.count), pv (.int .i64 (cmpI x.count y.count)), pv (.pointer (some ⟨b1, 0 + 4, none⟩)), pv (.pointer (some ⟨b1, 0 + 4 + 0, none⟩)), pv (.int .u8 x.dot.rep), pv (.pointer (some ⟨b3, 0 + 4, none⟩)), pv (.pointer (some ⟨b3, 0 + 4 + 0, none⟩)), pv (.int .u8 y.dot.rep), pv (.int .i64 (cmpI x.dot.rep y.dot.rep)), pv (.pointer (some ⟨b1, 0 + 4, none⟩)), pv (.pointer (some ⟨b1, 0 + 4 + 1, none⟩)), pv (.int .u32 x.dot.seq), pv (.pointer (some ⟨b3, 0 + 4, none⟩)), pv (.pointer (some ⟨b3, 0 + 4 + 1, none⟩)), pv (.int .u32 y.dot.seq), pv (.int .i64 (cmpI x.dot.seq y.dot.seq)), (true, fun ρ => .slice (some ⟨(bOf (ρ 24)), 0, none⟩) 3 3), pv (.int .i64 (orI [cmpI x.count y.count, cmpI x.dot.rep y.dot.rep, cmpI x.dot.seq y.dot.seq])), pv (.int .i64 (orI [cmpI x.count y.count, cmpI x.dot.rep y.dot.rep, cmpI x.dot.seq y.dot.seq]))] (fun D ρ => [blk b1 (cec x) 128, blk b3 (cec y) 128, cond (D 19) (row (.slice (some ⟨(bOf (ρ 24)), 0, none⟩) 3 3) ([cmpI x.count y.count, cmpI x.dot.rep y.dot.rep, cmpI x.dot.seq y.dot.seq].map (ic .i64)) 3 1) (emp)]) [21] (by kernel_rfl) hs ⟨?_, ?_, ?_, ?_, ?_, ?_, ?_, ?_, ?_, ?_, ?_, ?_, ?_, ?_, ?_, ?_, ?_, ?_, ?_, ?_, ?_, ?_, trivial⟩ ?_
  · exact ob [] [] rfl rfl fun D ρ w hs => L_fieldAddr FA_128_5 rfl ⟨rfl, hs⟩
  · exact ob [0] [] rfl rfl fun D ρ w hs => L_ld (V := .int .u64 x.count) S1_92 hs 0 rfl rfl rfl ⟨rfl, hs⟩
  · exact ob [] [] rfl rfl fun D ρ w hs => L_fieldAddr FA_128_5 rfl ⟨rfl, hs⟩
  · exact ob [2] [] rfl rfl fun D ρ w hs => L_ld (V := .int .u64 y.count) S1_92 hs 1 rfl rfl rfl ⟨rfl, hs⟩
  · exact ob [1, 3] [] rfl rfl fun D ρ w hs => L_callP (vs := [.int .u64 x.count, .int .u64 y.count]) (V := .int .i64 (cmpI x.count y.count)) EN_140 rfl rfl (cmp_uint64_ok _ x.count y.count) hs fun _ hs => ⟨rfl, hs⟩
  · exact ob [] [] rfl rfl fun D ρ w hs => L_fieldAddr FA_128_4 rfl ⟨rfl, hs⟩
  · exact ob [5] [] rfl rfl fun D ρ w hs => L_fieldAddr FA_96_0 rfl ⟨rfl, hs⟩
  · exact ob [6] [] rfl rfl fun D ρ w hs => L_ld (V := .int .u8 x.dot.rep) S1_5 hs 0 rfl rfl rfl ⟨rfl, hs⟩
  · exact ob [] [] rfl rfl fun D ρ w hs => L_fieldAddr FA_128_4 rfl ⟨rfl, hs⟩
  · exact ob [8] [] rfl rfl fun D ρ w hs => L_fieldAddr FA_96_0 rfl ⟨rfl, hs⟩
  · exact ob [9] [] rfl rfl fun D ρ w hs => L_ld (V := .int .u8 y.dot.rep) S1_5 hs 1 rfl rfl rfl ⟨rfl, hs⟩
  · exact ob [7, 10] [] rfl rfl fun D ρ w hs => L_callP (vs := [.int .u8 x.dot.rep, .int .u8 y.dot.rep]) (V := .int .i64 (cmpI x.dot.rep y.dot.rep)) EN_104 rfl rfl (cmp_uint8_ok _ x.dot.rep y.dot.rep) hs fun _ hs => ⟨rfl, hs⟩
  · exact ob [] [] rfl rfl fun D ρ w hs => L_fieldAddr FA_128_4 rfl ⟨rfl, hs⟩
  · exact ob [12] [] rfl rfl fun D ρ w hs => L_fieldAddr FA_96_1 rfl ⟨rfl, hs⟩
  · exact ob [13] [] rfl rfl fun D ρ w hs => L_ld (V := .int .u32 x.dot.seq) S1_51 hs 0 rfl rfl rfl ⟨rfl, hs⟩
  · exact ob [] [] rfl rfl fun D ρ w hs => L_fieldAddr FA_128_4 rfl ⟨rfl, hs⟩
  · exact ob [15] [] rfl rfl fun D ρ w hs => L_fieldAddr FA_96_1 rfl ⟨rfl, hs⟩
  · exact ob [16] [] rfl rfl fun D ρ w hs => L_ld (V := .int .u32 y.dot.seq) S1_51 hs 1 rfl rfl rfl ⟨rfl, hs⟩
  · exact ob [14, 17] [] rfl rfl fun D ρ w hs => L_callP (vs := [.int .u32 x.dot.seq, .int .u32 y.dot.seq]) (V := .int .i64 (cmpI x.dot.seq y.dot.seq)) EN_105 rfl rfl (cmp_uint32_ok _ x.dot.seq y.dot.seq) hs fun _ hs => ⟨rfl, hs⟩
  · exact ob [4, 11, 18] [] rfl rfl fun D ρ w hs => L_bs (vals := [.int .i64 (cmpI x.count y.count), .int .i64 (cmpI x.dot.rep y.dot.rep), .int .i64 (cmpI x.dot.seq y.dot.seq)]) (ls := List.map (ic .i64) ([cmpI x.count y.count, cmpI x.dot.rep y.dot.rep, cmpI x.dot.seq y.dot.seq] : List Int)) EL_198 rfl rfl rfl (len_map (enc := (ic .i64)) (fun _ => rfl) _) (one_map (ic_one .i64) _) (Nat.le_of_ble_eq_true rfl) hs fun _ _ hs => ⟨rfl, hs.put 2 (Nat.le_of_ble_eq_true rfl)⟩
  · exact ob [19] [] rfl rfl fun D ρ w hs => L_callP (vs := [.slice (some ⟨(bOf (ρ 24)), 0, none⟩) 3 3]) (V := .int .i64 (orI [cmpI x.count y.count, cmpI x.dot.rep y.dot.rep, cmpI x.dot.seq y.dot.seq])) EN_103 rfl rfl (or_ok _ (some ⟨(bOf (ρ 24)), 0, none⟩) 3 [cmpI x.count y.count, cmpI x.dot.rep y.dot.rep, cmpI x.dot.seq y.dot.seq] (hs.rd 2 rfl)) hs fun _ hs => ⟨rfl, hs⟩
  · exact ob [20] [] rfl rfl fun D ρ w hs => L_assign (V := .int .i64 (orI [cmpI x.count y.count, cmpI x.dot.rep y.dot.rep, cmpI x.dot.seq y.dot.seq])) rfl ⟨rfl, hs⟩
  rintro ρ1 w10 ρ2 hρ hs
  replace hρ : ρ2 = upd (mix [5, 6, 7, 8, 9, 10, 11, 12, 13, 14, 15, 16, 17, 18, 19, 20, 21, 22, 23, 24, 25, 4] ρ1 _) 4 (.int .i64 (orI [cmpI x.count y.count, cmpI x.dot.rep y.dot.rep, cmpI x.dot.seq y.dot.seq])) := hρ
  replace hs : Own w no w10 [blk b1 (cec x) 128, blk b3 (cec y) 128, row (.slice (some ⟨(bOf (ρ1 24)), 0, none⟩) 3 3) ([cmpI x.count y.count, cmpI x.dot.rep y.dot.rep, cmpI x.dot.seq y.dot.seq].map (ic .i64)) 3 1] := hs
  generalize (bOf (ρ1 24)) = b11 at hs
  subst hρ
  refine W_ret ?_
  refine ⟨_, res_one (V := .int .i64 (orI [cmpI x.count y.count, cmpI x.dot.rep y.dot.rep, cmpI x.dot.seq y.dot.seq])) Try.results111 rfl, ?_⟩
  refine ⟨congrArg Ending.returned ?_, hs.take 0⟩
  rfl
set_option maxRecDepth 20000 in
set_option maxHeartbeats 4000000 in
theorem view1_ok (w : World) (x y : Cen) : Calls Try.prog 72 #[.agg (cec x).toArray, .agg (cec y).toArray] w (fun e w' => e = .returned (.int .i64 (cmpI x.item y.item)) ∧ Own w no w' []) := by
  refine calls_of_Wn (n := 10) Try.func72 rfl Try.ntmps72 rfl ?_
  have hs := Own.start w
  refine W_seq ?_
  refine W_region ?_
  refine RW_op (L_box (V := .agg (cec x).toArray) (cs := cec x) rfl rfl hs fun b1 w2 hs => ?_)
  refine RW_op (L_box (V := .agg (cec y).toArray) (cs := cec y) rfl rfl hs fun b3 w4 hs => ?_)
  refine RW_op (L_assign (V := .int .i64 0) rfl ?_)
  refine RW_nil ?_
  refine W_seq ?_
  refine W_region ?_
  refine RW_op (L_fieldAddr FA_128_1 rfl ?_)
  refine RW_op (L_ld (V := .int .u16 x.item) S1_70 hs 0 rfl rfl rfl ?_)
  refine RW_op (L_fieldAddr FA_128_1 rfl ?_)
  refine RW_op (L_ld (V := .int .u16 y.item) S1_70 hs 1 rfl rfl rfl ?_)
  refine RW_op (L_callP (vs := [.int .u16 x.item, .int .u16 y.item]) (V := .int .i64 (cmpI x.item y.item)) EN_73 rfl rfl ?hc hs fun w5 hs => ?_)
  case hc => exact (cmp_uint16_ok _ x.item y.item)
  refine RW_op (L_assign (V := .int .i64 (cmpI x.item y.item)) rfl ?_)
  refine RW_nil ?_
  refine W_ret ?_
  refine ⟨_, res_one (V := .int .i64 (cmpI x.item y.item)) Try.results72 rfl, ?_⟩
  refine ⟨congrArg Ending.returned ?_, hs.take 0⟩
  rfl
set_option maxRecDepth 20000 in
set_option maxHeartbeats 4000000 in
theorem line_ok (w : World) (item : Int) (a : Option Addr) (c : Nat) (l : List Cen) (hl : ∀ e ∈ l, CenOk e ∧ 1 ≤ e.count) (hr : Rd w (.slice a l.length c) 7 (l.map cec)) : Calls Try.prog 74 #[.int .u16 item, .slice a l.length c] w (fun e w' => e = .returned (.agg (lc ⟨item, qtyL l⟩).toArray) ∧ Own w no w' []) := by
  refine calls_of_Wn (n := 38) Try.func74 rfl Try.ntmps74 rfl ?_
  have hs := Own.start w
  have hn1 := hr.sml
  refine W_seq ?_
  refine W_region ?_
  refine RW_op (L_alloc (cs := lc (⟨0, 0⟩ : Line)) ZV_102 rfl hs fun b1 w2 hs => ?_)
  refine RW_nil ?_
  refine W_seq ?_
  refine W_region ?_
  refine RW_op (L_alloc (cs := cec (⟨0, 0, 0, 0, (⟨0, 0⟩ : Dot), 0⟩ : Cen)) ZV_128 rfl hs fun b3 w4 hs => ?_)
  refine RW_nil ?_
  refine W_seq ?_
  refine W_region ?_
  refine RW_op (L_assign (V := .int .u32 0) rfl ?_)
  refine RW_nil ?_
  refine W_seq ?_
  refine W_seq ?_
  refine W_region ?_
  refine RW_op (L_move (V := .slice a l.length c) rfl ?_)
  refine RW_op (L_lenR (n := l.length) UD_59 (Rd.own' hr hs) (by simp) rfl ?_)
  refine RW_op (L_move (V := .int .i64 0) rfl ?_)
  refine RW_nil ?_
  refine W_block ?_
  refine W_loopI (fun ρ μ ρ' w' => ∃ (ρo : Env) (k : Nat) (sm : Int) (u : Cen), ρ' = upd (upd (mix [6, 8, 11, 12, 13, 14, 15, 16, 17, 18, 19, 20, 21, 22, 23, 24, 25, 26, 27, 28, 29, 30] ρo ρ) 11 (.int .i64 ((k : Nat) : Int))) 6 (.int .u32 sm) ∧ (k ≤ l.length) ∧ (sm = sumE (l.take k)) ∧ (u = (l.take k).foldl setF cz) ∧ μ = l.length - k ∧ Own w no w' [blk b1 (lc (⟨0, 0⟩ : Line)) 102, blk b3 (cec u) 128]) ?_ ?_
  · exact ⟨_, _, 0, 0, cz, upd_of (upd_of (mix_of (ds := [6, 8, 11, 12, 13, 14, 15, 16, 17, 18, 19, 20, 21, 22, 23, 24, 25, 26, 27, 28, 29, 30]) (Agr.refl _ _)) rfl) rfl, (by omega), rfl, rfl, rfl, hs⟩
  · rintro μ ρ' w5 ⟨ρo, k, sm, u, rfl, hk, hsm, hset, rfl, hs⟩
    refine W_seq ?_
    refine W_region ?_
    refine RW_op (L_lss rfl rfl ?_)
    refine RW_nil ?_
    refine W_seq ?_
    refine W_cond (t := decide (((k : Nat) : Int) < ((l.length : Nat) : Int))) rfl (fun c6 => ?_) (fun c6 => ?_)
    ·
      replace c6 := of_decide_eq_true c6
      refine W_skip ?_
      refine W_seq ?_
      refine W_block ?_
      refine W_seq ?_
      refine W_region ?_
      refine RW_op (L_ixR UD_59 SA_128.1 (Rd.own' hr hs) rfl rfl (by omega) (by rw [List.length_map]; omega) ?_)
      refine RW_op (L_ldRA (j := 0) (vs := cec (gd l k)) k SA_128 (Rd.own' hr hs) (gd_at (by omega)) rfl rfl rfl (by omega) ?_)
      refine RW_op (L_alloc (cs := cec (⟨0, 0, 0, 0, (⟨0, 0⟩ : Dot), 0⟩ : Cen)) ZV_128 rfl hs fun b7 w8 hs => ?_)
      refine RW_op (L_st (V := .agg (cec (gd l k)).toArray) (vs := cec (gd l k)) (cs' := cec (gd l k)) SA_128.1 hs 2 rfl rfl rfl rfl rfl (Nat.le_of_ble_eq_true rfl) (cec_one _) (spl_whole rfl) fun w9 hs => ?_)
      replace hs : Own w no w9 [blk b1 (lc (⟨0, 0⟩ : Line)) 102, blk b3 (cec u) 128, blk b7 (cec (gd l k)) 128] := hs
      refine RW_nil ?_
      refine W_block ?_
      refine W_seq ?_
      refine W_region ?_
      refine RW_op (L_fieldAddr FA_128_3 rfl ?_)
      refine RW_op (L_ld (V := .int .u8 ((gd l k).kind)) S1_5 hs 2 rfl rfl rfl ?_)
      refine RW_op (L_eql rfl rfl ?_)
      refine RW_op (L_assign (V := .bool (decide ((gd l k).kind = 1))) rfl ?_)
      refine RW_nil ?_
      refine W_cond (t := decide ((gd l k).kind = 1)) rfl (fun c10 => ?_) (fun c10 => ?_)
      ·
        replace c10 := of_decide_eq_true c10
        have ⟨hq1, hq2⟩ := (hl _ (gd_mem (l := l) (i := k) (by omega))).1.2.2.1
        refine W_region ?_
        refine RW_op (L_move (V := .int .u32 sm) rfl ?_)
        refine RW_op (L_fieldAddr FA_128_2 rfl ?_)
        refine RW_op (L_ld (V := .int .u16 ((gd l k).qty)) S1_70 hs 2 rfl rfl rfl ?_)
        refine RW_op (L_conv UD_70 UD_51 rfl (wr_u32 (by omega) (by omega)) ?_)
        refine RW_op (L_add (a := sm) (b := (gd l k).qty) (c := (sm + ((gd l k).qty)) % 4294967296) rfl rfl (wm_u32 _) ?_)
        refine RW_op (L_assign (V := .int .u32 ((sm + ((gd l k).qty)) % 4294967296)) rfl ?_)
        refine RW_nil ?_
        refine W_region ?_
        refine RW_op (L_add (a := ((k : Nat) : Int)) (b := 1) (c := ((k + 1 : Nat) : Int)) rfl rfl (nat_i64 (by omega) (by omega)) ?_)
        refine RW_op (L_move (V := .int .i64 ((k + 1 : Nat) : Int)) rfl ?_)
        refine RW_nil ?_
        refine ⟨_, ?_, _, k + 1, (sm + ((gd l k).qty)) % 4294967296, u, upd_of (upd_of (mix_of (ds := [6, 8, 11, 12, 13, 14, 15, 16, 17, 18, 19, 20, 21, 22, 23, 24, 25, 26, 27, 28, 29, 30]) (by repeat (first | exact Agr.refl _ _ | refine Agr.upd ?_ rfl | refine Agr.mix ?_ rfl))) rfl) rfl, (by omega), (sumE_yes hsm (by omega) c10), (by rw [← setF_next hset (by omega), setF_kind c10]), rfl, hs.take 2⟩
        omega
      ·
        replace c10 := of_decide_eq_false c10
        refine W_seq ?_
        refine W_region ?_
        refine RW_op (L_ldW (cs := cec (gd l k)) SA_128 hs 2 rfl rfl rfl ?_)
        refine RW_op (L_ldW (cs := cec u) SA_128 hs 1 rfl rfl rfl ?_)
        refine RW_op (L_callP (vs := [.agg (cec (gd l k)).toArray, .agg (cec u).toArray]) (V := .int .i64 (ageI (gd l k) u)) EN_111 rfl rfl ?hc hs fun w11 hs => ?_)
        case hc => exact (age_ok _ (gd l k) u)
        refine RW_op (opW_to (V := .bool (decide (0 < ageI (gd l k) u))) (V' := .bool (lessC u (gd l k))) (L_gtr rfl rfl ⟨rfl, rfl⟩) (congrArg Value.bool (age_gt _ _)) ?_)
        refine RW_op (L_assign (V := .bool (lessC u (gd l k))) rfl ?_)
        refine RW_nil ?_
        refine W_cond (t := lessC u (gd l k)) rfl (fun c12 => ?_) (fun c12 => ?_)
        ·
          refine W_region ?_
          refine RW_op (L_ldW (cs := cec (gd l k)) SA_128 hs 2 rfl rfl rfl ?_)
          refine RW_op (L_st (V := .agg (cec (gd l k)).toArray) (vs := cec (gd l k)) (cs' := cec (gd l k)) SA_128.1 hs 1 rfl rfl rfl rfl rfl (Nat.le_of_ble_eq_true rfl) (cec_one _) (spl_whole rfl) fun w13 hs => ?_)
          refine RW_nil ?_
          refine W_region ?_
          refine RW_op (L_add (a := ((k : Nat) : Int)) (b := 1) (c := ((k + 1 : Nat) : Int)) rfl rfl (nat_i64 (by omega) (by omega)) ?_)
          refine RW_op (L_move (V := .int .i64 ((k + 1 : Nat) : Int)) rfl ?_)
          refine RW_nil ?_
          refine ⟨_, ?_, _, k + 1, sm, gd l k, upd_of (upd_of (mix_of (ds := [6, 8, 11, 12, 13, 14, 15, 16, 17, 18, 19, 20, 21, 22, 23, 24, 25, 26, 27, 28, 29, 30]) (by repeat (first | exact Agr.refl _ _ | refine Agr.upd ?_ rfl | refine Agr.mix ?_ rfl))) rfl) rfl, (by omega), (sumE_no hsm (by omega) c10), (by rw [← setF_next hset (by omega), setF_yes c10 c12]), rfl, hs.take 2⟩
          omega
        ·
          refine W_skip ?_
          refine W_region ?_
          refine RW_op (L_add (a := ((k : Nat) : Int)) (b := 1) (c := ((k + 1 : Nat) : Int)) rfl rfl (nat_i64 (by omega) (by omega)) ?_)
          refine RW_op (L_move (V := .int .i64 ((k + 1 : Nat) : Int)) rfl ?_)
          refine RW_nil ?_
          refine ⟨_, ?_, _, k + 1, sm, u, upd_of (upd_of (mix_of (ds := [6, 8, 11, 12, 13, 14, 15, 16, 17, 18, 19, 20, 21, 22, 23, 24, 25, 26, 27, 28, 29, 30]) (by repeat (first | exact Agr.refl _ _ | refine Agr.upd ?_ rfl | refine Agr.mix ?_ rfl))) rfl) rfl, (by omega), (sumE_no hsm (by omega) c10), (by rw [← setF_next hset (by omega), setF_no c10 c12]), rfl, hs.take 2⟩
          omega
    ·
      replace c6 := of_decide_eq_false c6
      refine W_exit ?_
      refine W_seq ?_
      have ⟨hq1, hq2⟩ : 0 ≤ u.qty ∧ u.qty < 65536 := by rw [hset]; exact setF_qty fun e he => (hl e (List.mem_of_mem_take he)).1
      refine W_region ?_
      refine RW_op (L_move (V := .int .u16 item) rfl ?_)
      refine RW_op (L_move (V := .int .u32 sm) rfl ?_)
      refine RW_op (L_fieldAddr FA_128_2 rfl ?_)
      refine RW_op (L_ld (V := .int .u16 u.qty) S1_70 hs 1 rfl rfl rfl ?_)
      refine RW_op (L_conv UD_70 UD_51 rfl (wr_u32 (by omega) (by omega)) ?_)
      refine RW_op (L_add (a := sm) (b := u.qty) (c := (sm + u.qty) % 4294967296) rfl rfl (wm_u32 _) ?_)
      refine RW_op (L_build (vs := [(0, .int .u16 item), (1, .int .u32 ((sm + u.qty) % 4294967296))]) (cs := lc (⟨item, (sm + u.qty) % 4294967296⟩ : Line)) BT_102 (rfl) rfl ?_)
      refine RW_op (L_st (V := .agg (lc (⟨item, (sm + u.qty) % 4294967296⟩ : Line)).toArray) (vs := lc (⟨item, (sm + u.qty) % 4294967296⟩ : Line)) (cs' := lc (⟨item, (sm + u.qty) % 4294967296⟩ : Line)) SA_102.1 hs 0 rfl rfl rfl rfl rfl (Nat.le_of_ble_eq_true rfl) (lc_one _) (spl_whole rfl) fun w14 hs => ?_)
      refine RW_nil ?_
      refine W_ret ?_
      refine ⟨_, res_cell (cs := lc (⟨item, (sm + u.qty) % 4294967296⟩ : Line)) Try.results74 SA_102 hs 0 rfl rfl rfl, ?_⟩
      refine ⟨congrArg Ending.returned ?_, hs.take 0⟩
      have hT := take_all (l := l) (k := k) (by omega)
      rw [hT] at hsm hset
      subst hsm hset
      rw [qtyL_set fun e he => (hl e he).2]
end Tt
end Go.Proofs
namespace Go.Proofs
open Go Go.Vx Go.RowKit
namespace Tt
set_option maxRecDepth 20000 in
set_option maxHeartbeats 4000000 in
theorem isS_ok (w : World) (S : Nat → Prop) (a : Option Addr) (N c : Nat) (l : List Cen) (hz : l.length = N) (hN : N ≤ 2305843009213693951) (lo hi : Nat) (hlo : lo ≤ hi) (hhi : hi ≤ N) (g : Nat) (hg : En Try.prog g) (cf : Cen → Cen → Int) (hc : CmpO cf) (hcmp : ∀ (w : World) (x y : Cen), Calls Try.prog g #[.agg (cec x).toArray, .agg (cec y).toArray] w (fun e w' => e = .returned (.int .i64 (cf x y)) ∧ Own w no w' [])) (hR : (row (.slice a N c) (l.map cec) 128 7).holds w S) (hlt : ∀ b, S b → b < w.heap.size) : Calls Try.prog 125 #[.slice a N c, .int .i64 ((lo : Nat) : Int), .int .i64 ((hi : Nat) : Int), .func (.func g) #[] #[]] w (fun e w' => ∃ x : List Cen, e = .returned (.tuple #[]) ∧ Own w S w' [row (.slice a N c) (x.map cec) 128 7] ∧ (x.length = N ∧ Merged cf l x lo hi)) := by
  refine calls_of_Wn (n := 53) Try.func125 rfl Try.ntmps125 rfl ?_
  have hs := Own.lent hR hlt
  refine W_seq ?_
  refine W_region ?_
  refine RW_op (L_move (V := .int .i64 ((lo : Nat) : Int)) rfl ?_)
  refine RW_op (L_add (a := ((lo : Nat) : Int)) (b := 1) (c := ((lo + 1 : Nat) : Int)) rfl rfl (nat_i64 (by omega) (by omega)) ?_)
  refine RW_op (L_assign (V := .int .i64 ((lo + 1 : Nat) : Int)) rfl ?_)
  refine RW_nil ?_
  refine W_block ?_
  refine W_loopI (fun ρ μ ρ' w' => ∃ (ρo : Env) (k : Nat) (m : List Cen), ρ' = upd (mix [8, 9, 12, 13, 14, 15, 16, 17, 18, 19, 20, 21, 22, 23, 24, 25, 26, 27, 28, 29, 30, 31, 32, 33, 34, 35, 36, 37, 38, 39, 40, 41, 42, 43, 44, 45, 46, 47, 48, 49, 50, 51, 52] ρo ρ) 8 (.int .i64 ((k : Nat) : Int)) ∧ (lo + 1 ≤ k) ∧ (k ≤ hi ∨ k = lo + 1) ∧ (m.length = N) ∧ (PermSeg l m lo hi) ∧ (OrdSeg cf m lo k) ∧ μ = hi - k ∧ Own w S w' [row (.slice a N c) (m.map cec) 128 7]) ?_ ?_
  · exact ⟨_, _, lo + 1, l, upd_of (mix_of (ds := [8, 9, 12, 13, 14, 15, 16, 17, 18, 19, 20, 21, 22, 23, 24, 25, 26, 27, 28, 29, 30, 31, 32, 33, 34, 35, 36, 37, 38, 39, 40, 41, 42, 43, 44, 45, 46, 47, 48, 49, 50, 51, 52]) (Agr.refl _ _)) rfl, (Nat.le_refl _), (Or.inr rfl), hz, (PermSeg.refl l hlo (by omega)), (OrdSeg.small (Nat.le_refl _)), rfl, hs⟩
  · rintro μ ρ' w1 ⟨ρo, k, m, rfl, hk0, hk, hz1, hpm, hor, rfl, hs⟩
    refine W_seq ?_
    refine W_seq ?_
    refine W_region ?_
    refine RW_op (L_move (V := .int .i64 ((k : Nat) : Int)) rfl ?_)
    refine RW_op (L_move (V := .int .i64 ((hi : Nat) : Int)) rfl ?_)
    refine RW_op (L_lss rfl rfl ?_)
    refine RW_nil ?_
    refine W_cond (t := decide (((k : Nat) : Int) < ((hi : Nat) : Int))) rfl (fun c2 => ?_) (fun c2 => ?_)
    ·
      replace c2 := of_decide_eq_true c2
      refine W_skip ?_
      refine W_seq ?_
      refine W_block ?_
      refine W_seq ?_
      refine W_region ?_
      refine RW_op (L_move (V := .int .i64 ((k : Nat) : Int)) rfl ?_)
      refine RW_op (L_assign (V := .int .i64 ((k : Nat) : Int)) rfl ?_)
      refine RW_nil ?_
      refine W_block ?_
      refine W_loopI (fun ρ μ ρ' w' => ∃ (ρo : Env) (j : Nat) (m2 : List Cen), ρ' = upd (mix [9, 18, 19, 20, 21, 22, 23, 24, 25, 26, 27, 28, 29, 30, 31, 32, 33, 34, 35, 36, 37, 38, 39, 40, 41, 42, 43, 44, 45, 46, 47, 48, 49, 50, 51, 52] ρo ρ) 9 (.int .i64 ((j : Nat) : Int)) ∧ (lo ≤ j) ∧ (j ≤ k) ∧ (m2.length = N) ∧ (PermSeg l m2 lo hi) ∧ (InsI cf m2 lo k j) ∧ μ = j + 1 ∧ Own w S w' [row (.slice a N c) (m2.map cec) 128 7]) ?_ ?_
      · exact ⟨_, _, k, m, upd_of (mix_of (ds := [9, 18, 19, 20, 21, 22, 23, 24, 25, 26, 27, 28, 29, 30, 31, 32, 33, 34, 35, 36, 37, 38, 39, 40, 41, 42, 43, 44, 45, 46, 47, 48, 49, 50, 51, 52]) (Agr.refl _ _)) rfl, (by omega), (Nat.le_refl _), hz1, hpm, (ins_start hor), rfl, hs⟩
      · rintro μ ρ' w3 ⟨ρo, j, m2, rfl, hj0, hj, hz2, hpm2, hin, rfl, hs⟩
        refine W_seq ?_
        refine W_seq ?_
        refine W_regD HM [some 18, some 19, some 20, some 21, some 22, some 23, some 24, some 25, some 26, some 27, some 28, some 29, some 30, some 31, some 32, some 33, some 34] [] [0, 0, 3, 7, 15, 15, 15, 111, 239, 15, 15, 1039, 3599, 7695, 16383, 32767, 65535] [pv (.int .i64 ((j : Nat) : Int)), pv (.int .i64 ((lo : Nat) : Int)), pv (.bool (decide (((lo : Nat) : Int) < ((j : Nat) : Int)))), pv (.bool (decide (((lo : Nat) : Int) < ((j : Nat) : Int)))), pg ((decide (((lo : Nat) : Int) < ((j : Nat) : Int))) == true) (.func (.func g) #[] #[]), pg ((decide (((lo : Nat) : Int) < ((j : Nat) : Int))) == true) (.slice a N c), pg ((decide (((lo : Nat) : Int) < ((j : Nat) : Int))) == true) (.int .i64 ((j : Nat) : Int)), pg ((decide (((lo : Nat) : Int) < ((j : Nat) : Int))) == true) (.pointer (some ⟨bkS (.slice a N c), ofS (.slice a N c) + ((j : Nat) : Int).toNat * 7, none⟩)), pg ((decide (((lo : Nat) : Int) < ((j : Nat) : Int))) == true) (.agg (cec (gd m2 j)).toArray), pg ((decide (((lo : Nat) : Int) < ((j : Nat) : Int))) == true) (.slice a N c), pg ((decide (((lo : Nat) : Int) < ((j : Nat) : Int))) == true) (.int .i64 ((j : Nat) : Int)), pg ((decide (((lo : Nat) : Int) < ((j : Nat) : Int))) == true) (.int .i64 ((j - 1 : Nat) : Int)), pg ((decide (((lo : Nat) : Int) < ((j : Nat) : Int))) == true) (.pointer (some ⟨bkS (.slice a N c), ofS (.slice a N c) + ((j - 1 : Nat) : Int).toNat * 7, none⟩)), pg ((decide (((lo : Nat) : Int) < ((j : Nat) : Int))) == true) (.agg (cec (gd m2 (j - 1))).toArray), pg ((decide (((lo : Nat) : Int) < ((j : Nat) : Int))) == true) (.int .i64 (cf (gd m2 j) (gd m2 (j - 1)))), pg ((decide (((lo : Nat) : Int) < ((j : Nat) : Int))) == true) (.bool (decide (cf (gd m2 j) (gd m2 (j - 1)) < 0))), pv (.bool ((decide (((lo : Nat) : Int) < ((j : Nat) : Int))) && (decide (cf (gd m2 j) (gd m2 (j - 1)) < 0))))] (fun _ _ => _) [16] (by kernel_rfl) hs ⟨?_, ?_, ?_, ?_, ?_, ?_, ?_, ?_, ?_, ?_, ?_, ?_, ?_, ?_, ?_, ?_, ?_, trivial⟩ ?_
        · exact ob [] [] rfl rfl fun D ρ w hs => L_move (V := .int .i64 ((j : Nat) : Int)) rfl ⟨rfl, hs⟩
        · exact ob [] [] rfl rfl fun D ρ w hs => L_move (V := .int .i64 ((lo : Nat) : Int)) rfl ⟨rfl, hs⟩
        · exact ob [0, 1] [] rfl rfl fun D ρ w hs => L_gtr rfl rfl ⟨rfl, hs⟩
        · exact ob [2] [] rfl rfl fun D ρ w hs => L_move (V := .bool (decide (((lo : Nat) : Int) < ((j : Nat) : Int)))) rfl ⟨rfl, hs⟩
        · exact obg [3] [] (decide (((lo : Nat) : Int) < ((j : Nat) : Int))) rfl (fun _ => rfl) rfl (fun _ _ _ _ h => h) fun D ρ w hG hs => L_move (V := .func (.func g) #[] #[]) rfl ⟨rfl, hs⟩
        · exact obg [3] [] (decide (((lo : Nat) : Int) < ((j : Nat) : Int))) rfl (fun _ => rfl) rfl (fun _ _ _ _ h => h) fun D ρ w hG hs => L_move (V := .slice a N c) rfl ⟨rfl, hs⟩
        · exact obg [3] [] (decide (((lo : Nat) : Int) < ((j : Nat) : Int))) rfl (fun _ => rfl) rfl (fun _ _ _ _ h => h) fun D ρ w hG hs => L_move (V := .int .i64 ((j : Nat) : Int)) rfl ⟨rfl, hs⟩
        · refine obgy [3, 5, 6] [] [5, 6] (decide (((lo : Nat) : Int) < ((j : Nat) : Int))) rfl (fun _ => rfl) rfl (fun _ _ _ _ h => h) (fun hG => ⟨hG, hG, trivial⟩) fun D ρ w hG hs => ?_
          have hgd := of_decide_eq_true (eq_of_beq (hG))
          exact L_ixR UD_59 SA_128.1 (hs.rd 0 rfl) rfl rfl (by omega) (by rw [List.length_map]; omega) ⟨rfl, hs⟩
        · refine obgy [3, 7] [] [7] (decide (((lo : Nat) : Int) < ((j : Nat) : Int))) rfl (fun _ => rfl) rfl (fun _ _ _ _ h => h) (fun hG => ⟨hG, trivial⟩) fun D ρ w hG hs => ?_
          have hgd := of_decide_eq_true (eq_of_beq (hG))
          exact L_ldRA (j := 0) (vs := cec (gd m2 j)) j SA_128 (hs.rd 0 rfl) (gd_at (by omega)) rfl rfl rfl (by omega) ⟨rfl, hs⟩
        · exact obg [3] [] (decide (((lo : Nat) : Int) < ((j : Nat) : Int))) rfl (fun _ => rfl) rfl (fun _ _ _ _ h => h) fun D ρ w hG hs => L_move (V := .slice a N c) rfl ⟨rfl, hs⟩
        · exact obg [3] [] (decide (((lo : Nat) : Int) < ((j : Nat) : Int))) rfl (fun _ => rfl) rfl (fun _ _ _ _ h => h) fun D ρ w hG hs => L_move (V := .int .i64 ((j : Nat) : Int)) rfl ⟨rfl, hs⟩
        · refine obgy [3, 10] [] [10] (decide (((lo : Nat) : Int) < ((j : Nat) : Int))) rfl (fun _ => rfl) rfl (fun _ _ _ _ h => h) (fun hG => ⟨hG, trivial⟩) fun D ρ w hG hs => ?_
          have hgd := of_decide_eq_true (eq_of_beq (hG))
          exact L_sub (a := ((j : Nat) : Int)) (b := 1) (c := ((j - 1 : Nat) : Int)) rfl rfl (nat_i64 (by omega) (by omega)) ⟨rfl, hs⟩
        · refine obgy [3, 9, 11] [] [9, 11] (decide (((lo : Nat) : Int) < ((j : Nat) : Int))) rfl (fun _ => rfl) rfl (fun _ _ _ _ h => h) (fun hG => ⟨hG, hG, trivial⟩) fun D ρ w hG hs => ?_
          have hgd := of_decide_eq_true (eq_of_beq (hG))
          exact L_ixR UD_59 SA_128.1 (hs.rd 0 rfl) rfl rfl (by omega) (by rw [List.length_map]; omega) ⟨rfl, hs⟩
        · refine obgy [3, 12] [] [12] (decide (((lo : Nat) : Int) < ((j : Nat) : Int))) rfl (fun _ => rfl) rfl (fun _ _ _ _ h => h) (fun hG => ⟨hG, trivial⟩) fun D ρ w hG hs => ?_
          have hgd := of_decide_eq_true (eq_of_beq (hG))
          exact L_ldRA (j := 0) (vs := cec (gd m2 (j - 1))) (j - 1) SA_128 (hs.rd 0 rfl) (gd_at (by omega)) rfl rfl rfl (by omega) ⟨rfl, hs⟩
        · exact obgy [3, 4, 8, 13] [] [4, 8, 13] (decide (((lo : Nat) : Int) < ((j : Nat) : Int))) rfl (fun _ => rfl) rfl (fun _ _ _ _ h => h) (fun hG => ⟨hG, hG, hG, trivial⟩) fun D ρ w hG hs => L_fnP (vs := [.agg (cec (gd m2 j)).toArray, .agg (cec (gd m2 (j - 1))).toArray]) (cs := []) (V := .int .i64 (cf (gd m2 j) (gd m2 (j - 1)))) hg rfl rfl (hcmp _ (gd m2 j) (gd m2 (j - 1))) hs fun _ hs => ⟨rfl, hs⟩
        · exact obgy [3, 14] [] [14] (decide (((lo : Nat) : Int) < ((j : Nat) : Int))) rfl (fun _ => rfl) rfl (fun _ _ _ _ h => h) (fun hG => ⟨hG, trivial⟩) fun D ρ w hG hs => L_lss rfl rfl ⟨rfl, hs⟩
        · exact ob [3, 15] [] rfl rfl fun D ρ w hs => L_andC (h' := decide (cf (gd m2 j) (gd m2 (j - 1)) < 0)) rfl rfl rfl ⟨rfl, hs⟩
        rintro ρ1 w5 ρ2 hρ hs
        replace hρ : ρ2 = upd (mix [18, 19, 20, 21, 22, 23, 24, 25, 26, 27, 28, 29, 30, 31, 32, 33, 34] ρ1 _) 34 (.bool ((decide (((lo : Nat) : Int) < ((j : Nat) : Int))) && (decide (cf (gd m2 j) (gd m2 (j - 1)) < 0)))) := hρ
        subst hρ
        refine W_cond (t := (decide (((lo : Nat) : Int) < ((j : Nat) : Int))) && (decide (cf (gd m2 j) (gd m2 (j - 1)) < 0))) rfl (fun c6 => ?_) (fun c6 => ?_)
        ·
          have c6r := and_r c6
          replace c6 := and_l c6
          replace c6 := of_decide_eq_true c6
          replace c6r := of_decide_eq_true c6r
          refine W_skip ?_
          refine W_seq ?_
          refine W_block ?_
          refine W_regD HM [some 37, some 38, some 39, some 40, some 41, some 42, some 43, some 44, some 45, some 46, some 47, some 48, some 49, some 50, some 51, none, some 52, none] [] [0, 0, 0, 0, 8, 0, 0, 64, 224, 480, 0, 0, 3072, 7168, 16355, 32739, 65535, 131071] [pv (.slice a N c), pv (.int .i64 ((j : Nat) : Int)), pv (.slice a N c), pv (.int .i64 ((j : Nat) : Int)), pv (.int .i64 ((j - 1 : Nat) : Int)), pv (.slice a N c), pv (.int .i64 ((j : Nat) : Int)), pv (.int .i64 ((j - 1 : Nat) : Int)), pv (.pointer (some ⟨bkS (.slice a N c), ofS (.slice a N c) + ((j - 1 : Nat) : Int).toNat * 7, none⟩)), pv (.agg (cec (gd m2 (j - 1))).toArray), pv (.slice a N c), pv (.int .i64 ((j : Nat) : Int)), pv (.pointer (some ⟨bkS (.slice a N c), ofS (.slice a N c) + ((j : Nat) : Int).toNat * 7, none⟩)), pv (.agg (cec (gd m2 j)).toArray), pv (.pointer (some ⟨bkS (.slice a N c), ofS (.slice a N c) + ((j : Nat) : Int).toNat * 7, none⟩)), pn, pv (.pointer (some ⟨bkS (.slice a N c), ofS (.slice a N c) + ((j - 1 : Nat) : Int).toNat * 7, none⟩)), pn] (fun D ρ => [cond (D 17) (row (.slice a N c) (((m2.set j (gd m2 (j - 1))).set (j - 1) (gd m2 j)).map cec) 128 7) (cond (D 15) (row (.slice a N c) ((m2.set j (gd m2 (j - 1))).map cec) 128 7) (row (.slice a N c) (m2.map cec) 128 7))]) [] (by kernel_rfl) hs ⟨?_, ?_, ?_, ?_, ?_, ?_, ?_, ?_, ?_, ?_, ?_, ?_, ?_, ?_, ?_, ?_, ?_, ?_, trivial⟩ ?_
          · exact ob [] [] rfl rfl fun D ρ w hs => L_move (V := .slice a N c) rfl ⟨rfl, hs⟩
          · exact ob [] [] rfl rfl fun D ρ w hs => L_move (V := .int .i64 ((j : Nat) : Int)) rfl ⟨rfl, hs⟩
          · exact ob [] [] rfl rfl fun D ρ w hs => L_move (V := .slice a N c) rfl ⟨rfl, hs⟩
          · exact ob [] [] rfl rfl fun D ρ w hs => L_move (V := .int .i64 ((j : Nat) : Int)) rfl ⟨rfl, hs⟩
          · exact ob [3] [] rfl rfl fun D ρ w hs => L_sub (a := ((j : Nat) : Int)) (b := 1) (c := ((j - 1 : Nat) : Int)) rfl rfl (nat_i64 (by omega) (by omega)) ⟨rfl, hs⟩
          · exact ob [] [] rfl rfl fun D ρ w hs => L_move (V := .slice a N c) rfl ⟨rfl, hs⟩
          · exact ob [] [] rfl rfl fun D ρ w hs => L_move (V := .int .i64 ((j : Nat) : Int)) rfl ⟨rfl, hs⟩
          · exact ob [6] [] rfl rfl fun D ρ w hs => L_sub (a := ((j : Nat) : Int)) (b := 1) (c := ((j - 1 : Nat) : Int)) rfl rfl (nat_i64 (by omega) (by omega)) ⟨rfl, hs⟩
          · exact ob [5, 7] [15, 17] rfl rfl fun D ρ w hs => L_ixR UD_59 SA_128.1 (hs.rd 0 rfl) rfl rfl (by omega) (by rw [List.length_map]; omega) ⟨rfl, hs⟩
          · exact ob [8] [15, 17] rfl rfl fun D ρ w hs => L_ldRA (j := 0) (vs := cec (gd m2 (j - 1))) (j - 1) SA_128 (hs.rd 0 rfl) (gd_at (by omega)) rfl rfl rfl (by omega) ⟨rfl, hs⟩
          · exact ob [] [] rfl rfl fun D ρ w hs => L_move (V := .slice a N c) rfl ⟨rfl, hs⟩
          · exact ob [] [] rfl rfl fun D ρ w hs => L_move (V := .int .i64 ((j : Nat) : Int)) rfl ⟨rfl, hs⟩
          · exact ob [10, 11] [15, 17] rfl rfl fun D ρ w hs => L_ixR UD_59 SA_128.1 (hs.rd 0 rfl) rfl rfl (by omega) (by rw [List.length_map]; omega) ⟨rfl, hs⟩
          · exact ob [12] [15, 17] rfl rfl fun D ρ w hs => L_ldRA (j := 0) (vs := cec (gd m2 j)) j SA_128 (hs.rd 0 rfl) (gd_at (by omega)) rfl rfl rfl (by omega) ⟨rfl, hs⟩
          · exact ob [0, 1] [15, 17] rfl rfl fun D ρ w hs => L_ixR UD_59 SA_128.1 (hs.rd 0 rfl) rfl rfl (by omega) (by rw [List.length_map]; omega) ⟨rfl, hs⟩
          · exact ob [9, 14] [17] rfl rfl fun D ρ w hs => L_stE (z := gd m2 (j - 1)) j SA_128.1 hs 0 rfl rfl rfl (by first | omega | (simp only [List.length_set]; omega)) rfl rfl rfl (cec_one _) fun _ hs => ⟨trivial, hs⟩
          · exact ob [2, 4, 15] [17] rfl rfl fun D ρ w hs => L_ixR UD_59 SA_128.1 (hs.rd 0 rfl) rfl rfl (by omega) (by simp only [List.length_map, List.length_set]; omega) ⟨rfl, hs⟩
          · exact ob [13, 15, 16] [] rfl rfl fun D ρ w hs => L_stE (z := gd m2 j) (j - 1) SA_128.1 hs 0 rfl rfl rfl (by first | omega | (simp only [List.length_set]; omega)) rfl rfl rfl (cec_one _) fun _ hs => ⟨trivial, hs⟩
          rintro ρ1 w9 ρ2 hρ hs
          replace hρ : ρ2 = mix [37, 38, 39, 40, 41, 42, 43, 44, 45, 46, 47, 48, 49, 50, 51, 52] ρ1 _ := hρ
          replace hs : Own w S w9 [row (.slice a N c) (((m2.set j (gd m2 (j - 1))).set (j - 1) (gd m2 j)).map cec) 128 7] := hs
          subst hρ
          replace hs : Own w S _ [row (.slice a N c) ((swL m2 j (j - 1)).map cec) 128 7] := hs.take 1
          refine W_region ?_
          refine RW_op (L_move (V := .int .i64 ((j : Nat) : Int)) rfl ?_)
          refine RW_op (L_sub (a := ((j : Nat) : Int)) (b := 1) (c := ((j - 1 : Nat) : Int)) rfl rfl (nat_i64 (by omega) (by omega)) ?_)
          refine RW_op (L_assign (V := .int .i64 ((j - 1 : Nat) : Int)) rfl ?_)
          refine RW_nil ?_
          refine ⟨_, ?_, _, j - 1, swL m2 j (j - 1), upd_of (mix_of (ds := [9, 18, 19, 20, 21, 22, 23, 24, 25, 26, 27, 28, 29, 30, 31, 32, 33, 34, 35, 36, 37, 38, 39, 40, 41, 42, 43, 44, 45, 46, 47, 48, 49, 50, 51, 52]) (by repeat (first | exact Agr.refl _ _ | refine Agr.upd ?_ rfl | refine Agr.mix ?_ rfl))) rfl, (by omega), (by omega), (by rw [swL_len]; exact hz2), (hpm2.trans (perm_sw (by omega) (by omega) (by omega) (by omega) (by omega))), (ins_next hc hin (by omega) (by omega) (by omega) c6r), rfl, hs.take 1⟩
          omega
        ·
          refine W_exit ?_
          have hor2 : OrdSeg cf m2 lo (k + 1) := ins_end hc hin hj0 (by
            have ht := c6
            rcases Nat.lt_or_ge lo j with q | q
            · right; intro h; simp [q, h] at ht
            · left; omega)
          refine W_region ?_
          refine RW_op (L_move (V := .int .i64 ((k : Nat) : Int)) rfl ?_)
          refine RW_op (L_add (a := ((k : Nat) : Int)) (b := 1) (c := ((k + 1 : Nat) : Int)) rfl rfl (nat_i64 (by omega) (by omega)) ?_)
          refine RW_op (L_assign (V := .int .i64 ((k + 1 : Nat) : Int)) rfl ?_)
          refine RW_nil ?_
          refine ⟨_, ?_, _, k + 1, m2, upd_of (mix_of (ds := [8, 9, 12, 13, 14, 15, 16, 17, 18, 19, 20, 21, 22, 23, 24, 25, 26, 27, 28, 29, 30, 31, 32, 33, 34, 35, 36, 37, 38, 39, 40, 41, 42, 43, 44, 45, 46, 47, 48, 49, 50, 51, 52]) (by repeat (first | exact Agr.refl _ _ | refine Agr.upd ?_ rfl | refine Agr.mix ?_ rfl))) rfl, (by omega), (by omega), hz2, hpm2, hor2, rfl, hs.take 1⟩
          omega
    ·
      replace c2 := of_decide_eq_false c2
      refine W_exit ?_
      refine ⟨_, res_none Try.results125, ?_⟩
      refine ⟨m, rfl, hs.take 1, hz1, hpm, ?_⟩
      rcases Nat.lt_or_ge k hi with q | q
      · omega
      · exact hor.sub (Nat.le_refl _) q
end Tt
end Go.Proofs
namespace Go.Proofs
open Go Go.Vx Go.RowKit
namespace Tt
set_option maxRecDepth 20000 in
set_option maxHeartbeats 4000000 in
theorem srS_ok (w : World) (S : Nat → Prop) (a : Option Addr) (N c : Nat) (l : List Cen) (hz : l.length = N) (hN : N ≤ 2305843009213693951) (p q n : Nat) (hp : p + n ≤ N) (hq : q + n ≤ N) (g : Nat) (hg : En Try.prog g) (cf : Cen → Cen → Int) (hc : CmpO cf) (hcmp : ∀ (w : World) (x y : Cen), Calls Try.prog g #[.agg (cec x).toArray, .agg (cec y).toArray] w (fun e w' => e = .returned (.int .i64 (cf x y)) ∧ Own w no w' [])) (hR : (row (.slice a N c) (l.map cec) 128 7).holds w S) (hlt : ∀ b, S b → b < w.heap.size) : Calls Try.prog 168 #[.slice a N c, .int .i64 ((p : Nat) : Int), .int .i64 ((q : Nat) : Int), .int .i64 ((n : Nat) : Int), .func (.func g) #[] #[]] w (fun e w' => ∃ x : List Cen, e = .returned (.tuple #[]) ∧ Own w S w' [row (.slice a N c) (x.map cec) 128 7] ∧ (x.length = N ∧ x = swN l p q n)) := by
  refine calls_of_Wn (n := 38) Try.func168 rfl Try.ntmps168 rfl ?_
  have hs := Own.lent hR hlt
  refine W_seq ?_
  refine W_region ?_
  refine RW_op (L_assign (V := .int .i64 0) rfl ?_)
  refine RW_nil ?_
  refine W_block ?_
  refine W_loopI (fun ρ μ ρ' w' => ∃ (ρo : Env) (k : Nat) (m : List Cen), ρ' = upd (mix [10, 11, 12, 13, 14, 15, 16, 17, 18, 19, 20, 21, 22, 23, 24, 25, 26, 27, 28, 29, 30, 31, 32, 33, 34, 35, 36, 37] ρo ρ) 10 (.int .i64 ((k : Nat) : Int)) ∧ (k ≤ n) ∧ (m.length = N) ∧ (m = swN l p q k) ∧ μ = n - k ∧ Own w S w' [row (.slice a N c) (m.map cec) 128 7]) ?_ ?_
  · exact ⟨_, _, 0, l, upd_of (mix_of (ds := [10, 11, 12, 13, 14, 15, 16, 17, 18, 19, 20, 21, 22, 23, 24, 25, 26, 27, 28, 29, 30, 31, 32, 33, 34, 35, 36, 37]) (Agr.refl _ _)) rfl, (Nat.zero_le _), hz, rfl, rfl, hs⟩
  · rintro μ ρ' w1 ⟨ρo, k, m, rfl, hk, hz1, hm, rfl, hs⟩
    refine W_seq ?_
    refine W_seq ?_
    refine W_region ?_
    refine RW_op (L_move (V := .int .i64 ((k : Nat) : Int)) rfl ?_)
    refine RW_op (L_move (V := .int .i64 ((n : Nat) : Int)) rfl ?_)
    refine RW_op (L_lss rfl rfl ?_)
    refine RW_nil ?_
    refine W_cond (t := decide (((k : Nat) : Int) < ((n : Nat) : Int))) rfl (fun c2 => ?_) (fun c2 => ?_)
    ·
      replace c2 := of_decide_eq_true c2
      refine W_skip ?_
      refine W_seq ?_
      refine W_block ?_
      refine W_regD HM [some 16, some 17, some 18, some 19, some 20, some 21, some 22, some 23, some 24, some 25, some 26, some 27, some 28, some 29, some 30, some 31, some 32, some 33, some 34, some 35, some 36, none, some 37, none] [] [0, 0, 0, 6, 0, 0, 0, 96, 0, 0, 0, 1536, 3840, 7936, 0, 0, 0, 98304, 245760, 507904, 1048335, 2096911, 4194303, 8388607] [pv (.slice a N c), pv (.int .i64 ((p : Nat) : Int)), pv (.int .i64 ((k : Nat) : Int)), pv (.int .i64 ((p + k : Nat) : Int)), pv (.slice a N c), pv (.int .i64 ((q : Nat) : Int)), pv (.int .i64 ((k : Nat) : Int)), pv (.int .i64 ((q + k : Nat) : Int)), pv (.slice a N c), pv (.int .i64 ((q : Nat) : Int)), pv (.int .i64 ((k : Nat) : Int)), pv (.int .i64 ((q + k : Nat) : Int)), pv (.pointer (some ⟨bkS (.slice a N c), ofS (.slice a N c) + ((q + k : Nat) : Int).toNat * 7, none⟩)), pv (.agg (cec (gd m (q + k))).toArray), pv (.slice a N c), pv (.int .i64 ((p : Nat) : Int)), pv (.int .i64 ((k : Nat) : Int)), pv (.int .i64 ((p + k : Nat) : Int)), pv (.pointer (some ⟨bkS (.slice a N c), ofS (.slice a N c) + ((p + k : Nat) : Int).toNat * 7, none⟩)), pv (.agg (cec (gd m (p + k))).toArray), pv (.pointer (some ⟨bkS (.slice a N c), ofS (.slice a N c) + ((p + k : Nat) : Int).toNat * 7, none⟩)), pn, pv (.pointer (some ⟨bkS (.slice a N c), ofS (.slice a N c) + ((q + k : Nat) : Int).toNat * 7, none⟩)), pn] (fun D ρ => [cond (D 23) (row (.slice a N c) (((m.set (p + k) (gd m (q + k))).set (q + k) (gd m (p + k))).map cec) 128 7) (cond (D 21) (row (.slice a N c) ((m.set (p + k) (gd m (q + k))).map cec) 128 7) (row (.slice a N c) (m.map cec) 128 7))]) [] (by kernel_rfl) hs ⟨?_, ?_, ?_, ?_, ?_, ?_, ?_, ?_, ?_, ?_, ?_, ?_, ?_, ?_, ?_, ?_, ?_, ?_, ?_, ?_, ?_, ?_, ?_, ?_, trivial⟩ ?_
      · exact ob [] [] rfl rfl fun D ρ w hs => L_move (V := .slice a N c) rfl ⟨rfl, hs⟩
      · exact ob [] [] rfl rfl fun D ρ w hs => L_move (V := .int .i64 ((p : Nat) : Int)) rfl ⟨rfl, hs⟩
      · exact ob [] [] rfl rfl fun D ρ w hs => L_move (V := .int .i64 ((k : Nat) : Int)) rfl ⟨rfl, hs⟩
      · exact ob [1, 2] [] rfl rfl fun D ρ w hs => L_add (a := ((p : Nat) : Int)) (b := ((k : Nat) : Int)) (c := ((p + k : Nat) : Int)) rfl rfl (nat_i64 (by omega) (by omega)) ⟨rfl, hs⟩
      · exact ob [] [] rfl rfl fun D ρ w hs => L_move (V := .slice a N c) rfl ⟨rfl, hs⟩
      · exact ob [] [] rfl rfl fun D ρ w hs => L_move (V := .int .i64 ((q : Nat) : Int)) rfl ⟨rfl, hs⟩
      · exact ob [] [] rfl rfl fun D ρ w hs => L_move (V := .int .i64 ((k : Nat) : Int)) rfl ⟨rfl, hs⟩
      · exact ob [5, 6] [] rfl rfl fun D ρ w hs => L_add (a := ((q : Nat) : Int)) (b := ((k : Nat) : Int)) (c := ((q + k : Nat) : Int)) rfl rfl (nat_i64 (by omega) (by omega)) ⟨rfl, hs⟩
      · exact ob [] [] rfl rfl fun D ρ w hs => L_move (V := .slice a N c) rfl ⟨rfl, hs⟩
      · exact ob [] [] rfl rfl fun D ρ w hs => L_move (V := .int .i64 ((q : Nat) : Int)) rfl ⟨rfl, hs⟩
      · exact ob [] [] rfl rfl fun D ρ w hs => L_move (V := .int .i64 ((k : Nat) : Int)) rfl ⟨rfl, hs⟩
      · exact ob [9, 10] [] rfl rfl fun D ρ w hs => L_add (a := ((q : Nat) : Int)) (b := ((k : Nat) : Int)) (c := ((q + k : Nat) : Int)) rfl rfl (nat_i64 (by omega) (by omega)) ⟨rfl, hs⟩
      · exact ob [8, 11] [21, 23] rfl rfl fun D ρ w hs => L_ixR UD_59 SA_128.1 (hs.rd 0 rfl) rfl rfl (by omega) (by rw [List.length_map]; omega) ⟨rfl, hs⟩
      · exact ob [12] [21, 23] rfl rfl fun D ρ w hs => L_ldRA (j := 0) (vs := cec (gd m (q + k))) (q + k) SA_128 (hs.rd 0 rfl) (gd_at (by omega)) rfl rfl rfl (by omega) ⟨rfl, hs⟩
      · exact ob [] [] rfl rfl fun D ρ w hs => L_move (V := .slice a N c) rfl ⟨rfl, hs⟩
      · exact ob [] [] rfl rfl fun D ρ w hs => L_move (V := .int .i64 ((p : Nat) : Int)) rfl ⟨rfl, hs⟩
      · exact ob [] [] rfl rfl fun D ρ w hs => L_move (V := .int .i64 ((k : Nat) : Int)) rfl ⟨rfl, hs⟩
      · exact ob [15, 16] [] rfl rfl fun D ρ w hs => L_add (a := ((p : Nat) : Int)) (b := ((k : Nat) : Int)) (c := ((p + k : Nat) : Int)) rfl rfl (nat_i64 (by omega) (by omega)) ⟨rfl, hs⟩
      · exact ob [14, 17] [21, 23] rfl rfl fun D ρ w hs => L_ixR UD_59 SA_128.1 (hs.rd 0 rfl) rfl rfl (by omega) (by rw [List.length_map]; omega) ⟨rfl, hs⟩
      · exact ob [18] [21, 23] rfl rfl fun D ρ w hs => L_ldRA (j := 0) (vs := cec (gd m (p + k))) (p + k) SA_128 (hs.rd 0 rfl) (gd_at (by omega)) rfl rfl rfl (by omega) ⟨rfl, hs⟩
      · exact ob [0, 3] [21, 23] rfl rfl fun D ρ w hs => L_ixR UD_59 SA_128.1 (hs.rd 0 rfl) rfl rfl (by omega) (by rw [List.length_map]; omega) ⟨rfl, hs⟩
      · exact ob [13, 20] [23] rfl rfl fun D ρ w hs => L_stE (z := gd m (q + k)) (p + k) SA_128.1 hs 0 rfl rfl rfl (by first | omega | (simp only [List.length_set]; omega)) rfl rfl rfl (cec_one _) fun _ hs => ⟨trivial, hs⟩
      · exact ob [4, 7, 21] [23] rfl rfl fun D ρ w hs => L_ixR UD_59 SA_128.1 (hs.rd 0 rfl) rfl rfl (by omega) (by simp only [List.length_map, List.length_set]; omega) ⟨rfl, hs⟩
      · exact ob [19, 21, 22] [] rfl rfl fun D ρ w hs => L_stE (z := gd m (p + k)) (q + k) SA_128.1 hs 0 rfl rfl rfl (by first | omega | (simp only [List.length_set]; omega)) rfl rfl rfl (cec_one _) fun _ hs => ⟨trivial, hs⟩
      rintro ρ1 w5 ρ2 hρ hs
      replace hρ : ρ2 = mix [16, 17, 18, 19, 20, 21, 22, 23, 24, 25, 26, 27, 28, 29, 30, 31, 32, 33, 34, 35, 36, 37] ρ1 _ := hρ
      replace hs : Own w S w5 [row (.slice a N c) (((m.set (p + k) (gd m (q + k))).set (q + k) (gd m (p + k))).map cec) 128 7] := hs
      subst hρ
      replace hs : Own w S _ [row (.slice a N c) ((swL m (p + k) (q + k)).map cec) 128 7] := hs.take 1
      refine W_region ?_
      refine RW_op (L_move (V := .int .i64 ((k : Nat) : Int)) rfl ?_)
      refine RW_op (L_add (a := ((k : Nat) : Int)) (b := 1) (c := ((k + 1 : Nat) : Int)) rfl rfl (nat_i64 (by omega) (by omega)) ?_)
      refine RW_op (L_assign (V := .int .i64 ((k + 1 : Nat) : Int)) rfl ?_)
      refine RW_nil ?_
      refine ⟨_, ?_, _, k + 1, swL m (p + k) (q + k), upd_of (mix_of (ds := [10, 11, 12, 13, 14, 15, 16, 17, 18, 19, 20, 21, 22, 23, 24, 25, 26, 27, 28, 29, 30, 31, 32, 33, 34, 35, 36, 37]) (by repeat (first | exact Agr.refl _ _ | refine Agr.upd ?_ rfl | refine Agr.mix ?_ rfl))) rfl, (by omega), (by rw [swL_len]; exact hz1), (by rw [swN_succ, ← hm]), rfl, hs.take 1⟩
      omega
    ·
      replace c2 := of_decide_eq_false c2
      refine W_exit ?_
      refine ⟨_, res_none Try.results168, ?_⟩
      exact ⟨m, rfl, hs.take 1, hz1, by rw [hm, show k = n by omega]⟩
set_option maxRecDepth 20000 in
set_option maxHeartbeats 4000000 in
theorem rtS_ok (w : World) (S : Nat → Prop) (a : Option Addr) (N c : Nat) (l : List Cen) (hz : l.length = N) (hN : N ≤ 2305843009213693951) (lo mid hi : Nat) (h1 : lo < mid) (h2 : mid < hi) (h3 : hi ≤ N) (g : Nat) (hg : En Try.prog g) (cf : Cen → Cen → Int) (hc : CmpO cf) (hcmp : ∀ (w : World) (x y : Cen), Calls Try.prog g #[.agg (cec x).toArray, .agg (cec y).toArray] w (fun e w' => e = .returned (.int .i64 (cf x y)) ∧ Own w no w' [])) (hR : (row (.slice a N c) (l.map cec) 128 7).holds w S) (hlt : ∀ b, S b → b < w.heap.size) : Calls Try.prog 159 #[.slice a N c, .int .i64 ((lo : Nat) : Int), .int .i64 ((mid : Nat) : Int), .int .i64 ((hi : Nat) : Int), .func (.func g) #[] #[]] w (fun e w' => ∃ x : List Cen, e = .returned (.tuple #[]) ∧ Own w S w' [row (.slice a N c) (x.map cec) 128 7] ∧ (x.length = N ∧ RotSeg l x lo mid hi)) := by
  refine calls_of_Wn (n := 58) Try.func159 rfl Try.ntmps159 rfl ?_
  have hs := Own.lent hR hlt
  obtain ⟨t, hrt, hro0⟩ := rotTo_start (l := l) (a := lo) (m := mid) (b := hi) (by omega) (by omega) (by omega)
  refine W_seq ?_
  refine W_region ?_
  refine RW_op (L_move (V := .int .i64 ((mid : Nat) : Int)) rfl ?_)
  refine RW_op (L_move (V := .int .i64 ((lo : Nat) : Int)) rfl ?_)
  refine RW_op (L_sub (a := ((mid : Nat) : Int)) (b := ((lo : Nat) : Int)) (c := ((mid - lo : Nat) : Int)) rfl rfl (nat_i64 (by omega) (by omega)) ?_)
  refine RW_op (L_assign (V := .int .i64 ((mid - lo : Nat) : Int)) rfl ?_)
  refine RW_nil ?_
  refine W_seq ?_
  refine W_region ?_
  refine RW_op (L_move (V := .int .i64 ((hi : Nat) : Int)) rfl ?_)
  refine RW_op (L_move (V := .int .i64 ((mid : Nat) : Int)) rfl ?_)
  refine RW_op (L_sub (a := ((hi : Nat) : Int)) (b := ((mid : Nat) : Int)) (c := ((hi - mid : Nat) : Int)) rfl rfl (nat_i64 (by omega) (by omega)) ?_)
  refine RW_op (L_assign (V := .int .i64 ((hi - mid : Nat) : Int)) rfl ?_)
  refine RW_nil ?_
  refine W_seq ?_
  refine W_block ?_
  refine W_loopI (fun ρ μ ρ' w' => ∃ (ρo : Env) (i : Nat) (j : Nat) (m : List Cen), ρ' = upd (upd (mix [10, 11, 18, 19, 20, 21, 22, 23, 24, 25, 26, 27, 28, 29, 30, 31, 32, 33, 34, 35, 36, 37, 38, 39, 40, 41, 42, 43, 44, 45, 46, 47, 48, 49] ρo ρ) 10 (.int .i64 ((i : Nat) : Int))) 11 (.int .i64 ((j : Nat) : Int)) ∧ (0 < i) ∧ (0 < j) ∧ (m.length = N) ∧ (RotTo m t mid i j) ∧ μ = i + j ∧ Own w S w' [row (.slice a N c) (m.map cec) 128 7]) ?_ ?_
  · exact ⟨_, _, mid - lo, hi - mid, l, upd_of (upd_of (mix_of (ds := [10, 11, 18, 19, 20, 21, 22, 23, 24, 25, 26, 27, 28, 29, 30, 31, 32, 33, 34, 35, 36, 37, 38, 39, 40, 41, 42, 43, 44, 45, 46, 47, 48, 49]) (Agr.refl _ _)) rfl) rfl, (by omega), (by omega), hz, hro0, rfl, hs⟩
  · rintro μ ρ' w1 ⟨ρo, i, j, m, rfl, hi0, hj0, hz1, hro, rfl, hs⟩
    have hrl := rotTo_len hro
    refine W_seq ?_
    refine W_seq ?_
    refine W_region ?_
    refine RW_op (L_move (V := .int .i64 ((i : Nat) : Int)) rfl ?_)
    refine RW_op (L_move (V := .int .i64 ((j : Nat) : Int)) rfl ?_)
    refine RW_op (L_neq rfl rfl ?_)
    refine RW_nil ?_
    refine W_cond (t := !decide (((i : Nat) : Int) = ((j : Nat) : Int))) rfl (fun c2 => ?_) (fun c2 => ?_)
    ·
      replace c2 := not_t c2
      replace c2 := of_decide_eq_false c2
      refine W_skip ?_
      refine W_block ?_
      refine W_seq ?_
      refine W_region ?_
      refine RW_op (L_move (V := .int .i64 ((i : Nat) : Int)) rfl ?_)
      refine RW_op (L_move (V := .int .i64 ((j : Nat) : Int)) rfl ?_)
      refine RW_op (L_gtr rfl rfl ?_)
      refine RW_nil ?_
      refine W_cond (t := decide (((j : Nat) : Int) < ((i : Nat) : Int))) rfl (fun c3 => ?_) (fun c3 => ?_)
      ·
        replace c3 := of_decide_eq_true c3
        refine W_seq ?_
        refine W_region ?_
        refine RW_op (L_move (V := .slice a N c) rfl ?_)
        refine RW_op (L_move (V := .int .i64 ((mid : Nat) : Int)) rfl ?_)
        refine RW_op (L_move (V := .int .i64 ((i : Nat) : Int)) rfl ?_)
        refine RW_op (L_sub (a := ((mid : Nat) : Int)) (b := ((i : Nat) : Int)) (c := ((mid - i : Nat) : Int)) rfl rfl (nat_i64 (by omega) (by omega)) ?_)
        refine RW_op (L_move (V := .int .i64 ((mid : Nat) : Int)) rfl ?_)
        refine RW_op (L_move (V := .int .i64 ((j : Nat) : Int)) rfl ?_)
        refine RW_op (L_move (V := .func (.func g) #[] #[]) rfl ?_)
        refine RW_op (L_callB (α := List Cen) (vs := [.slice a N c, .int .i64 ((mid - i : Nat) : Int), .int .i64 ((mid : Nat) : Int), .int .i64 ((j : Nat) : Int), .func (.func g) #[] #[]]) (V := fun _ => .tuple #[]) (R := row (.slice a N c) (m.map cec) 128 7) (R' := fun x => row (.slice a N c) (x.map cec) 128 7) (Lo := fun _ => []) (F := fun x _ => x.length = N ∧ x = swN m (mid - i) mid j) EN_168 rfl rfl hs 0 rfl (fun S hS hlt => srS_ok _ S a N c m (by first | assumption | omega) hN (mid - i) mid j (by omega) (by omega) g hg cf hc hcmp hS hlt) fun mz4 w5 hs hF6 => ?_)
        refine RW_nil ?_
        refine W_region ?_
        refine RW_op (L_move (V := .int .i64 ((i : Nat) : Int)) rfl ?_)
        refine RW_op (L_move (V := .int .i64 ((j : Nat) : Int)) rfl ?_)
        refine RW_op (L_sub (a := ((i : Nat) : Int)) (b := ((j : Nat) : Int)) (c := ((i - j : Nat) : Int)) rfl rfl (nat_i64 (by omega) (by omega)) ?_)
        refine RW_op (L_assign (V := .int .i64 ((i - j : Nat) : Int)) rfl ?_)
        refine RW_nil ?_
        refine ⟨_, ?_, _, i - j, j, mz4, upd_of (upd_of (mix_of (ds := [10, 11, 18, 19, 20, 21, 22, 23, 24, 25, 26, 27, 28, 29, 30, 31, 32, 33, 34, 35, 36, 37, 38, 39, 40, 41, 42, 43, 44, 45, 46, 47, 48, 49]) (by repeat (first | exact Agr.refl _ _ | refine Agr.upd ?_ rfl | refine Agr.mix ?_ rfl))) rfl) rfl, (by omega), (by omega), hF6.1, (by rw [hF6.2]; exact rotTo_gt hro (by omega)), rfl, hs.take 1⟩
        omega
      ·
        replace c3 := of_decide_eq_false c3
        refine W_seq ?_
        refine W_region ?_
        refine RW_op (L_move (V := .slice a N c) rfl ?_)
        refine RW_op (L_move (V := .int .i64 ((mid : Nat) : Int)) rfl ?_)
        refine RW_op (L_move (V := .int .i64 ((i : Nat) : Int)) rfl ?_)
        refine RW_op (L_sub (a := ((mid : Nat) : Int)) (b := ((i : Nat) : Int)) (c := ((mid - i : Nat) : Int)) rfl rfl (nat_i64 (by omega) (by omega)) ?_)
        refine RW_op (L_move (V := .int .i64 ((mid : Nat) : Int)) rfl ?_)
        refine RW_op (L_move (V := .int .i64 ((j : Nat) : Int)) rfl ?_)
        refine RW_op (L_add (a := ((mid : Nat) : Int)) (b := ((j : Nat) : Int)) (c := ((mid + j : Nat) : Int)) rfl rfl (nat_i64 (by omega) (by omega)) ?_)
        refine RW_op (L_move (V := .int .i64 ((i : Nat) : Int)) rfl ?_)
        refine RW_op (L_sub (a := ((mid + j : Nat) : Int)) (b := ((i : Nat) : Int)) (c := (((mid + j) - i : Nat) : Int)) rfl rfl (nat_i64 (by omega) (by omega)) ?_)
        refine RW_op (L_move (V := .int .i64 ((i : Nat) : Int)) rfl ?_)
        refine RW_op (L_move (V := .func (.func g) #[] #[]) rfl ?_)
        refine RW_op (L_callB (α := List Cen) (vs := [.slice a N c, .int .i64 ((mid - i : Nat) : Int), .int .i64 (((mid + j) - i : Nat) : Int), .int .i64 ((i : Nat) : Int), .func (.func g) #[] #[]]) (V := fun _ => .tuple #[]) (R := row (.slice a N c) (m.map cec) 128 7) (R' := fun x => row (.slice a N c) (x.map cec) 128 7) (Lo := fun _ => []) (F := fun x _ => x.length = N ∧ x = swN m (mid - i) ((mid + j) - i) i) EN_168 rfl rfl hs 0 rfl (fun S hS hlt => srS_ok _ S a N c m (by first | assumption | omega) hN (mid - i) ((mid + j) - i) i (by omega) (by omega) g hg cf hc hcmp hS hlt) fun mz7 w8 hs hF9 => ?_)
        refine RW_nil ?_
        refine W_region ?_
        refine RW_op (L_move (V := .int .i64 ((j : Nat) : Int)) rfl ?_)
        refine RW_op (L_move (V := .int .i64 ((i : Nat) : Int)) rfl ?_)
        refine RW_op (L_sub (a := ((j : Nat) : Int)) (b := ((i : Nat) : Int)) (c := ((j - i : Nat) : Int)) rfl rfl (nat_i64 (by omega) (by omega)) ?_)
        refine RW_op (L_assign (V := .int .i64 ((j - i : Nat) : Int)) rfl ?_)
        refine RW_nil ?_
        refine ⟨_, ?_, _, i, j - i, mz7, upd_of (upd_of (mix_of (ds := [10, 11, 18, 19, 20, 21, 22, 23, 24, 25, 26, 27, 28, 29, 30, 31, 32, 33, 34, 35, 36, 37, 38, 39, 40, 41, 42, 43, 44, 45, 46, 47, 48, 49]) (by repeat (first | exact Agr.refl _ _ | refine Agr.upd ?_ rfl | refine Agr.mix ?_ rfl))) rfl) rfl, (by omega), (by omega), hF9.1, (by rw [hF9.2]; exact rotTo_lt hro (by omega)), rfl, hs.take 1⟩
        omega
    ·
      replace c2 := not_f c2
      replace c2 := of_decide_eq_true c2
      refine W_exit ?_
      have hrl := rotTo_len hro
      have hij : i = j := by omega
      refine W_region ?_
      refine RW_op (L_move (V := .slice a N c) rfl ?_)
      refine RW_op (L_move (V := .int .i64 ((mid : Nat) : Int)) rfl ?_)
      refine RW_op (L_move (V := .int .i64 ((i : Nat) : Int)) rfl ?_)
      refine RW_op (L_sub (a := ((mid : Nat) : Int)) (b := ((i : Nat) : Int)) (c := ((mid - i : Nat) : Int)) rfl rfl (nat_i64 (by omega) (by omega)) ?_)
      refine RW_op (L_move (V := .int .i64 ((mid : Nat) : Int)) rfl ?_)
      refine RW_op (L_move (V := .int .i64 ((i : Nat) : Int)) rfl ?_)
      refine RW_op (L_move (V := .func (.func g) #[] #[]) rfl ?_)
      refine RW_op (L_callB (α := List Cen) (vs := [.slice a N c, .int .i64 ((mid - i : Nat) : Int), .int .i64 ((mid : Nat) : Int), .int .i64 ((i : Nat) : Int), .func (.func g) #[] #[]]) (V := fun _ => .tuple #[]) (R := row (.slice a N c) (m.map cec) 128 7) (R' := fun x => row (.slice a N c) (x.map cec) 128 7) (Lo := fun _ => []) (F := fun x _ => x.length = N ∧ x = swN m (mid - i) mid i) EN_168 rfl rfl hs 0 rfl (fun S hS hlt => srS_ok _ S a N c m (by first | assumption | omega) hN (mid - i) mid i (by omega) (by omega) g hg cf hc hcmp hS hlt) fun mz10 w11 hs hF12 => ?_)
      refine RW_nil ?_
      refine ⟨_, res_none Try.results159, ?_⟩
      have hxt : mz10 = t := by rw [hF12.2]; exact rotTo_eq hro (by omega)
      rw [hxt] at hs
      exact ⟨t, rfl, hs.take 1, by rw [← hxt]; exact hF12.1, hrt⟩
end Tt
end Go.Proofs
