/- A part of a proof: what functions of the program compute, and plain facts on that. -/
import Derived.Test.YtnanhhiofnohbaaVtS
namespace Go.Proofs
open Go Go.Vx Go.RowKit
namespace Tt
set_option maxRecDepth 20000 in
theorem BT_31 : Bt Try.prog 31 [(0, 16), (16, 1)] ((vc vzero) ++ [(.slice none 0 0 : Value) ]) := Bt_struct Try.type31 rfl rfl Try.underlying31 (by kernel_rfl)
theorem EN_20 : En Try.prog 20 := Try.call20
theorem EN_26 : En Try.prog 26 := Try.call26
theorem EN_28 : En Try.prog 28 := Try.call28
theorem rAdd2_ok (w : World) (S : Nat → Prop) (v : Vec) (a : Option Addr) (c : Nat) (l : List Dot) (d : Dot) (hv : VOk v) (hl : Dots l) (hd : DotOk d) (hlen : l.length ≤ 100000) (hR : (row (.slice a l.length c) (l.map dc) 34 2).holds w S) (hlt : ∀ b, S b → b < w.heap.size) :
    Calls Try.prog 20 #[.agg (vc v ++ [(.slice a l.length c : Value)]).toArray, .agg (dc d).toArray] w (fun e w' => ∃ x : Option Addr × Nat, e = .returned (.tuple #[.agg (vc v ++ [(.slice x.1 (addL v l d).length x.2 : Value)]).toArray, .int .i64 (addE v l d)]) ∧ Own w S w' [row (.slice x.1 (addL v l d).length x.2) ((addL v l d).map dc) 34 2] ∧ True) :=
  (rAdd_ok w v a c l d hv hl hd hlen (Rd.of_row hR)).mono fun e w' ⟨x, he, ho, hx⟩ => by
    refine ⟨x, he, ?_, trivial⟩
    by_cases h0 : addE v l d = 0
    · rw [decide_eq_true h0] at ho; exact ho.wk
    · have hL : addL v l d = l := by unfold addL; rw [if_neg h0]
      have h1 := hx h0
      subst h1
      rw [hL]
      exact ((Own.lent hR hlt).call ho).take 1
set_option maxRecDepth 20000 in
set_option maxHeartbeats 4000000 in
theorem dotsActs_yes (w : World) (v : Vec) (a : Option Addr) (c : Nat) (l : List Dot) (hv : VecOk v) (hl : ∀ d ∈ l, DotOk d) (hr : Rd w (.slice a l.length c) 2 (l.map dc)) (hsort : SortC Try.prog 64 51 dc 34 2 sortD) (hB : rightB v 16 = true) : Calls Try.prog 3 #[.agg (vc v).toArray, .slice a l.length c] w (fun e w' => e = .returned (.bool true) ∧ Own w no w' []) := by
  refine calls_of_Wn (n := 104) Try.func3 rfl Try.ntmps3 rfl ?_
  have hs := Own.start w
  have hn := hr.sml
  refine W_seq ?_
  refine W_region ?_
  refine RW_op (L_box (V := .agg (vc v).toArray) (cs := vc v) rfl rfl hs fun b1 w2 hs => ?_)
  refine RW_op (L_assign (V := .bool false) rfl ?_)
  refine RW_nil ?_
  refine W_seq ?_
  refine W_seq ?_
  refine W_region ?_
  refine RW_op (L_callP (vs := []) (V := .bool true) EN_15 rfl rfl (alive5_ok _ hsort) hs fun w3 hs => ?_)
  refine RW_op (L_not rfl ?_)
  refine RW_nil ?_
  refine W_condF rfl ?_
  refine W_skip ?_
  refine W_seq ?_
  refine W_region ?_
  refine RW_op (L_ldW (cs := vc v) SA_24 hs 0 rfl rfl rfl ?_)
  refine RW_op (L_callX (vs := [.agg (vc v).toArray]) EN_16 rfl rfl (gNew_yes _ v hv hB) hs fun x5 w4 hs _ => ?_)
  refine RW_op (L_assign (V := .pointer (some ⟨x5.1, 0, none⟩)) rfl ?_)
  refine RW_nil ?_
  refine W_seq ?_
  refine W_seq ?_
  refine W_region ?_
  refine RW_op (L_move (V := .pointer (some ⟨x5.1, 0, none⟩)) rfl ?_)
  refine RW_op (L_ptrnn UD_27 rfl rfl ?_)
  refine RW_op (L_ldW (cs := vc v) SA_24 hs 0 rfl rfl rfl ?_)
  refine RW_op (L_callP (vs := [.agg (vc v).toArray, .int .i64 16]) (V := .bool (rightB v 16)) EN_17 rfl rfl (rRight_ok _ v 16 (by first | assumption | exact vzero_ok)) hs fun w6 hs => ?_)
  refine RW_op (opW_to (V := .bool (!(true == (rightB v 16)))) (V' := .bool false) (L_neb UDR_4 rfl rfl ⟨rfl, rfl⟩) (congrArg Value.bool (by rw [hB]; rfl)) ?_)
  refine RW_nil ?_
  refine W_condF rfl ?_
  refine W_skip ?_
  refine W_seq ?_
  refine W_region ?_
  refine RW_op (L_ldW (cs := vc v) SA_24 hs 0 rfl rfl rfl ?_)
  refine RW_op (L_build (vs := [(0, .agg (vc v).toArray)]) (cs := (vc v) ++ [(.slice none 0 0 : Value) ]) BT_31 (rfl) rfl ?_)
  refine RW_op (L_alloc (cs := (vc vzero) ++ [(.slice none 0 0 : Value) ]) ZV_31 rfl hs fun b7 w8 hs => ?_)
  refine RW_op (L_st (V := .agg ((vc v) ++ [(.slice none 0 0 : Value) ]).toArray) (vs := (vc v) ++ [(.slice none 0 0 : Value) ]) (cs' := (vc v) ++ [(.slice none 0 0 : Value) ]) SA_31.1 hs 2 rfl rfl rfl rfl rfl (Nat.le_of_ble_eq_true rfl) (one_app (vc_one _) (one_cons rfl one_nil)) (spl_whole rfl) fun w9 hs => ?_)
  refine RW_nil ?_
  refine W_seq ?_
  refine W_seq ?_
  refine W_region ?_
  refine RW_op (L_assign (V := .int .i64 0) rfl ?_)
  refine RW_nil ?_
  refine W_block ?_
  replace hs := hs.more (row (.slice none 0 0) (List.map dc []) 34 2) (row_nil _ _ _ _)
  refine W_loopI (fun ρ m ρ' w' => ∃ (ρo : Env) (k : Nat) (g : Grp) (a1 : Option Addr) (c1 : Nat) (md : List Dot), ρ' = upd (mix [4, 7, 8, 9, 21, 22, 23, 24, 25, 26, 27, 28, 29, 30, 31, 32, 33, 34, 35, 36, 37, 38, 39, 40, 41, 42, 43, 44, 45, 46, 47, 48, 49, 50, 51, 52, 53, 54, 55, 56, 57, 58, 59, 60, 61, 62, 63, 64, 65, 66, 67, 68, 69, 70, 71, 72, 73, 74, 75, 76, 77, 78, 79, 80, 81, 82, 83, 84, 85, 86, 87, 88, 89, 90, 91, 92, 93, 94, 95, 96, 97, 98, 99, 100, 101, 102, 103] ρo ρ) 7 (.int .i64 (k : Int)) ∧ (k ≤ l.length) ∧ (k ≤ 60) ∧ (RelD g v md) ∧ (md.length ≤ k) ∧ (g.l.length ≤ k) ∧ m = l.length - k ∧ Own w no w' [blk b1 (vc v) 24, gR 52 x5.1 x5.2 g, blk b7 ((vc v) ++ [(.slice a1 md.length c1 : Value) ]) 31, row (.slice a1 md.length c1) (md.map dc) 34 2]) ?_ ?_
  · exact ⟨_, _, 0, (⟨v, []⟩ : Grp), none, 0, [], upd_of (mix_of (ds := [4, 7, 8, 9, 21, 22, 23, 24, 25, 26, 27, 28, 29, 30, 31, 32, 33, 34, 35, 36, 37, 38, 39, 40, 41, 42, 43, 44, 45, 46, 47, 48, 49, 50, 51, 52, 53, 54, 55, 56, 57, 58, 59, 60, 61, 62, 63, 64, 65, 66, 67, 68, 69, 70, 71, 72, 73, 74, 75, 76, 77, 78, 79, 80, 81, 82, 83, 84, 85, 86, 87, 88, 89, 90, 91, 92, 93, 94, 95, 96, 97, 98, 99, 100, 101, 102, 103]) (Agr.refl _ _)) rfl, (by omega), (by omega), (relD_new hv hB), (Nat.le_refl _), (Nat.le_refl _), rfl, hs⟩
  · rintro m ρ' w10 ⟨ρo, k, g, a1, c1, md, rfl, hk, hk60, hrel, hml, hgl, rfl, hs⟩
    have hvv := hrel.vv
    have hmd := hrel.dl
    refine W_seq ?_
    refine W_seq ?_
    refine W_inv2 [21, 22, 23, 24, 25, 26, 27, 28, 29, 30, 31, 32] [[], [0], [1], [2], [2], [4, 2], [3, 5, 2], [2, 6], [7, 2], [8], [9, 8], [8, 10]] (fun D ρ wx => Own w no wx [blk b1 (vc v) 24, gR 52 x5.1 x5.2 g, blk b7 ((vc v) ++ [(.slice a1 md.length c1 : Value) ]) 31, row (.slice a1 md.length c1) (md.map dc) 34 2] ∧ (D 0 = true → ρ 21 = .pointer (some ⟨x5.1, 0, none⟩)) ∧ (D 1 = true → ρ 22 = .bool true) ∧ (D 2 = true → ρ 23 = .bool true) ∧ (D 3 = true → ρ 24 = .int .i64 (k : Int)) ∧ (D 4 = true → ρ 25 = .slice a l.length c) ∧ (D 5 = true → ρ 26 = .int .i64 ((l.length : Nat) : Int)) ∧ (D 6 = true → ρ 27 = .bool (decide ((k : Int) < ((l.length : Nat) : Int)))) ∧ (D 7 = true → ρ 28 = .bool (decide ((k : Int) < ((l.length : Nat) : Int)))) ∧ (D 8 = true → ρ 29 = .bool (decide ((k : Int) < ((l.length : Nat) : Int)))) ∧ (D 9 = true → ρ 30 = cond ((decide ((k : Int) < ((l.length : Nat) : Int))) == true) (.int .i64 (k : Int)) undef) ∧ (D 10 = true → ρ 31 = cond ((decide ((k : Int) < ((l.length : Nat) : Int))) == true) (.bool (decide ((k : Int) < 60))) undef) ∧ (D 11 = true → ρ 32 = .bool ((decide ((k : Int) < ((l.length : Nat) : Int))) && (decide ((k : Int) < 60))))) rfl rfl rfl ⟨hs, fun h => absurd h Bool.false_ne_true, fun h => absurd h Bool.false_ne_true, fun h => absurd h Bool.false_ne_true, fun h => absurd h Bool.false_ne_true, fun h => absurd h Bool.false_ne_true, fun h => absurd h Bool.false_ne_true, fun h => absurd h Bool.false_ne_true, fun h => absurd h Bool.false_ne_true, fun h => absurd h Bool.false_ne_true, fun h => absurd h Bool.false_ne_true, fun h => absurd h Bool.false_ne_true, fun h => absurd h Bool.false_ne_true⟩ ⟨?_, ?_, ?_, ?_, ?_, ?_, ?_, ?_, ?_, ?_, ?_, ?_, trivial⟩ ?_
    · rintro D ρ wx hD hd hdc hf ⟨hs, f0, f1, f2, f3, f4, f5, f6, f7, f8, f9, f10, f11⟩
      have r5 : ρ 5 = .pointer (some ⟨x5.1, 0, none⟩) := outD hf 5 rfl
      exact .inl ⟨rfl, L_move (V := .pointer (some ⟨x5.1, 0, none⟩)) r5 ⟨hs, fun _ => rfl, f1, f2, f3, f4, f5, f6, f7, f8, f9, f10, f11⟩⟩
    · rintro D ρ wx hD hd hdc hf ⟨hs, f0, f1, f2, f3, f4, f5, f6, f7, f8, f9, f10, f11⟩
      have g0 := f0 (doneD hd 0 rfl)
      exact .inl ⟨rfl, L_ptrnn UD_27 g0 rfl ⟨hs, f0, fun _ => rfl, f2, f3, f4, f5, f6, f7, f8, f9, f10, f11⟩⟩
    · rintro D ρ wx hD hd hdc hf ⟨hs, f0, f1, f2, f3, f4, f5, f6, f7, f8, f9, f10, f11⟩
      have g1 := f1 (doneD hd 1 rfl)
      exact .inl ⟨rfl, L_move (V := .bool true) g1 ⟨hs, f0, f1, fun _ => rfl, f3, f4, f5, f6, f7, f8, f9, f10, f11⟩⟩
    · rintro D ρ wx hD hd hdc hf ⟨hs, f0, f1, f2, f3, f4, f5, f6, f7, f8, f9, f10, f11⟩
      have r7 : ρ 7 = .int .i64 (k : Int) := outD hf 7 rfl
      exact .inl ⟨(Eq.trans (wantG1 (j := 2) rfl (f2 (doneD hd 2 rfl))) rfl), L_move (V := .int .i64 (k : Int)) r7 ⟨hs, f0, f1, f2, fun _ => rfl, f4, f5, f6, f7, f8, f9, f10, f11⟩⟩
    · rintro D ρ wx hD hd hdc hf ⟨hs, f0, f1, f2, f3, f4, f5, f6, f7, f8, f9, f10, f11⟩
      have r1 : ρ 1 = .slice a l.length c := outD hf 1 rfl
      exact .inl ⟨(Eq.trans (wantG1 (j := 2) rfl (f2 (doneD hd 2 rfl))) rfl), L_move (V := .slice a l.length c) r1 ⟨hs, f0, f1, f2, f3, fun _ => rfl, f5, f6, f7, f8, f9, f10, f11⟩⟩
    · rintro D ρ wx hD hd hdc hf ⟨hs, f0, f1, f2, f3, f4, f5, f6, f7, f8, f9, f10, f11⟩
      have g4 := f4 (doneD hd 4 rfl)
      exact .inl ⟨(Eq.trans (wantG1 (j := 2) rfl (f2 (doneD hd 2 rfl))) rfl), L_lenR (n := l.length) UD_25 (Rd.own' hr hs) (by simp) g4 ⟨hs, f0, f1, f2, f3, f4, fun _ => rfl, f6, f7, f8, f9, f10, f11⟩⟩
    · rintro D ρ wx hD hd hdc hf ⟨hs, f0, f1, f2, f3, f4, f5, f6, f7, f8, f9, f10, f11⟩
      have g3 := f3 (doneD hd 3 rfl)
      have g5 := f5 (doneD hd 5 rfl)
      exact .inl ⟨(Eq.trans (wantG1 (j := 2) rfl (f2 (doneD hd 2 rfl))) rfl), L_lss g3 g5 ⟨hs, f0, f1, f2, f3, f4, f5, fun _ => rfl, f7, f8, f9, f10, f11⟩⟩
    · rintro D ρ wx hD hd hdc hf ⟨hs, f0, f1, f2, f3, f4, f5, f6, f7, f8, f9, f10, f11⟩
      have g2 := f2 (doneD hd 2 rfl)
      have g6 := f6 (doneD hd 6 rfl)
      exact .inl ⟨rfl, L_pick (V := .bool (decide ((k : Int) < ((l.length : Nat) : Int)))) g2 g6 ⟨hs, f0, f1, f2, f3, f4, f5, f6, fun _ => rfl, f8, f9, f10, f11⟩⟩
    · rintro D ρ wx hD hd hdc hf ⟨hs, f0, f1, f2, f3, f4, f5, f6, f7, f8, f9, f10, f11⟩
      have g7 := f7 (doneD hd 7 rfl)
      exact .inl ⟨rfl, L_move (V := .bool (decide ((k : Int) < ((l.length : Nat) : Int)))) g7 ⟨hs, f0, f1, f2, f3, f4, f5, f6, f7, fun _ => rfl, f9, f10, f11⟩⟩
    · rintro D ρ wx hD hd hdc hf ⟨hs, f0, f1, f2, f3, f4, f5, f6, f7, f8, f9, f10, f11⟩
      have r7 : ρ 7 = .int .i64 (k : Int) := outD hf 7 rfl
      rcases Bool.eq_false_or_eq_true ((decide ((k : Int) < ((l.length : Nat) : Int))) == true) with hG | hG
      rotate_left
      · exact .inr ⟨(Eq.trans (wantG1 (j := 8) rfl (f8 (doneD hd 8 rfl))) hG), ⟨hs, f0, f1, f2, f3, f4, f5, f6, f7, f8, fun _ => (condF hG).symm, f10, f11⟩⟩
      ·
        exact .inl ⟨(Eq.trans (wantG1 (j := 8) rfl (f8 (doneD hd 8 rfl))) hG), L_move (V := .int .i64 (k : Int)) r7 ⟨hs, f0, f1, f2, f3, f4, f5, f6, f7, f8, fun _ => (condT hG).symm, f10, f11⟩⟩
    · rintro D ρ wx hD hd hdc hf ⟨hs, f0, f1, f2, f3, f4, f5, f6, f7, f8, f9, f10, f11⟩
      have g9 := f9 (doneD hd 9 rfl)
      rcases Bool.eq_false_or_eq_true ((decide ((k : Int) < ((l.length : Nat) : Int))) == true) with hG | hG
      rotate_left
      · exact .inr ⟨(Eq.trans (wantG1 (j := 8) rfl (f8 (doneD hd 8 rfl))) hG), ⟨hs, f0, f1, f2, f3, f4, f5, f6, f7, f8, f9, fun _ => (condF hG).symm, f11⟩⟩
      ·
        exact .inl ⟨(Eq.trans (wantG1 (j := 8) rfl (f8 (doneD hd 8 rfl))) hG), L_lss ((g9).trans (condT (by exact hG))) rfl ⟨hs, f0, f1, f2, f3, f4, f5, f6, f7, f8, f9, fun _ => (condT hG).symm, f11⟩⟩
    · rintro D ρ wx hD hd hdc hf ⟨hs, f0, f1, f2, f3, f4, f5, f6, f7, f8, f9, f10, f11⟩
      have g8 := f8 (doneD hd 8 rfl)
      have g10 := f10 (doneD hd 10 rfl)
      exact .inl ⟨rfl, L_and g8 rfl (fun hg => ((g10).trans (condT (by first | exact beqT hg | rfl)))) ⟨hs, f0, f1, f2, f3, f4, f5, f6, f7, f8, f9, f10, fun _ => rfl⟩⟩
    · rintro ρ1 w1 D hD hf ⟨hs, f0, f1, f2, f3, f4, f5, f6, f7, f8, f9, f10, f11⟩
      have e11 := f11 (hD 11 rfl)
      clear f0 f1 f2 f3 f4 f5 f6 f7 f8 f9 f10 f11
      obtain ⟨ρ2, hρ⟩ : ∃ ρ2, ρ1 = upd (mix [21, 22, 23, 24, 25, 26, 27, 28, 29, 30, 31, 32] ρ2 _) 32 (.bool ((decide ((k : Int) < ((l.length : Nat) : Int))) && (decide ((k : Int) < 60)))) := ⟨ρ1, upd_of (mix_of (ds := [21, 22, 23, 24, 25, 26, 27, 28, 29, 30, 31, 32]) hf) e11⟩
      clear hf hD e11
      subst hρ
      refine W_cond (t := (decide ((k : Int) < ((l.length : Nat) : Int))) && (decide ((k : Int) < 60))) rfl (fun c12 => ?_) (fun c12 => ?_)
      ·
        have c12r := and_r c12
        replace c12 := and_l c12
        replace c12 := of_decide_eq_true c12
        replace c12r := of_decide_eq_true c12r
        refine W_skip ?_
        refine W_seq ?_
        refine W_block ?_
        refine W_seq ?_
        refine W_seq ?_
        have hdk := hl _ (gd_mem (l := l) (i := k) (by omega))
        have hv0 := hv
        have hhas := hrel.has hdk
        replace hs := hs.drew
        refine W_draw2 HM [35, 36, 37, 38, 39, 40, 41, 42, 43, 44, 45, 46, 47] [[], [], [], [1, 2], [3], [0, 4], [], [], [], [7, 8], [9], [6, 10, 5], [5, 11]] (fun D ρ wx => Own w no wx [blk b1 (vc v) 24, gR 52 x5.1 x5.2 g, blk b7 ((vc v) ++ [(.slice a1 md.length c1 : Value) ]) 31, row (.slice a1 md.length c1) (md.map dc) 34 2] ∧ (D 0 = true → ρ 35 = .pointer (some ⟨x5.1, 0, none⟩)) ∧ (D 1 = true → ρ 36 = .slice a l.length c) ∧ (D 2 = true → ρ 37 = .int .i64 (k : Int)) ∧ (D 3 = true → ρ 38 = .pointer (some ⟨bkS (.slice a l.length c), ofS (.slice a l.length c) + (k : Int).toNat * 2, none⟩)) ∧ (D 4 = true → ρ 39 = .agg (dc (gd l k)).toArray) ∧ (D 5 = true → ρ 40 = .bool (gHas g (gd l k))) ∧ (D 6 = true → ρ 41 = .agg ((vc v) ++ [(.slice a1 md.length c1 : Value) ]).toArray) ∧ (D 7 = true → ρ 42 = .slice a l.length c) ∧ (D 8 = true → ρ 43 = .int .i64 (k : Int)) ∧ (D 9 = true → ρ 44 = .pointer (some ⟨bkS (.slice a l.length c), ofS (.slice a l.length c) + (k : Int).toNat * 2, none⟩)) ∧ (D 10 = true → ρ 45 = .agg (dc (gd l k)).toArray) ∧ (D 11 = true → ρ 46 = .bool (hasG v md (gd l k))) ∧ (D 12 = true → ρ 47 = .bool false)) rfl rfl rfl ⟨hs, fun h => absurd h Bool.false_ne_true, fun h => absurd h Bool.false_ne_true, fun h => absurd h Bool.false_ne_true, fun h => absurd h Bool.false_ne_true, fun h => absurd h Bool.false_ne_true, fun h => absurd h Bool.false_ne_true, fun h => absurd h Bool.false_ne_true, fun h => absurd h Bool.false_ne_true, fun h => absurd h Bool.false_ne_true, fun h => absurd h Bool.false_ne_true, fun h => absurd h Bool.false_ne_true, fun h => absurd h Bool.false_ne_true, fun h => absurd h Bool.false_ne_true⟩ ⟨?_, ?_, ?_, ?_, ?_, ?_, ?_, ?_, ?_, ?_, ?_, ?_, ?_, trivial⟩ ?_
        · rintro D ρ wx hD hd hdc hf ⟨hs, f0, f1, f2, f3, f4, f5, f6, f7, f8, f9, f10, f11, f12⟩
          have r5 : ρ 5 = .pointer (some ⟨x5.1, 0, none⟩) := outD hf 5 rfl
          exact .inl ⟨rfl, L_move (V := .pointer (some ⟨x5.1, 0, none⟩)) r5 ⟨hs, fun _ => rfl, f1, f2, f3, f4, f5, f6, f7, f8, f9, f10, f11, f12⟩⟩
        · rintro D ρ wx hD hd hdc hf ⟨hs, f0, f1, f2, f3, f4, f5, f6, f7, f8, f9, f10, f11, f12⟩
          have r1 : ρ 1 = .slice a l.length c := outD hf 1 rfl
          exact .inl ⟨rfl, L_move (V := .slice a l.length c) r1 ⟨hs, f0, fun _ => rfl, f2, f3, f4, f5, f6, f7, f8, f9, f10, f11, f12⟩⟩
        · rintro D ρ wx hD hd hdc hf ⟨hs, f0, f1, f2, f3, f4, f5, f6, f7, f8, f9, f10, f11, f12⟩
          have r7 : ρ 7 = .int .i64 (k : Int) := outD hf 7 rfl
          exact .inl ⟨rfl, L_move (V := .int .i64 (k : Int)) r7 ⟨hs, f0, f1, fun _ => rfl, f3, f4, f5, f6, f7, f8, f9, f10, f11, f12⟩⟩
        · rintro D ρ wx hD hd hdc hf ⟨hs, f0, f1, f2, f3, f4, f5, f6, f7, f8, f9, f10, f11, f12⟩
          have g1 := f1 (doneD hd 1 rfl)
          have g2 := f2 (doneD hd 2 rfl)
          exact .inl ⟨rfl, L_ixR UD_25 SA_34.1 (Rd.own' hr hs) g1 g2 (by omega) (by rw [List.length_map]; omega) ⟨hs, f0, f1, f2, fun _ => rfl, f4, f5, f6, f7, f8, f9, f10, f11, f12⟩⟩
        · rintro D ρ wx hD hd hdc hf ⟨hs, f0, f1, f2, f3, f4, f5, f6, f7, f8, f9, f10, f11, f12⟩
          have g3 := f3 (doneD hd 3 rfl)
          exact .inl ⟨rfl, L_ldRA (j := 0) (vs := dc (gd l k)) k SA_34 (Rd.own' hr hs) (gd_at (by omega)) rfl rfl g3 (by omega) ⟨hs, f0, f1, f2, f3, fun _ => rfl, f5, f6, f7, f8, f9, f10, f11, f12⟩⟩
        · rintro D ρ wx hD hd hdc hf ⟨hs, f0, f1, f2, f3, f4, f5, f6, f7, f8, f9, f10, f11, f12⟩
          have g0 := f0 (doneD hd 0 rfl)
          have g4 := f4 (doneD hd 4 rfl)
          exact .inl ⟨rfl, L_callP (vs := [.pointer (some ⟨x5.1, 0, none⟩), .agg (dc (gd l k)).toArray]) (V := .bool (gHas g (gd l k))) EN_18 rfl (mapc g0 (mapc g4 rfl)) (gHas_ok _ x5.1 x5.2 g (gd l k) (by first | assumption | exact dotOk_mk (by omega) (by omega) (by omega) (by omega)) (hs.gcells 1 rfl) (hs.gmap 1 rfl)) hs fun _ hs0 => ⟨hs0, f0, f1, f2, f3, f4, fun _ => rfl, f6, f7, f8, f9, f10, f11, f12⟩⟩
        · rintro D ρ wx hD hd hdc hf ⟨hs, f0, f1, f2, f3, f4, f5, f6, f7, f8, f9, f10, f11, f12⟩
          have r6 : ρ 6 = .pointer (some ⟨b7, 0, none⟩) := outD hf 6 rfl
          exact .inl ⟨rfl, L_ldW (cs := (vc v) ++ [(.slice a1 md.length c1 : Value) ]) SA_31 hs 2 rfl r6 rfl ⟨hs, f0, f1, f2, f3, f4, f5, fun _ => rfl, f7, f8, f9, f10, f11, f12⟩⟩
        · rintro D ρ wx hD hd hdc hf ⟨hs, f0, f1, f2, f3, f4, f5, f6, f7, f8, f9, f10, f11, f12⟩
          have r1 : ρ 1 = .slice a l.length c := outD hf 1 rfl
          exact .inl ⟨rfl, L_move (V := .slice a l.length c) r1 ⟨hs, f0, f1, f2, f3, f4, f5, f6, fun _ => rfl, f8, f9, f10, f11, f12⟩⟩
        · rintro D ρ wx hD hd hdc hf ⟨hs, f0, f1, f2, f3, f4, f5, f6, f7, f8, f9, f10, f11, f12⟩
          have r7 : ρ 7 = .int .i64 (k : Int) := outD hf 7 rfl
          exact .inl ⟨rfl, L_move (V := .int .i64 (k : Int)) r7 ⟨hs, f0, f1, f2, f3, f4, f5, f6, f7, fun _ => rfl, f9, f10, f11, f12⟩⟩
        · rintro D ρ wx hD hd hdc hf ⟨hs, f0, f1, f2, f3, f4, f5, f6, f7, f8, f9, f10, f11, f12⟩
          have g7 := f7 (doneD hd 7 rfl)
          have g8 := f8 (doneD hd 8 rfl)
          exact .inl ⟨rfl, L_ixR UD_25 SA_34.1 (Rd.own' hr hs) g7 g8 (by omega) (by rw [List.length_map]; omega) ⟨hs, f0, f1, f2, f3, f4, f5, f6, f7, f8, fun _ => rfl, f10, f11, f12⟩⟩
        · rintro D ρ wx hD hd hdc hf ⟨hs, f0, f1, f2, f3, f4, f5, f6, f7, f8, f9, f10, f11, f12⟩
          have g9 := f9 (doneD hd 9 rfl)
          exact .inl ⟨rfl, L_ldRA (j := 0) (vs := dc (gd l k)) k SA_34 (Rd.own' hr hs) (gd_at (by omega)) rfl rfl g9 (by omega) ⟨hs, f0, f1, f2, f3, f4, f5, f6, f7, f8, f9, fun _ => rfl, f11, f12⟩⟩
        · rintro D ρ wx hD hd hdc hf ⟨hs, f0, f1, f2, f3, f4, f5, f6, f7, f8, f9, f10, f11, f12⟩
          have g6 := f6 (doneD hd 6 rfl)
          have g10 := f10 (doneD hd 10 rfl)
          exact .inl ⟨rfl, L_callP (vs := [.agg ((vc v) ++ [(.slice a1 md.length c1 : Value) ]).toArray, .agg (dc (gd l k)).toArray]) (V := .bool (hasG v md (gd l k))) EN_19 rfl (mapc g6 (mapc g10 rfl)) (rGHas_ok _ v a1 c1 md (gd l k) (by first | assumption | exact vzero_ok) (by first | assumption | exact dotOk_mk (by omega) (by omega) (by omega) (by omega)) (hs.rd 3 rfl)) hs fun _ hs0 => ⟨hs0, f0, f1, f2, f3, f4, f5, f6, f7, f8, f9, f10, fun _ => rfl, f12⟩⟩
        · rintro D ρ wx hD hd hdc hf ⟨hs, f0, f1, f2, f3, f4, f5, f6, f7, f8, f9, f10, f11, f12⟩
          have g5 := f5 (doneD hd 5 rfl)
          have g11 := f11 (doneD hd 11 rfl)
          exact .inl ⟨rfl, opW_to (V := .bool (!((gHas g (gd l k)) == (hasG v md (gd l k))))) (V' := .bool false) (L_neb UDR_4 g5 g11 ⟨rfl, rfl⟩) (congrArg Value.bool (by rw [hhas]; simp)) ⟨hs, f0, f1, f2, f3, f4, f5, f6, f7, f8, f9, f10, f11, fun _ => rfl⟩⟩
        · rintro ρ1 w1 D hD hf ⟨hs, f0, f1, f2, f3, f4, f5, f6, f7, f8, f9, f10, f11, f12⟩
          have e12 := f12 (hD 12 rfl)
          clear f0 f1 f2 f3 f4 f5 f6 f7 f8 f9 f10 f11 f12
          obtain ⟨ρ2, hρ⟩ : ∃ ρ2, ρ1 = upd (mix [35, 36, 37, 38, 39, 40, 41, 42, 43, 44, 45, 46, 47] ρ2 _) 47 (.bool false) := ⟨ρ1, upd_of (mix_of (ds := [35, 36, 37, 38, 39, 40, 41, 42, 43, 44, 45, 46, 47]) hf) e12⟩
          clear hf hD e12
          subst hρ
          refine W_condF rfl ?_
          refine W_skip ?_
          refine W_seq ?_
          replace hs := hs.more emp trivial
          replace hs := hs.drew
          refine W_draw2 HM [49, 50, 51, 52, 53, 54, 48, 55, 56, 8, 9] [[], [], [], [1, 2], [3], [0, 4], [5], [6], [6], [], [9, 7, 5, 0, 1, 2, 3, 4, 5, 6, 7, 9], [8, 10, 0, 1, 2, 3, 4, 5, 6, 7, 8, 9, 10]] (fun D ρ wx => Own w no wx [blk b1 (vc v) 24, gR 52 x5.1 x5.2 g, blk b7 ((vc v) ++ [(.slice a1 md.length c1 : Value) ]) 31, cond (D 5) (row (.slice (aOf (tupS (ρ 54) 0 16)) ((addL v md (gd l k)).length) (cOf (tupS (ρ 54) 0 16))) ((addL v md (gd l k)).map dc) 34 2) (row (.slice a1 md.length c1) (md.map dc) 34 2), cond (D 10) (blk (bOf (ρ 8)) ((vc v) ++ [(.slice (aOf (tupS (ρ 54) 0 16)) ((addL v md (gd l k)).length) (cOf (tupS (ρ 54) 0 16)) : Value) ]) 31) (cond (D 9) (blk (bOf (ρ 8)) ((vc vzero) ++ [(.slice none 0 0 : Value) ]) 31) (emp))] ∧ (D 0 = true → ρ 49 = .agg ((vc v) ++ [(.slice a1 md.length c1 : Value) ]).toArray) ∧ (D 1 = true → ρ 50 = .slice a l.length c) ∧ (D 2 = true → ρ 51 = .int .i64 (k : Int)) ∧ (D 3 = true → ρ 52 = .pointer (some ⟨bkS (.slice a l.length c), ofS (.slice a l.length c) + (k : Int).toNat * 2, none⟩)) ∧ (D 4 = true → ρ 53 = .agg (dc (gd l k)).toArray) ∧ (D 5 = true → ρ 54 = .tuple #[.agg ((vc v) ++ [(.slice (aOf (tupS (ρ 54) 0 16)) ((addL v md (gd l k)).length) (cOf (tupS (ρ 54) 0 16)) : Value) ]).toArray, .int .i64 (addE v md (gd l k))]) ∧ (D 6 = true → ρ 48 = .tuple #[.agg ((vc v) ++ [(.slice (aOf (tupS (ρ 54) 0 16)) ((addL v md (gd l k)).length) (cOf (tupS (ρ 54) 0 16)) : Value) ]).toArray, .int .i64 (addE v md (gd l k))]) ∧ (D 7 = true → ρ 55 = .agg ((vc v) ++ [(.slice (aOf (tupS (ρ 54) 0 16)) ((addL v md (gd l k)).length) (cOf (tupS (ρ 54) 0 16)) : Value) ]).toArray) ∧ (D 8 = true → ρ 56 = .int .i64 (addE v md (gd l k))) ∧ (D 9 = true → ρ 8 = .pointer (some ⟨(bOf (ρ 8)), 0, none⟩)) ∧ (True) ∧ (D 11 = true → ρ 9 = .int .i64 (addE v md (gd l k)))) rfl rfl rfl ⟨hs, fun h => absurd h Bool.false_ne_true, fun h => absurd h Bool.false_ne_true, fun h => absurd h Bool.false_ne_true, fun h => absurd h Bool.false_ne_true, fun h => absurd h Bool.false_ne_true, fun h => absurd h Bool.false_ne_true, fun h => absurd h Bool.false_ne_true, fun h => absurd h Bool.false_ne_true, fun h => absurd h Bool.false_ne_true, fun h => absurd h Bool.false_ne_true, trivial, fun h => absurd h Bool.false_ne_true⟩ ⟨?_, ?_, ?_, ?_, ?_, ?_, ?_, ?_, ?_, ?_, ?_, ?_, trivial⟩ ?_
          · rintro D ρ wx hD hd hdc hf ⟨hs, f0, f1, f2, f3, f4, f5, f6, f7, f8, f9, f10, f11⟩
            have r6 : ρ 6 = .pointer (some ⟨b7, 0, none⟩) := outD hf 6 rfl
            exact .inl ⟨rfl, L_ldW (cs := (vc v) ++ [(.slice a1 md.length c1 : Value) ]) SA_31 hs 2 rfl r6 rfl ⟨hs, fun _ => rfl, f1, f2, f3, f4, f5, f6, f7, f8, f9, f10, f11⟩⟩
          · rintro D ρ wx hD hd hdc hf ⟨hs, f0, f1, f2, f3, f4, f5, f6, f7, f8, f9, f10, f11⟩
            have r1 : ρ 1 = .slice a l.length c := outD hf 1 rfl
            exact .inl ⟨rfl, L_move (V := .slice a l.length c) r1 ⟨hs, f0, fun _ => rfl, f2, f3, f4, f5, f6, f7, f8, f9, f10, f11⟩⟩
          · rintro D ρ wx hD hd hdc hf ⟨hs, f0, f1, f2, f3, f4, f5, f6, f7, f8, f9, f10, f11⟩
            have r7 : ρ 7 = .int .i64 (k : Int) := outD hf 7 rfl
            exact .inl ⟨rfl, L_move (V := .int .i64 (k : Int)) r7 ⟨hs, f0, f1, fun _ => rfl, f3, f4, f5, f6, f7, f8, f9, f10, f11⟩⟩
          · rintro D ρ wx hD hd hdc hf ⟨hs, f0, f1, f2, f3, f4, f5, f6, f7, f8, f9, f10, f11⟩
            have g1 := f1 (doneD hd 1 rfl)
            have g2 := f2 (doneD hd 2 rfl)
            exact .inl ⟨rfl, L_ixR UD_25 SA_34.1 (Rd.own' hr hs) g1 g2 (by omega) (by rw [List.length_map]; omega) ⟨hs, f0, f1, f2, fun _ => rfl, f4, f5, f6, f7, f8, f9, f10, f11⟩⟩
          · rintro D ρ wx hD hd hdc hf ⟨hs, f0, f1, f2, f3, f4, f5, f6, f7, f8, f9, f10, f11⟩
            have g3 := f3 (doneD hd 3 rfl)
            exact .inl ⟨rfl, L_ldRA (j := 0) (vs := dc (gd l k)) k SA_34 (Rd.own' hr hs) (gd_at (by omega)) rfl rfl g3 (by omega) ⟨hs, f0, f1, f2, f3, fun _ => rfl, f5, f6, f7, f8, f9, f10, f11⟩⟩
          · rintro D ρ wx hD hd hdc hf ⟨hs, f0, f1, f2, f3, f4, f5, f6, f7, f8, f9, f10, f11⟩
            have g0 := f0 (doneD hd 0 rfl)
            have g4 := f4 (doneD hd 4 rfl)
            have n6 : D 6 = false := (notYetD hdc (j := 6) rfl rfl hD)
            have n7 : D 7 = false := (notYetD hdc (j := 7) rfl rfl (notYetD hdc (j := 6) rfl rfl hD))
            have d5 : D 5 = false := hD
            have d10 : D 10 = false := (notYetD hdc (j := 10) rfl rfl hD)
            have hs0 := hs; rw [d5, d10] at hs0
            refine .inl ⟨rfl, L_callB (vs := [.agg ((vc v) ++ [(.slice a1 md.length c1 : Value) ]).toArray, .agg (dc (gd l k)).toArray]) (V := fun x : Option Addr × Nat => .tuple #[.agg ((vc v) ++ [(.slice x.1 ((addL v md (gd l k)).length) x.2 : Value) ]).toArray, .int .i64 (addE v md (gd l k))]) (R := row (.slice a1 md.length c1) (md.map dc) 34 2) (R' := fun x => row (.slice x.1 (addL v md (gd l k)).length x.2) ((addL v md (gd l k)).map dc) 34 2) (Lo := fun _ => []) (F := fun _ _ => True) EN_20 rfl (mapc g0 (mapc g4 rfl)) hs0 3 rfl (fun S hS hlt => rAdd2_ok _ S v a1 c1 md (gd l k) (by assumption) (by assumption) (by first | assumption | exact dotOk_mk (by omega) (by omega) (by omega) (by omega)) (by omega) hS hlt) fun _ _ hs0 _ => ⟨?_, f0, f1, f2, f3, f4, fun _ => rfl, (fun h => absurd (n6.symm.trans h) Bool.false_ne_true), (fun h => absurd (n7.symm.trans h) Bool.false_ne_true), f8, f9, f10, f11⟩⟩
            rw [show Go.Vx.mark D 5 10 = false from d10]
            exact hs0
          · rintro D ρ wx hD hd hdc hf ⟨hs, f0, f1, f2, f3, f4, f5, f6, f7, f8, f9, f10, f11⟩
            have g5 := f5 (doneD hd 5 rfl)
            exact .inl ⟨rfl, L_move (V := .tuple #[.agg ((vc v) ++ [(.slice (aOf (tupS (ρ 54) 0 16)) ((addL v md (gd l k)).length) (cOf (tupS (ρ 54) 0 16)) : Value) ]).toArray, .int .i64 (addE v md (gd l k))]) g5 ⟨hs, f0, f1, f2, f3, f4, f5, fun _ => rfl, f7, f8, f9, f10, f11⟩⟩
          · rintro D ρ wx hD hd hdc hf ⟨hs, f0, f1, f2, f3, f4, f5, f6, f7, f8, f9, f10, f11⟩
            have g6 := f6 (doneD hd 6 rfl)
            exact .inl ⟨rfl, L_extract (V := .agg ((vc v) ++ [(.slice (aOf (tupS (ρ 54) 0 16)) ((addL v md (gd l k)).length) (cOf (tupS (ρ 54) 0 16)) : Value) ]).toArray) g6 rfl ⟨hs, f0, f1, f2, f3, f4, f5, f6, fun _ => rfl, f8, f9, f10, f11⟩⟩
          · rintro D ρ wx hD hd hdc hf ⟨hs, f0, f1, f2, f3, f4, f5, f6, f7, f8, f9, f10, f11⟩
            have g6 := f6 (doneD hd 6 rfl)
            exact .inl ⟨rfl, L_extract (V := .int .i64 (addE v md (gd l k))) g6 rfl ⟨hs, f0, f1, f2, f3, f4, f5, f6, f7, fun _ => rfl, f9, f10, f11⟩⟩
          · rintro D ρ wx hD hd hdc hf ⟨hs, f0, f1, f2, f3, f4, f5, f6, f7, f8, f9, f10, f11⟩
            refine .inl ⟨rfl, L_alloc (cs := (vc vzero) ++ [(.slice none 0 0 : Value) ]) ZV_31 rfl hs fun b _ hs0 => ⟨?_, f0, f1, f2, f3, f4, f5, f6, f7, f8, fun _ => rfl, f10, f11⟩⟩
            have d10 : D 10 = false := (notYetD hdc (j := 10) rfl rfl hD)
            rw [show Go.Vx.mark D 9 10 = false from d10]
            exact hs0.put 4 (Nat.le_of_ble_eq_true rfl)
          · rintro D ρ wx hD hd hdc hf ⟨hs, f0, f1, f2, f3, f4, f5, f6, f7, f8, f9, f10, f11⟩
            have g7 := f7 (doneD hd 7 rfl)
            have g9 := f9 (doneD hd 9 rfl)
            have d9 : D 9 = true := doneD hd 9 rfl
            have d10 : D 10 = false := hD
            have hs0 := hs; rw [d9, d10] at hs0
            refine .inl ⟨rfl, L_st (V := .agg ((vc v) ++ [(.slice (aOf (tupS (ρ 54) 0 16)) ((addL v md (gd l k)).length) (cOf (tupS (ρ 54) 0 16)) : Value) ]).toArray) (vs := (vc v) ++ [(.slice (aOf (tupS (ρ 54) 0 16)) ((addL v md (gd l k)).length) (cOf (tupS (ρ 54) 0 16)) : Value) ]) (cs' := (vc v) ++ [(.slice (aOf (tupS (ρ 54) 0 16)) ((addL v md (gd l k)).length) (cOf (tupS (ρ 54) 0 16)) : Value) ]) SA_31.1 hs0 4 rfl g9 g7 rfl rfl (Nat.le_of_ble_eq_true rfl) (one_app (vc_one _) (one_cons rfl one_nil)) (spl_whole rfl) fun _ hs0 => ⟨?_, f0, f1, f2, f3, f4, f5, f6, f7, f8, f9, trivial, f11⟩⟩
            rw [show Go.Vx.mark D 10 9 = true from d9]
            exact hs0
          · rintro D ρ wx hD hd hdc hf ⟨hs, f0, f1, f2, f3, f4, f5, f6, f7, f8, f9, f10, f11⟩
            have g8 := f8 (doneD hd 8 rfl)
            exact .inl ⟨rfl, L_assign (V := .int .i64 (addE v md (gd l k))) g8 ⟨hs, f0, f1, f2, f3, f4, f5, f6, f7, f8, f9, f10, fun _ => rfl⟩⟩
          · rintro ρ1 w1 D hD hf ⟨hs, f0, f1, f2, f3, f4, f5, f6, f7, f8, f9, f10, f11⟩
            rw [hD 5 rfl, hD 9 rfl, hD 10 rfl] at hs
            have e9 := f9 (hD 9 rfl)
            have e11 := f11 (hD 11 rfl)
            clear f0 f1 f2 f3 f4 f5 f6 f7 f8 f9 f10 f11
            obtain ⟨n18, hn18⟩ : ∃ b, (aOf (tupS (ρ1 54) 0 16)) = b := ⟨_, rfl⟩
            try rw [hn18] at hs
            obtain ⟨n19, hn19⟩ : ∃ b, (cOf (tupS (ρ1 54) 0 16)) = b := ⟨_, rfl⟩
            try rw [hn19] at hs
            obtain ⟨b20, hb20⟩ : ∃ b, bOf (ρ1 8) = b := ⟨_, rfl⟩
            try rw [hb20] at hs
            try rw [hb20] at e9
            obtain ⟨ρ2, hρ⟩ : ∃ ρ2, ρ1 = upd (upd (mix [49, 50, 51, 52, 53, 54, 48, 55, 56, 8, 9] ρ2 _) 8 (.pointer (some ⟨b20, 0, none⟩))) 9 (.int .i64 (addE v md (gd l k))) := ⟨ρ1, upd_of (upd_of (mix_of (ds := [49, 50, 51, 52, 53, 54, 48, 55, 56, 8, 9]) hf) e9) e11⟩
            clear hf hD e9 e11
            subst hρ
            refine W_seq ?_
            refine W_region ?_
            refine RW_op (L_ldW (cs := (vc v) ++ [(.slice n18 ((addL v md (gd l k)).length) n19 : Value) ]) SA_31 hs 4 rfl rfl rfl ?_)
            refine RW_op (L_st (V := .agg ((vc v) ++ [(.slice n18 ((addL v md (gd l k)).length) n19 : Value) ]).toArray) (vs := (vc v) ++ [(.slice n18 ((addL v md (gd l k)).length) n19 : Value) ]) (cs' := (vc v) ++ [(.slice n18 ((addL v md (gd l k)).length) n19 : Value) ]) SA_31.1 hs 2 rfl rfl rfl rfl rfl (Nat.le_of_ble_eq_true rfl) (one_app (vc_one _) (one_cons rfl one_nil)) (spl_whole rfl) fun w22 hs => ?_)
            refine RW_nil ?_
            refine W_seq ?_
            have hr2 := hrel.add hdk
            have hmd2 := hr2.dl
            have hgl2 := gAddG_len g (gd l k)
            have hhas2 := hr2.has hdk
            have hclo2 := hr2.cloV
            have hlo2 := hr2.loose
            have hmi2 := hr2.miss
            replace hs := hs.more emp trivial
            replace hs := hs.more emp trivial
            replace hs := hs.more emp trivial
            replace hs := hs.more emp trivial
            replace hs := hs.drew
            refine W_draw2 HM [58, 59, 60, 61, 62, 63, 64, 65, 66, 67, 68, 69, 70, 71, 72, 73, 74, 75, 76, 77, 78, 79, 80, 81, 82, 83, 84, 85, 86, 87, 88, 89, 90, 91, 92, 93, 94, 95, 96, 97, 98, 99, 100, 101, 102, 103] [[], [], [], [1, 2], [3], [0, 4], [], [5, 6], [7, 5], [8], [8], [8], [10, 11, 8], [12, 8], [9, 13, 8, 8], [8], [8], [8], [16, 17, 8], [18, 8], [15, 19, 14, 8], [14, 20, 8], [8, 21], [22, 20], [23], [24, 23, 23], [23], [26, 25, 23], [25, 27, 23], [23, 28], [29, 27], [30], [31, 30, 30], [30], [33, 32, 30], [32, 34, 34, 30], [35, 30], [30, 36], [37, 35], [38], [39, 38, 38], [38], [41, 40, 38], [40, 42, 42, 38], [43, 38], [38, 44]] (fun D ρ wx => Own w no wx [blk b1 (vc v) 24, cond (D 5) (gR 52 x5.1 x5.2 (gAddG g (gd l k))) (gR 52 x5.1 x5.2 g), blk b7 ((vc v) ++ [(.slice n18 ((addL v md (gd l k)).length) n19 : Value) ]) 31, row (.slice n18 ((addL v md (gd l k)).length) n19) ((addL v md (gd l k)).map dc) 34 2, blk b20 ((vc v) ++ [(.slice n18 ((addL v md (gd l k)).length) n19 : Value) ]) 31, cond (D 32) (row (.slice (aOf (ρ 90)) ((looseL (gAddG g (gd l k))).length) (cOf (ρ 90))) ((looseL (gAddG g (gd l k))).map dc) 34 2) (emp), cond (D 34) (row (.slice (aOf (ρ 92)) ((aboveG v (addL v md (gd l k)) true).length) (cOf (ρ 92))) ((aboveG v (addL v md (gd l k)) true).map dc) 34 2) (emp), cond (D 40) (row (.slice (aOf (ρ 98)) ((missL (gAddG g (gd l k))).length) (cOf (ρ 98))) ((missL (gAddG g (gd l k))).map dc) 34 2) (emp), cond (D 42) (row (.slice (aOf (ρ 100)) ((aboveG v (addL v md (gd l k)) false).length) (cOf (ρ 100))) ((aboveG v (addL v md (gd l k)) false).map dc) 34 2) (emp)] ∧ (D 0 = true → ρ 58 = .pointer (some ⟨x5.1, 0, none⟩)) ∧ (D 1 = true → ρ 59 = .slice a l.length c) ∧ (D 2 = true → ρ 60 = .int .i64 (k : Int)) ∧ (D 3 = true → ρ 61 = .pointer (some ⟨bkS (.slice a l.length c), ofS (.slice a l.length c) + (k : Int).toNat * 2, none⟩)) ∧ (D 4 = true → ρ 62 = .agg (dc (gd l k)).toArray) ∧ (D 5 = true → ρ 63 = .int .i64 (gAddE g (gd l k))) ∧ (D 6 = true → ρ 64 = .int .i64 (addE v md (gd l k))) ∧ (D 7 = true → ρ 65 = .bool false) ∧ (D 8 = true → ρ 66 = .bool false) ∧ (D 9 = true → ρ 67 = .pointer (some ⟨x5.1, 0, none⟩)) ∧ (D 10 = true → ρ 68 = .slice a l.length c) ∧ (D 11 = true → ρ 69 = .int .i64 (k : Int)) ∧ (D 12 = true → ρ 70 = .pointer (some ⟨bkS (.slice a l.length c), ofS (.slice a l.length c) + (k : Int).toNat * 2, none⟩)) ∧ (D 13 = true → ρ 71 = .agg (dc (gd l k)).toArray) ∧ (D 14 = true → ρ 72 = .bool (gHas (gAddG g (gd l k)) (gd l k))) ∧ (D 15 = true → ρ 73 = .agg ((vc v) ++ [(.slice n18 ((addL v md (gd l k)).length) n19 : Value) ]).toArray) ∧ (D 16 = true → ρ 74 = .slice a l.length c) ∧ (D 17 = true → ρ 75 = .int .i64 (k : Int)) ∧ (D 18 = true → ρ 76 = .pointer (some ⟨bkS (.slice a l.length c), ofS (.slice a l.length c) + (k : Int).toNat * 2, none⟩)) ∧ (D 19 = true → ρ 77 = .agg (dc (gd l k)).toArray) ∧ (D 20 = true → ρ 78 = .bool (hasG v (addL v md (gd l k)) (gd l k))) ∧ (D 21 = true → ρ 79 = .bool false) ∧ (D 22 = true → ρ 80 = .bool false) ∧ (D 23 = true → ρ 81 = .bool false) ∧ (D 24 = true → ρ 82 = .pointer (some ⟨x5.1, 0, none⟩)) ∧ (D 25 = true → ρ 83 = .agg (vc ((gAddG g (gd l k)).v)).toArray) ∧ (D 26 = true → ρ 84 = .agg ((vc v) ++ [(.slice n18 ((addL v md (gd l k)).length) n19 : Value) ]).toArray) ∧ (D 27 = true → ρ 85 = .agg (vc (cloV (addL v md (gd l k)) v)).toArray) ∧ (D 28 = true → ρ 86 = .bool false) ∧ (D 29 = true → ρ 87 = .bool false) ∧ (D 30 = true → ρ 88 = .bool false) ∧ (D 31 = true → ρ 89 = .pointer (some ⟨x5.1, 0, none⟩)) ∧ (D 32 = true → ρ 90 = .slice (aOf (ρ 90)) ((looseL (gAddG g (gd l k))).length) (cOf (ρ 90))) ∧ (D 33 = true → ρ 91 = .agg ((vc v) ++ [(.slice n18 ((addL v md (gd l k)).length) n19 : Value) ]).toArray) ∧ (D 34 = true → ρ 92 = .slice (aOf (ρ 92)) ((aboveG v (addL v md (gd l k)) true).length) (cOf (ρ 92))) ∧ (D 35 = true → ρ 93 = .bool true) ∧ (D 36 = true → ρ 94 = .bool false) ∧ (D 37 = true → ρ 95 = .bool false) ∧ (D 38 = true → ρ 96 = .bool false) ∧ (D 39 = true → ρ 97 = .pointer (some ⟨x5.1, 0, none⟩)) ∧ (D 40 = true → ρ 98 = .slice (aOf (ρ 98)) ((missL (gAddG g (gd l k))).length) (cOf (ρ 98))) ∧ (D 41 = true → ρ 99 = .agg ((vc v) ++ [(.slice n18 ((addL v md (gd l k)).length) n19 : Value) ]).toArray) ∧ (D 42 = true → ρ 100 = .slice (aOf (ρ 100)) ((aboveG v (addL v md (gd l k)) false).length) (cOf (ρ 100))) ∧ (D 43 = true → ρ 101 = .bool true) ∧ (D 44 = true → ρ 102 = .bool false) ∧ (D 45 = true → ρ 103 = .bool false)) rfl rfl rfl ⟨hs, fun h => absurd h Bool.false_ne_true, fun h => absurd h Bool.false_ne_true, fun h => absurd h Bool.false_ne_true, fun h => absurd h Bool.false_ne_true, fun h => absurd h Bool.false_ne_true, fun h => absurd h Bool.false_ne_true, fun h => absurd h Bool.false_ne_true, fun h => absurd h Bool.false_ne_true, fun h => absurd h Bool.false_ne_true, fun h => absurd h Bool.false_ne_true, fun h => absurd h Bool.false_ne_true, fun h => absurd h Bool.false_ne_true, fun h => absurd h Bool.false_ne_true, fun h => absurd h Bool.false_ne_true, fun h => absurd h Bool.false_ne_true, fun h => absurd h Bool.false_ne_true, fun h => absurd h Bool.false_ne_true, fun h => absurd h Bool.false_ne_true, fun h => absurd h Bool.false_ne_true, fun h => absurd h Bool.false_ne_true, fun h => absurd h Bool.false_ne_true, fun h => absurd h Bool.false_ne_true, fun h => absurd h Bool.false_ne_true, fun h => absurd h Bool.false_ne_true, fun h => absurd h Bool.false_ne_true, fun h => absurd h Bool.false_ne_true, fun h => absurd h Bool.false_ne_true, fun h => absurd h Bool.false_ne_true, fun h => absurd h Bool.false_ne_true, fun h => absurd h Bool.false_ne_true, fun h => absurd h Bool.false_ne_true, fun h => absurd h Bool.false_ne_true, fun h => absurd h Bool.false_ne_true, fun h => absurd h Bool.false_ne_true, fun h => absurd h Bool.false_ne_true, fun h => absurd h Bool.false_ne_true, fun h => absurd h Bool.false_ne_true, fun h => absurd h Bool.false_ne_true, fun h => absurd h Bool.false_ne_true, fun h => absurd h Bool.false_ne_true, fun h => absurd h Bool.false_ne_true, fun h => absurd h Bool.false_ne_true, fun h => absurd h Bool.false_ne_true, fun h => absurd h Bool.false_ne_true, fun h => absurd h Bool.false_ne_true, fun h => absurd h Bool.false_ne_true⟩ ⟨?_, ?_, ?_, ?_, ?_, ?_, ?_, ?_, ?_, ?_, ?_, ?_, ?_, ?_, ?_, ?_, ?_, ?_, ?_, ?_, ?_, ?_, ?_, ?_, ?_, ?_, ?_, ?_, ?_, ?_, ?_, ?_, ?_, ?_, ?_, ?_, ?_, ?_, ?_, ?_, ?_, ?_, ?_, ?_, ?_, ?_, trivial⟩ ?_
            · rintro D ρ wx hD hd hdc hf ⟨hs, f0, f1, f2, f3, f4, f5, f6, f7, f8, f9, f10, f11, f12, f13, f14, f15, f16, f17, f18, f19, f20, f21, f22, f23, f24, f25, f26, f27, f28, f29, f30, f31, f32, f33, f34, f35, f36, f37, f38, f39, f40, f41, f42, f43, f44, f45⟩
              have r5 : ρ 5 = .pointer (some ⟨x5.1, 0, none⟩) := outD hf 5 rfl
              exact .inl ⟨rfl, L_move (V := .pointer (some ⟨x5.1, 0, none⟩)) r5 ⟨hs, fun _ => rfl, f1, f2, f3, f4, f5, f6, f7, f8, f9, f10, f11, f12, f13, f14, f15, f16, f17, f18, f19, f20, f21, f22, f23, f24, f25, f26, f27, f28, f29, f30, f31, f32, f33, f34, f35, f36, f37, f38, f39, f40, f41, f42, f43, f44, f45⟩⟩
            · rintro D ρ wx hD hd hdc hf ⟨hs, f0, f1, f2, f3, f4, f5, f6, f7, f8, f9, f10, f11, f12, f13, f14, f15, f16, f17, f18, f19, f20, f21, f22, f23, f24, f25, f26, f27, f28, f29, f30, f31, f32, f33, f34, f35, f36, f37, f38, f39, f40, f41, f42, f43, f44, f45⟩
              have r1 : ρ 1 = .slice a l.length c := outD hf 1 rfl
              exact .inl ⟨rfl, L_move (V := .slice a l.length c) r1 ⟨hs, f0, fun _ => rfl, f2, f3, f4, f5, f6, f7, f8, f9, f10, f11, f12, f13, f14, f15, f16, f17, f18, f19, f20, f21, f22, f23, f24, f25, f26, f27, f28, f29, f30, f31, f32, f33, f34, f35, f36, f37, f38, f39, f40, f41, f42, f43, f44, f45⟩⟩
            · rintro D ρ wx hD hd hdc hf ⟨hs, f0, f1, f2, f3, f4, f5, f6, f7, f8, f9, f10, f11, f12, f13, f14, f15, f16, f17, f18, f19, f20, f21, f22, f23, f24, f25, f26, f27, f28, f29, f30, f31, f32, f33, f34, f35, f36, f37, f38, f39, f40, f41, f42, f43, f44, f45⟩
              have r7 : ρ 7 = .int .i64 (k : Int) := outD hf 7 rfl
              exact .inl ⟨rfl, L_move (V := .int .i64 (k : Int)) r7 ⟨hs, f0, f1, fun _ => rfl, f3, f4, f5, f6, f7, f8, f9, f10, f11, f12, f13, f14, f15, f16, f17, f18, f19, f20, f21, f22, f23, f24, f25, f26, f27, f28, f29, f30, f31, f32, f33, f34, f35, f36, f37, f38, f39, f40, f41, f42, f43, f44, f45⟩⟩
            · rintro D ρ wx hD hd hdc hf ⟨hs, f0, f1, f2, f3, f4, f5, f6, f7, f8, f9, f10, f11, f12, f13, f14, f15, f16, f17, f18, f19, f20, f21, f22, f23, f24, f25, f26, f27, f28, f29, f30, f31, f32, f33, f34, f35, f36, f37, f38, f39, f40, f41, f42, f43, f44, f45⟩
              have g1 := f1 (doneD hd 1 rfl)
              have g2 := f2 (doneD hd 2 rfl)
              exact .inl ⟨rfl, L_ixR UD_25 SA_34.1 (Rd.own' hr hs) g1 g2 (by omega) (by rw [List.length_map]; omega) ⟨hs, f0, f1, f2, fun _ => rfl, f4, f5, f6, f7, f8, f9, f10, f11, f12, f13, f14, f15, f16, f17, f18, f19, f20, f21, f22, f23, f24, f25, f26, f27, f28, f29, f30, f31, f32, f33, f34, f35, f36, f37, f38, f39, f40, f41, f42, f43, f44, f45⟩⟩
            · rintro D ρ wx hD hd hdc hf ⟨hs, f0, f1, f2, f3, f4, f5, f6, f7, f8, f9, f10, f11, f12, f13, f14, f15, f16, f17, f18, f19, f20, f21, f22, f23, f24, f25, f26, f27, f28, f29, f30, f31, f32, f33, f34, f35, f36, f37, f38, f39, f40, f41, f42, f43, f44, f45⟩
              have g3 := f3 (doneD hd 3 rfl)
              exact .inl ⟨rfl, L_ldRA (j := 0) (vs := dc (gd l k)) k SA_34 (Rd.own' hr hs) (gd_at (by omega)) rfl rfl g3 (by omega) ⟨hs, f0, f1, f2, f3, fun _ => rfl, f5, f6, f7, f8, f9, f10, f11, f12, f13, f14, f15, f16, f17, f18, f19, f20, f21, f22, f23, f24, f25, f26, f27, f28, f29, f30, f31, f32, f33, f34, f35, f36, f37, f38, f39, f40, f41, f42, f43, f44, f45⟩⟩
            · rintro D ρ wx hD hd hdc hf ⟨hs, f0, f1, f2, f3, f4, f5, f6, f7, f8, f9, f10, f11, f12, f13, f14, f15, f16, f17, f18, f19, f20, f21, f22, f23, f24, f25, f26, f27, f28, f29, f30, f31, f32, f33, f34, f35, f36, f37, f38, f39, f40, f41, f42, f43, f44, f45⟩
              have g0 := f0 (doneD hd 0 rfl)
              have g4 := f4 (doneD hd 4 rfl)
              have d5 : D 5 = false := hD
              have hs0 := hs; rw [d5] at hs0
              refine .inl ⟨rfl, L_callB (vs := [.pointer (some ⟨x5.1, 0, none⟩), .agg (dc (gd l k)).toArray]) (V := fun _ : Unit => .int .i64 (gAddE g (gd l k))) (R := gR 52 x5.1 x5.2 g) (R' := fun _ => gR 52 x5.1 x5.2 (gAddG g (gd l k))) (Lo := fun _ => []) (F := fun _ _ => True) EN_21 rfl (mapc g0 (mapc g4 rfl)) hs0 1 rfl (fun S hS hlt => gAdd_ok _ S _ _ _ _ (by first | assumption | exact dotOk_mk (by omega) (by omega) (by omega) (by omega)) hrel.inv.ok hS hlt) fun _ _ hs0 _ => ⟨?_, f0, f1, f2, f3, f4, fun _ => rfl, f6, f7, f8, f9, f10, f11, f12, f13, f14, f15, f16, f17, f18, f19, f20, f21, f22, f23, f24, f25, f26, f27, f28, f29, f30, f31, f32, f33, f34, f35, f36, f37, f38, f39, f40, f41, f42, f43, f44, f45⟩⟩
              exact hs0
            · rintro D ρ wx hD hd hdc hf ⟨hs, f0, f1, f2, f3, f4, f5, f6, f7, f8, f9, f10, f11, f12, f13, f14, f15, f16, f17, f18, f19, f20, f21, f22, f23, f24, f25, f26, f27, f28, f29, f30, f31, f32, f33, f34, f35, f36, f37, f38, f39, f40, f41, f42, f43, f44, f45⟩
              have r9 : ρ 9 = .int .i64 (addE v md (gd l k)) := outD hf 9 rfl
              exact .inl ⟨rfl, L_move (V := .int .i64 (addE v md (gd l k))) r9 ⟨hs, f0, f1, f2, f3, f4, f5, fun _ => rfl, f7, f8, f9, f10, f11, f12, f13, f14, f15, f16, f17, f18, f19, f20, f21, f22, f23, f24, f25, f26, f27, f28, f29, f30, f31, f32, f33, f34, f35, f36, f37, f38, f39, f40, f41, f42, f43, f44, f45⟩⟩
            · rintro D ρ wx hD hd hdc hf ⟨hs, f0, f1, f2, f3, f4, f5, f6, f7, f8, f9, f10, f11, f12, f13, f14, f15, f16, f17, f18, f19, f20, f21, f22, f23, f24, f25, f26, f27, f28, f29, f30, f31, f32, f33, f34, f35, f36, f37, f38, f39, f40, f41, f42, f43, f44, f45⟩
              have g5 := f5 (doneD hd 5 rfl)
              have g6 := f6 (doneD hd 6 rfl)
              exact .inl ⟨rfl, opW_to (V := .bool (!decide (gAddE g (gd l k) = addE v md (gd l k)))) (V' := .bool false) (L_neq g5 g6 ⟨rfl, rfl⟩) (congrArg Value.bool (by rw [hrel.addE hdk]; simp)) ⟨hs, f0, f1, f2, f3, f4, f5, f6, fun _ => rfl, f8, f9, f10, f11, f12, f13, f14, f15, f16, f17, f18, f19, f20, f21, f22, f23, f24, f25, f26, f27, f28, f29, f30, f31, f32, f33, f34, f35, f36, f37, f38, f39, f40, f41, f42, f43, f44, f45⟩⟩
            · rintro D ρ wx hD hd hdc hf ⟨hs, f0, f1, f2, f3, f4, f5, f6, f7, f8, f9, f10, f11, f12, f13, f14, f15, f16, f17, f18, f19, f20, f21, f22, f23, f24, f25, f26, f27, f28, f29, f30, f31, f32, f33, f34, f35, f36, f37, f38, f39, f40, f41, f42, f43, f44, f45⟩
              have g7 := f7 (doneD hd 7 rfl)
              exact .inl ⟨rfl, L_move (V := .bool false) g7 ⟨hs, f0, f1, f2, f3, f4, f5, f6, f7, fun _ => rfl, f9, f10, f11, f12, f13, f14, f15, f16, f17, f18, f19, f20, f21, f22, f23, f24, f25, f26, f27, f28, f29, f30, f31, f32, f33, f34, f35, f36, f37, f38, f39, f40, f41, f42, f43, f44, f45⟩⟩
            · rintro D ρ wx hD hd hdc hf ⟨hs, f0, f1, f2, f3, f4, f5, f6, f7, f8, f9, f10, f11, f12, f13, f14, f15, f16, f17, f18, f19, f20, f21, f22, f23, f24, f25, f26, f27, f28, f29, f30, f31, f32, f33, f34, f35, f36, f37, f38, f39, f40, f41, f42, f43, f44, f45⟩
              have r5 : ρ 5 = .pointer (some ⟨x5.1, 0, none⟩) := outD hf 5 rfl
              exact .inl ⟨(Eq.trans (wantG1 (j := 8) rfl (f8 (doneD hd 8 rfl))) rfl), L_move (V := .pointer (some ⟨x5.1, 0, none⟩)) r5 ⟨hs, f0, f1, f2, f3, f4, f5, f6, f7, f8, fun _ => rfl, f10, f11, f12, f13, f14, f15, f16, f17, f18, f19, f20, f21, f22, f23, f24, f25, f26, f27, f28, f29, f30, f31, f32, f33, f34, f35, f36, f37, f38, f39, f40, f41, f42, f43, f44, f45⟩⟩
            · rintro D ρ wx hD hd hdc hf ⟨hs, f0, f1, f2, f3, f4, f5, f6, f7, f8, f9, f10, f11, f12, f13, f14, f15, f16, f17, f18, f19, f20, f21, f22, f23, f24, f25, f26, f27, f28, f29, f30, f31, f32, f33, f34, f35, f36, f37, f38, f39, f40, f41, f42, f43, f44, f45⟩
              have r1 : ρ 1 = .slice a l.length c := outD hf 1 rfl
              exact .inl ⟨(Eq.trans (wantG1 (j := 8) rfl (f8 (doneD hd 8 rfl))) rfl), L_move (V := .slice a l.length c) r1 ⟨hs, f0, f1, f2, f3, f4, f5, f6, f7, f8, f9, fun _ => rfl, f11, f12, f13, f14, f15, f16, f17, f18, f19, f20, f21, f22, f23, f24, f25, f26, f27, f28, f29, f30, f31, f32, f33, f34, f35, f36, f37, f38, f39, f40, f41, f42, f43, f44, f45⟩⟩
            · rintro D ρ wx hD hd hdc hf ⟨hs, f0, f1, f2, f3, f4, f5, f6, f7, f8, f9, f10, f11, f12, f13, f14, f15, f16, f17, f18, f19, f20, f21, f22, f23, f24, f25, f26, f27, f28, f29, f30, f31, f32, f33, f34, f35, f36, f37, f38, f39, f40, f41, f42, f43, f44, f45⟩
              have r7 : ρ 7 = .int .i64 (k : Int) := outD hf 7 rfl
              exact .inl ⟨(Eq.trans (wantG1 (j := 8) rfl (f8 (doneD hd 8 rfl))) rfl), L_move (V := .int .i64 (k : Int)) r7 ⟨hs, f0, f1, f2, f3, f4, f5, f6, f7, f8, f9, f10, fun _ => rfl, f12, f13, f14, f15, f16, f17, f18, f19, f20, f21, f22, f23, f24, f25, f26, f27, f28, f29, f30, f31, f32, f33, f34, f35, f36, f37, f38, f39, f40, f41, f42, f43, f44, f45⟩⟩
            · rintro D ρ wx hD hd hdc hf ⟨hs, f0, f1, f2, f3, f4, f5, f6, f7, f8, f9, f10, f11, f12, f13, f14, f15, f16, f17, f18, f19, f20, f21, f22, f23, f24, f25, f26, f27, f28, f29, f30, f31, f32, f33, f34, f35, f36, f37, f38, f39, f40, f41, f42, f43, f44, f45⟩
              have g10 := f10 (doneD hd 10 rfl)
              have g11 := f11 (doneD hd 11 rfl)
              exact .inl ⟨(Eq.trans (wantG1 (j := 8) rfl (f8 (doneD hd 8 rfl))) rfl), L_ixR UD_25 SA_34.1 (Rd.own' hr hs) g10 g11 (by omega) (by rw [List.length_map]; omega) ⟨hs, f0, f1, f2, f3, f4, f5, f6, f7, f8, f9, f10, f11, fun _ => rfl, f13, f14, f15, f16, f17, f18, f19, f20, f21, f22, f23, f24, f25, f26, f27, f28, f29, f30, f31, f32, f33, f34, f35, f36, f37, f38, f39, f40, f41, f42, f43, f44, f45⟩⟩
            · rintro D ρ wx hD hd hdc hf ⟨hs, f0, f1, f2, f3, f4, f5, f6, f7, f8, f9, f10, f11, f12, f13, f14, f15, f16, f17, f18, f19, f20, f21, f22, f23, f24, f25, f26, f27, f28, f29, f30, f31, f32, f33, f34, f35, f36, f37, f38, f39, f40, f41, f42, f43, f44, f45⟩
              have g12 := f12 (doneD hd 12 rfl)
              exact .inl ⟨(Eq.trans (wantG1 (j := 8) rfl (f8 (doneD hd 8 rfl))) rfl), L_ldRA (j := 0) (vs := dc (gd l k)) k SA_34 (Rd.own' hr hs) (gd_at (by omega)) rfl rfl g12 (by omega) ⟨hs, f0, f1, f2, f3, f4, f5, f6, f7, f8, f9, f10, f11, f12, fun _ => rfl, f14, f15, f16, f17, f18, f19, f20, f21, f22, f23, f24, f25, f26, f27, f28, f29, f30, f31, f32, f33, f34, f35, f36, f37, f38, f39, f40, f41, f42, f43, f44, f45⟩⟩
            · rintro D ρ wx hD hd hdc hf ⟨hs, f0, f1, f2, f3, f4, f5, f6, f7, f8, f9, f10, f11, f12, f13, f14, f15, f16, f17, f18, f19, f20, f21, f22, f23, f24, f25, f26, f27, f28, f29, f30, f31, f32, f33, f34, f35, f36, f37, f38, f39, f40, f41, f42, f43, f44, f45⟩
              have g9 := f9 (doneD hd 9 rfl)
              have g13 := f13 (doneD hd 13 rfl)
              have d5 : D 5 = true := doneC hdc (j := 8) rfl (doneD hd 8 rfl) (k := 5) rfl
              have hs0 := hs; rw [d5] at hs0
              refine .inl ⟨(Eq.trans (wantG1 (j := 8) rfl (f8 (doneD hd 8 rfl))) rfl), L_callP (vs := [.pointer (some ⟨x5.1, 0, none⟩), .agg (dc (gd l k)).toArray]) (V := .bool (gHas (gAddG g (gd l k)) (gd l k))) EN_18 rfl (mapc g9 (mapc g13 rfl)) (gHas_ok _ x5.1 x5.2 (gAddG g (gd l k)) (gd l k) (by first | assumption | exact dotOk_mk (by omega) (by omega) (by omega) (by omega)) (hs0.gcells 1 rfl) (hs0.gmap 1 rfl)) hs0 fun _ hs0 => ⟨?_, f0, f1, f2, f3, f4, f5, f6, f7, f8, f9, f10, f11, f12, f13, fun _ => rfl, f15, f16, f17, f18, f19, f20, f21, f22, f23, f24, f25, f26, f27, f28, f29, f30, f31, f32, f33, f34, f35, f36, f37, f38, f39, f40, f41, f42, f43, f44, f45⟩⟩
              rw [show Go.Vx.mark D 14 5 = true from d5]
              exact hs0
            · rintro D ρ wx hD hd hdc hf ⟨hs, f0, f1, f2, f3, f4, f5, f6, f7, f8, f9, f10, f11, f12, f13, f14, f15, f16, f17, f18, f19, f20, f21, f22, f23, f24, f25, f26, f27, f28, f29, f30, f31, f32, f33, f34, f35, f36, f37, f38, f39, f40, f41, f42, f43, f44, f45⟩
              have r6 : ρ 6 = .pointer (some ⟨b7, 0, none⟩) := outD hf 6 rfl
              exact .inl ⟨(Eq.trans (wantG1 (j := 8) rfl (f8 (doneD hd 8 rfl))) rfl), L_ldW (cs := (vc v) ++ [(.slice n18 ((addL v md (gd l k)).length) n19 : Value) ]) SA_31 hs 2 rfl r6 rfl ⟨hs, f0, f1, f2, f3, f4, f5, f6, f7, f8, f9, f10, f11, f12, f13, f14, fun _ => rfl, f16, f17, f18, f19, f20, f21, f22, f23, f24, f25, f26, f27, f28, f29, f30, f31, f32, f33, f34, f35, f36, f37, f38, f39, f40, f41, f42, f43, f44, f45⟩⟩
            · rintro D ρ wx hD hd hdc hf ⟨hs, f0, f1, f2, f3, f4, f5, f6, f7, f8, f9, f10, f11, f12, f13, f14, f15, f16, f17, f18, f19, f20, f21, f22, f23, f24, f25, f26, f27, f28, f29, f30, f31, f32, f33, f34, f35, f36, f37, f38, f39, f40, f41, f42, f43, f44, f45⟩
              have r1 : ρ 1 = .slice a l.length c := outD hf 1 rfl
              exact .inl ⟨(Eq.trans (wantG1 (j := 8) rfl (f8 (doneD hd 8 rfl))) rfl), L_move (V := .slice a l.length c) r1 ⟨hs, f0, f1, f2, f3, f4, f5, f6, f7, f8, f9, f10, f11, f12, f13, f14, f15, fun _ => rfl, f17, f18, f19, f20, f21, f22, f23, f24, f25, f26, f27, f28, f29, f30, f31, f32, f33, f34, f35, f36, f37, f38, f39, f40, f41, f42, f43, f44, f45⟩⟩
            · rintro D ρ wx hD hd hdc hf ⟨hs, f0, f1, f2, f3, f4, f5, f6, f7, f8, f9, f10, f11, f12, f13, f14, f15, f16, f17, f18, f19, f20, f21, f22, f23, f24, f25, f26, f27, f28, f29, f30, f31, f32, f33, f34, f35, f36, f37, f38, f39, f40, f41, f42, f43, f44, f45⟩
              have r7 : ρ 7 = .int .i64 (k : Int) := outD hf 7 rfl
              exact .inl ⟨(Eq.trans (wantG1 (j := 8) rfl (f8 (doneD hd 8 rfl))) rfl), L_move (V := .int .i64 (k : Int)) r7 ⟨hs, f0, f1, f2, f3, f4, f5, f6, f7, f8, f9, f10, f11, f12, f13, f14, f15, f16, fun _ => rfl, f18, f19, f20, f21, f22, f23, f24, f25, f26, f27, f28, f29, f30, f31, f32, f33, f34, f35, f36, f37, f38, f39, f40, f41, f42, f43, f44, f45⟩⟩
            · rintro D ρ wx hD hd hdc hf ⟨hs, f0, f1, f2, f3, f4, f5, f6, f7, f8, f9, f10, f11, f12, f13, f14, f15, f16, f17, f18, f19, f20, f21, f22, f23, f24, f25, f26, f27, f28, f29, f30, f31, f32, f33, f34, f35, f36, f37, f38, f39, f40, f41, f42, f43, f44, f45⟩
              have g16 := f16 (doneD hd 16 rfl)
              have g17 := f17 (doneD hd 17 rfl)
              exact .inl ⟨(Eq.trans (wantG1 (j := 8) rfl (f8 (doneD hd 8 rfl))) rfl), L_ixR UD_25 SA_34.1 (Rd.own' hr hs) g16 g17 (by omega) (by rw [List.length_map]; omega) ⟨hs, f0, f1, f2, f3, f4, f5, f6, f7, f8, f9, f10, f11, f12, f13, f14, f15, f16, f17, fun _ => rfl, f19, f20, f21, f22, f23, f24, f25, f26, f27, f28, f29, f30, f31, f32, f33, f34, f35, f36, f37, f38, f39, f40, f41, f42, f43, f44, f45⟩⟩
            · rintro D ρ wx hD hd hdc hf ⟨hs, f0, f1, f2, f3, f4, f5, f6, f7, f8, f9, f10, f11, f12, f13, f14, f15, f16, f17, f18, f19, f20, f21, f22, f23, f24, f25, f26, f27, f28, f29, f30, f31, f32, f33, f34, f35, f36, f37, f38, f39, f40, f41, f42, f43, f44, f45⟩
              have g18 := f18 (doneD hd 18 rfl)
              exact .inl ⟨(Eq.trans (wantG1 (j := 8) rfl (f8 (doneD hd 8 rfl))) rfl), L_ldRA (j := 0) (vs := dc (gd l k)) k SA_34 (Rd.own' hr hs) (gd_at (by omega)) rfl rfl g18 (by omega) ⟨hs, f0, f1, f2, f3, f4, f5, f6, f7, f8, f9, f10, f11, f12, f13, f14, f15, f16, f17, f18, fun _ => rfl, f20, f21, f22, f23, f24, f25, f26, f27, f28, f29, f30, f31, f32, f33, f34, f35, f36, f37, f38, f39, f40, f41, f42, f43, f44, f45⟩⟩
            · rintro D ρ wx hD hd hdc hf ⟨hs, f0, f1, f2, f3, f4, f5, f6, f7, f8, f9, f10, f11, f12, f13, f14, f15, f16, f17, f18, f19, f20, f21, f22, f23, f24, f25, f26, f27, f28, f29, f30, f31, f32, f33, f34, f35, f36, f37, f38, f39, f40, f41, f42, f43, f44, f45⟩
              have g15 := f15 (doneD hd 15 rfl)
              have g19 := f19 (doneD hd 19 rfl)
              exact .inl ⟨(Eq.trans (wantG1 (j := 8) rfl (f8 (doneD hd 8 rfl))) rfl), L_callP (vs := [.agg ((vc v) ++ [(.slice n18 ((addL v md (gd l k)).length) n19 : Value) ]).toArray, .agg (dc (gd l k)).toArray]) (V := .bool (hasG v (addL v md (gd l k)) (gd l k))) EN_19 rfl (mapc g15 (mapc g19 rfl)) (rGHas_ok _ v n18 n19 (addL v md (gd l k)) (gd l k) (by first | assumption | exact vzero_ok) (by first | assumption | exact dotOk_mk (by omega) (by omega) (by omega) (by omega)) (hs.rd 3 rfl)) hs fun _ hs0 => ⟨hs0, f0, f1, f2, f3, f4, f5, f6, f7, f8, f9, f10, f11, f12, f13, f14, f15, f16, f17, f18, f19, fun _ => rfl, f21, f22, f23, f24, f25, f26, f27, f28, f29, f30, f31, f32, f33, f34, f35, f36, f37, f38, f39, f40, f41, f42, f43, f44, f45⟩⟩
            · rintro D ρ wx hD hd hdc hf ⟨hs, f0, f1, f2, f3, f4, f5, f6, f7, f8, f9, f10, f11, f12, f13, f14, f15, f16, f17, f18, f19, f20, f21, f22, f23, f24, f25, f26, f27, f28, f29, f30, f31, f32, f33, f34, f35, f36, f37, f38, f39, f40, f41, f42, f43, f44, f45⟩
              have g14 := f14 (doneD hd 14 rfl)
              have g20 := f20 (doneD hd 20 rfl)
              exact .inl ⟨(Eq.trans (wantG1 (j := 8) rfl (f8 (doneD hd 8 rfl))) rfl), opW_to (V := .bool (!((gHas (gAddG g (gd l k)) (gd l k)) == (hasG v (addL v md (gd l k)) (gd l k))))) (V' := .bool false) (L_neb UDR_4 g14 g20 ⟨rfl, rfl⟩) (congrArg Value.bool (by rw [hhas2]; simp)) ⟨hs, f0, f1, f2, f3, f4, f5, f6, f7, f8, f9, f10, f11, f12, f13, f14, f15, f16, f17, f18, f19, f20, fun _ => rfl, f22, f23, f24, f25, f26, f27, f28, f29, f30, f31, f32, f33, f34, f35, f36, f37, f38, f39, f40, f41, f42, f43, f44, f45⟩⟩
            · rintro D ρ wx hD hd hdc hf ⟨hs, f0, f1, f2, f3, f4, f5, f6, f7, f8, f9, f10, f11, f12, f13, f14, f15, f16, f17, f18, f19, f20, f21, f22, f23, f24, f25, f26, f27, f28, f29, f30, f31, f32, f33, f34, f35, f36, f37, f38, f39, f40, f41, f42, f43, f44, f45⟩
              have g8 := f8 (doneD hd 8 rfl)
              have g21 := f21 (doneD hd 21 rfl)
              exact .inl ⟨rfl, L_pick (V := .bool false) g8 g21 ⟨hs, f0, f1, f2, f3, f4, f5, f6, f7, f8, f9, f10, f11, f12, f13, f14, f15, f16, f17, f18, f19, f20, f21, fun _ => rfl, f23, f24, f25, f26, f27, f28, f29, f30, f31, f32, f33, f34, f35, f36, f37, f38, f39, f40, f41, f42, f43, f44, f45⟩⟩
            · rintro D ρ wx hD hd hdc hf ⟨hs, f0, f1, f2, f3, f4, f5, f6, f7, f8, f9, f10, f11, f12, f13, f14, f15, f16, f17, f18, f19, f20, f21, f22, f23, f24, f25, f26, f27, f28, f29, f30, f31, f32, f33, f34, f35, f36, f37, f38, f39, f40, f41, f42, f43, f44, f45⟩
              have g22 := f22 (doneD hd 22 rfl)
              exact .inl ⟨rfl, L_move (V := .bool false) g22 ⟨hs, f0, f1, f2, f3, f4, f5, f6, f7, f8, f9, f10, f11, f12, f13, f14, f15, f16, f17, f18, f19, f20, f21, f22, fun _ => rfl, f24, f25, f26, f27, f28, f29, f30, f31, f32, f33, f34, f35, f36, f37, f38, f39, f40, f41, f42, f43, f44, f45⟩⟩
            · rintro D ρ wx hD hd hdc hf ⟨hs, f0, f1, f2, f3, f4, f5, f6, f7, f8, f9, f10, f11, f12, f13, f14, f15, f16, f17, f18, f19, f20, f21, f22, f23, f24, f25, f26, f27, f28, f29, f30, f31, f32, f33, f34, f35, f36, f37, f38, f39, f40, f41, f42, f43, f44, f45⟩
              have r5 : ρ 5 = .pointer (some ⟨x5.1, 0, none⟩) := outD hf 5 rfl
              exact .inl ⟨(Eq.trans (wantG1 (j := 23) rfl (f23 (doneD hd 23 rfl))) rfl), L_move (V := .pointer (some ⟨x5.1, 0, none⟩)) r5 ⟨hs, f0, f1, f2, f3, f4, f5, f6, f7, f8, f9, f10, f11, f12, f13, f14, f15, f16, f17, f18, f19, f20, f21, f22, f23, fun _ => rfl, f25, f26, f27, f28, f29, f30, f31, f32, f33, f34, f35, f36, f37, f38, f39, f40, f41, f42, f43, f44, f45⟩⟩
            · rintro D ρ wx hD hd hdc hf ⟨hs, f0, f1, f2, f3, f4, f5, f6, f7, f8, f9, f10, f11, f12, f13, f14, f15, f16, f17, f18, f19, f20, f21, f22, f23, f24, f25, f26, f27, f28, f29, f30, f31, f32, f33, f34, f35, f36, f37, f38, f39, f40, f41, f42, f43, f44, f45⟩
              have g24 := f24 (doneD hd 24 rfl)
              have d5 : D 5 = true := doneC hdc (j := 8) rfl (doneC hdc (j := 22) rfl (doneC hdc (j := 23) rfl (doneD hd 23 rfl) (k := 22) rfl) (k := 8) rfl) (k := 5) rfl
              have hs0 := hs; rw [d5] at hs0
              refine .inl ⟨(Eq.trans (wantG1 (j := 23) rfl (f23 (doneD hd 23 rfl))) rfl), L_callP (vs := [.pointer (some ⟨x5.1, 0, none⟩)]) (V := .agg (vc ((gAddG g (gd l k)).v)).toArray) EN_22 rfl (mapc g24 rfl) (gClosed_ok _ x5.1 x5.2 (gAddG g (gd l k))  (hs0.gcells 1 rfl) (hs0.gmap 1 rfl)) hs0 fun _ hs0 => ⟨?_, f0, f1, f2, f3, f4, f5, f6, f7, f8, f9, f10, f11, f12, f13, f14, f15, f16, f17, f18, f19, f20, f21, f22, f23, f24, fun _ => rfl, f26, f27, f28, f29, f30, f31, f32, f33, f34, f35, f36, f37, f38, f39, f40, f41, f42, f43, f44, f45⟩⟩
              rw [show Go.Vx.mark D 25 5 = true from d5]
              exact hs0
            · rintro D ρ wx hD hd hdc hf ⟨hs, f0, f1, f2, f3, f4, f5, f6, f7, f8, f9, f10, f11, f12, f13, f14, f15, f16, f17, f18, f19, f20, f21, f22, f23, f24, f25, f26, f27, f28, f29, f30, f31, f32, f33, f34, f35, f36, f37, f38, f39, f40, f41, f42, f43, f44, f45⟩
              have r6 : ρ 6 = .pointer (some ⟨b7, 0, none⟩) := outD hf 6 rfl
              exact .inl ⟨(Eq.trans (wantG1 (j := 23) rfl (f23 (doneD hd 23 rfl))) rfl), L_ldW (cs := (vc v) ++ [(.slice n18 ((addL v md (gd l k)).length) n19 : Value) ]) SA_31 hs 2 rfl r6 rfl ⟨hs, f0, f1, f2, f3, f4, f5, f6, f7, f8, f9, f10, f11, f12, f13, f14, f15, f16, f17, f18, f19, f20, f21, f22, f23, f24, f25, fun _ => rfl, f27, f28, f29, f30, f31, f32, f33, f34, f35, f36, f37, f38, f39, f40, f41, f42, f43, f44, f45⟩⟩
            · rintro D ρ wx hD hd hdc hf ⟨hs, f0, f1, f2, f3, f4, f5, f6, f7, f8, f9, f10, f11, f12, f13, f14, f15, f16, f17, f18, f19, f20, f21, f22, f23, f24, f25, f26, f27, f28, f29, f30, f31, f32, f33, f34, f35, f36, f37, f38, f39, f40, f41, f42, f43, f44, f45⟩
              have g26 := f26 (doneD hd 26 rfl)
              exact .inl ⟨(Eq.trans (wantG1 (j := 23) rfl (f23 (doneD hd 23 rfl))) rfl), L_callP (vs := [.agg ((vc v) ++ [(.slice n18 ((addL v md (gd l k)).length) n19 : Value) ]).toArray]) (V := .agg (vc (cloV (addL v md (gd l k)) v)).toArray) EN_23 rfl (mapc g26 rfl) (rClosed_ok _ v n18 n19 (addL v md (gd l k)) (by assumption) (by assumption) (hs.rd 3 rfl)) hs fun _ hs0 => ⟨hs0, f0, f1, f2, f3, f4, f5, f6, f7, f8, f9, f10, f11, f12, f13, f14, f15, f16, f17, f18, f19, f20, f21, f22, f23, f24, f25, f26, fun _ => rfl, f28, f29, f30, f31, f32, f33, f34, f35, f36, f37, f38, f39, f40, f41, f42, f43, f44, f45⟩⟩
            · rintro D ρ wx hD hd hdc hf ⟨hs, f0, f1, f2, f3, f4, f5, f6, f7, f8, f9, f10, f11, f12, f13, f14, f15, f16, f17, f18, f19, f20, f21, f22, f23, f24, f25, f26, f27, f28, f29, f30, f31, f32, f33, f34, f35, f36, f37, f38, f39, f40, f41, f42, f43, f44, f45⟩
              have g25 := f25 (doneD hd 25 rfl)
              have g27 := f27 (doneD hd 27 rfl)
              exact .inl ⟨(Eq.trans (wantG1 (j := 23) rfl (f23 (doneD hd 23 rfl))) rfl), opW_to (V := .bool (!decide ((gAddG g (gd l k)).v = cloV (addL v md (gd l k)) v))) (V' := .bool false) (L_neA (xs := vc ((gAddG g (gd l k)).v)) (ys := vc (cloV (addL v md (gd l k)) v)) Try.eqGuardType24 (EQ_24 ((gAddG g (gd l k)).v) (cloV (addL v md (gd l k)) v)) rfl g25 g27 ⟨rfl, rfl⟩) (congrArg Value.bool (by rw [hclo2]; simp)) ⟨hs, f0, f1, f2, f3, f4, f5, f6, f7, f8, f9, f10, f11, f12, f13, f14, f15, f16, f17, f18, f19, f20, f21, f22, f23, f24, f25, f26, f27, fun _ => rfl, f29, f30, f31, f32, f33, f34, f35, f36, f37, f38, f39, f40, f41, f42, f43, f44, f45⟩⟩
            · rintro D ρ wx hD hd hdc hf ⟨hs, f0, f1, f2, f3, f4, f5, f6, f7, f8, f9, f10, f11, f12, f13, f14, f15, f16, f17, f18, f19, f20, f21, f22, f23, f24, f25, f26, f27, f28, f29, f30, f31, f32, f33, f34, f35, f36, f37, f38, f39, f40, f41, f42, f43, f44, f45⟩
              have g23 := f23 (doneD hd 23 rfl)
              have g28 := f28 (doneD hd 28 rfl)
              exact .inl ⟨rfl, L_pick (V := .bool false) g23 g28 ⟨hs, f0, f1, f2, f3, f4, f5, f6, f7, f8, f9, f10, f11, f12, f13, f14, f15, f16, f17, f18, f19, f20, f21, f22, f23, f24, f25, f26, f27, f28, fun _ => rfl, f30, f31, f32, f33, f34, f35, f36, f37, f38, f39, f40, f41, f42, f43, f44, f45⟩⟩
            · rintro D ρ wx hD hd hdc hf ⟨hs, f0, f1, f2, f3, f4, f5, f6, f7, f8, f9, f10, f11, f12, f13, f14, f15, f16, f17, f18, f19, f20, f21, f22, f23, f24, f25, f26, f27, f28, f29, f30, f31, f32, f33, f34, f35, f36, f37, f38, f39, f40, f41, f42, f43, f44, f45⟩
              have g29 := f29 (doneD hd 29 rfl)
              exact .inl ⟨rfl, L_move (V := .bool false) g29 ⟨hs, f0, f1, f2, f3, f4, f5, f6, f7, f8, f9, f10, f11, f12, f13, f14, f15, f16, f17, f18, f19, f20, f21, f22, f23, f24, f25, f26, f27, f28, f29, fun _ => rfl, f31, f32, f33, f34, f35, f36, f37, f38, f39, f40, f41, f42, f43, f44, f45⟩⟩
            · rintro D ρ wx hD hd hdc hf ⟨hs, f0, f1, f2, f3, f4, f5, f6, f7, f8, f9, f10, f11, f12, f13, f14, f15, f16, f17, f18, f19, f20, f21, f22, f23, f24, f25, f26, f27, f28, f29, f30, f31, f32, f33, f34, f35, f36, f37, f38, f39, f40, f41, f42, f43, f44, f45⟩
              have r5 : ρ 5 = .pointer (some ⟨x5.1, 0, none⟩) := outD hf 5 rfl
              exact .inl ⟨(Eq.trans (wantG1 (j := 30) rfl (f30 (doneD hd 30 rfl))) rfl), L_move (V := .pointer (some ⟨x5.1, 0, none⟩)) r5 ⟨hs, f0, f1, f2, f3, f4, f5, f6, f7, f8, f9, f10, f11, f12, f13, f14, f15, f16, f17, f18, f19, f20, f21, f22, f23, f24, f25, f26, f27, f28, f29, f30, fun _ => rfl, f32, f33, f34, f35, f36, f37, f38, f39, f40, f41, f42, f43, f44, f45⟩⟩
            · rintro D ρ wx hD hd hdc hf ⟨hs, f0, f1, f2, f3, f4, f5, f6, f7, f8, f9, f10, f11, f12, f13, f14, f15, f16, f17, f18, f19, f20, f21, f22, f23, f24, f25, f26, f27, f28, f29, f30, f31, f32, f33, f34, f35, f36, f37, f38, f39, f40, f41, f42, f43, f44, f45⟩
              have g31 := f31 (doneD hd 31 rfl)
              have d5 : D 5 = true := doneC hdc (j := 8) rfl (doneC hdc (j := 22) rfl (doneC hdc (j := 23) rfl (doneC hdc (j := 29) rfl (doneC hdc (j := 30) rfl (doneD hd 30 rfl) (k := 29) rfl) (k := 23) rfl) (k := 22) rfl) (k := 8) rfl) (k := 5) rfl
              have hs0 := hs; rw [d5] at hs0
              refine .inl ⟨(Eq.trans (wantG1 (j := 30) rfl (f30 (doneD hd 30 rfl))) rfl), L_callX (vs := [.pointer (some ⟨x5.1, 0, none⟩)]) (V := fun x : Option Addr × Nat => .slice x.1 (looseL (gAddG g (gd l k))).length x.2) EN_25 rfl (mapc g31 rfl) (gLoose2_ok _ x5.1 x5.2 (gAddG g (gd l k)) (by omega) hsort (hs0.gcells 1 rfl) (hs0.gmap 1 rfl)) hs0 fun b _ hs0 _ => ⟨?_, f0, f1, f2, f3, f4, f5, f6, f7, f8, f9, f10, f11, f12, f13, f14, f15, f16, f17, f18, f19, f20, f21, f22, f23, f24, f25, f26, f27, f28, f29, f30, f31, fun _ => rfl, f33, f34, f35, f36, f37, f38, f39, f40, f41, f42, f43, f44, f45⟩⟩
              rw [show Go.Vx.mark D 32 5 = true from d5]
              exact hs0.put 5 (Nat.le_of_ble_eq_true rfl)
            · rintro D ρ wx hD hd hdc hf ⟨hs, f0, f1, f2, f3, f4, f5, f6, f7, f8, f9, f10, f11, f12, f13, f14, f15, f16, f17, f18, f19, f20, f21, f22, f23, f24, f25, f26, f27, f28, f29, f30, f31, f32, f33, f34, f35, f36, f37, f38, f39, f40, f41, f42, f43, f44, f45⟩
              have r6 : ρ 6 = .pointer (some ⟨b7, 0, none⟩) := outD hf 6 rfl
              exact .inl ⟨(Eq.trans (wantG1 (j := 30) rfl (f30 (doneD hd 30 rfl))) rfl), L_ldW (cs := (vc v) ++ [(.slice n18 ((addL v md (gd l k)).length) n19 : Value) ]) SA_31 hs 2 rfl r6 rfl ⟨hs, f0, f1, f2, f3, f4, f5, f6, f7, f8, f9, f10, f11, f12, f13, f14, f15, f16, f17, f18, f19, f20, f21, f22, f23, f24, f25, f26, f27, f28, f29, f30, f31, f32, fun _ => rfl, f34, f35, f36, f37, f38, f39, f40, f41, f42, f43, f44, f45⟩⟩
            · rintro D ρ wx hD hd hdc hf ⟨hs, f0, f1, f2, f3, f4, f5, f6, f7, f8, f9, f10, f11, f12, f13, f14, f15, f16, f17, f18, f19, f20, f21, f22, f23, f24, f25, f26, f27, f28, f29, f30, f31, f32, f33, f34, f35, f36, f37, f38, f39, f40, f41, f42, f43, f44, f45⟩
              have g33 := f33 (doneD hd 33 rfl)
              refine .inl ⟨(Eq.trans (wantG1 (j := 30) rfl (f30 (doneD hd 30 rfl))) rfl), L_callX (vs := [.agg ((vc v) ++ [(.slice n18 ((addL v md (gd l k)).length) n19 : Value) ]).toArray]) EN_26 rfl (mapc g33 rfl) (rLoose_ok _ v n18 n19 (addL v md (gd l k)) (by assumption) (by assumption) (hs.rd 3 rfl)) hs fun b _ hs0 _ => ⟨?_, f0, f1, f2, f3, f4, f5, f6, f7, f8, f9, f10, f11, f12, f13, f14, f15, f16, f17, f18, f19, f20, f21, f22, f23, f24, f25, f26, f27, f28, f29, f30, f31, f32, f33, fun _ => rfl, f35, f36, f37, f38, f39, f40, f41, f42, f43, f44, f45⟩⟩
              exact hs0.put 6 (Nat.le_of_ble_eq_true rfl)
            · rintro D ρ wx hD hd hdc hf ⟨hs, f0, f1, f2, f3, f4, f5, f6, f7, f8, f9, f10, f11, f12, f13, f14, f15, f16, f17, f18, f19, f20, f21, f22, f23, f24, f25, f26, f27, f28, f29, f30, f31, f32, f33, f34, f35, f36, f37, f38, f39, f40, f41, f42, f43, f44, f45⟩
              have g32 := f32 (doneD hd 32 rfl)
              have g34 := f34 (doneD hd 34 rfl)
              have d32 : D 32 = true := doneD hd 32 rfl
              have d34 : D 34 = true := doneD hd 34 rfl
              have hs0 := hs; rw [d32, d34] at hs0
              refine .inl ⟨(Eq.trans (wantG1 (j := 30) rfl (f30 (doneD hd 30 rfl))) rfl), L_callPV (V' := .bool true) (congrArg Value.bool (decide_eq_true hlo2)) (vs := [.slice (aOf (ρ 90)) ((looseL (gAddG g (gd l k))).length) (cOf (ρ 90)), .slice (aOf (ρ 92)) ((aboveG v (addL v md (gd l k)) true).length) (cOf (ρ 92))]) (V := .bool (decide (looseL (gAddG g (gd l k)) = aboveG v (addL v md (gd l k)) true))) EN_24 rfl (mapc g32 (mapc g34 rfl)) (same_ok _ (aOf (ρ 90)) (aOf (ρ 92)) (cOf (ρ 90)) (cOf (ρ 92)) (looseL (gAddG g (gd l k))) (aboveG v (addL v md (gd l k)) true) (hs0.rd 5 rfl) (hs0.rd 6 rfl)) hs0 fun _ hs0 => ⟨?_, f0, f1, f2, f3, f4, f5, f6, f7, f8, f9, f10, f11, f12, f13, f14, f15, f16, f17, f18, f19, f20, f21, f22, f23, f24, f25, f26, f27, f28, f29, f30, f31, f32, f33, f34, fun _ => rfl, f36, f37, f38, f39, f40, f41, f42, f43, f44, f45⟩⟩
              rw [show Go.Vx.mark D 35 32 = true from d32, show Go.Vx.mark D 35 34 = true from d34]
              exact hs0
            · rintro D ρ wx hD hd hdc hf ⟨hs, f0, f1, f2, f3, f4, f5, f6, f7, f8, f9, f10, f11, f12, f13, f14, f15, f16, f17, f18, f19, f20, f21, f22, f23, f24, f25, f26, f27, f28, f29, f30, f31, f32, f33, f34, f35, f36, f37, f38, f39, f40, f41, f42, f43, f44, f45⟩
              have g35 := f35 (doneD hd 35 rfl)
              exact .inl ⟨(Eq.trans (wantG1 (j := 30) rfl (f30 (doneD hd 30 rfl))) rfl), L_not g35 ⟨hs, f0, f1, f2, f3, f4, f5, f6, f7, f8, f9, f10, f11, f12, f13, f14, f15, f16, f17, f18, f19, f20, f21, f22, f23, f24, f25, f26, f27, f28, f29, f30, f31, f32, f33, f34, f35, fun _ => rfl, f37, f38, f39, f40, f41, f42, f43, f44, f45⟩⟩
            · rintro D ρ wx hD hd hdc hf ⟨hs, f0, f1, f2, f3, f4, f5, f6, f7, f8, f9, f10, f11, f12, f13, f14, f15, f16, f17, f18, f19, f20, f21, f22, f23, f24, f25, f26, f27, f28, f29, f30, f31, f32, f33, f34, f35, f36, f37, f38, f39, f40, f41, f42, f43, f44, f45⟩
              have g30 := f30 (doneD hd 30 rfl)
              have g36 := f36 (doneD hd 36 rfl)
              exact .inl ⟨rfl, L_pick (V := .bool false) g30 g36 ⟨hs, f0, f1, f2, f3, f4, f5, f6, f7, f8, f9, f10, f11, f12, f13, f14, f15, f16, f17, f18, f19, f20, f21, f22, f23, f24, f25, f26, f27, f28, f29, f30, f31, f32, f33, f34, f35, f36, fun _ => rfl, f38, f39, f40, f41, f42, f43, f44, f45⟩⟩
            · rintro D ρ wx hD hd hdc hf ⟨hs, f0, f1, f2, f3, f4, f5, f6, f7, f8, f9, f10, f11, f12, f13, f14, f15, f16, f17, f18, f19, f20, f21, f22, f23, f24, f25, f26, f27, f28, f29, f30, f31, f32, f33, f34, f35, f36, f37, f38, f39, f40, f41, f42, f43, f44, f45⟩
              have g37 := f37 (doneD hd 37 rfl)
              exact .inl ⟨rfl, L_move (V := .bool false) g37 ⟨hs, f0, f1, f2, f3, f4, f5, f6, f7, f8, f9, f10, f11, f12, f13, f14, f15, f16, f17, f18, f19, f20, f21, f22, f23, f24, f25, f26, f27, f28, f29, f30, f31, f32, f33, f34, f35, f36, f37, fun _ => rfl, f39, f40, f41, f42, f43, f44, f45⟩⟩
            · rintro D ρ wx hD hd hdc hf ⟨hs, f0, f1, f2, f3, f4, f5, f6, f7, f8, f9, f10, f11, f12, f13, f14, f15, f16, f17, f18, f19, f20, f21, f22, f23, f24, f25, f26, f27, f28, f29, f30, f31, f32, f33, f34, f35, f36, f37, f38, f39, f40, f41, f42, f43, f44, f45⟩
              have r5 : ρ 5 = .pointer (some ⟨x5.1, 0, none⟩) := outD hf 5 rfl
              exact .inl ⟨(Eq.trans (wantG1 (j := 38) rfl (f38 (doneD hd 38 rfl))) rfl), L_move (V := .pointer (some ⟨x5.1, 0, none⟩)) r5 ⟨hs, f0, f1, f2, f3, f4, f5, f6, f7, f8, f9, f10, f11, f12, f13, f14, f15, f16, f17, f18, f19, f20, f21, f22, f23, f24, f25, f26, f27, f28, f29, f30, f31, f32, f33, f34, f35, f36, f37, f38, fun _ => rfl, f40, f41, f42, f43, f44, f45⟩⟩
            · rintro D ρ wx hD hd hdc hf ⟨hs, f0, f1, f2, f3, f4, f5, f6, f7, f8, f9, f10, f11, f12, f13, f14, f15, f16, f17, f18, f19, f20, f21, f22, f23, f24, f25, f26, f27, f28, f29, f30, f31, f32, f33, f34, f35, f36, f37, f38, f39, f40, f41, f42, f43, f44, f45⟩
              have g39 := f39 (doneD hd 39 rfl)
              have d5 : D 5 = true := doneC hdc (j := 8) rfl (doneC hdc (j := 22) rfl (doneC hdc (j := 23) rfl (doneC hdc (j := 29) rfl (doneC hdc (j := 30) rfl (doneC hdc (j := 37) rfl (doneC hdc (j := 38) rfl (doneD hd 38 rfl) (k := 37) rfl) (k := 30) rfl) (k := 29) rfl) (k := 23) rfl) (k := 22) rfl) (k := 8) rfl) (k := 5) rfl
              have hs0 := hs; rw [d5] at hs0
              refine .inl ⟨(Eq.trans (wantG1 (j := 38) rfl (f38 (doneD hd 38 rfl))) rfl), L_callX (vs := [.pointer (some ⟨x5.1, 0, none⟩)]) (V := fun x : Option Addr × Nat => .slice x.1 (missL (gAddG g (gd l k))).length x.2) EN_27 rfl (mapc g39 rfl) (gMissing2_ok _ x5.1 x5.2 (gAddG g (gd l k)) (gAddG_ok hrel.inv.ok (by first | assumption | exact dotOk_mk (by omega) (by omega) (by omega) (by omega))) (by omega) hsort (hs0.gcells 1 rfl) (hs0.gmap 1 rfl)) hs0 fun b _ hs0 _ => ⟨?_, f0, f1, f2, f3, f4, f5, f6, f7, f8, f9, f10, f11, f12, f13, f14, f15, f16, f17, f18, f19, f20, f21, f22, f23, f24, f25, f26, f27, f28, f29, f30, f31, f32, f33, f34, f35, f36, f37, f38, f39, fun _ => rfl, f41, f42, f43, f44, f45⟩⟩
              rw [show Go.Vx.mark D 40 5 = true from d5]
              exact hs0.put 7 (Nat.le_of_ble_eq_true rfl)
            · rintro D ρ wx hD hd hdc hf ⟨hs, f0, f1, f2, f3, f4, f5, f6, f7, f8, f9, f10, f11, f12, f13, f14, f15, f16, f17, f18, f19, f20, f21, f22, f23, f24, f25, f26, f27, f28, f29, f30, f31, f32, f33, f34, f35, f36, f37, f38, f39, f40, f41, f42, f43, f44, f45⟩
              have r6 : ρ 6 = .pointer (some ⟨b7, 0, none⟩) := outD hf 6 rfl
              exact .inl ⟨(Eq.trans (wantG1 (j := 38) rfl (f38 (doneD hd 38 rfl))) rfl), L_ldW (cs := (vc v) ++ [(.slice n18 ((addL v md (gd l k)).length) n19 : Value) ]) SA_31 hs 2 rfl r6 rfl ⟨hs, f0, f1, f2, f3, f4, f5, f6, f7, f8, f9, f10, f11, f12, f13, f14, f15, f16, f17, f18, f19, f20, f21, f22, f23, f24, f25, f26, f27, f28, f29, f30, f31, f32, f33, f34, f35, f36, f37, f38, f39, f40, fun _ => rfl, f42, f43, f44, f45⟩⟩
            · rintro D ρ wx hD hd hdc hf ⟨hs, f0, f1, f2, f3, f4, f5, f6, f7, f8, f9, f10, f11, f12, f13, f14, f15, f16, f17, f18, f19, f20, f21, f22, f23, f24, f25, f26, f27, f28, f29, f30, f31, f32, f33, f34, f35, f36, f37, f38, f39, f40, f41, f42, f43, f44, f45⟩
              have g41 := f41 (doneD hd 41 rfl)
              refine .inl ⟨(Eq.trans (wantG1 (j := 38) rfl (f38 (doneD hd 38 rfl))) rfl), L_callX (vs := [.agg ((vc v) ++ [(.slice n18 ((addL v md (gd l k)).length) n19 : Value) ]).toArray]) EN_28 rfl (mapc g41 rfl) (rMissing_ok _ v n18 n19 (addL v md (gd l k)) (by assumption) (by assumption) (hs.rd 3 rfl)) hs fun b _ hs0 _ => ⟨?_, f0, f1, f2, f3, f4, f5, f6, f7, f8, f9, f10, f11, f12, f13, f14, f15, f16, f17, f18, f19, f20, f21, f22, f23, f24, f25, f26, f27, f28, f29, f30, f31, f32, f33, f34, f35, f36, f37, f38, f39, f40, f41, fun _ => rfl, f43, f44, f45⟩⟩
              exact hs0.put 8 (Nat.le_of_ble_eq_true rfl)
            · rintro D ρ wx hD hd hdc hf ⟨hs, f0, f1, f2, f3, f4, f5, f6, f7, f8, f9, f10, f11, f12, f13, f14, f15, f16, f17, f18, f19, f20, f21, f22, f23, f24, f25, f26, f27, f28, f29, f30, f31, f32, f33, f34, f35, f36, f37, f38, f39, f40, f41, f42, f43, f44, f45⟩
              have g40 := f40 (doneD hd 40 rfl)
              have g42 := f42 (doneD hd 42 rfl)
              have d40 : D 40 = true := doneD hd 40 rfl
              have d42 : D 42 = true := doneD hd 42 rfl
              have hs0 := hs; rw [d40, d42] at hs0
              refine .inl ⟨(Eq.trans (wantG1 (j := 38) rfl (f38 (doneD hd 38 rfl))) rfl), L_callPV (V' := .bool true) (congrArg Value.bool (decide_eq_true hmi2)) (vs := [.slice (aOf (ρ 98)) ((missL (gAddG g (gd l k))).length) (cOf (ρ 98)), .slice (aOf (ρ 100)) ((aboveG v (addL v md (gd l k)) false).length) (cOf (ρ 100))]) (V := .bool (decide (missL (gAddG g (gd l k)) = aboveG v (addL v md (gd l k)) false))) EN_24 rfl (mapc g40 (mapc g42 rfl)) (same_ok _ (aOf (ρ 98)) (aOf (ρ 100)) (cOf (ρ 98)) (cOf (ρ 100)) (missL (gAddG g (gd l k))) (aboveG v (addL v md (gd l k)) false) (hs0.rd 7 rfl) (hs0.rd 8 rfl)) hs0 fun _ hs0 => ⟨?_, f0, f1, f2, f3, f4, f5, f6, f7, f8, f9, f10, f11, f12, f13, f14, f15, f16, f17, f18, f19, f20, f21, f22, f23, f24, f25, f26, f27, f28, f29, f30, f31, f32, f33, f34, f35, f36, f37, f38, f39, f40, f41, f42, fun _ => rfl, f44, f45⟩⟩
              rw [show Go.Vx.mark D 43 40 = true from d40, show Go.Vx.mark D 43 42 = true from d42]
              exact hs0
            · rintro D ρ wx hD hd hdc hf ⟨hs, f0, f1, f2, f3, f4, f5, f6, f7, f8, f9, f10, f11, f12, f13, f14, f15, f16, f17, f18, f19, f20, f21, f22, f23, f24, f25, f26, f27, f28, f29, f30, f31, f32, f33, f34, f35, f36, f37, f38, f39, f40, f41, f42, f43, f44, f45⟩
              have g43 := f43 (doneD hd 43 rfl)
              exact .inl ⟨(Eq.trans (wantG1 (j := 38) rfl (f38 (doneD hd 38 rfl))) rfl), L_not g43 ⟨hs, f0, f1, f2, f3, f4, f5, f6, f7, f8, f9, f10, f11, f12, f13, f14, f15, f16, f17, f18, f19, f20, f21, f22, f23, f24, f25, f26, f27, f28, f29, f30, f31, f32, f33, f34, f35, f36, f37, f38, f39, f40, f41, f42, f43, fun _ => rfl, f45⟩⟩
            · rintro D ρ wx hD hd hdc hf ⟨hs, f0, f1, f2, f3, f4, f5, f6, f7, f8, f9, f10, f11, f12, f13, f14, f15, f16, f17, f18, f19, f20, f21, f22, f23, f24, f25, f26, f27, f28, f29, f30, f31, f32, f33, f34, f35, f36, f37, f38, f39, f40, f41, f42, f43, f44, f45⟩
              have g38 := f38 (doneD hd 38 rfl)
              have g44 := f44 (doneD hd 44 rfl)
              exact .inl ⟨rfl, L_pick (V := .bool false) g38 g44 ⟨hs, f0, f1, f2, f3, f4, f5, f6, f7, f8, f9, f10, f11, f12, f13, f14, f15, f16, f17, f18, f19, f20, f21, f22, f23, f24, f25, f26, f27, f28, f29, f30, f31, f32, f33, f34, f35, f36, f37, f38, f39, f40, f41, f42, f43, f44, fun _ => rfl⟩⟩
            · rintro ρ1 w1 D hD hf ⟨hs, f0, f1, f2, f3, f4, f5, f6, f7, f8, f9, f10, f11, f12, f13, f14, f15, f16, f17, f18, f19, f20, f21, f22, f23, f24, f25, f26, f27, f28, f29, f30, f31, f32, f33, f34, f35, f36, f37, f38, f39, f40, f41, f42, f43, f44, f45⟩
              rw [hD 5 rfl, hD 32 rfl, hD 34 rfl, hD 40 rfl, hD 42 rfl] at hs
              have e45 := f45 (hD 45 rfl)
              clear f0 f1 f2 f3 f4 f5 f6 f7 f8 f9 f10 f11 f12 f13 f14 f15 f16 f17 f18 f19 f20 f21 f22 f23 f24 f25 f26 f27 f28 f29 f30 f31 f32 f33 f34 f35 f36 f37 f38 f39 f40 f41 f42 f43 f44 f45
              obtain ⟨ρ2, hρ⟩ : ∃ ρ2, ρ1 = upd (mix [58, 59, 60, 61, 62, 63, 64, 65, 66, 67, 68, 69, 70, 71, 72, 73, 74, 75, 76, 77, 78, 79, 80, 81, 82, 83, 84, 85, 86, 87, 88, 89, 90, 91, 92, 93, 94, 95, 96, 97, 98, 99, 100, 101, 102, 103] ρ2 _) 103 (.bool false) := ⟨ρ1, upd_of (mix_of (ds := [58, 59, 60, 61, 62, 63, 64, 65, 66, 67, 68, 69, 70, 71, 72, 73, 74, 75, 76, 77, 78, 79, 80, 81, 82, 83, 84, 85, 86, 87, 88, 89, 90, 91, 92, 93, 94, 95, 96, 97, 98, 99, 100, 101, 102, 103]) hf) e45⟩
              clear hf hD e45
              subst hρ
              refine W_condF rfl ?_
              refine W_skip ?_
              refine W_region ?_
              refine RW_op (L_move (V := .int .i64 (k : Int)) rfl ?_)
              refine RW_op (L_add (a := (k : Int)) (b := 1) (c := (k : Int) + 1) rfl rfl (wr_i64 (by omega) (by omega)) ?_)
              refine RW_op (L_assign (V := .int .i64 ((k : Int) + 1)) rfl ?_)
              refine RW_nil ?_
              refine ⟨_, ?_, _, k + 1, gAddG g (gd l k), n18, n19, (addL v md (gd l k)), upd_of (mix_of (ds := [4, 7, 8, 9, 21, 22, 23, 24, 25, 26, 27, 28, 29, 30, 31, 32, 33, 34, 35, 36, 37, 38, 39, 40, 41, 42, 43, 44, 45, 46, 47, 48, 49, 50, 51, 52, 53, 54, 55, 56, 57, 58, 59, 60, 61, 62, 63, 64, 65, 66, 67, 68, 69, 70, 71, 72, 73, 74, 75, 76, 77, 78, 79, 80, 81, 82, 83, 84, 85, 86, 87, 88, 89, 90, 91, 92, 93, 94, 95, 96, 97, 98, 99, 100, 101, 102, 103]) (by repeat (first | exact Agr.refl _ _ | refine Agr.upd ?_ rfl | refine Agr.mix ?_ rfl))) rfl, (by omega), (by omega), hr2, (Nat.le_trans addL_len (by omega)), (Nat.le_trans (gAddG_len _ _) (by omega)), rfl, hs.take 4⟩
              omega
      ·
        refine W_exit ?_
        refine W_seq ?_
        refine W_region ?_
        refine RW_op (L_assign (V := .bool true) rfl ?_)
        refine RW_nil ?_
        refine W_ret ?_
        refine ⟨_, res_one (V := .bool true) Try.results3 rfl, ?_⟩
        refine ⟨congrArg Ending.returned ?_, hs.take 0⟩
        rfl
end Tt
end Go.Proofs
