/- A part of a proof: what functions of the program compute, and plain facts on that. -/
import Derived.Test.YtnanhhiofnohbaaVtQ
namespace Go.Proofs
open Go Go.Vx Go.RowKit
namespace Tt
theorem EN_24 : En Try.prog 24 := Try.call24
theorem gNew_yesE (w : World) (v : Vec) (hv : VecOk v) (h : rightB v 16 = true) : Calls Try.prog 16 #[.agg (vc v).toArray] w (fun e w' => ∃ x : Nat, e = .returned (.pointer (some ⟨x, 0, none⟩)) ∧ Own w no w' [exR fun r => gR 52 x r ⟨v, []⟩] ∧ True) :=
  (gNew_yes w v hv h).mono fun e w' ⟨x, he, ho, _⟩ => ⟨x.1, he, Own.pack (f := fun r => gR 52 x.1 r ⟨v, []⟩) x.2 ho, trivial⟩
set_option maxRecDepth 20000 in
set_option maxHeartbeats 4000000 in
theorem dotsAny_yes (w : World) (v : Vec) (a : Option Addr) (c : Nat) (l : List Dot) (q : Int) (hv : VecOk v) (hl : ∀ d ∈ l, DotOk d) (hq : 0 ≤ q ∧ q < 256) (hr : Rd w (.slice a l.length c) 2 (l.map dc)) (hsort : SortC Try.prog 64 51 dc 34 2 sortD) (hB : rightB v 16 = true) : Calls Try.prog 4 #[.agg (vc v).toArray, .slice a l.length c, .int .u8 q] w (fun e w' => e = .returned (.bool true) ∧ Own w no w' []) := by
  refine calls_of_Wn (n := 89) Try.func4 rfl Try.ntmps4 rfl ?_
  have hs := Own.start w
  have hn := hr.sml
  refine W_seq ?_
  refine W_region ?_
  refine RW_op (L_box (V := .agg (vc v).toArray) (cs := vc v) rfl rfl hs fun b1 w2 hs => ?_)
  refine RW_op (L_assign (V := .bool false) rfl ?_)
  refine RW_nil ?_
  refine W_seq ?_
  refine W_seq ?_
  refine W_region ?_
  refine RW_op (L_callP (vs := []) (V := .bool true) EN_15 rfl rfl (alive5_ok _ hsort) hs fun w3 hs => ?_)
  refine RW_op (L_not rfl ?_)
  refine RW_nil ?_
  refine W_condF rfl ?_
  refine W_skip ?_
  refine W_seq ?_
  replace hs := hs.more emp trivial
  replace hs := hs.more emp trivial
  replace hs := hs.drew
  refine W_draw2 HM [14, 15, 16, 17, 7, 8] [[], [0], [], [2, 1], [1, 3, 0, 1], [3, 4, 0, 1, 2, 3, 4]] (fun D ρ wx => Own w no wx [blk b1 (vc v) 24, cond (D 1) (exR fun r => gR 52 (bOf (ρ 15)) r (⟨v, []⟩ : Grp)) (emp), cond (D 3) (exR fun r => gR 52 (bOf (ρ 17)) r (⟨v, []⟩ : Grp)) (emp)] ∧ (D 0 = true → ρ 14 = .agg (vc v).toArray) ∧ (D 1 = true → ρ 15 = .pointer (some ⟨(bOf (ρ 15)), 0, none⟩)) ∧ (D 2 = true → ρ 16 = .agg (vc v).toArray) ∧ (D 3 = true → ρ 17 = .pointer (some ⟨(bOf (ρ 17)), 0, none⟩)) ∧ (D 4 = true → ρ 7 = .pointer (some ⟨(bOf (ρ 15)), 0, none⟩)) ∧ (D 5 = true → ρ 8 = .pointer (some ⟨(bOf (ρ 17)), 0, none⟩))) rfl rfl rfl ⟨hs, fun h => absurd h Bool.false_ne_true, fun h => absurd h Bool.false_ne_true, fun h => absurd h Bool.false_ne_true, fun h => absurd h Bool.false_ne_true, fun h => absurd h Bool.false_ne_true, fun h => absurd h Bool.false_ne_true⟩ ⟨?_, ?_, ?_, ?_, ?_, ?_, trivial⟩ ?_
  · rintro D ρ wx hD hd hdc hf ⟨hs, f0, f1, f2, f3, f4, f5⟩
    have r3 : ρ 3 = .pointer (some ⟨b1, 0, none⟩) := outD hf 3 rfl
    exact .inl ⟨rfl, L_ldW (cs := vc v) SA_24 hs 0 rfl r3 rfl ⟨hs, fun _ => rfl, f1, f2, f3, f4, f5⟩⟩
  · rintro D ρ wx hD hd hdc hf ⟨hs, f0, f1, f2, f3, f4, f5⟩
    have g0 := f0 (doneD hd 0 rfl)
    have n4 : D 4 = false := (notYetD hdc (j := 4) rfl rfl hD)
    refine .inl ⟨rfl, L_callX (vs := [.agg (vc v).toArray]) EN_16 rfl (mapc g0 rfl) (gNew_yesE _ v hv hB) hs fun b _ hs0 _ => ⟨?_, f0, fun _ => rfl, f2, f3, (fun h => absurd (n4.symm.trans h) Bool.false_ne_true), f5⟩⟩
    exact hs0.put 1 (Nat.le_of_ble_eq_true rfl)
  · rintro D ρ wx hD hd hdc hf ⟨hs, f0, f1, f2, f3, f4, f5⟩
    have r3 : ρ 3 = .pointer (some ⟨b1, 0, none⟩) := outD hf 3 rfl
    exact .inl ⟨rfl, L_ldW (cs := vc v) SA_24 hs 0 rfl r3 rfl ⟨hs, f0, f1, fun _ => rfl, f3, f4, f5⟩⟩
  · rintro D ρ wx hD hd hdc hf ⟨hs, f0, f1, f2, f3, f4, f5⟩
    have g2 := f2 (doneD hd 2 rfl)
    have n5 : D 5 = false := (notYetD hdc (j := 5) rfl rfl hD)
    refine .inl ⟨rfl, L_callX (vs := [.agg (vc v).toArray]) EN_16 rfl (mapc g2 rfl) (gNew_yesE _ v hv hB) hs fun b _ hs0 _ => ⟨?_, f0, f1, f2, fun _ => rfl, f4, (fun h => absurd (n5.symm.trans h) Bool.false_ne_true)⟩⟩
    exact hs0.put 2 (Nat.le_of_ble_eq_true rfl)
  · rintro D ρ wx hD hd hdc hf ⟨hs, f0, f1, f2, f3, f4, f5⟩
    have g1 := f1 (doneD hd 1 rfl)
    exact .inl ⟨rfl, L_assign (V := .pointer (some ⟨(bOf (ρ 15)), 0, none⟩)) g1 ⟨hs, f0, f1, f2, f3, fun _ => rfl, f5⟩⟩
  · rintro D ρ wx hD hd hdc hf ⟨hs, f0, f1, f2, f3, f4, f5⟩
    have g3 := f3 (doneD hd 3 rfl)
    exact .inl ⟨rfl, L_assign (V := .pointer (some ⟨(bOf (ρ 17)), 0, none⟩)) g3 ⟨hs, f0, f1, f2, f3, f4, fun _ => rfl⟩⟩
  · rintro ρ1 w1 D hD hf ⟨hs, f0, f1, f2, f3, f4, f5⟩
    rw [hD 1 rfl, hD 3 rfl] at hs
    have e4 := f4 (hD 4 rfl)
    have e5 := f5 (hD 5 rfl)
    clear f0 f1 f2 f3 f4 f5
    obtain ⟨n4, hn4⟩ : ∃ b, (bOf (ρ1 15)) = b := ⟨_, rfl⟩
    try rw [hn4] at hs
    try rw [hn4] at e4
    obtain ⟨n5, hn5⟩ : ∃ b, (bOf (ρ1 17)) = b := ⟨_, rfl⟩
    try rw [hn5] at hs
    try rw [hn5] at e5
    obtain ⟨ρ2, hρ⟩ : ∃ ρ2, ρ1 = upd (upd (mix [14, 15, 16, 17, 7, 8] ρ2 _) 7 (.pointer (some ⟨n4, 0, none⟩))) 8 (.pointer (some ⟨n5, 0, none⟩)) := ⟨ρ1, upd_of (upd_of (mix_of (ds := [14, 15, 16, 17, 7, 8]) hf) e4) e5⟩
    clear hf hD e4 e5
    subst hρ
    obtain ⟨r7, hs⟩ := hs.unpack 1 rfl
    obtain ⟨r8, hs⟩ := hs.unpack 2 rfl
    refine W_seq ?_
    refine W_seq ?_
    refine W_region ?_
    refine RW_op (L_move (V := .pointer (some ⟨n4, 0, none⟩)) rfl ?_)
    refine RW_op (L_ptrnil UD_27 rfl rfl ?_)
    refine RW_op (L_move (V := .bool false) rfl ?_)
    refine RW_gy rfl (L_move (V := .pointer (some ⟨n5, 0, none⟩)) rfl ?_)
    refine RW_gy rfl (L_ptrnil UD_27 rfl rfl ?_)
    refine RW_op (L_pick (V := .bool false) rfl rfl ?_)
    refine RW_nil ?_
    refine W_condF rfl ?_
    refine W_skip ?_
    refine W_seq ?_
    refine W_region ?_
    refine RW_op (L_assign (V := .slice none 0 0) rfl ?_)
    refine RW_nil ?_
    refine W_seq ?_
    refine W_seq ?_
    refine W_region ?_
    refine RW_op (L_assign (V := .int .i64 0) rfl ?_)
    refine RW_nil ?_
    refine W_block ?_
    replace hs := hs.more (row (.slice none 0 0) (List.map dc []) 34 2) (row_nil _ _ _ _)
    refine W_loopI (fun ρ m ρ' w' => ∃ (ρo : Env) (k : Nat) (g : Grp) (a1 : Option Addr) (c1 : Nat) (tk : List Dot), ρ' = upd (upd (mix [9, 10, 27, 28, 29, 30, 31, 32, 33, 34, 35, 36, 37, 38, 39, 40, 41, 42, 43, 44, 45, 46, 47, 48, 49, 50] ρo ρ) 10 (.int .i64 (k : Int))) 9 (.slice a1 tk.length c1) ∧ (k ≤ l.length) ∧ (k ≤ 60) ∧ (RelD g v tk) ∧ (tk.length ≤ k) ∧ (g.l.length ≤ k) ∧ m = l.length - k ∧ Own w no w' [blk b1 (vc v) 24, gR 52 n4 r7 g, gR 52 n5 r8 (⟨v, []⟩ : Grp), row (.slice a1 tk.length c1) (tk.map dc) 34 2]) ?_ ?_
    · exact ⟨_, _, 0, (⟨v, []⟩ : Grp), none, 0, [], upd_of (upd_of (mix_of (ds := [9, 10, 27, 28, 29, 30, 31, 32, 33, 34, 35, 36, 37, 38, 39, 40, 41, 42, 43, 44, 45, 46, 47, 48, 49, 50]) (Agr.refl _ _)) rfl) rfl, (by omega), (by omega), (relD_new hv hB), (Nat.le_refl _), (Nat.le_refl _), rfl, hs⟩
    · rintro m ρ' w9 ⟨ρo, k, g, a1, c1, tk, rfl, hk, hk60, hra, htl, hgl, rfl, hs⟩
      refine W_seq ?_
      refine W_seq ?_
      refine W_inv2 [27, 28, 29, 30, 31, 32, 33, 34] [[], [], [1], [0, 2], [3], [4], [5, 4], [4, 6]] (fun D ρ wx => Own w no wx [blk b1 (vc v) 24, gR 52 n4 r7 g, gR 52 n5 r8 (⟨v, []⟩ : Grp), row (.slice a1 tk.length c1) (tk.map dc) 34 2] ∧ (D 0 = true → ρ 27 = .int .i64 (k : Int)) ∧ (D 1 = true → ρ 28 = .slice a l.length c) ∧ (D 2 = true → ρ 29 = .int .i64 ((l.length : Nat) : Int)) ∧ (D 3 = true → ρ 30 = .bool (decide ((k : Int) < ((l.length : Nat) : Int)))) ∧ (D 4 = true → ρ 31 = .bool (decide ((k : Int) < ((l.length : Nat) : Int)))) ∧ (D 5 = true → ρ 32 = cond ((decide ((k : Int) < ((l.length : Nat) : Int))) == true) (.int .i64 (k : Int)) undef) ∧ (D 6 = true → ρ 33 = cond ((decide ((k : Int) < ((l.length : Nat) : Int))) == true) (.bool (decide ((k : Int) < 60))) undef) ∧ (D 7 = true → ρ 34 = .bool ((decide ((k : Int) < ((l.length : Nat) : Int))) && (decide ((k : Int) < 60))))) rfl rfl rfl ⟨hs, fun h => absurd h Bool.false_ne_true, fun h => absurd h Bool.false_ne_true, fun h => absurd h Bool.false_ne_true, fun h => absurd h Bool.false_ne_true, fun h => absurd h Bool.false_ne_true, fun h => absurd h Bool.false_ne_true, fun h => absurd h Bool.false_ne_true, fun h => absurd h Bool.false_ne_true⟩ ⟨?_, ?_, ?_, ?_, ?_, ?_, ?_, ?_, trivial⟩ ?_
      · rintro D ρ wx hD hd hdc hf ⟨hs, f0, f1, f2, f3, f4, f5, f6, f7⟩
        have r10 : ρ 10 = .int .i64 (k : Int) := outD hf 10 rfl
        exact .inl ⟨rfl, L_move (V := .int .i64 (k : Int)) r10 ⟨hs, fun _ => rfl, f1, f2, f3, f4, f5, f6, f7⟩⟩
      · rintro D ρ wx hD hd hdc hf ⟨hs, f0, f1, f2, f3, f4, f5, f6, f7⟩
        have r1 : ρ 1 = .slice a l.length c := outD hf 1 rfl
        exact .inl ⟨rfl, L_move (V := .slice a l.length c) r1 ⟨hs, f0, fun _ => rfl, f2, f3, f4, f5, f6, f7⟩⟩
      · rintro D ρ wx hD hd hdc hf ⟨hs, f0, f1, f2, f3, f4, f5, f6, f7⟩
        have g1 := f1 (doneD hd 1 rfl)
        exact .inl ⟨rfl, L_lenR (n := l.length) UD_25 (Rd.own' hr hs) (by simp) g1 ⟨hs, f0, f1, fun _ => rfl, f3, f4, f5, f6, f7⟩⟩
      · rintro D ρ wx hD hd hdc hf ⟨hs, f0, f1, f2, f3, f4, f5, f6, f7⟩
        have g0 := f0 (doneD hd 0 rfl)
        have g2 := f2 (doneD hd 2 rfl)
        exact .inl ⟨rfl, L_lss g0 g2 ⟨hs, f0, f1, f2, fun _ => rfl, f4, f5, f6, f7⟩⟩
      · rintro D ρ wx hD hd hdc hf ⟨hs, f0, f1, f2, f3, f4, f5, f6, f7⟩
        have g3 := f3 (doneD hd 3 rfl)
        exact .inl ⟨rfl, L_move (V := .bool (decide ((k : Int) < ((l.length : Nat) : Int)))) g3 ⟨hs, f0, f1, f2, f3, fun _ => rfl, f5, f6, f7⟩⟩
      · rintro D ρ wx hD hd hdc hf ⟨hs, f0, f1, f2, f3, f4, f5, f6, f7⟩
        have r10 : ρ 10 = .int .i64 (k : Int) := outD hf 10 rfl
        rcases Bool.eq_false_or_eq_true ((decide ((k : Int) < ((l.length : Nat) : Int))) == true) with hG | hG
        rotate_left
        · exact .inr ⟨(Eq.trans (wantG1 (j := 4) rfl (f4 (doneD hd 4 rfl))) hG), ⟨hs, f0, f1, f2, f3, f4, fun _ => (condF hG).symm, f6, f7⟩⟩
        ·
          exact .inl ⟨(Eq.trans (wantG1 (j := 4) rfl (f4 (doneD hd 4 rfl))) hG), L_move (V := .int .i64 (k : Int)) r10 ⟨hs, f0, f1, f2, f3, f4, fun _ => (condT hG).symm, f6, f7⟩⟩
      · rintro D ρ wx hD hd hdc hf ⟨hs, f0, f1, f2, f3, f4, f5, f6, f7⟩
        have g5 := f5 (doneD hd 5 rfl)
        rcases Bool.eq_false_or_eq_true ((decide ((k : Int) < ((l.length : Nat) : Int))) == true) with hG | hG
        rotate_left
        · exact .inr ⟨(Eq.trans (wantG1 (j := 4) rfl (f4 (doneD hd 4 rfl))) hG), ⟨hs, f0, f1, f2, f3, f4, f5, fun _ => (condF hG).symm, f7⟩⟩
        ·
          exact .inl ⟨(Eq.trans (wantG1 (j := 4) rfl (f4 (doneD hd 4 rfl))) hG), L_lss ((g5).trans (condT (by exact hG))) rfl ⟨hs, f0, f1, f2, f3, f4, f5, fun _ => (condT hG).symm, f7⟩⟩
      · rintro D ρ wx hD hd hdc hf ⟨hs, f0, f1, f2, f3, f4, f5, f6, f7⟩
        have g4 := f4 (doneD hd 4 rfl)
        have g6 := f6 (doneD hd 6 rfl)
        exact .inl ⟨rfl, L_and g4 rfl (fun hg => ((g6).trans (condT (by first | exact beqT hg | rfl)))) ⟨hs, f0, f1, f2, f3, f4, f5, f6, fun _ => rfl⟩⟩
      · rintro ρ1 w1 D hD hf ⟨hs, f0, f1, f2, f3, f4, f5, f6, f7⟩
        have e7 := f7 (hD 7 rfl)
        clear f0 f1 f2 f3 f4 f5 f6 f7
        obtain ⟨ρ2, hρ⟩ : ∃ ρ2, ρ1 = upd (mix [27, 28, 29, 30, 31, 32, 33, 34] ρ2 _) 34 (.bool ((decide ((k : Int) < ((l.length : Nat) : Int))) && (decide ((k : Int) < 60)))) := ⟨ρ1, upd_of (mix_of (ds := [27, 28, 29, 30, 31, 32, 33, 34]) hf) e7⟩
        clear hf hD e7
        subst hρ
        refine W_cond (t := (decide ((k : Int) < ((l.length : Nat) : Int))) && (decide ((k : Int) < 60))) rfl (fun c11 => ?_) (fun c11 => ?_)
        ·
          have c11r := and_r c11
          replace c11 := and_l c11
          replace c11 := of_decide_eq_true c11
          replace c11r := of_decide_eq_true c11r
          refine W_skip ?_
          refine W_seq ?_
          refine W_block ?_
          refine W_seq ?_
          have hdk := hl _ (gd_mem (l := l) (i := k) (by omega))
          refine W_region ?_
          refine RW_op (L_move (V := .pointer (some ⟨n4, 0, none⟩)) rfl ?_)
          refine RW_op (L_move (V := .slice a l.length c) rfl ?_)
          refine RW_op (L_move (V := .int .i64 (k : Int)) rfl ?_)
          refine RW_op (L_ixR UD_25 SA_34.1 (Rd.own' hr hs) rfl rfl (by omega) (by rw [List.length_map]; omega) ?_)
          refine RW_op (L_ldRA (j := 0) (vs := dc (gd l k)) k SA_34 (Rd.own' hr hs) (gd_at (by omega)) rfl rfl rfl (by omega) ?_)
          refine RW_op (L_callB (vs := [.pointer (some ⟨n4, 0, none⟩), .agg (dc (gd l k)).toArray]) (V := fun _ : Unit => .int .i64 (gAddE g (gd l k))) (R := gR 52 n4 r7 g) (R' := fun _ => gR 52 n4 r7 (gAddG g (gd l k))) (Lo := fun _ => []) (F := fun _ _ => True) EN_21 rfl rfl hs 1 rfl (fun S hS hlt => gAdd_ok _ S _ _ _ _ (by first | assumption | exact dotOk_mk (by omega) (by omega) (by omega) (by omega)) hra.inv.ok hS hlt) fun _ w12 hs _ => ?_)
          refine RW_op (L_eql rfl rfl ?_)
          refine RW_nil ?_
          refine W_cond (t := decide (gAddE g (gd l k) = 0)) rfl (fun c13 => ?_) (fun c13 => ?_)
          ·
            replace c13 := of_decide_eq_true c13
            refine W_region ?_
            refine RW_op (L_move (V := .slice a1 tk.length c1) rfl ?_)
            refine RW_op (L_move (V := .slice a l.length c) rfl ?_)
            refine RW_op (L_move (V := .int .i64 (k : Int)) rfl ?_)
            refine RW_op (L_ixR UD_25 SA_34.1 (Rd.own' hr hs) rfl rfl (by omega) (by rw [List.length_map]; omega) ?_)
            refine RW_op (L_ldRA (j := 0) (vs := dc (gd l k)) k SA_34 (Rd.own' hr hs) (gd_at (by omega)) rfl rfl rfl (by omega) ?_)
            refine RW_op (L_bs (vals := [.agg (dc (gd l k)).toArray]) (ls := List.map dc ([gd l k] : List Dot)) EL_25 rfl rfl rfl (len_map (enc := dc) (fun _ => rfl) _) (one_map dc_one _) (Nat.le_of_ble_eq_true rfl) hs fun b14 w15 hs => ?_)
            refine RW_op (L_appN (ls' := (tk ++ [gd l k]).map dc) (n := (tk ++ [gd l k]).length) EL_25 hs 3 rfl rfl rfl (hs.rd 4 rfl) (one_map dc_one _) (by simp only [List.length_map, List.length_append, List.length_cons, List.length_nil]; omega) (by simp) (by simp) fun a16 c16 w17 hs => ?_)
            refine RW_op (L_assign (V := .slice a16 ((tk ++ [gd l k]).length) c16) rfl ?_)
            refine RW_nil ?_
            refine W_region ?_
            refine RW_op (L_move (V := .int .i64 (k : Int)) rfl ?_)
            refine RW_op (L_add (a := (k : Int)) (b := 1) (c := (k : Int) + 1) rfl rfl (wr_i64 (by omega) (by omega)) ?_)
            refine RW_op (L_assign (V := .int .i64 ((k : Int) + 1)) rfl ?_)
            refine RW_nil ?_
            refine ⟨_, ?_, _, k + 1, gAddG g (gd l k), a16, c16, tk ++ [gd l k], upd_of (upd_of (mix_of (ds := [9, 10, 27, 28, 29, 30, 31, 32, 33, 34, 35, 36, 37, 38, 39, 40, 41, 42, 43, 44, 45, 46, 47, 48, 49, 50]) (by repeat (first | exact Agr.refl _ _ | refine Agr.upd ?_ rfl | refine Agr.mix ?_ rfl))) rfl) rfl, (by omega), (by omega), (hra.add_yes hdk c13), (by simp only [List.length_append, List.length_cons, List.length_nil]; omega), (Nat.le_trans (gAddG_len _ _) (by omega)), rfl, hs.take 4⟩
            omega
          ·
            replace c13 := of_decide_eq_false c13
            refine W_skip ?_
            refine W_region ?_
            refine RW_op (L_move (V := .int .i64 (k : Int)) rfl ?_)
            refine RW_op (L_add (a := (k : Int)) (b := 1) (c := (k : Int) + 1) rfl rfl (wr_i64 (by omega) (by omega)) ?_)
            refine RW_op (L_assign (V := .int .i64 ((k : Int) + 1)) rfl ?_)
            refine RW_nil ?_
            refine ⟨_, ?_, _, k + 1, gAddG g (gd l k), a1, c1, tk, upd_of (upd_of (mix_of (ds := [9, 10, 27, 28, 29, 30, 31, 32, 33, 34, 35, 36, 37, 38, 39, 40, 41, 42, 43, 44, 45, 46, 47, 48, 49, 50]) (by repeat (first | exact Agr.refl _ _ | refine Agr.upd ?_ rfl | refine Agr.mix ?_ rfl))) rfl) rfl, (by omega), (by omega), (hra.add_no hdk c13), (by omega), (Nat.le_trans (gAddG_len _ _) (by omega)), rfl, hs.take 4⟩
            omega
        ·
          refine W_exit ?_
          refine W_seq ?_
          refine W_seq ?_
          refine W_region ?_
          refine RW_op (L_move (V := .slice a1 tk.length c1) rfl ?_)
          refine RW_op (L_lenR (n := tk.length) UD_25 (hs.rd 3 rfl) (by simp) rfl ?_)
          refine RW_op (L_move (V := .int .i64 0) rfl ?_)
          refine RW_nil ?_
          refine W_block ?_
          have htn : tk.length ≤ 60 := by omega
          refine W_loopI (fun ρ m ρ' w' => ∃ (ρo : Env) (i2 : Nat) (gb : Grp), ρ' = upd (mix [6, 11, 53, 54, 55, 56, 57, 58, 59, 60, 61, 62, 63, 64, 65, 66, 67, 68, 69] ρo ρ) 53 (.int .i64 (i2 : Int)) ∧ (i2 ≤ tk.length) ∧ (RelD gb v (rotL tk q.toNat i2)) ∧ (gb.l.length ≤ i2) ∧ m = tk.length - i2 ∧ Own w no w' [blk b1 (vc v) 24, gR 52 n4 r7 g, gR 52 n5 r8 gb, row (.slice a1 tk.length c1) (tk.map dc) 34 2]) ?_ ?_
          · exact ⟨_, _, 0, (⟨v, []⟩ : Grp), upd_of (mix_of (ds := [6, 11, 53, 54, 55, 56, 57, 58, 59, 60, 61, 62, 63, 64, 65, 66, 67, 68, 69]) (Agr.refl _ _)) rfl, (by omega), (relD_new hv hB), (Nat.le_refl _), rfl, hs⟩
          · rintro m ρ' w18 ⟨ρo, i2, gb, rfl, hi2, hrb, hbl, rfl, hs⟩
            refine W_seq ?_
            refine W_region ?_
            refine RW_op (L_lss rfl rfl ?_)
            refine RW_nil ?_
            refine W_seq ?_
            refine W_cond (t := decide ((i2 : Int) < ((tk.length : Nat) : Int))) rfl (fun c19 => ?_) (fun c19 => ?_)
            ·
              replace c19 := of_decide_eq_true c19
              refine W_skip ?_
              refine W_seq ?_
              refine W_block ?_
              refine W_seq ?_
              refine W_region ?_
              refine RW_op (L_move (V := .int .i64 (i2 : Int)) rfl ?_)
              refine RW_op (L_assign (V := .int .i64 (i2 : Int)) rfl ?_)
              refine RW_nil ?_
              refine W_seq ?_
              have hmt := Nat.mod_lt (i2 + q.toNat) (show 0 < tk.length by omega)
              have hdi := (hra.dl _ (gd_mem (l := tk) (i := (i2 + q.toNat) % tk.length) hmt)).1
              refine W_region ?_
              refine RW_op (L_move (V := .pointer (some ⟨n5, 0, none⟩)) rfl ?_)
              refine RW_op (L_move (V := .slice a1 tk.length c1) rfl ?_)
              refine RW_op (L_move (V := .int .i64 (i2 : Int)) rfl ?_)
              refine RW_op (L_move (V := .int .u8 q) rfl ?_)
              refine RW_op (L_conv UD_5 UD_3 rfl (wr_i64 (by omega) (by omega)) ?_)
              refine RW_op (L_add (a := (i2 : Int)) (b := q) (c := (i2 : Int) + q) rfl rfl (wr_i64 (by omega) (by omega)) ?_)
              refine RW_op (L_move (V := .slice a1 tk.length c1) rfl ?_)
              refine RW_op (L_lenR (n := tk.length) UD_25 (hs.rd 3 rfl) (by simp) rfl ?_)
              refine RW_op (opW_to (V := .int .i64 (((i2 : Int) + q).tmod ((tk.length : Nat) : Int))) (V' := .int .i64 (((i2 + q.toNat) % tk.length : Nat) : Int)) (L_rem rfl rfl (by omega) rfl ⟨rfl, rfl⟩) (congrArg (Value.int .i64) (rot_tmod (by omega) rfl)) ?_)
              refine RW_op (L_ixR UD_25 SA_34.1 (hs.rd 3 rfl) rfl rfl (by omega) (by rw [List.length_map]; omega) ?_)
              refine RW_op (L_ldRA (j := 0) (vs := dc (gd tk (((i2 + q.toNat) % tk.length : Nat) : Int).toNat)) ((((i2 + q.toNat) % tk.length : Nat) : Int).toNat) SA_34 (hs.rd 3 rfl) (gd_at (by omega)) rfl rfl rfl (by omega) ?_)
              refine RW_op (L_callB (vs := [.pointer (some ⟨n5, 0, none⟩), .agg (dc (gd tk (((i2 + q.toNat) % tk.length : Nat) : Int).toNat)).toArray]) (V := fun _ : Unit => .int .i64 (gAddE gb (gd tk (((i2 + q.toNat) % tk.length : Nat) : Int).toNat))) (R := gR 52 n5 r8 gb) (R' := fun _ => gR 52 n5 r8 (gAddG gb (gd tk (((i2 + q.toNat) % tk.length : Nat) : Int).toNat))) (Lo := fun _ => []) (F := fun _ _ => True) EN_21 rfl rfl hs 2 rfl (fun S hS hlt => gAdd_ok _ S _ _ _ _ (by first | assumption | exact dotOk_mk (by omega) (by omega) (by omega) (by omega)) hrb.inv.ok hS hlt) fun _ w20 hs _ => ?_)
              refine RW_op (L_neq rfl rfl ?_)
              refine RW_nil ?_
              refine W_cond (t := !decide (gAddE gb (gd tk (((i2 + q.toNat) % tk.length : Nat) : Int).toNat) = 0)) rfl (fun c21 => ?_) (fun c21 => ?_)
              ·
                replace c21 := not_t c21
                replace c21 := of_decide_eq_false c21
                refine W_seq ?_
                refine W_region ?_
                refine RW_op (L_assign (V := .bool true) rfl ?_)
                refine RW_nil ?_
                refine W_ret ?_
                refine ⟨_, res_one (V := .bool true) Try.results4 rfl, ?_⟩
                refine ⟨congrArg Ending.returned ?_, hs.take 0⟩
                rfl
              ·
                replace c21 := not_f c21
                replace c21 := of_decide_eq_true c21
                refine W_skip ?_
                refine W_region ?_
                refine RW_op (L_add (a := (i2 : Int)) (b := 1) (c := (i2 : Int) + 1) rfl rfl (wr_i64 (by omega) (by omega)) ?_)
                refine RW_op (L_move (V := .int .i64 ((i2 : Int) + 1)) rfl ?_)
                refine RW_nil ?_
                refine ⟨_, ?_, _, i2 + 1, gAddG gb (gd tk (((i2 + q.toNat) % tk.length : Nat) : Int).toNat), upd_of (mix_of (ds := [6, 11, 53, 54, 55, 56, 57, 58, 59, 60, 61, 62, 63, 64, 65, 66, 67, 68, 69]) (by repeat (first | exact Agr.refl _ _ | refine Agr.upd ?_ rfl | refine Agr.mix ?_ rfl))) rfl, (by omega), (by rw [rotL_next]; exact hrb.add_yes hdi c21), (Nat.le_trans (gAddG_len _ _) (by omega)), rfl, hs.take 4⟩
                omega
            ·
              replace c19 := of_decide_eq_false c19
              refine W_exit ?_
              refine W_seq ?_
              have hrot := hra.rot hrb (by omega)
              refine W_region ?_
              refine RW_op (L_move (V := .pointer (some ⟨n4, 0, none⟩)) rfl ?_)
              refine RW_op (L_callP (vs := [.pointer (some ⟨n4, 0, none⟩)]) (V := .agg (vc g.v).toArray) EN_22 rfl rfl (gClosed_ok _ n4 r7 g  (hs.gcells 1 rfl) (hs.gmap 1 rfl)) hs fun w22 hs => ?_)
              refine RW_op (L_move (V := .pointer (some ⟨n5, 0, none⟩)) rfl ?_)
              refine RW_op (L_callP (vs := [.pointer (some ⟨n5, 0, none⟩)]) (V := .agg (vc gb.v).toArray) EN_22 rfl rfl (gClosed_ok _ n5 r8 gb  (hs.gcells 2 rfl) (hs.gmap 2 rfl)) hs fun w23 hs => ?_)
              refine RW_op (opW_to (V := .bool (decide (g.v = gb.v))) (V' := .bool true) (L_eqA (xs := vc g.v) (ys := vc gb.v) Try.eqGuardType24 (EQ_24 g.v gb.v) rfl rfl rfl ⟨rfl, rfl⟩) (congrArg Value.bool (decide_eq_true hrot.1)) ?_)
              refine RW_op (L_move (V := .bool true) rfl ?_)
              refine RW_gy rfl (L_move (V := .pointer (some ⟨n4, 0, none⟩)) rfl ?_)
              refine RW_gy rfl (L_callX (vs := [.pointer (some ⟨n4, 0, none⟩)]) (V := fun x : Option Addr × Nat => .slice x.1 (looseL g).length x.2) EN_25 rfl rfl (gLoose2_ok _ n4 r7 g (by omega) hsort (hs.gcells 1 rfl) (hs.gmap 1 rfl)) hs fun x25 w24 hs _ => ?_)
              refine RW_gy rfl (L_move (V := .pointer (some ⟨n5, 0, none⟩)) rfl ?_)
              refine RW_gy rfl (L_callX (vs := [.pointer (some ⟨n5, 0, none⟩)]) (V := fun x : Option Addr × Nat => .slice x.1 (looseL gb).length x.2) EN_25 rfl rfl (gLoose2_ok _ n5 r8 gb (by omega) hsort (hs.gcells 2 rfl) (hs.gmap 2 rfl)) hs fun x27 w26 hs _ => ?_)
              refine RW_gy rfl (L_callPV (V' := .bool true) (congrArg Value.bool (decide_eq_true hrot.2.1)) (vs := [.slice x25.1 ((looseL g).length) x25.2, .slice x27.1 ((looseL gb).length) x27.2]) (V := .bool (decide (looseL g = looseL gb))) EN_24 rfl rfl (same_ok _ x25.1 x27.1 x25.2 x27.2 (looseL g) (looseL gb) (hs.rd 4 rfl) (hs.rd 5 rfl)) hs fun w28 hs => ?_)
              refine RW_op (L_pick (V := .bool true) rfl rfl ?_)
              refine RW_op (L_move (V := .bool true) rfl ?_)
              refine RW_gy rfl (L_move (V := .pointer (some ⟨n4, 0, none⟩)) rfl ?_)
              refine RW_gy rfl (L_callX (vs := [.pointer (some ⟨n4, 0, none⟩)]) (V := fun x : Option Addr × Nat => .slice x.1 (missL g).length x.2) EN_27 rfl rfl (gMissing2_ok _ n4 r7 g hra.inv.ok (by omega) hsort (hs.gcells 1 rfl) (hs.gmap 1 rfl)) hs fun x30 w29 hs _ => ?_)
              refine RW_gy rfl (L_move (V := .pointer (some ⟨n5, 0, none⟩)) rfl ?_)
              refine RW_gy rfl (L_callX (vs := [.pointer (some ⟨n5, 0, none⟩)]) (V := fun x : Option Addr × Nat => .slice x.1 (missL gb).length x.2) EN_27 rfl rfl (gMissing2_ok _ n5 r8 gb hrb.inv.ok (by omega) hsort (hs.gcells 2 rfl) (hs.gmap 2 rfl)) hs fun x32 w31 hs _ => ?_)
              refine RW_gy rfl (L_callPV (V' := .bool true) (congrArg Value.bool (decide_eq_true hrot.2.2)) (vs := [.slice x30.1 ((missL g).length) x30.2, .slice x32.1 ((missL gb).length) x32.2]) (V := .bool (decide (missL g = missL gb))) EN_24 rfl rfl (same_ok _ x30.1 x32.1 x30.2 x32.2 (missL g) (missL gb) (hs.rd 6 rfl) (hs.rd 7 rfl)) hs fun w33 hs => ?_)
              refine RW_op (L_pick (V := .bool true) rfl rfl ?_)
              refine RW_op (L_assign (V := .bool true) rfl ?_)
              refine RW_nil ?_
              refine W_ret ?_
              refine ⟨_, res_one (V := .bool true) Try.results4 rfl, ?_⟩
              refine ⟨congrArg Ending.returned ?_, hs.take 0⟩
              rfl
end Tt
end Go.Proofs
