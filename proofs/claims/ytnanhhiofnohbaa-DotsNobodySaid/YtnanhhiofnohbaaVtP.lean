/- A part of a proof: what functions of the program compute, and plain facts on that. -/
import Derived.Test.YtnanhhiofnohbaaVtO
import Derived.Test.YtnanhhiofnohbaaVxU
namespace Go.Proofs
open Go Go.Vx Go.RowKit
namespace Tt

set_option maxRecDepth 20000 in
set_option maxHeartbeats 4000000 in
theorem dotsParts_yes (w : World) (v : Vec) (a : Option Addr) (c : Nat) (l : List Dot) (d : Dot) (hv : VecOk v) (hl : ∀ d ∈ l, DotOk d) (hd : DotOk d) (hr : Rd w (.slice a l.length c) 2 (l.map dc)) (hsort : SortC Try.prog 64 51 dc 34 2 sortD) (hB : rightB v 16 = true) : Calls Try.prog 5 #[.agg (vc v).toArray, .slice a l.length c, .agg (dc d).toArray] w (fun e w' => e = .returned (.bool true) ∧ Own w no w' []) := by
  refine calls_of_Wn (n := 136) Try.func5 rfl Try.ntmps5 rfl ?_
  have hs := Own.start w
  have hn := hr.sml
  refine W_seq ?_
  refine W_region ?_
  refine RW_op (L_box (V := .agg (vc v).toArray) (cs := vc v) rfl rfl hs fun b1 w2 hs => ?_)
  refine RW_op (L_box (V := .agg (dc d).toArray) (cs := dc d) rfl rfl hs fun b3 w4 hs => ?_)
  refine RW_op (L_assign (V := .bool false) rfl ?_)
  refine RW_nil ?_
  refine W_seq ?_
  refine W_seq ?_
  refine W_region ?_
  refine RW_op (L_callP (vs := []) (V := .bool true) EN_15 rfl rfl (alive5_ok _ hsort) hs fun w5 hs => ?_)
  refine RW_op (L_not rfl ?_)
  refine RW_nil ?_
  refine W_condF rfl ?_
  refine W_skip ?_
  refine W_seq ?_
  refine W_region ?_
  refine RW_op (L_ldW (cs := vc v) SA_24 hs 0 rfl rfl rfl ?_)
  refine RW_op (L_callX (vs := [.agg (vc v).toArray]) EN_16 rfl rfl (gNew_yes _ v hv hB) hs fun x7 w6 hs _ => ?_)
  refine RW_op (L_assign (V := .pointer (some ⟨x7.1, 0, none⟩)) rfl ?_)
  refine RW_nil ?_
  refine W_seq ?_
  refine W_seq ?_
  refine W_region ?_
  refine RW_op (L_move (V := .pointer (some ⟨x7.1, 0, none⟩)) rfl ?_)
  refine RW_op (L_ptrnil UD_27 rfl rfl ?_)
  refine RW_nil ?_
  refine W_condF rfl ?_
  refine W_skip ?_
  refine W_seq ?_
  refine W_seq ?_
  refine W_region ?_
  refine RW_op (L_assign (V := .int .i64 0) rfl ?_)
  refine RW_nil ?_
  refine W_block ?_
  refine W_loopI (fun ρ m ρ' w' => ∃ (ρo : Env) (k : Nat) (g : Grp), ρ' = upd (mix [8, 27, 28, 29, 30, 31, 32, 33, 34, 35, 36, 37, 38, 39, 40, 41, 42] ρo ρ) 8 (.int .i64 (k : Int)) ∧ (k ≤ l.length) ∧ (k ≤ 60) ∧ (GInv g) ∧ (g.l.length ≤ k) ∧ (∀ j, vat v j ≤ vat g.v j) ∧ m = l.length - k ∧ Own w no w' [blk b1 (vc v) 24, blk b3 (dc d) 34, gR 52 x7.1 x7.2 g]) ?_ ?_
  · exact ⟨_, _, 0, (⟨v, []⟩ : Grp), upd_of (mix_of (ds := [8, 27, 28, 29, 30, 31, 32, 33, 34, 35, 36, 37, 38, 39, 40, 41, 42]) (Agr.refl _ _)) rfl, (by omega), (by omega), (gInv_new hv hB), (Nat.le_refl _), (fun _ => Int.le_refl _), rfl, hs⟩
  · rintro m ρ' w8 ⟨ρo, k, g, rfl, hk, hk60, hgi, hgl, hle, rfl, hs⟩
    refine W_seq ?_
    refine W_seq ?_
    refine W_inv2 [27, 28, 29, 30, 31, 32, 33, 34] [[], [], [1], [0, 2], [3], [4], [5, 4], [4, 6]] (fun D ρ wx => Own w no wx [blk b1 (vc v) 24, blk b3 (dc d) 34, gR 52 x7.1 x7.2 g] ∧ (D 0 = true → ρ 27 = .int .i64 (k : Int)) ∧ (D 1 = true → ρ 28 = .slice a l.length c) ∧ (D 2 = true → ρ 29 = .int .i64 ((l.length : Nat) : Int)) ∧ (D 3 = true → ρ 30 = .bool (decide ((k : Int) < ((l.length : Nat) : Int)))) ∧ (D 4 = true → ρ 31 = .bool (decide ((k : Int) < ((l.length : Nat) : Int)))) ∧ (D 5 = true → ρ 32 = cond ((decide ((k : Int) < ((l.length : Nat) : Int))) == true) (.int .i64 (k : Int)) undef) ∧ (D 6 = true → ρ 33 = cond ((decide ((k : Int) < ((l.length : Nat) : Int))) == true) (.bool (decide ((k : Int) < 60))) undef) ∧ (D 7 = true → ρ 34 = .bool ((decide ((k : Int) < ((l.length : Nat) : Int))) && (decide ((k : Int) < 60))))) rfl rfl rfl ⟨hs, fun h => absurd h Bool.false_ne_true, fun h => absurd h Bool.false_ne_true, fun h => absurd h Bool.false_ne_true, fun h => absurd h Bool.false_ne_true, fun h => absurd h Bool.false_ne_true, fun h => absurd h Bool.false_ne_true, fun h => absurd h Bool.false_ne_true, fun h => absurd h Bool.false_ne_true⟩ ⟨?_, ?_, ?_, ?_, ?_, ?_, ?_, ?_, trivial⟩ ?_
    · rintro D ρ wx hD hd hdc hf ⟨hs, f0, f1, f2, f3, f4, f5, f6, f7⟩
      have r8 : ρ 8 = .int .i64 (k : Int) := outD hf 8 rfl
      exact .inl ⟨rfl, L_move (V := .int .i64 (k : Int)) r8 ⟨hs, fun _ => rfl, f1, f2, f3, f4, f5, f6, f7⟩⟩
    · rintro D ρ wx hD hd hdc hf ⟨hs, f0, f1, f2, f3, f4, f5, f6, f7⟩
      have r1 : ρ 1 = .slice a l.length c := outD hf 1 rfl
      exact .inl ⟨rfl, L_move (V := .slice a l.length c) r1 ⟨hs, f0, fun _ => rfl, f2, f3, f4, f5, f6, f7⟩⟩
    · rintro D ρ wx hD hd hdc hf ⟨hs, f0, f1, f2, f3, f4, f5, f6, f7⟩
      have g1 := f1 (doneD hd 1 rfl)
      exact .inl ⟨rfl, L_lenR (n := l.length) UD_25 (Rd.own' hr hs) (by simp) g1 ⟨hs, f0, f1, fun _ => rfl, f3, f4, f5, f6, f7⟩⟩
    · rintro D ρ wx hD hd hdc hf ⟨hs, f0, f1, f2, f3, f4, f5, f6, f7⟩
      have g0 := f0 (doneD hd 0 rfl)
      have g2 := f2 (doneD hd 2 rfl)
      exact .inl ⟨rfl, L_lss g0 g2 ⟨hs, f0, f1, f2, fun _ => rfl, f4, f5, f6, f7⟩⟩
    · rintro D ρ wx hD hd hdc hf ⟨hs, f0, f1, f2, f3, f4, f5, f6, f7⟩
      have g3 := f3 (doneD hd 3 rfl)
      exact .inl ⟨rfl, L_move (V := .bool (decide ((k : Int) < ((l.length : Nat) : Int)))) g3 ⟨hs, f0, f1, f2, f3, fun _ => rfl, f5, f6, f7⟩⟩
    · rintro D ρ wx hD hd hdc hf ⟨hs, f0, f1, f2, f3, f4, f5, f6, f7⟩
      have r8 : ρ 8 = .int .i64 (k : Int) := outD hf 8 rfl
      rcases Bool.eq_false_or_eq_true ((decide ((k : Int) < ((l.length : Nat) : Int))) == true) with hG | hG
      rotate_left
      · exact .inr ⟨(Eq.trans (wantG1 (j := 4) rfl (f4 (doneD hd 4 rfl))) hG), ⟨hs, f0, f1, f2, f3, f4, fun _ => (condF hG).symm, f6, f7⟩⟩
      ·
        exact .inl ⟨(Eq.trans (wantG1 (j := 4) rfl (f4 (doneD hd 4 rfl))) hG), L_move (V := .int .i64 (k : Int)) r8 ⟨hs, f0, f1, f2, f3, f4, fun _ => (condT hG).symm, f6, f7⟩⟩
    · rintro D ρ wx hD hd hdc hf ⟨hs, f0, f1, f2, f3, f4, f5, f6, f7⟩
      have g5 := f5 (doneD hd 5 rfl)
      rcases Bool.eq_false_or_eq_true ((decide ((k : Int) < ((l.length : Nat) : Int))) == true) with hG | hG
      rotate_left
      · exact .inr ⟨(Eq.trans (wantG1 (j := 4) rfl (f4 (doneD hd 4 rfl))) hG), ⟨hs, f0, f1, f2, f3, f4, f5, fun _ => (condF hG).symm, f7⟩⟩
      ·
        exact .inl ⟨(Eq.trans (wantG1 (j := 4) rfl (f4 (doneD hd 4 rfl))) hG), L_lss ((g5).trans (condT (by exact hG))) rfl ⟨hs, f0, f1, f2, f3, f4, f5, fun _ => (condT hG).symm, f7⟩⟩
    · rintro D ρ wx hD hd hdc hf ⟨hs, f0, f1, f2, f3, f4, f5, f6, f7⟩
      have g4 := f4 (doneD hd 4 rfl)
      have g6 := f6 (doneD hd 6 rfl)
      exact .inl ⟨rfl, L_and g4 rfl (fun hg => ((g6).trans (condT (by first | exact beqT hg | rfl)))) ⟨hs, f0, f1, f2, f3, f4, f5, f6, fun _ => rfl⟩⟩
    · rintro ρ1 w1 D hD hf ⟨hs, f0, f1, f2, f3, f4, f5, f6, f7⟩
      have e7 := f7 (hD 7 rfl)
      clear f0 f1 f2 f3 f4 f5 f6 f7
      obtain ⟨ρ2, hρ⟩ : ∃ ρ2, ρ1 = upd (mix [27, 28, 29, 30, 31, 32, 33, 34] ρ2 _) 34 (.bool ((decide ((k : Int) < ((l.length : Nat) : Int))) && (decide ((k : Int) < 60)))) := ⟨ρ1, upd_of (mix_of (ds := [27, 28, 29, 30, 31, 32, 33, 34]) hf) e7⟩
      clear hf hD e7
      subst hρ
      refine W_cond (t := (decide ((k : Int) < ((l.length : Nat) : Int))) && (decide ((k : Int) < 60))) rfl (fun c10 => ?_) (fun c10 => ?_)
      ·
        have c10r := and_r c10
        replace c10 := and_l c10
        replace c10 := of_decide_eq_true c10
        replace c10r := of_decide_eq_true c10r
        refine W_skip ?_
        refine W_seq ?_
        refine W_block ?_
        have hdk := hl _ (gd_mem (l := l) (i := k) (by omega))
        have hgr := add_grows hgi hdk
        refine W_region ?_
        refine RW_op (L_move (V := .pointer (some ⟨x7.1, 0, none⟩)) rfl ?_)
        refine RW_op (L_move (V := .slice a l.length c) rfl ?_)
        refine RW_op (L_move (V := .int .i64 (k : Int)) rfl ?_)
        refine RW_op (L_ixR UD_25 SA_34.1 (Rd.own' hr hs) rfl rfl (by omega) (by rw [List.length_map]; omega) ?_)
        refine RW_op (L_ldRA (j := 0) (vs := dc (gd l k)) k SA_34 (Rd.own' hr hs) (gd_at (by omega)) rfl rfl rfl (by omega) ?_)
        refine RW_op (L_callB (vs := [.pointer (some ⟨x7.1, 0, none⟩), .agg (dc (gd l k)).toArray]) (V := fun _ : Unit => .int .i64 (gAddE g (gd l k))) (R := gR 52 x7.1 x7.2 g) (R' := fun _ => gR 52 x7.1 x7.2 (gAddG g (gd l k))) (Lo := fun _ => []) (F := fun _ _ => True) EN_21 rfl rfl hs 2 rfl (fun S hS hlt => gAdd_ok _ S _ _ _ _ (by first | assumption | exact dotOk_mk (by omega) (by omega) (by omega) (by omega)) hgi.ok hS hlt) fun _ w11 hs _ => ?_)
        refine RW_nil ?_
        refine W_region ?_
        refine RW_op (L_move (V := .int .i64 (k : Int)) rfl ?_)
        refine RW_op (L_add (a := (k : Int)) (b := 1) (c := (k : Int) + 1) rfl rfl (wr_i64 (by omega) (by omega)) ?_)
        refine RW_op (L_assign (V := .int .i64 ((k : Int) + 1)) rfl ?_)
        refine RW_nil ?_
        refine ⟨_, ?_, _, k + 1, gAddG g (gd l k), upd_of (mix_of (ds := [8, 27, 28, 29, 30, 31, 32, 33, 34, 35, 36, 37, 38, 39, 40, 41, 42]) (by repeat (first | exact Agr.refl _ _ | refine Agr.upd ?_ rfl | refine Agr.mix ?_ rfl))) rfl, (by omega), (by omega), hgr.inv, (Nat.le_trans (gAddG_len _ _) (by omega)), (fun j => Int.le_trans (hle j) (hgr.le j)), rfl, hs.take 3⟩
        omega
      ·
        refine W_exit ?_
        refine W_seq ?_
        have hbel : vle v g.v = true := vle_of hle
        have hph := parts_has g d
        refine W_region ?_
        refine RW_op (L_move (V := .pointer (some ⟨x7.1, 0, none⟩)) rfl ?_)
        refine RW_op (L_callP (vs := [.pointer (some ⟨x7.1, 0, none⟩)]) (V := .agg (vc g.v).toArray) EN_22 rfl rfl (gClosed_ok _ x7.1 x7.2 g  (hs.gcells 2 rfl) (hs.gmap 2 rfl)) hs fun w12 hs => ?_)
        refine RW_op (L_alloc (cs := vc vzero) ZV_24 rfl hs fun b13 w14 hs => ?_)
        refine RW_op (L_st (V := .agg (vc g.v).toArray) (vs := vc g.v) (cs' := vc g.v) SA_24.1 hs 3 rfl rfl rfl rfl rfl (Nat.le_of_ble_eq_true rfl) (vc_one _) (spl_whole rfl) fun w15 hs => ?_)
        refine RW_nil ?_
        refine W_seq ?_
        refine W_region ?_
        refine RW_op (L_ldW (cs := vc g.v) SA_24 hs 3 rfl rfl rfl ?_)
        refine RW_op (L_ldW (cs := dc d) SA_34 hs 1 rfl rfl rfl ?_)
        refine RW_op (L_callP (vs := [.agg (vc g.v).toArray, .agg (dc d).toArray]) (V := .bool (hasB g.v d)) EN_29 rfl rfl (rHas_ok _ g.v d (by first | assumption | exact dotOk_mk (by omega) (by omega) (by omega) (by omega))) hs fun w16 hs => ?_)
        refine RW_op (L_assign (V := .bool (hasB g.v d)) rfl ?_)
        refine RW_nil ?_
        refine W_seq ?_
        refine W_seq ?_
        refine W_region ?_
        refine RW_op (L_move (V := .pointer (some ⟨x7.1, 0, none⟩)) rfl ?_)
        refine RW_op (L_callX (vs := [.pointer (some ⟨x7.1, 0, none⟩)]) (V := fun x : Option Addr × Nat => .slice x.1 (looseL g).length x.2) EN_25 rfl rfl (gLoose2_ok _ x7.1 x7.2 g (by omega) hsort (hs.gcells 2 rfl) (hs.gmap 2 rfl)) hs fun x18 w17 hs _ => ?_)
        refine RW_op (L_lenR (n := (looseL g).length) UD_25 (hs.rd 4 rfl) (by simp) rfl ?_)
        refine RW_op (L_move (V := .int .i64 0) rfl ?_)
        refine RW_nil ?_
        refine W_block ?_
        have hll := looseL_len g
        refine W_loopI (fun ρ m ρ' w' => ∃ (ρo : Env) (i2 : Nat) (inn : Bool), ρ' = upd (upd (mix [6, 10, 12, 51, 52, 53, 54, 55, 56, 57, 58, 59, 60, 61, 62, 63, 64, 65, 66, 67, 68, 69, 70, 71, 72, 73, 74, 75, 76, 77, 78, 79, 80, 81, 82] ρo ρ) 51 (.int .i64 (i2 : Int))) 10 (.bool inn) ∧ (i2 ≤ (looseL g).length) ∧ (inn = (hasB g.v d || ((looseL g).take i2).any fun (x : Dot) => decide (x = d))) ∧ m = (looseL g).length - i2 ∧ Own w no w' [blk b1 (vc v) 24, blk b3 (dc d) 34, gR 52 x7.1 x7.2 g, blk b13 (vc g.v) 24, row (.slice x18.1 ((looseL g).length) x18.2) ((looseL g).map dc) 34 2]) ?_ ?_
        · exact ⟨_, _, 0, hasB g.v d, upd_of (upd_of (mix_of (ds := [6, 10, 12, 51, 52, 53, 54, 55, 56, 57, 58, 59, 60, 61, 62, 63, 64, 65, 66, 67, 68, 69, 70, 71, 72, 73, 74, 75, 76, 77, 78, 79, 80, 81, 82]) (Agr.refl _ _)) rfl) rfl, (by omega), (any_start _ _ _), rfl, hs⟩
        · rintro m ρ' w19 ⟨ρo, i2, inn, rfl, hi2, hinn, rfl, hs⟩
          have hvo := hgi.ok.v
          refine W_seq ?_
          refine W_region ?_
          refine RW_op (L_lss rfl rfl ?_)
          refine RW_nil ?_
          refine W_seq ?_
          refine W_cond (t := decide ((i2 : Int) < (((looseL g).length : Nat) : Int))) rfl (fun c20 => ?_) (fun c20 => ?_)
          ·
            replace c20 := of_decide_eq_true c20
            refine W_skip ?_
            refine W_seq ?_
            refine W_block ?_
            refine W_seq ?_
            obtain ⟨hxd, hx1, hx2, hx3, hx4, hx5⟩ := loose_dot hgi (gd_mem (l := looseL g) (i := i2) (by omega))
            have hx6 := hvo.at (gd (looseL g) i2).rep.toNat
            have ⟨_, hx7, hx8⟩ := hxd
            refine W_region ?_
            refine RW_op (L_ixR UD_25 SA_34.1 (hs.rd 4 rfl) rfl rfl (by omega) (by rw [List.length_map]; omega) ?_)
            refine RW_op (L_ldRA (j := 0) (vs := dc (gd (looseL g) i2)) i2 SA_34 (hs.rd 4 rfl) (gd_at (by omega)) rfl rfl rfl (by omega) ?_)
            refine RW_op (L_alloc (cs := dc (⟨0, 0⟩ : Dot)) ZV_34 rfl hs fun b21 w22 hs => ?_)
            refine RW_op (L_st (V := .agg (dc (gd (looseL g) i2)).toArray) (vs := dc (gd (looseL g) i2)) (cs' := dc (gd (looseL g) i2)) SA_34.1 hs 5 rfl rfl rfl rfl rfl (Nat.le_of_ble_eq_true rfl) (dc_one _) (spl_whole rfl) fun w23 hs => ?_)
            refine RW_nil ?_
            refine W_seq ?_
            refine W_inv2 [55, 56, 57, 58, 59, 60, 10] [[], [0], [1], [1], [2, 3, 1], [1, 4], [5, 1, 0, 1, 2, 3, 4, 5]] (fun D ρ wx => Own w no wx [blk b1 (vc v) 24, blk b3 (dc d) 34, gR 52 x7.1 x7.2 g, blk b13 (vc g.v) 24, row (.slice x18.1 ((looseL g).length) x18.2) ((looseL g).map dc) 34 2, blk b21 (dc (gd (looseL g) i2)) 34] ∧ (D 0 = true → ρ 55 = .bool inn) ∧ (D 1 = true → ρ 56 = .bool inn) ∧ (D 2 = true → ρ 57 = cond (inn == false) (.agg (dc (gd (looseL g) i2)).toArray) undef) ∧ (D 3 = true → ρ 58 = cond (inn == false) (.agg (dc d).toArray) undef) ∧ (D 4 = true → ρ 59 = cond (inn == false) (.bool (decide (gd (looseL g) i2 = d))) undef) ∧ (D 5 = true → ρ 60 = .bool (inn || (decide (gd (looseL g) i2 = d)))) ∧ (D 6 = true → ρ 10 = .bool (inn || (decide (gd (looseL g) i2 = d)))) ∧ (D 6 = false → ρ 10 = .bool inn)) rfl rfl rfl ⟨hs, fun h => absurd h Bool.false_ne_true, fun h => absurd h Bool.false_ne_true, fun h => absurd h Bool.false_ne_true, fun h => absurd h Bool.false_ne_true, fun h => absurd h Bool.false_ne_true, fun h => absurd h Bool.false_ne_true, fun h => absurd h Bool.false_ne_true, fun _ => rfl⟩ ⟨?_, ?_, ?_, ?_, ?_, ?_, ?_, trivial⟩ ?_
            · rintro D ρ wx hD hd hdc hf ⟨hs, f0, f1, f2, f3, f4, f5, f6, q10⟩
              have r10 : ρ 10 = .bool inn := q10 (notYetD hdc (j := 6) rfl rfl hD)
              exact .inl ⟨rfl, L_move (V := .bool inn) r10 ⟨hs, fun _ => rfl, f1, f2, f3, f4, f5, f6, q10⟩⟩
            · rintro D ρ wx hD hd hdc hf ⟨hs, f0, f1, f2, f3, f4, f5, f6, q10⟩
              have g0 := f0 (doneD hd 0 rfl)
              exact .inl ⟨rfl, L_move (V := .bool inn) g0 ⟨hs, f0, fun _ => rfl, f2, f3, f4, f5, f6, q10⟩⟩
            · rintro D ρ wx hD hd hdc hf ⟨hs, f0, f1, f2, f3, f4, f5, f6, q10⟩
              have r12 : ρ 12 = .pointer (some ⟨b21, 0, none⟩) := outD hf 12 rfl
              rcases Bool.eq_false_or_eq_true (inn == false) with hG | hG
              rotate_left
              · exact .inr ⟨(Eq.trans (wantG1 (j := 1) rfl (f1 (doneD hd 1 rfl))) hG), ⟨hs, f0, f1, fun _ => (condF hG).symm, f3, f4, f5, f6, q10⟩⟩
              ·
                exact .inl ⟨(Eq.trans (wantG1 (j := 1) rfl (f1 (doneD hd 1 rfl))) hG), L_ldW (cs := dc (gd (looseL g) i2)) SA_34 hs 5 rfl r12 rfl ⟨hs, f0, f1, fun _ => (condT hG).symm, f3, f4, f5, f6, q10⟩⟩
            · rintro D ρ wx hD hd hdc hf ⟨hs, f0, f1, f2, f3, f4, f5, f6, q10⟩
              have r5 : ρ 5 = .pointer (some ⟨b3, 0, none⟩) := outD hf 5 rfl
              rcases Bool.eq_false_or_eq_true (inn == false) with hG | hG
              rotate_left
              · exact .inr ⟨(Eq.trans (wantG1 (j := 1) rfl (f1 (doneD hd 1 rfl))) hG), ⟨hs, f0, f1, f2, fun _ => (condF hG).symm, f4, f5, f6, q10⟩⟩
              ·
                exact .inl ⟨(Eq.trans (wantG1 (j := 1) rfl (f1 (doneD hd 1 rfl))) hG), L_ldW (cs := dc d) SA_34 hs 1 rfl r5 rfl ⟨hs, f0, f1, f2, fun _ => (condT hG).symm, f4, f5, f6, q10⟩⟩
            · rintro D ρ wx hD hd hdc hf ⟨hs, f0, f1, f2, f3, f4, f5, f6, q10⟩
              have g2 := f2 (doneD hd 2 rfl)
              have g3 := f3 (doneD hd 3 rfl)
              rcases Bool.eq_false_or_eq_true (inn == false) with hG | hG
              rotate_left
              · exact .inr ⟨(Eq.trans (wantG1 (j := 1) rfl (f1 (doneD hd 1 rfl))) hG), ⟨hs, f0, f1, f2, f3, fun _ => (condF hG).symm, f5, f6, q10⟩⟩
              ·
                exact .inl ⟨(Eq.trans (wantG1 (j := 1) rfl (f1 (doneD hd 1 rfl))) hG), L_eqA (xs := dc (gd (looseL g) i2)) (ys := dc d) Try.eqGuardType34 (EQ_34 (gd (looseL g) i2) d) rfl ((g2).trans (condT (by exact hG))) ((g3).trans (condT (by exact hG))) ⟨hs, f0, f1, f2, f3, fun _ => (condT hG).symm, f5, f6, q10⟩⟩
            · rintro D ρ wx hD hd hdc hf ⟨hs, f0, f1, f2, f3, f4, f5, f6, q10⟩
              have g1 := f1 (doneD hd 1 rfl)
              have g4 := f4 (doneD hd 4 rfl)
              exact .inl ⟨rfl, L_or g1 rfl (fun hg => ((g4).trans (condT (by first | exact beqT hg | rfl)))) ⟨hs, f0, f1, f2, f3, f4, fun _ => rfl, f6, q10⟩⟩
            · rintro D ρ wx hD hd hdc hf ⟨hs, f0, f1, f2, f3, f4, f5, f6, q10⟩
              have g5 := f5 (doneD hd 5 rfl)
              exact .inl ⟨rfl, L_assign (V := .bool (inn || (decide (gd (looseL g) i2 = d)))) g5 ⟨hs, f0, f1, f2, f3, f4, f5, fun _ => rfl, (fun h => nomatch (show true = false from h))⟩⟩
            · rintro ρ1 w1 D hD hf ⟨hs, f0, f1, f2, f3, f4, f5, f6, q10⟩
              have e6 := f6 (hD 6 rfl)
              clear f0 f1 f2 f3 f4 f5 f6 q10
              obtain ⟨ρ2, hρ⟩ : ∃ ρ2, ρ1 = upd (mix [55, 56, 57, 58, 59, 60, 10] ρ2 _) 10 (.bool (inn || (decide (gd (looseL g) i2 = d)))) := ⟨ρ1, upd_of (mix_of (ds := [55, 56, 57, 58, 59, 60, 10]) hf) e6⟩
              clear hf hD e6
              subst hρ
              refine W_seq ?_
              replace hs := hs.drew
              refine W_draw2 HM [61, 62, 63, 64, 65, 66, 67, 68, 69, 70, 71, 72, 73, 74, 75, 76, 77, 78, 79, 80, 81] [[], [], [0, 1], [2, 2], [3], [3], [4, 5, 3, 3], [6, 3], [3, 7], [8, 6], [9], [9], [11, 9], [9], [13, 9], [14, 9], [15, 9], [16, 9], [12, 17, 9], [10, 18, 9, 9], [9, 19]] (fun D ρ wx => Own w no wx [blk b1 (vc v) 24, blk b3 (dc d) 34, gR 52 x7.1 x7.2 g, blk b13 (vc g.v) 24, row (.slice x18.1 ((looseL g).length) x18.2) ((looseL g).map dc) 34 2, blk b21 (dc (gd (looseL g) i2)) 34] ∧ (D 0 = true → ρ 61 = .agg (vc g.v).toArray) ∧ (D 1 = true → ρ 62 = .agg (dc (gd (looseL g) i2)).toArray) ∧ (D 2 = true → ρ 63 = .bool false) ∧ (D 3 = true → ρ 64 = .bool false) ∧ (D 4 = true → ρ 65 = .pointer (some ⟨x7.1, 0, none⟩)) ∧ (D 5 = true → ρ 66 = .agg (dc (gd (looseL g) i2)).toArray) ∧ (D 6 = true → ρ 67 = .bool true) ∧ (D 7 = true → ρ 68 = .bool false) ∧ (D 8 = true → ρ 69 = .bool false) ∧ (D 9 = true → ρ 70 = .bool false) ∧ (D 10 = true → ρ 71 = .pointer (some ⟨x7.1, 0, none⟩)) ∧ (D 11 = true → ρ 72 = .pointer (some ⟨b21, 0 + 0, none⟩)) ∧ (D 12 = true → ρ 73 = .int .u8 ((gd (looseL g) i2).rep)) ∧ (D 13 = true → ρ 74 = .pointer (some ⟨b21, 0 + 0, none⟩)) ∧ (D 14 = true → ρ 75 = .int .u8 ((gd (looseL g) i2).rep)) ∧ (D 15 = true → ρ 76 = .pointer (some ⟨b13, 0 + ((gd (looseL g) i2).rep).toNat, none⟩)) ∧ (D 16 = true → ρ 77 = .int .u32 (vat g.v ((gd (looseL g) i2).rep).toNat)) ∧ (D 17 = true → ρ 78 = .int .u32 ((vat g.v ((gd (looseL g) i2).rep).toNat) + 1)) ∧ (D 18 = true → ρ 79 = .agg (dc (⟨(gd (looseL g) i2).rep, (vat g.v ((gd (looseL g) i2).rep).toNat) + 1⟩ : Dot)).toArray) ∧ (D 19 = true → ρ 80 = .bool false) ∧ (D 20 = true → ρ 81 = .bool false)) rfl rfl rfl ⟨hs, fun h => absurd h Bool.false_ne_true, fun h => absurd h Bool.false_ne_true, fun h => absurd h Bool.false_ne_true, fun h => absurd h Bool.false_ne_true, fun h => absurd h Bool.false_ne_true, fun h => absurd h Bool.false_ne_true, fun h => absurd h Bool.false_ne_true, fun h => absurd h Bool.false_ne_true, fun h => absurd h Bool.false_ne_true, fun h => absurd h Bool.false_ne_true, fun h => absurd h Bool.false_ne_true, fun h => absurd h Bool.false_ne_true, fun h => absurd h Bool.false_ne_true, fun h => absurd h Bool.false_ne_true, fun h => absurd h Bool.false_ne_true, fun h => absurd h Bool.false_ne_true, fun h => absurd h Bool.false_ne_true, fun h => absurd h Bool.false_ne_true, fun h => absurd h Bool.false_ne_true, fun h => absurd h Bool.false_ne_true, fun h => absurd h Bool.false_ne_true⟩ ⟨?_, ?_, ?_, ?_, ?_, ?_, ?_, ?_, ?_, ?_, ?_, ?_, ?_, ?_, ?_, ?_, ?_, ?_, ?_, ?_, ?_, trivial⟩ ?_
              · rintro D ρ wx hD hd hdc hf ⟨hs, f0, f1, f2, f3, f4, f5, f6, f7, f8, f9, f10, f11, f12, f13, f14, f15, f16, f17, f18, f19, f20⟩
                have r9 : ρ 9 = .pointer (some ⟨b13, 0, none⟩) := outD hf 9 rfl
                exact .inl ⟨rfl, L_ldW (cs := vc g.v) SA_24 hs 3 rfl r9 rfl ⟨hs, fun _ => rfl, f1, f2, f3, f4, f5, f6, f7, f8, f9, f10, f11, f12, f13, f14, f15, f16, f17, f18, f19, f20⟩⟩
              · rintro D ρ wx hD hd hdc hf ⟨hs, f0, f1, f2, f3, f4, f5, f6, f7, f8, f9, f10, f11, f12, f13, f14, f15, f16, f17, f18, f19, f20⟩
                have r12 : ρ 12 = .pointer (some ⟨b21, 0, none⟩) := outD hf 12 rfl
                exact .inl ⟨rfl, L_ldW (cs := dc (gd (looseL g) i2)) SA_34 hs 5 rfl r12 rfl ⟨hs, f0, fun _ => rfl, f2, f3, f4, f5, f6, f7, f8, f9, f10, f11, f12, f13, f14, f15, f16, f17, f18, f19, f20⟩⟩
              · rintro D ρ wx hD hd hdc hf ⟨hs, f0, f1, f2, f3, f4, f5, f6, f7, f8, f9, f10, f11, f12, f13, f14, f15, f16, f17, f18, f19, f20⟩
                have g0 := f0 (doneD hd 0 rfl)
                have g1 := f1 (doneD hd 1 rfl)
                exact .inl ⟨rfl, L_callPV (V' := .bool false) (congrArg Value.bool (hx1)) (vs := [.agg (vc g.v).toArray, .agg (dc (gd (looseL g) i2)).toArray]) (V := .bool (hasB g.v (gd (looseL g) i2))) EN_29 rfl (mapc g0 (mapc g1 rfl)) (rHas_ok _ g.v (gd (looseL g) i2) (by first | assumption | exact dotOk_mk (by omega) (by omega) (by omega) (by omega))) hs fun _ hs0 => ⟨hs0, f0, f1, fun _ => rfl, f3, f4, f5, f6, f7, f8, f9, f10, f11, f12, f13, f14, f15, f16, f17, f18, f19, f20⟩⟩
              · rintro D ρ wx hD hd hdc hf ⟨hs, f0, f1, f2, f3, f4, f5, f6, f7, f8, f9, f10, f11, f12, f13, f14, f15, f16, f17, f18, f19, f20⟩
                have g2 := f2 (doneD hd 2 rfl)
                exact .inl ⟨rfl, L_move (V := .bool false) g2 ⟨hs, f0, f1, f2, fun _ => rfl, f4, f5, f6, f7, f8, f9, f10, f11, f12, f13, f14, f15, f16, f17, f18, f19, f20⟩⟩
              · rintro D ρ wx hD hd hdc hf ⟨hs, f0, f1, f2, f3, f4, f5, f6, f7, f8, f9, f10, f11, f12, f13, f14, f15, f16, f17, f18, f19, f20⟩
                have r7 : ρ 7 = .pointer (some ⟨x7.1, 0, none⟩) := outD hf 7 rfl
                exact .inl ⟨(Eq.trans (wantG1 (j := 3) rfl (f3 (doneD hd 3 rfl))) rfl), L_move (V := .pointer (some ⟨x7.1, 0, none⟩)) r7 ⟨hs, f0, f1, f2, f3, fun _ => rfl, f5, f6, f7, f8, f9, f10, f11, f12, f13, f14, f15, f16, f17, f18, f19, f20⟩⟩
              · rintro D ρ wx hD hd hdc hf ⟨hs, f0, f1, f2, f3, f4, f5, f6, f7, f8, f9, f10, f11, f12, f13, f14, f15, f16, f17, f18, f19, f20⟩
                have r12 : ρ 12 = .pointer (some ⟨b21, 0, none⟩) := outD hf 12 rfl
                exact .inl ⟨(Eq.trans (wantG1 (j := 3) rfl (f3 (doneD hd 3 rfl))) rfl), L_ldW (cs := dc (gd (looseL g) i2)) SA_34 hs 5 rfl r12 rfl ⟨hs, f0, f1, f2, f3, f4, fun _ => rfl, f6, f7, f8, f9, f10, f11, f12, f13, f14, f15, f16, f17, f18, f19, f20⟩⟩
              · rintro D ρ wx hD hd hdc hf ⟨hs, f0, f1, f2, f3, f4, f5, f6, f7, f8, f9, f10, f11, f12, f13, f14, f15, f16, f17, f18, f19, f20⟩
                have g4 := f4 (doneD hd 4 rfl)
                have g5 := f5 (doneD hd 5 rfl)
                exact .inl ⟨(Eq.trans (wantG1 (j := 3) rfl (f3 (doneD hd 3 rfl))) rfl), L_callPV (V' := .bool true) (congrArg Value.bool (hx2)) (vs := [.pointer (some ⟨x7.1, 0, none⟩), .agg (dc (gd (looseL g) i2)).toArray]) (V := .bool (gHas g (gd (looseL g) i2))) EN_18 rfl (mapc g4 (mapc g5 rfl)) (gHas_ok _ x7.1 x7.2 g (gd (looseL g) i2) (by first | assumption | exact dotOk_mk (by omega) (by omega) (by omega) (by omega)) (hs.gcells 2 rfl) (hs.gmap 2 rfl)) hs fun _ hs0 => ⟨hs0, f0, f1, f2, f3, f4, f5, fun _ => rfl, f7, f8, f9, f10, f11, f12, f13, f14, f15, f16, f17, f18, f19, f20⟩⟩
              · rintro D ρ wx hD hd hdc hf ⟨hs, f0, f1, f2, f3, f4, f5, f6, f7, f8, f9, f10, f11, f12, f13, f14, f15, f16, f17, f18, f19, f20⟩
                have g6 := f6 (doneD hd 6 rfl)
                exact .inl ⟨(Eq.trans (wantG1 (j := 3) rfl (f3 (doneD hd 3 rfl))) rfl), L_not g6 ⟨hs, f0, f1, f2, f3, f4, f5, f6, fun _ => rfl, f8, f9, f10, f11, f12, f13, f14, f15, f16, f17, f18, f19, f20⟩⟩
              · rintro D ρ wx hD hd hdc hf ⟨hs, f0, f1, f2, f3, f4, f5, f6, f7, f8, f9, f10, f11, f12, f13, f14, f15, f16, f17, f18, f19, f20⟩
                have g3 := f3 (doneD hd 3 rfl)
                have g7 := f7 (doneD hd 7 rfl)
                exact .inl ⟨rfl, L_pick (V := .bool false) g3 g7 ⟨hs, f0, f1, f2, f3, f4, f5, f6, f7, fun _ => rfl, f9, f10, f11, f12, f13, f14, f15, f16, f17, f18, f19, f20⟩⟩
              · rintro D ρ wx hD hd hdc hf ⟨hs, f0, f1, f2, f3, f4, f5, f6, f7, f8, f9, f10, f11, f12, f13, f14, f15, f16, f17, f18, f19, f20⟩
                have g8 := f8 (doneD hd 8 rfl)
                exact .inl ⟨rfl, L_move (V := .bool false) g8 ⟨hs, f0, f1, f2, f3, f4, f5, f6, f7, f8, fun _ => rfl, f10, f11, f12, f13, f14, f15, f16, f17, f18, f19, f20⟩⟩
              · rintro D ρ wx hD hd hdc hf ⟨hs, f0, f1, f2, f3, f4, f5, f6, f7, f8, f9, f10, f11, f12, f13, f14, f15, f16, f17, f18, f19, f20⟩
                have r7 : ρ 7 = .pointer (some ⟨x7.1, 0, none⟩) := outD hf 7 rfl
                exact .inl ⟨(Eq.trans (wantG1 (j := 9) rfl (f9 (doneD hd 9 rfl))) rfl), L_move (V := .pointer (some ⟨x7.1, 0, none⟩)) r7 ⟨hs, f0, f1, f2, f3, f4, f5, f6, f7, f8, f9, fun _ => rfl, f11, f12, f13, f14, f15, f16, f17, f18, f19, f20⟩⟩
              · rintro D ρ wx hD hd hdc hf ⟨hs, f0, f1, f2, f3, f4, f5, f6, f7, f8, f9, f10, f11, f12, f13, f14, f15, f16, f17, f18, f19, f20⟩
                have r12 : ρ 12 = .pointer (some ⟨b21, 0, none⟩) := outD hf 12 rfl
                exact .inl ⟨(Eq.trans (wantG1 (j := 9) rfl (f9 (doneD hd 9 rfl))) rfl), L_fieldAddr FA_34_0 r12 ⟨hs, f0, f1, f2, f3, f4, f5, f6, f7, f8, f9, f10, fun _ => rfl, f12, f13, f14, f15, f16, f17, f18, f19, f20⟩⟩
              · rintro D ρ wx hD hd hdc hf ⟨hs, f0, f1, f2, f3, f4, f5, f6, f7, f8, f9, f10, f11, f12, f13, f14, f15, f16, f17, f18, f19, f20⟩
                have g11 := f11 (doneD hd 11 rfl)
                exact .inl ⟨(Eq.trans (wantG1 (j := 9) rfl (f9 (doneD hd 9 rfl))) rfl), L_ld (V := .int .u8 ((gd (looseL g) i2).rep)) S1_5 hs 5 rfl g11 rfl ⟨hs, f0, f1, f2, f3, f4, f5, f6, f7, f8, f9, f10, f11, fun _ => rfl, f13, f14, f15, f16, f17, f18, f19, f20⟩⟩
              · rintro D ρ wx hD hd hdc hf ⟨hs, f0, f1, f2, f3, f4, f5, f6, f7, f8, f9, f10, f11, f12, f13, f14, f15, f16, f17, f18, f19, f20⟩
                have r12 : ρ 12 = .pointer (some ⟨b21, 0, none⟩) := outD hf 12 rfl
                exact .inl ⟨(Eq.trans (wantG1 (j := 9) rfl (f9 (doneD hd 9 rfl))) rfl), L_fieldAddr FA_34_0 r12 ⟨hs, f0, f1, f2, f3, f4, f5, f6, f7, f8, f9, f10, f11, f12, fun _ => rfl, f14, f15, f16, f17, f18, f19, f20⟩⟩
              · rintro D ρ wx hD hd hdc hf ⟨hs, f0, f1, f2, f3, f4, f5, f6, f7, f8, f9, f10, f11, f12, f13, f14, f15, f16, f17, f18, f19, f20⟩
                have g13 := f13 (doneD hd 13 rfl)
                exact .inl ⟨(Eq.trans (wantG1 (j := 9) rfl (f9 (doneD hd 9 rfl))) rfl), L_ld (V := .int .u8 ((gd (looseL g) i2).rep)) S1_5 hs 5 rfl g13 rfl ⟨hs, f0, f1, f2, f3, f4, f5, f6, f7, f8, f9, f10, f11, f12, f13, fun _ => rfl, f15, f16, f17, f18, f19, f20⟩⟩
              · rintro D ρ wx hD hd hdc hf ⟨hs, f0, f1, f2, f3, f4, f5, f6, f7, f8, f9, f10, f11, f12, f13, f14, f15, f16, f17, f18, f19, f20⟩
                have g14 := f14 (doneD hd 14 rfl)
                have r9 : ρ 9 = .pointer (some ⟨b13, 0, none⟩) := outD hf 9 rfl
                exact .inl ⟨(Eq.trans (wantG1 (j := 9) rfl (f9 (doneD hd 9 rfl))) rfl), L_ixArr1 UD_24 S1_22.1 r9 g14 (by omega) (by omega) ⟨hs, f0, f1, f2, f3, f4, f5, f6, f7, f8, f9, f10, f11, f12, f13, f14, fun _ => rfl, f16, f17, f18, f19, f20⟩⟩
              · rintro D ρ wx hD hd hdc hf ⟨hs, f0, f1, f2, f3, f4, f5, f6, f7, f8, f9, f10, f11, f12, f13, f14, f15, f16, f17, f18, f19, f20⟩
                have g15 := f15 (doneD hd 15 rfl)
                exact .inl ⟨(Eq.trans (wantG1 (j := 9) rfl (f9 (doneD hd 9 rfl))) rfl), L_ld (V := .int .u32 (vat g.v ((gd (looseL g) i2).rep).toNat)) S1_22 hs 3 rfl g15 (vc_atO (by omega) (by omega)) ⟨hs, f0, f1, f2, f3, f4, f5, f6, f7, f8, f9, f10, f11, f12, f13, f14, f15, fun _ => rfl, f17, f18, f19, f20⟩⟩
              · rintro D ρ wx hD hd hdc hf ⟨hs, f0, f1, f2, f3, f4, f5, f6, f7, f8, f9, f10, f11, f12, f13, f14, f15, f16, f17, f18, f19, f20⟩
                have g16 := f16 (doneD hd 16 rfl)
                exact .inl ⟨(Eq.trans (wantG1 (j := 9) rfl (f9 (doneD hd 9 rfl))) rfl), L_add (a := vat g.v ((gd (looseL g) i2).rep).toNat) (b := 1) (c := (vat g.v ((gd (looseL g) i2).rep).toNat) + 1) g16 rfl (wr_u32 (by omega) (by omega)) ⟨hs, f0, f1, f2, f3, f4, f5, f6, f7, f8, f9, f10, f11, f12, f13, f14, f15, f16, fun _ => rfl, f18, f19, f20⟩⟩
              · rintro D ρ wx hD hd hdc hf ⟨hs, f0, f1, f2, f3, f4, f5, f6, f7, f8, f9, f10, f11, f12, f13, f14, f15, f16, f17, f18, f19, f20⟩
                have g12 := f12 (doneD hd 12 rfl)
                have g17 := f17 (doneD hd 17 rfl)
                exact .inl ⟨(Eq.trans (wantG1 (j := 9) rfl (f9 (doneD hd 9 rfl))) rfl), L_build (vs := [(0, .int .u8 ((gd (looseL g) i2).rep)), (1, .int .u32 ((vat g.v ((gd (looseL g) i2).rep).toNat) + 1))]) (cs := dc (⟨(gd (looseL g) i2).rep, (vat g.v ((gd (looseL g) i2).rep).toNat) + 1⟩ : Dot)) BT_34 ((mapb g12 (mapb g17 rfl))) rfl ⟨hs, f0, f1, f2, f3, f4, f5, f6, f7, f8, f9, f10, f11, f12, f13, f14, f15, f16, f17, fun _ => rfl, f19, f20⟩⟩
              · rintro D ρ wx hD hd hdc hf ⟨hs, f0, f1, f2, f3, f4, f5, f6, f7, f8, f9, f10, f11, f12, f13, f14, f15, f16, f17, f18, f19, f20⟩
                have g10 := f10 (doneD hd 10 rfl)
                have g18 := f18 (doneD hd 18 rfl)
                exact .inl ⟨(Eq.trans (wantG1 (j := 9) rfl (f9 (doneD hd 9 rfl))) rfl), L_callPV (V' := .bool false) (congrArg Value.bool (hx3)) (vs := [.pointer (some ⟨x7.1, 0, none⟩), .agg (dc (⟨(gd (looseL g) i2).rep, (vat g.v ((gd (looseL g) i2).rep).toNat) + 1⟩ : Dot)).toArray]) (V := .bool (gHas g (⟨(gd (looseL g) i2).rep, (vat g.v ((gd (looseL g) i2).rep).toNat) + 1⟩ : Dot))) EN_18 rfl (mapc g10 (mapc g18 rfl)) (gHas_ok _ x7.1 x7.2 g (⟨(gd (looseL g) i2).rep, (vat g.v ((gd (looseL g) i2).rep).toNat) + 1⟩ : Dot) (by first | assumption | exact dotOk_mk (by omega) (by omega) (by omega) (by omega)) (hs.gcells 2 rfl) (hs.gmap 2 rfl)) hs fun _ hs0 => ⟨hs0, f0, f1, f2, f3, f4, f5, f6, f7, f8, f9, f10, f11, f12, f13, f14, f15, f16, f17, f18, fun _ => rfl, f20⟩⟩
              · rintro D ρ wx hD hd hdc hf ⟨hs, f0, f1, f2, f3, f4, f5, f6, f7, f8, f9, f10, f11, f12, f13, f14, f15, f16, f17, f18, f19, f20⟩
                have g9 := f9 (doneD hd 9 rfl)
                have g19 := f19 (doneD hd 19 rfl)
                exact .inl ⟨rfl, L_pick (V := .bool false) g9 g19 ⟨hs, f0, f1, f2, f3, f4, f5, f6, f7, f8, f9, f10, f11, f12, f13, f14, f15, f16, f17, f18, f19, fun _ => rfl⟩⟩
              · rintro ρ1 w1 D hD hf ⟨hs, f0, f1, f2, f3, f4, f5, f6, f7, f8, f9, f10, f11, f12, f13, f14, f15, f16, f17, f18, f19, f20⟩
                have e20 := f20 (hD 20 rfl)
                clear f0 f1 f2 f3 f4 f5 f6 f7 f8 f9 f10 f11 f12 f13 f14 f15 f16 f17 f18 f19 f20
                obtain ⟨ρ2, hρ⟩ : ∃ ρ2, ρ1 = upd (mix [61, 62, 63, 64, 65, 66, 67, 68, 69, 70, 71, 72, 73, 74, 75, 76, 77, 78, 79, 80, 81] ρ2 _) 81 (.bool false) := ⟨ρ1, upd_of (mix_of (ds := [61, 62, 63, 64, 65, 66, 67, 68, 69, 70, 71, 72, 73, 74, 75, 76, 77, 78, 79, 80, 81]) hf) e20⟩
                clear hf hD e20
                subst hρ
                refine W_condF rfl ?_
                refine W_skip ?_
                refine W_region ?_
                refine RW_op (L_add (a := (i2 : Int)) (b := 1) (c := (i2 : Int) + 1) rfl rfl (wr_i64 (by omega) (by omega)) ?_)
                refine RW_op (L_move (V := .int .i64 ((i2 : Int) + 1)) rfl ?_)
                refine RW_nil ?_
                refine ⟨_, ?_, _, i2 + 1, inn || (decide (gd (looseL g) i2 = d)), upd_of (upd_of (mix_of (ds := [6, 10, 12, 51, 52, 53, 54, 55, 56, 57, 58, 59, 60, 61, 62, 63, 64, 65, 66, 67, 68, 69, 70, 71, 72, 73, 74, 75, 76, 77, 78, 79, 80, 81, 82]) (by repeat (first | exact Agr.refl _ _ | refine Agr.upd ?_ rfl | refine Agr.mix ?_ rfl))) rfl) rfl, (by omega), (any_next (p := fun (x : Dot) => decide (x = d)) (by omega) hinn), rfl, hs.take 5⟩
                omega
          ·
            replace c20 := of_decide_eq_false c20
            refine W_exit ?_
            refine W_seq ?_
            refine W_seq ?_
            refine W_region ?_
            refine RW_op (L_move (V := .pointer (some ⟨x7.1, 0, none⟩)) rfl ?_)
            refine RW_op (L_callX (vs := [.pointer (some ⟨x7.1, 0, none⟩)]) (V := fun x : Option Addr × Nat => .slice x.1 (missL g).length x.2) EN_27 rfl rfl (gMissing2_ok _ x7.1 x7.2 g hgi.ok (by omega) hsort (hs.gcells 2 rfl) (hs.gmap 2 rfl)) hs fun x30 w29 hs _ => ?_)
            refine RW_op (L_lenR (n := (missL g).length) UD_25 (hs.rd 5 rfl) (by simp) rfl ?_)
            refine RW_op (L_move (V := .int .i64 0) rfl ?_)
            refine RW_nil ?_
            refine W_block ?_
            have hinn2 := any_end (by omega) hinn
            have hml := Rd.sml (hs.rd 5 rfl)
            refine W_loopI (fun ρ m ρ' w' => ∃ (ρo : Env) (i3 : Nat), ρ' = upd (mix [6, 14, 15, 17, 86, 87, 88, 89, 90, 91, 92, 93, 94, 95, 96, 97, 98, 99, 100, 101, 102, 103, 104, 105, 106, 107, 108, 109, 110, 111, 112, 113, 114, 115, 116, 117, 118, 119, 120, 121, 122, 123, 124, 125] ρo ρ) 86 (.int .i64 (i3 : Int)) ∧ (i3 ≤ (missL g).length) ∧ m = (missL g).length - i3 ∧ Own w no w' [blk b1 (vc v) 24, blk b3 (dc d) 34, gR 52 x7.1 x7.2 g, blk b13 (vc g.v) 24, row (.slice x18.1 ((looseL g).length) x18.2) ((looseL g).map dc) 34 2, row (.slice x30.1 ((missL g).length) x30.2) ((missL g).map dc) 34 2]) ?_ ?_
            · exact ⟨_, _, 0, upd_of (mix_of (ds := [6, 14, 15, 17, 86, 87, 88, 89, 90, 91, 92, 93, 94, 95, 96, 97, 98, 99, 100, 101, 102, 103, 104, 105, 106, 107, 108, 109, 110, 111, 112, 113, 114, 115, 116, 117, 118, 119, 120, 121, 122, 123, 124, 125]) (Agr.refl _ _)) rfl, (by omega), rfl, hs⟩
            · rintro m ρ' w31 ⟨ρo, i3, rfl, hi3, rfl, hs⟩
              refine W_seq ?_
              have hvo := hgi.ok.v
              refine W_region ?_
              refine RW_op (L_lss rfl rfl ?_)
              refine RW_nil ?_
              refine W_seq ?_
              refine W_cond (t := decide ((i3 : Int) < (((missL g).length : Nat) : Int))) rfl (fun c32 => ?_) (fun c32 => ?_)
              ·
                replace c32 := of_decide_eq_true c32
                refine W_skip ?_
                refine W_seq ?_
                refine W_block ?_
                refine W_seq ?_
                obtain ⟨hyd, hy1, hy2, hy3⟩ := miss_dot hgi (gd_mem (l := missL g) (i := i3) (by omega))
                refine W_region ?_
                refine RW_op (L_ixR UD_25 SA_34.1 (hs.rd 5 rfl) rfl rfl (by omega) (by rw [List.length_map]; omega) ?_)
                refine RW_op (L_ldRA (j := 0) (vs := dc (gd (missL g) i3)) i3 SA_34 (hs.rd 5 rfl) (gd_at (by omega)) rfl rfl rfl (by omega) ?_)
                refine RW_op (L_alloc (cs := dc (⟨0, 0⟩ : Dot)) ZV_34 rfl hs fun b33 w34 hs => ?_)
                refine RW_op (L_st (V := .agg (dc (gd (missL g) i3)).toArray) (vs := dc (gd (missL g) i3)) (cs' := dc (gd (missL g) i3)) SA_34.1 hs 6 rfl rfl rfl rfl rfl (Nat.le_of_ble_eq_true rfl) (dc_one _) (spl_whole rfl) fun w35 hs => ?_)
                refine RW_nil ?_
                refine W_seq ?_
                refine W_region ?_
                refine RW_op (L_assign (V := .bool false) rfl ?_)
                refine RW_nil ?_
                refine W_seq ?_
                refine W_seq ?_
                refine W_region ?_
                refine RW_op (L_move (V := .pointer (some ⟨x7.1, 0, none⟩)) rfl ?_)
                refine RW_op (L_callX (vs := [.pointer (some ⟨x7.1, 0, none⟩)]) (V := fun x : Option Addr × Nat => .slice x.1 (looseL g).length x.2) EN_25 rfl rfl (gLoose2_ok _ x7.1 x7.2 g (by omega) hsort (hs.gcells 2 rfl) (hs.gmap 2 rfl)) hs fun x37 w36 hs _ => ?_)
                refine RW_op (L_lenR (n := (looseL g).length) UD_25 (hs.rd 7 rfl) (by simp) rfl ?_)
                refine RW_op (L_move (V := .int .i64 0) rfl ?_)
                refine RW_nil ?_
                refine W_block ?_
                refine W_loopI (fun ρ m ρ' w' => ∃ (ρo : Env) (i4 : Nat) (bh : Bool), ρ' = upd (upd (mix [15, 17, 93, 94, 95, 96, 97, 98, 99, 100, 101, 102, 103, 104, 105, 106, 107, 108, 109, 110, 111, 112] ρo ρ) 93 (.int .i64 (i4 : Int))) 15 (.bool bh) ∧ (i4 ≤ (looseL g).length) ∧ (bh = (false || ((looseL g).take i4).any fun (y : Dot) => decide (y.rep = (gd (missL g) i3).rep) && decide ((gd (missL g) i3).seq < y.seq))) ∧ m = (looseL g).length - i4 ∧ Own w no w' [blk b1 (vc v) 24, blk b3 (dc d) 34, gR 52 x7.1 x7.2 g, blk b13 (vc g.v) 24, row (.slice x18.1 ((looseL g).length) x18.2) ((looseL g).map dc) 34 2, row (.slice x30.1 ((missL g).length) x30.2) ((missL g).map dc) 34 2, blk b33 (dc (gd (missL g) i3)) 34, row (.slice x37.1 ((looseL g).length) x37.2) ((looseL g).map dc) 34 2]) ?_ ?_
                · exact ⟨_, _, 0, false, upd_of (upd_of (mix_of (ds := [15, 17, 93, 94, 95, 96, 97, 98, 99, 100, 101, 102, 103, 104, 105, 106, 107, 108, 109, 110, 111, 112]) (Agr.refl _ _)) rfl) rfl, (by omega), (any_start _ _ _), rfl, hs⟩
                · rintro m ρ' w38 ⟨ρo, i4, bh, rfl, hi4, hbh, rfl, hs⟩
                  refine W_seq ?_
                  refine W_region ?_
                  refine RW_op (L_lss rfl rfl ?_)
                  refine RW_nil ?_
                  refine W_seq ?_
                  refine W_cond (t := decide ((i4 : Int) < (((looseL g).length : Nat) : Int))) rfl (fun c39 => ?_) (fun c39 => ?_)
                  ·
                    replace c39 := of_decide_eq_true c39
                    refine W_skip ?_
                    refine W_seq ?_
                    refine W_block ?_
                    refine W_seq ?_
                    refine W_region ?_
                    refine RW_op (L_ixR UD_25 SA_34.1 (hs.rd 7 rfl) rfl rfl (by omega) (by rw [List.length_map]; omega) ?_)
                    refine RW_op (L_ldRA (j := 0) (vs := dc (gd (looseL g) i4)) i4 SA_34 (hs.rd 7 rfl) (gd_at (by omega)) rfl rfl rfl (by omega) ?_)
                    refine RW_op (L_alloc (cs := dc (⟨0, 0⟩ : Dot)) ZV_34 rfl hs fun b40 w41 hs => ?_)
                    refine RW_op (L_st (V := .agg (dc (gd (looseL g) i4)).toArray) (vs := dc (gd (looseL g) i4)) (cs' := dc (gd (looseL g) i4)) SA_34.1 hs 8 rfl rfl rfl rfl rfl (Nat.le_of_ble_eq_true rfl) (dc_one _) (spl_whole rfl) fun w42 hs => ?_)
                    refine RW_nil ?_
                    refine W_inv2 [97, 98, 99, 100, 101, 102, 103, 104, 105, 106, 107, 108, 109, 110, 111, 15] [[], [0], [1], [2, 1], [1], [4, 1], [3, 5, 1], [6, 1, 1], [7], [8, 7], [7], [10, 7], [9, 11, 7], [7, 12, 1], [1, 13], [14, 7, 0, 1, 2, 3, 4, 5, 6, 7, 8, 9, 10, 11, 12, 13, 14]] (fun D ρ wx => Own w no wx [blk b1 (vc v) 24, blk b3 (dc d) 34, gR 52 x7.1 x7.2 g, blk b13 (vc g.v) 24, row (.slice x18.1 ((looseL g).length) x18.2) ((looseL g).map dc) 34 2, row (.slice x30.1 ((missL g).length) x30.2) ((missL g).map dc) 34 2, blk b33 (dc (gd (missL g) i3)) 34, row (.slice x37.1 ((looseL g).length) x37.2) ((looseL g).map dc) 34 2, blk b40 (dc (gd (looseL g) i4)) 34] ∧ (D 0 = true → ρ 97 = .bool bh) ∧ (D 1 = true → ρ 98 = .bool bh) ∧ (D 2 = true → ρ 99 = cond (bh == false) (.pointer (some ⟨b40, 0 + 0, none⟩)) undef) ∧ (D 3 = true → ρ 100 = cond (bh == false) (.int .u8 ((gd (looseL g) i4).rep)) undef) ∧ (D 4 = true → ρ 101 = cond (bh == false) (.pointer (some ⟨b33, 0 + 0, none⟩)) undef) ∧ (D 5 = true → ρ 102 = cond (bh == false) (.int .u8 ((gd (missL g) i3).rep)) undef) ∧ (D 6 = true → ρ 103 = cond (bh == false) (.bool (decide ((gd (looseL g) i4).rep = (gd (missL g) i3).rep))) undef) ∧ (D 7 = true → ρ 104 = cond (bh == false) (.bool (decide ((gd (looseL g) i4).rep = (gd (missL g) i3).rep))) undef) ∧ (D 8 = true → ρ 105 = cond ((bh == false) && ((decide ((gd (looseL g) i4).rep = (gd (missL g) i3).rep)) == true)) (.pointer (some ⟨b40, 0 + 1, none⟩)) undef) ∧ (D 9 = true → ρ 106 = cond ((bh == false) && ((decide ((gd (looseL g) i4).rep = (gd (missL g) i3).rep)) == true)) (.int .u32 ((gd (looseL g) i4).seq)) undef) ∧ (D 10 = true → ρ 107 = cond ((bh == false) && ((decide ((gd (looseL g) i4).rep = (gd (missL g) i3).rep)) == true)) (.pointer (some ⟨b33, 0 + 1, none⟩)) undef) ∧ (D 11 = true → ρ 108 = cond ((bh == false) && ((decide ((gd (looseL g) i4).rep = (gd (missL g) i3).rep)) == true)) (.int .u32 ((gd (missL g) i3).seq)) undef) ∧ (D 12 = true → ρ 109 = cond ((bh == false) && ((decide ((gd (looseL g) i4).rep = (gd (missL g) i3).rep)) == true)) (.bool (decide ((gd (missL g) i3).seq < (gd (looseL g) i4).seq))) undef) ∧ (D 13 = true → ρ 110 = cond (bh == false) (.bool ((decide ((gd (looseL g) i4).rep = (gd (missL g) i3).rep)) && (decide ((gd (missL g) i3).seq < (gd (looseL g) i4).seq)))) undef) ∧ (D 14 = true → ρ 111 = .bool (bh || ((decide ((gd (looseL g) i4).rep = (gd (missL g) i3).rep)) && (decide ((gd (missL g) i3).seq < (gd (looseL g) i4).seq))))) ∧ (D 15 = true → ρ 15 = .bool (bh || ((decide ((gd (looseL g) i4).rep = (gd (missL g) i3).rep)) && (decide ((gd (missL g) i3).seq < (gd (looseL g) i4).seq))))) ∧ (D 15 = false → ρ 15 = .bool bh)) rfl rfl rfl ⟨hs, fun h => absurd h Bool.false_ne_true, fun h => absurd h Bool.false_ne_true, fun h => absurd h Bool.false_ne_true, fun h => absurd h Bool.false_ne_true, fun h => absurd h Bool.false_ne_true, fun h => absurd h Bool.false_ne_true, fun h => absurd h Bool.false_ne_true, fun h => absurd h Bool.false_ne_true, fun h => absurd h Bool.false_ne_true, fun h => absurd h Bool.false_ne_true, fun h => absurd h Bool.false_ne_true, fun h => absurd h Bool.false_ne_true, fun h => absurd h Bool.false_ne_true, fun h => absurd h Bool.false_ne_true, fun h => absurd h Bool.false_ne_true, fun h => absurd h Bool.false_ne_true, fun _ => rfl⟩ ⟨?_, ?_, ?_, ?_, ?_, ?_, ?_, ?_, ?_, ?_, ?_, ?_, ?_, ?_, ?_, ?_, trivial⟩ ?_
                    · rintro D ρ wx hD hd hdc hf ⟨hs, f0, f1, f2, f3, f4, f5, f6, f7, f8, f9, f10, f11, f12, f13, f14, f15, q15⟩
                      have r15 : ρ 15 = .bool bh := q15 (notYetD hdc (j := 15) rfl rfl hD)
                      exact .inl ⟨rfl, L_move (V := .bool bh) r15 ⟨hs, fun _ => rfl, f1, f2, f3, f4, f5, f6, f7, f8, f9, f10, f11, f12, f13, f14, f15, q15⟩⟩
                    · rintro D ρ wx hD hd hdc hf ⟨hs, f0, f1, f2, f3, f4, f5, f6, f7, f8, f9, f10, f11, f12, f13, f14, f15, q15⟩
                      have g0 := f0 (doneD hd 0 rfl)
                      exact .inl ⟨rfl, L_move (V := .bool bh) g0 ⟨hs, f0, fun _ => rfl, f2, f3, f4, f5, f6, f7, f8, f9, f10, f11, f12, f13, f14, f15, q15⟩⟩
                    · rintro D ρ wx hD hd hdc hf ⟨hs, f0, f1, f2, f3, f4, f5, f6, f7, f8, f9, f10, f11, f12, f13, f14, f15, q15⟩
                      have r17 : ρ 17 = .pointer (some ⟨b40, 0, none⟩) := outD hf 17 rfl
                      rcases Bool.eq_false_or_eq_true (bh == false) with hG | hG
                      rotate_left
                      · exact .inr ⟨(Eq.trans (wantG1 (j := 1) rfl (f1 (doneD hd 1 rfl))) hG), ⟨hs, f0, f1, fun _ => (condF hG).symm, f3, f4, f5, f6, f7, f8, f9, f10, f11, f12, f13, f14, f15, q15⟩⟩
                      ·
                        exact .inl ⟨(Eq.trans (wantG1 (j := 1) rfl (f1 (doneD hd 1 rfl))) hG), L_fieldAddr FA_34_0 r17 ⟨hs, f0, f1, fun _ => (condT hG).symm, f3, f4, f5, f6, f7, f8, f9, f10, f11, f12, f13, f14, f15, q15⟩⟩
                    · rintro D ρ wx hD hd hdc hf ⟨hs, f0, f1, f2, f3, f4, f5, f6, f7, f8, f9, f10, f11, f12, f13, f14, f15, q15⟩
                      have g2 := f2 (doneD hd 2 rfl)
                      rcases Bool.eq_false_or_eq_true (bh == false) with hG | hG
                      rotate_left
                      · exact .inr ⟨(Eq.trans (wantG1 (j := 1) rfl (f1 (doneD hd 1 rfl))) hG), ⟨hs, f0, f1, f2, fun _ => (condF hG).symm, f4, f5, f6, f7, f8, f9, f10, f11, f12, f13, f14, f15, q15⟩⟩
                      ·
                        exact .inl ⟨(Eq.trans (wantG1 (j := 1) rfl (f1 (doneD hd 1 rfl))) hG), L_ld (V := .int .u8 ((gd (looseL g) i4).rep)) S1_5 hs 8 rfl ((g2).trans (condT (by exact hG))) rfl ⟨hs, f0, f1, f2, fun _ => (condT hG).symm, f4, f5, f6, f7, f8, f9, f10, f11, f12, f13, f14, f15, q15⟩⟩
                    · rintro D ρ wx hD hd hdc hf ⟨hs, f0, f1, f2, f3, f4, f5, f6, f7, f8, f9, f10, f11, f12, f13, f14, f15, q15⟩
                      have r14 : ρ 14 = .pointer (some ⟨b33, 0, none⟩) := outD hf 14 rfl
                      rcases Bool.eq_false_or_eq_true (bh == false) with hG | hG
                      rotate_left
                      · exact .inr ⟨(Eq.trans (wantG1 (j := 1) rfl (f1 (doneD hd 1 rfl))) hG), ⟨hs, f0, f1, f2, f3, fun _ => (condF hG).symm, f5, f6, f7, f8, f9, f10, f11, f12, f13, f14, f15, q15⟩⟩
                      ·
                        exact .inl ⟨(Eq.trans (wantG1 (j := 1) rfl (f1 (doneD hd 1 rfl))) hG), L_fieldAddr FA_34_0 r14 ⟨hs, f0, f1, f2, f3, fun _ => (condT hG).symm, f5, f6, f7, f8, f9, f10, f11, f12, f13, f14, f15, q15⟩⟩
                    · rintro D ρ wx hD hd hdc hf ⟨hs, f0, f1, f2, f3, f4, f5, f6, f7, f8, f9, f10, f11, f12, f13, f14, f15, q15⟩
                      have g4 := f4 (doneD hd 4 rfl)
                      rcases Bool.eq_false_or_eq_true (bh == false) with hG | hG
                      rotate_left
                      · exact .inr ⟨(Eq.trans (wantG1 (j := 1) rfl (f1 (doneD hd 1 rfl))) hG), ⟨hs, f0, f1, f2, f3, f4, fun _ => (condF hG).symm, f6, f7, f8, f9, f10, f11, f12, f13, f14, f15, q15⟩⟩
                      ·
                        exact .inl ⟨(Eq.trans (wantG1 (j := 1) rfl (f1 (doneD hd 1 rfl))) hG), L_ld (V := .int .u8 ((gd (missL g) i3).rep)) S1_5 hs 6 rfl ((g4).trans (condT (by exact hG))) rfl ⟨hs, f0, f1, f2, f3, f4, fun _ => (condT hG).symm, f6, f7, f8, f9, f10, f11, f12, f13, f14, f15, q15⟩⟩
                    · rintro D ρ wx hD hd hdc hf ⟨hs, f0, f1, f2, f3, f4, f5, f6, f7, f8, f9, f10, f11, f12, f13, f14, f15, q15⟩
                      have g3 := f3 (doneD hd 3 rfl)
                      have g5 := f5 (doneD hd 5 rfl)
                      rcases Bool.eq_false_or_eq_true (bh == false) with hG | hG
                      rotate_left
                      · exact .inr ⟨(Eq.trans (wantG1 (j := 1) rfl (f1 (doneD hd 1 rfl))) hG), ⟨hs, f0, f1, f2, f3, f4, f5, fun _ => (condF hG).symm, f7, f8, f9, f10, f11, f12, f13, f14, f15, q15⟩⟩
                      ·
                        exact .inl ⟨(Eq.trans (wantG1 (j := 1) rfl (f1 (doneD hd 1 rfl))) hG), L_eql ((g3).trans (condT (by exact hG))) ((g5).trans (condT (by exact hG))) ⟨hs, f0, f1, f2, f3, f4, f5, fun _ => (condT hG).symm, f7, f8, f9, f10, f11, f12, f13, f14, f15, q15⟩⟩
                    · rintro D ρ wx hD hd hdc hf ⟨hs, f0, f1, f2, f3, f4, f5, f6, f7, f8, f9, f10, f11, f12, f13, f14, f15, q15⟩
                      have g6 := f6 (doneD hd 6 rfl)
                      rcases Bool.eq_false_or_eq_true (bh == false) with hG | hG
                      rotate_left
                      · exact .inr ⟨(Eq.trans (wantG1 (j := 1) rfl (f1 (doneD hd 1 rfl))) hG), ⟨hs, f0, f1, f2, f3, f4, f5, f6, fun _ => (condF hG).symm, f8, f9, f10, f11, f12, f13, f14, f15, q15⟩⟩
                      ·
                        exact .inl ⟨(Eq.trans (wantG1 (j := 1) rfl (f1 (doneD hd 1 rfl))) hG), L_move (V := .bool (decide ((gd (looseL g) i4).rep = (gd (missL g) i3).rep))) ((g6).trans (condT (by exact hG))) ⟨hs, f0, f1, f2, f3, f4, f5, f6, fun _ => (condT hG).symm, f8, f9, f10, f11, f12, f13, f14, f15, q15⟩⟩
                    · rintro D ρ wx hD hd hdc hf ⟨hs, f0, f1, f2, f3, f4, f5, f6, f7, f8, f9, f10, f11, f12, f13, f14, f15, q15⟩
                      have r17 : ρ 17 = .pointer (some ⟨b40, 0, none⟩) := outD hf 17 rfl
                      rcases Bool.eq_false_or_eq_true ((bh == false) && ((decide ((gd (looseL g) i4).rep = (gd (missL g) i3).rep)) == true)) with hG | hG
                      rotate_left
                      · exact .inr ⟨(Eq.trans (wantG (j := 7) rfl (f7 (doneD hd 7 rfl))) hG), ⟨hs, f0, f1, f2, f3, f4, f5, f6, f7, fun _ => (condF hG).symm, f9, f10, f11, f12, f13, f14, f15, q15⟩⟩
                      ·
                        exact .inl ⟨(Eq.trans (wantG (j := 7) rfl (f7 (doneD hd 7 rfl))) hG), L_fieldAddr FA_34_1 r17 ⟨hs, f0, f1, f2, f3, f4, f5, f6, f7, fun _ => (condT hG).symm, f9, f10, f11, f12, f13, f14, f15, q15⟩⟩
                    · rintro D ρ wx hD hd hdc hf ⟨hs, f0, f1, f2, f3, f4, f5, f6, f7, f8, f9, f10, f11, f12, f13, f14, f15, q15⟩
                      have g8 := f8 (doneD hd 8 rfl)
                      rcases Bool.eq_false_or_eq_true ((bh == false) && ((decide ((gd (looseL g) i4).rep = (gd (missL g) i3).rep)) == true)) with hG | hG
                      rotate_left
                      · exact .inr ⟨(Eq.trans (wantG (j := 7) rfl (f7 (doneD hd 7 rfl))) hG), ⟨hs, f0, f1, f2, f3, f4, f5, f6, f7, f8, fun _ => (condF hG).symm, f10, f11, f12, f13, f14, f15, q15⟩⟩
                      ·
                        exact .inl ⟨(Eq.trans (wantG (j := 7) rfl (f7 (doneD hd 7 rfl))) hG), L_ld (V := .int .u32 ((gd (looseL g) i4).seq)) S1_22 hs 8 rfl ((g8).trans (condT (by exact hG))) rfl ⟨hs, f0, f1, f2, f3, f4, f5, f6, f7, f8, fun _ => (condT hG).symm, f10, f11, f12, f13, f14, f15, q15⟩⟩
                    · rintro D ρ wx hD hd hdc hf ⟨hs, f0, f1, f2, f3, f4, f5, f6, f7, f8, f9, f10, f11, f12, f13, f14, f15, q15⟩
                      have r14 : ρ 14 = .pointer (some ⟨b33, 0, none⟩) := outD hf 14 rfl
                      rcases Bool.eq_false_or_eq_true ((bh == false) && ((decide ((gd (looseL g) i4).rep = (gd (missL g) i3).rep)) == true)) with hG | hG
                      rotate_left
                      · exact .inr ⟨(Eq.trans (wantG (j := 7) rfl (f7 (doneD hd 7 rfl))) hG), ⟨hs, f0, f1, f2, f3, f4, f5, f6, f7, f8, f9, fun _ => (condF hG).symm, f11, f12, f13, f14, f15, q15⟩⟩
                      ·
                        exact .inl ⟨(Eq.trans (wantG (j := 7) rfl (f7 (doneD hd 7 rfl))) hG), L_fieldAddr FA_34_1 r14 ⟨hs, f0, f1, f2, f3, f4, f5, f6, f7, f8, f9, fun _ => (condT hG).symm, f11, f12, f13, f14, f15, q15⟩⟩
                    · rintro D ρ wx hD hd hdc hf ⟨hs, f0, f1, f2, f3, f4, f5, f6, f7, f8, f9, f10, f11, f12, f13, f14, f15, q15⟩
                      have g10 := f10 (doneD hd 10 rfl)
                      rcases Bool.eq_false_or_eq_true ((bh == false) && ((decide ((gd (looseL g) i4).rep = (gd (missL g) i3).rep)) == true)) with hG | hG
                      rotate_left
                      · exact .inr ⟨(Eq.trans (wantG (j := 7) rfl (f7 (doneD hd 7 rfl))) hG), ⟨hs, f0, f1, f2, f3, f4, f5, f6, f7, f8, f9, f10, fun _ => (condF hG).symm, f12, f13, f14, f15, q15⟩⟩
                      ·
                        exact .inl ⟨(Eq.trans (wantG (j := 7) rfl (f7 (doneD hd 7 rfl))) hG), L_ld (V := .int .u32 ((gd (missL g) i3).seq)) S1_22 hs 6 rfl ((g10).trans (condT (by exact hG))) rfl ⟨hs, f0, f1, f2, f3, f4, f5, f6, f7, f8, f9, f10, fun _ => (condT hG).symm, f12, f13, f14, f15, q15⟩⟩
                    · rintro D ρ wx hD hd hdc hf ⟨hs, f0, f1, f2, f3, f4, f5, f6, f7, f8, f9, f10, f11, f12, f13, f14, f15, q15⟩
                      have g9 := f9 (doneD hd 9 rfl)
                      have g11 := f11 (doneD hd 11 rfl)
                      rcases Bool.eq_false_or_eq_true ((bh == false) && ((decide ((gd (looseL g) i4).rep = (gd (missL g) i3).rep)) == true)) with hG | hG
                      rotate_left
                      · exact .inr ⟨(Eq.trans (wantG (j := 7) rfl (f7 (doneD hd 7 rfl))) hG), ⟨hs, f0, f1, f2, f3, f4, f5, f6, f7, f8, f9, f10, f11, fun _ => (condF hG).symm, f13, f14, f15, q15⟩⟩
                      ·
                        exact .inl ⟨(Eq.trans (wantG (j := 7) rfl (f7 (doneD hd 7 rfl))) hG), L_gtr ((g9).trans (condT (by exact hG))) ((g11).trans (condT (by exact hG))) ⟨hs, f0, f1, f2, f3, f4, f5, f6, f7, f8, f9, f10, f11, fun _ => (condT hG).symm, f13, f14, f15, q15⟩⟩
                    · rintro D ρ wx hD hd hdc hf ⟨hs, f0, f1, f2, f3, f4, f5, f6, f7, f8, f9, f10, f11, f12, f13, f14, f15, q15⟩
                      have g7 := f7 (doneD hd 7 rfl)
                      have g12 := f12 (doneD hd 12 rfl)
                      rcases Bool.eq_false_or_eq_true (bh == false) with hG | hG
                      rotate_left
                      · exact .inr ⟨(Eq.trans (wantG1 (j := 1) rfl (f1 (doneD hd 1 rfl))) hG), ⟨hs, f0, f1, f2, f3, f4, f5, f6, f7, f8, f9, f10, f11, f12, fun _ => (condF hG).symm, f14, f15, q15⟩⟩
                      ·
                        exact .inl ⟨(Eq.trans (wantG1 (j := 1) rfl (f1 (doneD hd 1 rfl))) hG), L_and ((g7).trans (condT (by exact hG))) rfl (fun hg => ((g12).trans (condT (by exact and_mk hG (beqT hg))))) ⟨hs, f0, f1, f2, f3, f4, f5, f6, f7, f8, f9, f10, f11, f12, fun _ => (condT hG).symm, f14, f15, q15⟩⟩
                    · rintro D ρ wx hD hd hdc hf ⟨hs, f0, f1, f2, f3, f4, f5, f6, f7, f8, f9, f10, f11, f12, f13, f14, f15, q15⟩
                      have g1 := f1 (doneD hd 1 rfl)
                      have g13 := f13 (doneD hd 13 rfl)
                      exact .inl ⟨rfl, L_or g1 rfl (fun hg => ((g13).trans (condT (by first | exact beqT hg | rfl)))) ⟨hs, f0, f1, f2, f3, f4, f5, f6, f7, f8, f9, f10, f11, f12, f13, fun _ => rfl, f15, q15⟩⟩
                    · rintro D ρ wx hD hd hdc hf ⟨hs, f0, f1, f2, f3, f4, f5, f6, f7, f8, f9, f10, f11, f12, f13, f14, f15, q15⟩
                      have g14 := f14 (doneD hd 14 rfl)
                      exact .inl ⟨rfl, L_assign (V := .bool (bh || ((decide ((gd (looseL g) i4).rep = (gd (missL g) i3).rep)) && (decide ((gd (missL g) i3).seq < (gd (looseL g) i4).seq))))) g14 ⟨hs, f0, f1, f2, f3, f4, f5, f6, f7, f8, f9, f10, f11, f12, f13, f14, fun _ => rfl, (fun h => nomatch (show true = false from h))⟩⟩
                    · rintro ρ1 w1 D hD hf ⟨hs, f0, f1, f2, f3, f4, f5, f6, f7, f8, f9, f10, f11, f12, f13, f14, f15, q15⟩
                      have e15 := f15 (hD 15 rfl)
                      clear f0 f1 f2 f3 f4 f5 f6 f7 f8 f9 f10 f11 f12 f13 f14 f15 q15
                      obtain ⟨ρ2, hρ⟩ : ∃ ρ2, ρ1 = upd (mix [97, 98, 99, 100, 101, 102, 103, 104, 105, 106, 107, 108, 109, 110, 111, 15] ρ2 _) 15 (.bool (bh || ((decide ((gd (looseL g) i4).rep = (gd (missL g) i3).rep)) && (decide ((gd (missL g) i3).seq < (gd (looseL g) i4).seq))))) := ⟨ρ1, upd_of (mix_of (ds := [97, 98, 99, 100, 101, 102, 103, 104, 105, 106, 107, 108, 109, 110, 111, 15]) hf) e15⟩
                      clear hf hD e15
                      subst hρ
                      refine W_region ?_
                      refine RW_op (L_add (a := (i4 : Int)) (b := 1) (c := (i4 : Int) + 1) rfl rfl (wr_i64 (by omega) (by omega)) ?_)
                      refine RW_op (L_move (V := .int .i64 ((i4 : Int) + 1)) rfl ?_)
                      refine RW_nil ?_
                      refine ⟨_, ?_, _, i4 + 1, bh || ((decide ((gd (looseL g) i4).rep = (gd (missL g) i3).rep)) && (decide ((gd (missL g) i3).seq < (gd (looseL g) i4).seq))), upd_of (upd_of (mix_of (ds := [15, 17, 93, 94, 95, 96, 97, 98, 99, 100, 101, 102, 103, 104, 105, 106, 107, 108, 109, 110, 111, 112]) (by repeat (first | exact Agr.refl _ _ | refine Agr.upd ?_ rfl | refine Agr.mix ?_ rfl))) rfl) rfl, (by omega), (any_next (p := fun (y : Dot) => decide (y.rep = (gd (missL g) i3).rep) && decide ((gd (missL g) i3).seq < y.seq)) (by omega) hbh), rfl, hs.take 8⟩
                      omega
                  ·
                    replace c39 := of_decide_eq_false c39
                    refine W_exit ?_
                    refine W_seq ?_
                    have hbh2 := any_end (by omega) hbh
                    rw [Bool.false_or, hy3] at hbh2
                    refine W_region ?_
                    refine RW_op (L_move (V := .pointer (some ⟨x7.1, 0, none⟩)) rfl ?_)
                    refine RW_op (L_ldW (cs := dc (gd (missL g) i3)) SA_34 hs 6 rfl rfl rfl ?_)
                    refine RW_op (L_callPV (V' := .bool false) (congrArg Value.bool (hy1)) (vs := [.pointer (some ⟨x7.1, 0, none⟩), .agg (dc (gd (missL g) i3)).toArray]) (V := .bool (gHas g (gd (missL g) i3))) EN_18 rfl rfl (gHas_ok _ x7.1 x7.2 g (gd (missL g) i3) (by first | assumption | exact dotOk_mk (by omega) (by omega) (by omega) (by omega)) (hs.gcells 2 rfl) (hs.gmap 2 rfl)) hs fun w44 hs => ?_)
                    refine RW_op (L_move (V := .bool false) rfl ?_)
                    refine RW_gy rfl (L_ldW (cs := vc g.v) SA_24 hs 3 rfl rfl rfl ?_)
                    refine RW_gy rfl (L_ldW (cs := dc (gd (missL g) i3)) SA_34 hs 6 rfl rfl rfl ?_)
                    refine RW_gy rfl (L_callPV (V' := .bool false) (congrArg Value.bool (hy2)) (vs := [.agg (vc g.v).toArray, .agg (dc (gd (missL g) i3)).toArray]) (V := .bool (hasB g.v (gd (missL g) i3))) EN_29 rfl rfl (rHas_ok _ g.v (gd (missL g) i3) (by first | assumption | exact dotOk_mk (by omega) (by omega) (by omega) (by omega))) hs fun w45 hs => ?_)
                    refine RW_op (L_pick (V := .bool false) rfl rfl ?_)
                    refine RW_op (L_move (V := .bool false) rfl ?_)
                    refine RW_gy rfl (opW_to (V := .bool bh) (V' := .bool true) (L_move (V := .bool bh) rfl ⟨rfl, rfl⟩) (congrArg Value.bool (hbh2)) ?_)
                    refine RW_gy rfl (L_not rfl ?_)
                    refine RW_op (L_pick (V := .bool false) rfl rfl ?_)
                    refine RW_nil ?_
                    refine W_condF rfl ?_
                    refine W_skip ?_
                    refine W_region ?_
                    refine RW_op (L_add (a := (i3 : Int)) (b := 1) (c := (i3 : Int) + 1) rfl rfl (wr_i64 (by omega) (by omega)) ?_)
                    refine RW_op (L_move (V := .int .i64 ((i3 : Int) + 1)) rfl ?_)
                    refine RW_nil ?_
                    refine ⟨_, ?_, _, i3 + 1, upd_of (mix_of (ds := [6, 14, 15, 17, 86, 87, 88, 89, 90, 91, 92, 93, 94, 95, 96, 97, 98, 99, 100, 101, 102, 103, 104, 105, 106, 107, 108, 109, 110, 111, 112, 113, 114, 115, 116, 117, 118, 119, 120, 121, 122, 123, 124, 125]) (by repeat (first | exact Agr.refl _ _ | refine Agr.upd ?_ rfl | refine Agr.mix ?_ rfl))) rfl, (by omega), rfl, hs.take 6⟩
                    omega
              ·
                replace c32 := of_decide_eq_false c32
                refine W_exit ?_
                refine W_seq ?_
                refine W_region ?_
                refine RW_op (L_move (V := .pointer (some ⟨x7.1, 0, none⟩)) rfl ?_)
                refine RW_op (L_ldW (cs := dc d) SA_34 hs 1 rfl rfl rfl ?_)
                refine RW_op (L_callP (vs := [.pointer (some ⟨x7.1, 0, none⟩), .agg (dc d).toArray]) (V := .bool (gHas g d)) EN_18 rfl rfl (gHas_ok _ x7.1 x7.2 g d (by first | assumption | exact dotOk_mk (by omega) (by omega) (by omega) (by omega)) (hs.gcells 2 rfl) (hs.gmap 2 rfl)) hs fun w46 hs => ?_)
                refine RW_op (L_move (V := .bool inn) rfl ?_)
                refine RW_op (opW_to (V := .bool ((gHas g d) == inn)) (V' := .bool true) (L_eqb UDR_4 rfl rfl ⟨rfl, rfl⟩) (congrArg Value.bool (by rw [hph, hinn2]; exact beqT rfl)) ?_)
                refine RW_op (L_move (V := .bool true) rfl ?_)
                refine RW_gy rfl (L_ldW (cs := vc v) SA_24 hs 0 rfl rfl rfl ?_)
                refine RW_gy rfl (L_ldW (cs := vc g.v) SA_24 hs 3 rfl rfl rfl ?_)
                refine RW_gy rfl (L_callPV (V' := .bool true) (congrArg Value.bool (hbel)) (vs := [.agg (vc v).toArray, .agg (vc g.v).toArray]) (V := .bool (vle v g.v)) EN_30 rfl rfl (rBelow_ok _ v g.v) hs fun w47 hs => ?_)
                refine RW_op (L_pick (V := .bool true) rfl rfl ?_)
                refine RW_op (L_assign (V := .bool true) rfl ?_)
                refine RW_nil ?_
                refine W_ret ?_
                refine ⟨_, res_one (V := .bool true) Try.results5 rfl, ?_⟩
                refine ⟨congrArg Ending.returned ?_, hs.take 0⟩
                rfl
end Tt
end Go.Proofs
