/- A part of a proof: what functions of the program compute, and plain facts on that. -/
import Derived.Test.YtnanhhiofnohbaaVtC
namespace Go.Proofs
open Go Go.Vx Go.RowKit
namespace Tt
set_option maxRecDepth 20000 in
theorem BT_79 : Bt Try.prog 79 [] ([]) := Bt_struct Try.type79 rfl rfl Try.underlying79 (by kernel_rfl)
theorem EN_18 : En Try.prog 18 := Try.call18
theorem EN_47 : En Try.prog 47 := Try.call47
theorem EN_48 : En Try.prog 48 := Try.call48
set_option maxRecDepth 20000 in
set_option maxHeartbeats 4000000 in
theorem gAdd_ok (w : World) (S : Nat → Prop) (b r : Nat) (g : Grp) (d : Dot) (hd : DotOk d) (hg : GOk g) (hR : (gR 52 b r g).holds w S) (hlt : ∀ x, S x → x < w.heap.size) : Calls Try.prog 21 #[.pointer (some ⟨b, 0, none⟩), .agg (dc d).toArray] w (fun e w' => ∃ x : Unit, e = .returned (.int .i64 (gAddE g d)) ∧ Own w S w' [gR 52 b r (gAddG g d)] ∧ True) := by
  refine calls_of_Wn (n := 54) Try.func21 rfl Try.ntmps21 rfl ?_
  have hs : Own w S w [blk b (vc g.v ++ [(.map (some r) : Value)]) 52, mapR r dv uv g.l] := Own.open hR hlt
  have ⟨⟨hd1, hd2⟩, hd3, hd4⟩ := hd
  have hv0 := hg.v.ok
  refine W_seq ?_
  refine W_region ?_
  refine RW_op (L_box (V := .agg (dc d).toArray) (cs := dc d) rfl rfl hs fun b1 w2 hs => ?_)
  refine RW_op (L_assign (V := .int .i64 0) rfl ?_)
  refine RW_nil ?_
  refine W_seq ?_
  refine W_seq ?_
  refine W_region ?_
  refine RW_op (L_move (V := .pointer (some ⟨b, 0, none⟩)) rfl ?_)
  refine RW_op (L_callP (vs := [.pointer (some ⟨b, 0, none⟩)]) (V := .bool true) EN_44 rfl rfl (gGood_ok _ b r (⟨g.v, g.l⟩ : Grp)  (hs.cellsf 0 rfl) (hs.mapf 1 rfl)) hs fun w3 hs => ?_)
  refine RW_op (L_not rfl ?_)
  refine RW_nil ?_
  refine W_condF rfl ?_
  refine W_skip ?_
  refine W_seq ?_
  replace hs := hs.more emp trivial
  replace hs := hs.drew
  refine W_draw2 HM [11, 12, 13, 14, 15, 16, 10, 17, 18, 5, 6] [[], [0], [1], [2], [], [3, 4], [5], [6], [6], [], [9, 7, 5, 0, 1, 2, 3, 4, 5, 6, 7, 9], [8, 10, 0, 1, 2, 3, 4, 5, 6, 7, 8, 9, 10]] (fun D ρ wx => Own w S wx [blk b ((vc g.v) ++ [(.map (some r) : Value) ]) 52, mapR r dv uv g.l, blk b1 (dc d) 34, cond (D 10) (blk (bOf (ρ 5)) (vc (nextV g.v d)) 24) (cond (D 9) (blk (bOf (ρ 5)) (vc vzero) 24) (emp))] ∧ (D 0 = true → ρ 11 = .pointer (some ⟨b, 0, none⟩)) ∧ (D 1 = true → ρ 12 = .pointer (some ⟨b, 0, none⟩)) ∧ (D 2 = true → ρ 13 = .pointer (some ⟨b, 0 + 0, none⟩)) ∧ (D 3 = true → ρ 14 = .agg (vc g.v).toArray) ∧ (D 4 = true → ρ 15 = .agg (dc d).toArray) ∧ (D 5 = true → ρ 16 = .tuple #[.agg (vc (nextV g.v d)).toArray, .int .i64 (nextE g.v d)]) ∧ (D 6 = true → ρ 10 = .tuple #[.agg (vc (nextV g.v d)).toArray, .int .i64 (nextE g.v d)]) ∧ (D 7 = true → ρ 17 = .agg (vc (nextV g.v d)).toArray) ∧ (D 8 = true → ρ 18 = .int .i64 (nextE g.v d)) ∧ (D 9 = true → ρ 5 = .pointer (some ⟨(bOf (ρ 5)), 0, none⟩)) ∧ (True) ∧ (D 11 = true → ρ 6 = .int .i64 (nextE g.v d))) rfl rfl rfl ⟨hs, fun h => absurd h Bool.false_ne_true, fun h => absurd h Bool.false_ne_true, fun h => absurd h Bool.false_ne_true, fun h => absurd h Bool.false_ne_true, fun h => absurd h Bool.false_ne_true, fun h => absurd h Bool.false_ne_true, fun h => absurd h Bool.false_ne_true, fun h => absurd h Bool.false_ne_true, fun h => absurd h Bool.false_ne_true, fun h => absurd h Bool.false_ne_true, trivial, fun h => absurd h Bool.false_ne_true⟩ ⟨?_, ?_, ?_, ?_, ?_, ?_, ?_, ?_, ?_, ?_, ?_, ?_, trivial⟩ ?_
  · rintro D ρ wx hD hd hdc hf ⟨hs, f0, f1, f2, f3, f4, f5, f6, f7, f8, f9, f10, f11⟩
    have r0 : ρ 0 = .pointer (some ⟨b, 0, none⟩) := outD hf 0 rfl
    exact .inl ⟨rfl, L_move (V := .pointer (some ⟨b, 0, none⟩)) r0 ⟨hs, fun _ => rfl, f1, f2, f3, f4, f5, f6, f7, f8, f9, f10, f11⟩⟩
  · rintro D ρ wx hD hd hdc hf ⟨hs, f0, f1, f2, f3, f4, f5, f6, f7, f8, f9, f10, f11⟩
    have g0 := f0 (doneD hd 0 rfl)
    exact .inl ⟨rfl, L_nilCheck g0 ⟨hs, f0, fun _ => rfl, f2, f3, f4, f5, f6, f7, f8, f9, f10, f11⟩⟩
  · rintro D ρ wx hD hd hdc hf ⟨hs, f0, f1, f2, f3, f4, f5, f6, f7, f8, f9, f10, f11⟩
    have g1 := f1 (doneD hd 1 rfl)
    exact .inl ⟨rfl, L_fieldAddr FA_52_0 g1 ⟨hs, f0, f1, fun _ => rfl, f3, f4, f5, f6, f7, f8, f9, f10, f11⟩⟩
  · rintro D ρ wx hD hd hdc hf ⟨hs, f0, f1, f2, f3, f4, f5, f6, f7, f8, f9, f10, f11⟩
    have g2 := f2 (doneD hd 2 rfl)
    exact .inl ⟨rfl, L_ldA (vs := vc g.v) SA_24 hs 0 rfl g2 rfl rfl ⟨hs, f0, f1, f2, fun _ => rfl, f4, f5, f6, f7, f8, f9, f10, f11⟩⟩
  · rintro D ρ wx hD hd hdc hf ⟨hs, f0, f1, f2, f3, f4, f5, f6, f7, f8, f9, f10, f11⟩
    have r3 : ρ 3 = .pointer (some ⟨b1, 0, none⟩) := outD hf 3 rfl
    exact .inl ⟨rfl, L_ldW (cs := dc d) SA_34 hs 2 rfl r3 rfl ⟨hs, f0, f1, f2, f3, fun _ => rfl, f5, f6, f7, f8, f9, f10, f11⟩⟩
  · rintro D ρ wx hD hd hdc hf ⟨hs, f0, f1, f2, f3, f4, f5, f6, f7, f8, f9, f10, f11⟩
    have g3 := f3 (doneD hd 3 rfl)
    have g4 := f4 (doneD hd 4 rfl)
    exact .inl ⟨rfl, L_callP (vs := [.agg (vc g.v).toArray, .agg (dc d).toArray]) (V := .tuple #[.agg (vc (nextV g.v d)).toArray, .int .i64 (nextE g.v d)]) EN_47 rfl (mapc g3 (mapc g4 rfl)) (vNext_ok _ g.v d (by first | assumption | exact vzero_ok) (by first | assumption | exact dotOk_mk (by omega) (by omega) (by omega) (by omega))) hs fun _ hs0 => ⟨hs0, f0, f1, f2, f3, f4, fun _ => rfl, f6, f7, f8, f9, f10, f11⟩⟩
  · rintro D ρ wx hD hd hdc hf ⟨hs, f0, f1, f2, f3, f4, f5, f6, f7, f8, f9, f10, f11⟩
    have g5 := f5 (doneD hd 5 rfl)
    exact .inl ⟨rfl, L_move (V := .tuple #[.agg (vc (nextV g.v d)).toArray, .int .i64 (nextE g.v d)]) g5 ⟨hs, f0, f1, f2, f3, f4, f5, fun _ => rfl, f7, f8, f9, f10, f11⟩⟩
  · rintro D ρ wx hD hd hdc hf ⟨hs, f0, f1, f2, f3, f4, f5, f6, f7, f8, f9, f10, f11⟩
    have g6 := f6 (doneD hd 6 rfl)
    exact .inl ⟨rfl, L_extract (V := .agg (vc (nextV g.v d)).toArray) g6 rfl ⟨hs, f0, f1, f2, f3, f4, f5, f6, fun _ => rfl, f8, f9, f10, f11⟩⟩
  · rintro D ρ wx hD hd hdc hf ⟨hs, f0, f1, f2, f3, f4, f5, f6, f7, f8, f9, f10, f11⟩
    have g6 := f6 (doneD hd 6 rfl)
    exact .inl ⟨rfl, L_extract (V := .int .i64 (nextE g.v d)) g6 rfl ⟨hs, f0, f1, f2, f3, f4, f5, f6, f7, fun _ => rfl, f9, f10, f11⟩⟩
  · rintro D ρ wx hD hd hdc hf ⟨hs, f0, f1, f2, f3, f4, f5, f6, f7, f8, f9, f10, f11⟩
    refine .inl ⟨rfl, L_alloc (cs := vc vzero) ZV_24 rfl hs fun b _ hs0 => ⟨?_, f0, f1, f2, f3, f4, f5, f6, f7, f8, fun _ => rfl, f10, f11⟩⟩
    have d10 : D 10 = false := (notYetD hdc (j := 10) rfl rfl hD)
    rw [show Go.Vx.mark D 9 10 = false from d10]
    exact hs0.put 3 (Nat.le_of_ble_eq_true rfl)
  · rintro D ρ wx hD hd hdc hf ⟨hs, f0, f1, f2, f3, f4, f5, f6, f7, f8, f9, f10, f11⟩
    have g7 := f7 (doneD hd 7 rfl)
    have g9 := f9 (doneD hd 9 rfl)
    have d9 : D 9 = true := doneD hd 9 rfl
    have d10 : D 10 = false := hD
    have hs0 := hs; rw [d9, d10] at hs0
    refine .inl ⟨rfl, L_st (V := .agg (vc (nextV g.v d)).toArray) (vs := vc (nextV g.v d)) (cs' := vc (nextV g.v d)) SA_24.1 hs0 3 rfl g9 g7 rfl rfl (Nat.le_of_ble_eq_true rfl) (vc_one _) (spl_whole rfl) fun _ hs0 => ⟨?_, f0, f1, f2, f3, f4, f5, f6, f7, f8, f9, trivial, f11⟩⟩
    rw [show Go.Vx.mark D 10 9 = true from d9]
    exact hs0
  · rintro D ρ wx hD hd hdc hf ⟨hs, f0, f1, f2, f3, f4, f5, f6, f7, f8, f9, f10, f11⟩
    have g8 := f8 (doneD hd 8 rfl)
    exact .inl ⟨rfl, L_assign (V := .int .i64 (nextE g.v d)) g8 ⟨hs, f0, f1, f2, f3, f4, f5, f6, f7, f8, f9, f10, fun _ => rfl⟩⟩
  · rintro ρ1 w1 D hD hf ⟨hs, f0, f1, f2, f3, f4, f5, f6, f7, f8, f9, f10, f11⟩
    rw [hD 9 rfl, hD 10 rfl] at hs
    have e9 := f9 (hD 9 rfl)
    have e11 := f11 (hD 11 rfl)
    clear f0 f1 f2 f3 f4 f5 f6 f7 f8 f9 f10 f11
    obtain ⟨b7, hb7⟩ : ∃ b, bOf (ρ1 5) = b := ⟨_, rfl⟩
    try rw [hb7] at hs
    try rw [hb7] at e9
    obtain ⟨ρ2, hρ⟩ : ∃ ρ2, ρ1 = upd (upd (mix [11, 12, 13, 14, 15, 16, 10, 17, 18, 5, 6] ρ2 _) 5 (.pointer (some ⟨b7, 0, none⟩))) 6 (.int .i64 (nextE g.v d)) := ⟨ρ1, upd_of (upd_of (mix_of (ds := [11, 12, 13, 14, 15, 16, 10, 17, 18, 5, 6]) hf) e9) e11⟩
    clear hf hD e9 e11
    subst hρ
    refine W_seq ?_
    refine W_seq ?_
    refine W_region ?_
    refine RW_op (L_move (V := .int .i64 (nextE g.v d)) rfl ?_)
    refine RW_nil ?_
    refine W_block ?_
    refine W_seq ?_
    refine W_seq ?_
    refine W_region ?_
    refine RW_op (L_eql rfl rfl ?_)
    refine RW_op (L_assign (V := .bool (decide (nextE g.v d = 2))) rfl ?_)
    refine RW_nil ?_
    refine W_cond (t := decide (nextE g.v d = 2)) rfl (fun c9 => ?_) (fun c9 => ?_)
    ·
      replace c9 := of_decide_eq_true c9
      refine W_skip ?_
      refine W_condT (congrArg Value.bool (decide_eq_true c9)) ?_
      refine W_seq ?_
      refine W_region ?_
      refine RW_op (L_move (V := .int .i64 (nextE g.v d)) rfl ?_)
      refine RW_op (L_assign (V := .int .i64 (nextE g.v d)) rfl ?_)
      refine RW_nil ?_
      refine W_ret ?_
      refine ⟨_, res_one (V := .int .i64 (nextE g.v d)) Try.results21 rfl, ?_⟩
      have ⟨hE, hG⟩ := gAdd_2 c9
      exact ⟨(), by rw [hE], by rw [hG]; exact (hs.join 0 1 (by decide) rfl rfl).only 0 rfl, trivial⟩
    ·
      replace c9 := of_decide_eq_false c9
      refine W_region ?_
      refine RW_op (L_eql rfl rfl ?_)
      refine RW_op (L_assign (V := .bool (decide (nextE g.v d = 8))) rfl ?_)
      refine RW_nil ?_
      refine W_cond (t := decide (nextE g.v d = 8)) rfl (fun c10 => ?_) (fun c10 => ?_)
      ·
        replace c10 := of_decide_eq_true c10
        refine W_seq ?_
        refine W_region ?_
        refine RW_op (L_move (V := .int .i64 (nextE g.v d)) rfl ?_)
        refine RW_op (L_assign (V := .int .i64 (nextE g.v d)) rfl ?_)
        refine RW_nil ?_
        refine W_ret ?_
        refine ⟨_, res_one (V := .int .i64 (nextE g.v d)) Try.results21 rfl, ?_⟩
        have ⟨hE, hG⟩ := gAdd_8 c10
        exact ⟨(), by rw [hE], by rw [hG]; exact (hs.join 0 1 (by decide) rfl rfl).only 0 rfl, trivial⟩
      ·
        replace c10 := of_decide_eq_false c10
        refine W_seq ?_
        refine W_region ?_
        refine RW_op (L_eql rfl rfl ?_)
        refine RW_op (L_assign (V := .bool (decide (nextE g.v d = 9))) rfl ?_)
        refine RW_nil ?_
        refine W_cond (t := decide (nextE g.v d = 9)) rfl (fun c11 => ?_) (fun c11 => ?_)
        ·
          replace c11 := of_decide_eq_true c11
          refine W_seq ?_
          refine W_seq ?_
          refine W_region ?_
          refine RW_op (L_move (V := .pointer (some ⟨b, 0, none⟩)) rfl ?_)
          refine RW_op (L_ldW (cs := dc d) SA_34 hs 2 rfl rfl rfl ?_)
          refine RW_op (L_callP (vs := [.pointer (some ⟨b, 0, none⟩), .agg (dc d).toArray]) (V := .bool (gHas (⟨g.v, g.l⟩ : Grp) d)) EN_18 rfl rfl (gHas_ok _ b r (⟨g.v, g.l⟩ : Grp) d (by first | assumption | exact dotOk_mk (by omega) (by omega) (by omega) (by omega)) (hs.cellsf 0 rfl) (hs.mapf 1 rfl)) hs fun w12 hs => ?_)
          refine RW_nil ?_
          refine W_cond (t := gHas (⟨g.v, g.l⟩ : Grp) d) rfl (fun c13 => ?_) (fun c13 => ?_)
          ·
            refine W_seq ?_
            refine W_region ?_
            refine RW_op (L_assign (V := .int .i64 8) rfl ?_)
            refine RW_nil ?_
            refine W_ret ?_
            refine ⟨_, res_one (V := .int .i64 8) Try.results21 rfl, ?_⟩
            have ⟨hE, hG⟩ := gAdd_h c11 c13
            exact ⟨(), by rw [hE], by rw [hG]; exact (hs.join 0 1 (by decide) rfl rfl).only 0 rfl, trivial⟩
          ·
            refine W_skip ?_
            refine W_seq ?_
            refine W_seq ?_
            have hb := dotB_spec (nextE_9 c11)
            have hv1 := hg.v.at d.rep.toNat
            replace hs := hs.drew
            refine W_draw2 HM [29, 30, 31, 32, 33, 34, 35, 36, 37, 38, 39] [[], [0], [], [], [3], [2], [5], [6, 4], [7], [8], [1, 9]] (fun D ρ wx => Own w S wx [blk b ((vc g.v) ++ [(.map (some r) : Value) ]) 52, mapR r dv uv g.l, blk b1 (dc d) 34, blk b7 (vc (nextV g.v d)) 24] ∧ (D 0 = true → ρ 29 = .pointer (some ⟨b1, 0 + 1, none⟩)) ∧ (D 1 = true → ρ 30 = .int .u32 d.seq) ∧ (D 2 = true → ρ 31 = .pointer (some ⟨b, 0, none⟩)) ∧ (D 3 = true → ρ 32 = .pointer (some ⟨b1, 0 + 0, none⟩)) ∧ (D 4 = true → ρ 33 = .int .u8 d.rep) ∧ (D 5 = true → ρ 34 = .pointer (some ⟨b, 0, none⟩)) ∧ (D 6 = true → ρ 35 = .pointer (some ⟨b, 0 + 0, none⟩)) ∧ (D 7 = true → ρ 36 = .pointer (some ⟨b, 0 + 0 + d.rep.toNat, none⟩)) ∧ (D 8 = true → ρ 37 = .int .u32 (vat g.v d.rep.toNat)) ∧ (D 9 = true → ρ 38 = .int .u32 ((vat g.v d.rep.toNat) + 256)) ∧ (D 10 = true → ρ 39 = .bool (decide ((vat g.v d.rep.toNat) + 256 < d.seq)))) rfl rfl rfl ⟨hs, fun h => absurd h Bool.false_ne_true, fun h => absurd h Bool.false_ne_true, fun h => absurd h Bool.false_ne_true, fun h => absurd h Bool.false_ne_true, fun h => absurd h Bool.false_ne_true, fun h => absurd h Bool.false_ne_true, fun h => absurd h Bool.false_ne_true, fun h => absurd h Bool.false_ne_true, fun h => absurd h Bool.false_ne_true, fun h => absurd h Bool.false_ne_true, fun h => absurd h Bool.false_ne_true⟩ ⟨?_, ?_, ?_, ?_, ?_, ?_, ?_, ?_, ?_, ?_, ?_, trivial⟩ ?_
            · rintro D ρ wx hD hd hdc hf ⟨hs, f0, f1, f2, f3, f4, f5, f6, f7, f8, f9, f10⟩
              have r3 : ρ 3 = .pointer (some ⟨b1, 0, none⟩) := outD hf 3 rfl
              exact .inl ⟨rfl, L_fieldAddr FA_34_1 r3 ⟨hs, fun _ => rfl, f1, f2, f3, f4, f5, f6, f7, f8, f9, f10⟩⟩
            · rintro D ρ wx hD hd hdc hf ⟨hs, f0, f1, f2, f3, f4, f5, f6, f7, f8, f9, f10⟩
              have g0 := f0 (doneD hd 0 rfl)
              exact .inl ⟨rfl, L_ld (V := .int .u32 d.seq) S1_22 hs 2 rfl g0 rfl ⟨hs, f0, fun _ => rfl, f2, f3, f4, f5, f6, f7, f8, f9, f10⟩⟩
            · rintro D ρ wx hD hd hdc hf ⟨hs, f0, f1, f2, f3, f4, f5, f6, f7, f8, f9, f10⟩
              have r0 : ρ 0 = .pointer (some ⟨b, 0, none⟩) := outD hf 0 rfl
              exact .inl ⟨rfl, L_move (V := .pointer (some ⟨b, 0, none⟩)) r0 ⟨hs, f0, f1, fun _ => rfl, f3, f4, f5, f6, f7, f8, f9, f10⟩⟩
            · rintro D ρ wx hD hd hdc hf ⟨hs, f0, f1, f2, f3, f4, f5, f6, f7, f8, f9, f10⟩
              have r3 : ρ 3 = .pointer (some ⟨b1, 0, none⟩) := outD hf 3 rfl
              exact .inl ⟨rfl, L_fieldAddr FA_34_0 r3 ⟨hs, f0, f1, f2, fun _ => rfl, f4, f5, f6, f7, f8, f9, f10⟩⟩
            · rintro D ρ wx hD hd hdc hf ⟨hs, f0, f1, f2, f3, f4, f5, f6, f7, f8, f9, f10⟩
              have g3 := f3 (doneD hd 3 rfl)
              exact .inl ⟨rfl, L_ld (V := .int .u8 d.rep) S1_5 hs 2 rfl g3 rfl ⟨hs, f0, f1, f2, f3, fun _ => rfl, f5, f6, f7, f8, f9, f10⟩⟩
            · rintro D ρ wx hD hd hdc hf ⟨hs, f0, f1, f2, f3, f4, f5, f6, f7, f8, f9, f10⟩
              have g2 := f2 (doneD hd 2 rfl)
              exact .inl ⟨rfl, L_nilCheck g2 ⟨hs, f0, f1, f2, f3, f4, fun _ => rfl, f6, f7, f8, f9, f10⟩⟩
            · rintro D ρ wx hD hd hdc hf ⟨hs, f0, f1, f2, f3, f4, f5, f6, f7, f8, f9, f10⟩
              have g5 := f5 (doneD hd 5 rfl)
              exact .inl ⟨rfl, L_fieldAddr FA_52_0 g5 ⟨hs, f0, f1, f2, f3, f4, f5, fun _ => rfl, f7, f8, f9, f10⟩⟩
            · rintro D ρ wx hD hd hdc hf ⟨hs, f0, f1, f2, f3, f4, f5, f6, f7, f8, f9, f10⟩
              have g4 := f4 (doneD hd 4 rfl)
              have g6 := f6 (doneD hd 6 rfl)
              exact .inl ⟨rfl, L_ixArr1 UD_24 S1_22.1 g6 g4 (by omega) (by omega) ⟨hs, f0, f1, f2, f3, f4, f5, f6, fun _ => rfl, f8, f9, f10⟩⟩
            · rintro D ρ wx hD hd hdc hf ⟨hs, f0, f1, f2, f3, f4, f5, f6, f7, f8, f9, f10⟩
              have g7 := f7 (doneD hd 7 rfl)
              exact .inl ⟨rfl, L_ld (V := .int .u32 (vat g.v d.rep.toNat)) S1_22 hs 0 rfl g7 (vc_atA (by omega) (by omega)) ⟨hs, f0, f1, f2, f3, f4, f5, f6, f7, fun _ => rfl, f9, f10⟩⟩
            · rintro D ρ wx hD hd hdc hf ⟨hs, f0, f1, f2, f3, f4, f5, f6, f7, f8, f9, f10⟩
              have g8 := f8 (doneD hd 8 rfl)
              exact .inl ⟨rfl, L_add (a := vat g.v d.rep.toNat) (b := 256) (c := (vat g.v d.rep.toNat) + 256) g8 rfl (wr_u32 (by omega) (by omega)) ⟨hs, f0, f1, f2, f3, f4, f5, f6, f7, f8, fun _ => rfl, f10⟩⟩
            · rintro D ρ wx hD hd hdc hf ⟨hs, f0, f1, f2, f3, f4, f5, f6, f7, f8, f9, f10⟩
              have g1 := f1 (doneD hd 1 rfl)
              have g9 := f9 (doneD hd 9 rfl)
              exact .inl ⟨rfl, L_gtr g1 g9 ⟨hs, f0, f1, f2, f3, f4, f5, f6, f7, f8, f9, fun _ => rfl⟩⟩
            · rintro ρ1 w1 D hD hf ⟨hs, f0, f1, f2, f3, f4, f5, f6, f7, f8, f9, f10⟩
              have e10 := f10 (hD 10 rfl)
              clear f0 f1 f2 f3 f4 f5 f6 f7 f8 f9 f10
              obtain ⟨ρ2, hρ⟩ : ∃ ρ2, ρ1 = upd (mix [29, 30, 31, 32, 33, 34, 35, 36, 37, 38, 39] ρ2 _) 39 (.bool (decide ((vat g.v d.rep.toNat) + 256 < d.seq))) := ⟨ρ1, upd_of (mix_of (ds := [29, 30, 31, 32, 33, 34, 35, 36, 37, 38, 39]) hf) e10⟩
              clear hf hD e10
              subst hρ
              refine W_cond (t := decide ((vat g.v d.rep.toNat) + 256 < d.seq)) rfl (fun c15 => ?_) (fun c15 => ?_)
              ·
                replace c15 := of_decide_eq_true c15
                refine W_seq ?_
                refine W_region ?_
                refine RW_op (L_assign (V := .int .i64 10) rfl ?_)
                refine RW_nil ?_
                refine W_ret ?_
                refine ⟨_, res_one (V := .int .i64 10) Try.results21 rfl, ?_⟩
                have ⟨hE, hG⟩ := gAdd_f c11 c13 c15
                exact ⟨(), by rw [hE], by rw [hG]; exact (hs.join 0 1 (by decide) rfl rfl).only 0 rfl, trivial⟩
              ·
                replace c15 := of_decide_eq_false c15
                refine W_skip ?_
                refine W_seq ?_
                replace hs := hs.drew
                refine W_draw2 HM [40, 41, 42, 43, 44, 45] [[], [0], [1], [2], [], [], [3, 4, 5, 0, 1, 2, 3, 4, 5]] (fun D ρ wx => Own w S wx [blk b ((vc g.v) ++ [(.map (some r) : Value) ]) 52, cond (D 6) (mapR r dv uv (mput d () g.l)) (mapR r dv uv g.l), blk b1 (dc d) 34, blk b7 (vc (nextV g.v d)) 24] ∧ (D 0 = true → ρ 40 = .pointer (some ⟨b, 0, none⟩)) ∧ (D 1 = true → ρ 41 = .pointer (some ⟨b, 0, none⟩)) ∧ (D 2 = true → ρ 42 = .pointer (some ⟨b, 0 + 16, none⟩)) ∧ (D 3 = true → ρ 43 = .map (some r)) ∧ (D 4 = true → ρ 44 = .agg (dc d).toArray) ∧ (D 5 = true → ρ 45 = .agg #[]) ∧ (True)) rfl rfl rfl ⟨hs, fun h => absurd h Bool.false_ne_true, fun h => absurd h Bool.false_ne_true, fun h => absurd h Bool.false_ne_true, fun h => absurd h Bool.false_ne_true, fun h => absurd h Bool.false_ne_true, fun h => absurd h Bool.false_ne_true, trivial⟩ ⟨?_, ?_, ?_, ?_, ?_, ?_, ?_, trivial⟩ ?_
                · rintro D ρ wx hD hd hdc hf ⟨hs, f0, f1, f2, f3, f4, f5, f6⟩
                  have r0 : ρ 0 = .pointer (some ⟨b, 0, none⟩) := outD hf 0 rfl
                  exact .inl ⟨rfl, L_move (V := .pointer (some ⟨b, 0, none⟩)) r0 ⟨hs, fun _ => rfl, f1, f2, f3, f4, f5, f6⟩⟩
                · rintro D ρ wx hD hd hdc hf ⟨hs, f0, f1, f2, f3, f4, f5, f6⟩
                  have g0 := f0 (doneD hd 0 rfl)
                  exact .inl ⟨rfl, L_nilCheck g0 ⟨hs, f0, fun _ => rfl, f2, f3, f4, f5, f6⟩⟩
                · rintro D ρ wx hD hd hdc hf ⟨hs, f0, f1, f2, f3, f4, f5, f6⟩
                  have g1 := f1 (doneD hd 1 rfl)
                  exact .inl ⟨rfl, L_fieldAddr FA_52_1 g1 ⟨hs, f0, f1, fun _ => rfl, f3, f4, f5, f6⟩⟩
                · rintro D ρ wx hD hd hdc hf ⟨hs, f0, f1, f2, f3, f4, f5, f6⟩
                  have g2 := f2 (doneD hd 2 rfl)
                  exact .inl ⟨rfl, L_ld (V := .map (some r)) S1_50 hs 0 rfl g2 rfl ⟨hs, f0, f1, f2, fun _ => rfl, f4, f5, f6⟩⟩
                · rintro D ρ wx hD hd hdc hf ⟨hs, f0, f1, f2, f3, f4, f5, f6⟩
                  have r3 : ρ 3 = .pointer (some ⟨b1, 0, none⟩) := outD hf 3 rfl
                  exact .inl ⟨rfl, L_ldW (cs := dc d) SA_34 hs 2 rfl r3 rfl ⟨hs, f0, f1, f2, f3, fun _ => rfl, f5, f6⟩⟩
                · rintro D ρ wx hD hd hdc hf ⟨hs, f0, f1, f2, f3, f4, f5, f6⟩
                  exact .inl ⟨rfl, L_build (vs := []) (cs := []) BT_79 (rfl) rfl ⟨hs, f0, f1, f2, f3, f4, fun _ => rfl, f6⟩⟩
                · rintro D ρ wx hD hd hdc hf ⟨hs, f0, f1, f2, f3, f4, f5, f6⟩
                  have g3 := f3 (doneD hd 3 rfl)
                  have g4 := f4 (doneD hd 4 rfl)
                  have g5 := f5 (doneD hd 5 rfl)
                  have d6 : D 6 = false := hD
                  have hs0 := hs; rw [d6] at hs0
                  refine .inl ⟨rfl, L_mapSet (k := d) (v := ()) UD_50 KO_34 hs0 1 rfl g3 g4 g5 fun _ hs0 => ⟨?_, f0, f1, f2, f3, f4, f5, trivial⟩⟩
                  exact hs0
                · rintro ρ1 w1 D hD hf ⟨hs, f0, f1, f2, f3, f4, f5, f6⟩
                  rw [hD 6 rfl] at hs
                  clear f0 f1 f2 f3 f4 f5 f6
                  obtain ⟨ρ2, hρ⟩ : ∃ ρ2, ρ1 = mix [40, 41, 42, 43, 44, 45] ρ2 _ := ⟨ρ1, mix_of (ds := [40, 41, 42, 43, 44, 45]) hf⟩
                  clear hf hD
                  subst hρ
                  refine W_seq ?_
                  refine W_region ?_
                  refine RW_op (L_assign (V := .int .i64 0) rfl ?_)
                  refine RW_nil ?_
                  refine W_ret ?_
                  refine ⟨_, res_one (V := .int .i64 0) Try.results21 rfl, ?_⟩
                  have ⟨hE, hG⟩ := gAdd_i c11 c13 c15
                  exact ⟨(), by rw [hE], by rw [hG]; exact (hs.join 0 1 (by decide) rfl rfl).only 0 rfl, trivial⟩
        ·
          replace c11 := of_decide_eq_false c11
          refine W_skip ?_
          refine W_seq ?_
          refine W_region ?_
          refine RW_op (L_move (V := .pointer (some ⟨b, 0, none⟩)) rfl ?_)
          refine RW_op (L_ldW (cs := vc (nextV g.v d)) SA_24 hs 3 rfl rfl rfl ?_)
          refine RW_op (L_nilCheck rfl ?_)
          refine RW_op (L_fieldAddr FA_52_0 rfl ?_)
          refine RW_op (L_st (V := .agg (vc (nextV g.v d)).toArray) (vs := vc (nextV g.v d)) (cs' := (vc (nextV g.v d)) ++ [(.map (some r) : Value) ]) SA_24.1 hs 0 rfl rfl rfl rfl rfl (Nat.le_of_ble_eq_true rfl) (vc_one _) (spl_pre rfl) fun w18 hs => ?_)
          refine RW_nil ?_
          refine W_seq ?_
          have hb := dotB_spec (nextE_0 c9 c10 c11).1
          refine W_region ?_
          refine RW_op (L_move (V := .pointer (some ⟨b, 0, none⟩)) rfl ?_)
          refine RW_op (L_fieldAddr FA_34_0 rfl ?_)
          refine RW_op (L_ld (V := .int .u8 d.rep) S1_5 hs 2 rfl rfl rfl ?_)
          replace hs := hs.join 0 1 (by decide) rfl rfl
          refine RW_op (L_callB (vs := [.pointer (some ⟨b, 0, none⟩), .int .u8 d.rep]) (V := fun _ : Unit => .tuple #[]) (R := gR 52 b r (⟨nextV g.v d, g.l⟩ : Grp)) (R' := fun _ => gR 52 b r (settleG d.rep (⟨nextV g.v d, g.l⟩ : Grp))) (Lo := fun _ => []) (F := fun _ _ => True) EN_48 rfl rfl hs 0 rfl (fun S hS hlt => gSettle_ok _ S b r (⟨nextV g.v d, g.l⟩ : Grp) d.rep (by omega) (by omega) (next_ok hg c9 c10 c11) hS hlt) fun _ w19 hs _ => ?_)
          replace hs := hs.split 0 rfl
          refine RW_nil ?_
          refine W_seq ?_
          refine W_region ?_
          refine RW_op (L_assign (V := .int .i64 0) rfl ?_)
          refine RW_nil ?_
          refine W_ret ?_
          refine ⟨_, res_one (V := .int .i64 0) Try.results21 rfl, ?_⟩
          have ⟨hE, hG⟩ := gAdd_0 c9 c10 c11
          exact ⟨(), by rw [hE], by rw [hG]; exact (hs.join 0 4 (by decide) rfl rfl).only 0 rfl, trivial⟩
end Tt
end Go.Proofs
