/- A part of a proof: what functions of the program compute, and plain facts on that. -/
import Derived.Test.YtnanhhiofnohbaaVtB
namespace Go.Proofs
open Go Go.Vx Go.RowKit
namespace Tt

set_option maxRecDepth 20000 in
set_option maxHeartbeats 4000000 in
theorem gSettle_ok (w : World) (S : Nat → Prop) (b r : Nat) (g : Grp) (rep : Int) (hp0 : 0 ≤ rep) (hp1 : rep < 16) (hg : GOk g) (hR : (gR 52 b r g).holds w S) (hlt : ∀ x, S x → x < w.heap.size) : Calls Try.prog 48 #[.pointer (some ⟨b, 0, none⟩), .int .u8 rep] w (fun e w' => ∃ x : Unit, e = .returned (.tuple #[]) ∧ Own w S w' [gR 52 b r (settleG rep g)] ∧ True) := by
  refine calls_of_Wn (n := 42) Try.func48 rfl Try.ntmps48 rfl ?_
  have hs : Own w S w [blk b (vc g.v ++ [(.map (some r) : Value)]) 52, mapR r dv uv g.l] := Own.open hR hlt
  refine W_block ?_
  refine W_loopI (fun ρ m ρ' w' => ∃ (ρo : Env) (g2 : Grp), ρ' = mix [4, 5, 6, 7, 8, 9, 10, 11, 12, 13, 14, 15, 16, 17, 18, 19, 20, 21, 22, 23, 24, 25, 26, 27, 28, 29, 30, 31, 32, 33, 34, 35, 36, 37, 38, 39, 40, 41] ρo ρ ∧ (settleG rep g = settleG rep g2) ∧ (GOk g2) ∧ m = g2.l.length ∧ Own w S w' [blk b ((vc g2.v) ++ [(.map (some r) : Value) ]) 52, mapR r dv uv g2.l]) ?_ ?_
  · exact ⟨_, _, g, mix_of (ds := [4, 5, 6, 7, 8, 9, 10, 11, 12, 13, 14, 15, 16, 17, 18, 19, 20, 21, 22, 23, 24, 25, 26, 27, 28, 29, 30, 31, 32, 33, 34, 35, 36, 37, 38, 39, 40, 41]) (Agr.refl _ _), rfl, hg, rfl, hs⟩
  · rintro m ρ' w1 ⟨ρo, g2, rfl, hse, hg2, rfl, hs⟩
    have hv2 := hg2.v.at rep.toNat
    refine W_block ?_
    refine W_seq ?_
    refine W_region ?_
    refine RW_op (L_move (V := .int .u8 rep) rfl ?_)
    refine RW_op (L_move (V := .pointer (some ⟨b, 0, none⟩)) rfl ?_)
    refine RW_op (L_move (V := .int .u8 rep) rfl ?_)
    refine RW_op (L_nilCheck rfl ?_)
    refine RW_op (L_fieldAddr FA_52_0 rfl ?_)
    refine RW_op (L_ixArr1 UD_24 S1_22.1 rfl rfl (by omega) (by omega) ?_)
    refine RW_op (L_ld (V := .int .u32 (vat g2.v rep.toNat)) S1_22 hs 0 rfl rfl (vc_atA (by omega) (by omega)) ?_)
    refine RW_op (L_add (a := vat g2.v rep.toNat) (b := 1) (c := (vat g2.v rep.toNat) + 1) rfl rfl (wr_u32 (by omega) (by omega)) ?_)
    refine RW_op (L_build (vs := [(0, .int .u8 rep), (1, .int .u32 ((vat g2.v rep.toNat) + 1))]) (cs := dc (⟨rep, (vat g2.v rep.toNat) + 1⟩ : Dot)) BT_34 (rfl) rfl ?_)
    refine RW_op (L_alloc (cs := dc (⟨0, 0⟩ : Dot)) ZV_34 rfl hs fun b2 w3 hs => ?_)
    refine RW_op (L_st (V := .agg (dc (⟨rep, (vat g2.v rep.toNat) + 1⟩ : Dot)).toArray) (vs := dc (⟨rep, (vat g2.v rep.toNat) + 1⟩ : Dot)) (cs' := dc (⟨rep, (vat g2.v rep.toNat) + 1⟩ : Dot)) SA_34.1 hs 2 rfl rfl rfl rfl rfl (Nat.le_of_ble_eq_true rfl) (dc_one _) (spl_whole rfl) fun w4 hs => ?_)
    refine RW_nil ?_
    refine W_seq ?_
    refine W_seq ?_
    replace hs := hs.more emp trivial
    replace hs := hs.drew
    refine W_draw2 HM [17, 18, 19, 20, 21, 22, 16, 23, 24, 5, 6] [[], [0], [1], [2], [], [3, 4], [5], [6], [6], [], [9, 7, 0, 1, 2, 3, 4, 5, 6, 7, 9], [8, 10, 0, 1, 2, 3, 4, 5, 6, 7, 8, 9, 10]] (fun D ρ wx => Own w S wx [blk b ((vc g2.v) ++ [(.map (some r) : Value) ]) 52, mapR r dv uv g2.l, blk b2 (dc (⟨rep, (vat g2.v rep.toNat) + 1⟩ : Dot)) 34, cond (D 10) (blk (bOf (ρ 5)) [] 79) (cond (D 9) (blk (bOf (ρ 5)) [] 79) (emp))] ∧ (D 0 = true → ρ 17 = .pointer (some ⟨b, 0, none⟩)) ∧ (D 1 = true → ρ 18 = .pointer (some ⟨b, 0, none⟩)) ∧ (D 2 = true → ρ 19 = .pointer (some ⟨b, 0 + 16, none⟩)) ∧ (D 3 = true → ρ 20 = .map (some r)) ∧ (D 4 = true → ρ 21 = .agg (dc (⟨rep, (vat g2.v rep.toNat) + 1⟩ : Dot)).toArray) ∧ (D 5 = true → ρ 22 = .tuple #[.agg #[], .bool ((mget (⟨rep, (vat g2.v rep.toNat) + 1⟩ : Dot) g2.l).isSome)]) ∧ (D 6 = true → ρ 16 = .tuple #[.agg #[], .bool ((mget (⟨rep, (vat g2.v rep.toNat) + 1⟩ : Dot) g2.l).isSome)]) ∧ (D 7 = true → ρ 23 = .agg #[]) ∧ (D 8 = true → ρ 24 = .bool ((mget (⟨rep, (vat g2.v rep.toNat) + 1⟩ : Dot) g2.l).isSome)) ∧ (D 9 = true → ρ 5 = .pointer (some ⟨(bOf (ρ 5)), 0, none⟩)) ∧ (True) ∧ (D 11 = true → ρ 6 = .bool ((mget (⟨rep, (vat g2.v rep.toNat) + 1⟩ : Dot) g2.l).isSome))) rfl rfl rfl ⟨hs, fun h => absurd h Bool.false_ne_true, fun h => absurd h Bool.false_ne_true, fun h => absurd h Bool.false_ne_true, fun h => absurd h Bool.false_ne_true, fun h => absurd h Bool.false_ne_true, fun h => absurd h Bool.false_ne_true, fun h => absurd h Bool.false_ne_true, fun h => absurd h Bool.false_ne_true, fun h => absurd h Bool.false_ne_true, fun h => absurd h Bool.false_ne_true, trivial, fun h => absurd h Bool.false_ne_true⟩ ⟨?_, ?_, ?_, ?_, ?_, ?_, ?_, ?_, ?_, ?_, ?_, ?_, trivial⟩ ?_
    · rintro D ρ wx hD hd hdc hf ⟨hs, f0, f1, f2, f3, f4, f5, f6, f7, f8, f9, f10, f11⟩
      have r0 : ρ 0 = .pointer (some ⟨b, 0, none⟩) := outD hf 0 rfl
      exact .inl ⟨rfl, L_move (V := .pointer (some ⟨b, 0, none⟩)) r0 ⟨hs, fun _ => rfl, f1, f2, f3, f4, f5, f6, f7, f8, f9, f10, f11⟩⟩
    · rintro D ρ wx hD hd hdc hf ⟨hs, f0, f1, f2, f3, f4, f5, f6, f7, f8, f9, f10, f11⟩
      have g0 := f0 (doneD hd 0 rfl)
      exact .inl ⟨rfl, L_nilCheck g0 ⟨hs, f0, fun _ => rfl, f2, f3, f4, f5, f6, f7, f8, f9, f10, f11⟩⟩
    · rintro D ρ wx hD hd hdc hf ⟨hs, f0, f1, f2, f3, f4, f5, f6, f7, f8, f9, f10, f11⟩
      have g1 := f1 (doneD hd 1 rfl)
      exact .inl ⟨rfl, L_fieldAddr FA_52_1 g1 ⟨hs, f0, f1, fun _ => rfl, f3, f4, f5, f6, f7, f8, f9, f10, f11⟩⟩
    · rintro D ρ wx hD hd hdc hf ⟨hs, f0, f1, f2, f3, f4, f5, f6, f7, f8, f9, f10, f11⟩
      have g2 := f2 (doneD hd 2 rfl)
      exact .inl ⟨rfl, L_ld (V := .map (some r)) S1_50 hs 0 rfl g2 rfl ⟨hs, f0, f1, f2, fun _ => rfl, f4, f5, f6, f7, f8, f9, f10, f11⟩⟩
    · rintro D ρ wx hD hd hdc hf ⟨hs, f0, f1, f2, f3, f4, f5, f6, f7, f8, f9, f10, f11⟩
      have r4 : ρ 4 = .pointer (some ⟨b2, 0, none⟩) := outD hf 4 rfl
      exact .inl ⟨rfl, L_ldW (cs := dc (⟨rep, (vat g2.v rep.toNat) + 1⟩ : Dot)) SA_34 hs 2 rfl r4 rfl ⟨hs, f0, f1, f2, f3, fun _ => rfl, f5, f6, f7, f8, f9, f10, f11⟩⟩
    · rintro D ρ wx hD hd hdc hf ⟨hs, f0, f1, f2, f3, f4, f5, f6, f7, f8, f9, f10, f11⟩
      have g3 := f3 (doneD hd 3 rfl)
      have g4 := f4 (doneD hd 4 rfl)
      exact .inl ⟨rfl, L_lookupOkU (k := (⟨rep, (vat g2.v rep.toNat) + 1⟩ : Dot)) UD_50 KO_34 ZV_79 (hs.mapf 1 rfl) g3 g4 ⟨hs, f0, f1, f2, f3, f4, fun _ => rfl, f6, f7, f8, f9, f10, f11⟩⟩
    · rintro D ρ wx hD hd hdc hf ⟨hs, f0, f1, f2, f3, f4, f5, f6, f7, f8, f9, f10, f11⟩
      have g5 := f5 (doneD hd 5 rfl)
      exact .inl ⟨rfl, L_move (V := .tuple #[.agg #[], .bool ((mget (⟨rep, (vat g2.v rep.toNat) + 1⟩ : Dot) g2.l).isSome)]) g5 ⟨hs, f0, f1, f2, f3, f4, f5, fun _ => rfl, f7, f8, f9, f10, f11⟩⟩
    · rintro D ρ wx hD hd hdc hf ⟨hs, f0, f1, f2, f3, f4, f5, f6, f7, f8, f9, f10, f11⟩
      have g6 := f6 (doneD hd 6 rfl)
      exact .inl ⟨rfl, L_extract (V := .agg #[]) g6 rfl ⟨hs, f0, f1, f2, f3, f4, f5, f6, fun _ => rfl, f8, f9, f10, f11⟩⟩
    · rintro D ρ wx hD hd hdc hf ⟨hs, f0, f1, f2, f3, f4, f5, f6, f7, f8, f9, f10, f11⟩
      have g6 := f6 (doneD hd 6 rfl)
      exact .inl ⟨rfl, L_extract (V := .bool ((mget (⟨rep, (vat g2.v rep.toNat) + 1⟩ : Dot) g2.l).isSome)) g6 rfl ⟨hs, f0, f1, f2, f3, f4, f5, f6, f7, fun _ => rfl, f9, f10, f11⟩⟩
    · rintro D ρ wx hD hd hdc hf ⟨hs, f0, f1, f2, f3, f4, f5, f6, f7, f8, f9, f10, f11⟩
      refine .inl ⟨rfl, L_alloc (cs := []) ZV_79 rfl hs fun b _ hs0 => ⟨?_, f0, f1, f2, f3, f4, f5, f6, f7, f8, fun _ => rfl, f10, f11⟩⟩
      have d10 : D 10 = false := (notYetD hdc (j := 10) rfl rfl hD)
      rw [show Go.Vx.mark D 9 10 = false from d10]
      exact hs0.put 3 (Nat.le_of_ble_eq_true rfl)
    · rintro D ρ wx hD hd hdc hf ⟨hs, f0, f1, f2, f3, f4, f5, f6, f7, f8, f9, f10, f11⟩
      have g7 := f7 (doneD hd 7 rfl)
      have g9 := f9 (doneD hd 9 rfl)
      have d9 : D 9 = true := doneD hd 9 rfl
      have d10 : D 10 = false := hD
      have hs0 := hs; rw [d9, d10] at hs0
      refine .inl ⟨rfl, L_st (V := .agg #[]) (vs := []) (cs' := []) SA_79.1 hs0 3 rfl g9 g7 rfl rfl (Nat.le_of_ble_eq_true rfl) one_nil (spl_whole rfl) fun _ hs0 => ⟨?_, f0, f1, f2, f3, f4, f5, f6, f7, f8, f9, trivial, f11⟩⟩
      rw [show Go.Vx.mark D 10 9 = true from d9]
      exact hs0
    · rintro D ρ wx hD hd hdc hf ⟨hs, f0, f1, f2, f3, f4, f5, f6, f7, f8, f9, f10, f11⟩
      have g8 := f8 (doneD hd 8 rfl)
      exact .inl ⟨rfl, L_assign (V := .bool ((mget (⟨rep, (vat g2.v rep.toNat) + 1⟩ : Dot) g2.l).isSome)) g8 ⟨hs, f0, f1, f2, f3, f4, f5, f6, f7, f8, f9, f10, fun _ => rfl⟩⟩
    · rintro ρ1 w1 D hD hf ⟨hs, f0, f1, f2, f3, f4, f5, f6, f7, f8, f9, f10, f11⟩
      rw [hD 9 rfl, hD 10 rfl] at hs
      have e11 := f11 (hD 11 rfl)
      clear f0 f1 f2 f3 f4 f5 f6 f7 f8 f9 f10 f11
      obtain ⟨b7, hb7⟩ : ∃ b, bOf (ρ1 5) = b := ⟨_, rfl⟩
      try rw [hb7] at hs
      obtain ⟨ρ2, hρ⟩ : ∃ ρ2, ρ1 = upd (mix [17, 18, 19, 20, 21, 22, 16, 23, 24, 5, 6] ρ2 _) 6 (.bool ((mget (⟨rep, (vat g2.v rep.toNat) + 1⟩ : Dot) g2.l).isSome)) := ⟨ρ1, upd_of (mix_of (ds := [17, 18, 19, 20, 21, 22, 16, 23, 24, 5, 6]) hf) e11⟩
      clear hf hD e11
      subst hρ
      refine W_seq ?_
      refine W_region ?_
      refine RW_op (L_move (V := .bool ((mget (⟨rep, (vat g2.v rep.toNat) + 1⟩ : Dot) g2.l).isSome)) rfl ?_)
      refine RW_op (L_not rfl ?_)
      refine RW_nil ?_
      refine W_cond (t := !((mget (⟨rep, (vat g2.v rep.toNat) + 1⟩ : Dot) g2.l).isSome)) rfl (fun c9 => ?_) (fun c9 => ?_)
      ·
        replace c9 := not_t c9
        refine W_ret ?_
        refine ⟨_, res_none Try.results48, ?_⟩
        exact ⟨(), rfl, (hse.trans (settle_end c9)) ▸ (hs.take 2).shut, trivial⟩
      ·
        replace c9 := not_f c9
        refine W_skip ?_
        refine W_seq ?_
        replace hs := hs.drew
        refine W_draw2 HM [27, 28, 29, 30, 31] [[], [0], [1], [2], [], [3, 4]] (fun D ρ wx => Own w S wx [blk b ((vc g2.v) ++ [(.map (some r) : Value) ]) 52, cond (D 5) (mapR r dv uv (mdel (⟨rep, (vat g2.v rep.toNat) + 1⟩ : Dot) g2.l)) (mapR r dv uv g2.l), blk b2 (dc (⟨rep, (vat g2.v rep.toNat) + 1⟩ : Dot)) 34, blk b7 [] 79] ∧ (D 0 = true → ρ 27 = .pointer (some ⟨b, 0, none⟩)) ∧ (D 1 = true → ρ 28 = .pointer (some ⟨b, 0, none⟩)) ∧ (D 2 = true → ρ 29 = .pointer (some ⟨b, 0 + 16, none⟩)) ∧ (D 3 = true → ρ 30 = .map (some r)) ∧ (D 4 = true → ρ 31 = .agg (dc (⟨rep, (vat g2.v rep.toNat) + 1⟩ : Dot)).toArray) ∧ (True)) rfl rfl rfl ⟨hs, fun h => absurd h Bool.false_ne_true, fun h => absurd h Bool.false_ne_true, fun h => absurd h Bool.false_ne_true, fun h => absurd h Bool.false_ne_true, fun h => absurd h Bool.false_ne_true, trivial⟩ ⟨?_, ?_, ?_, ?_, ?_, ?_, trivial⟩ ?_
        · rintro D ρ wx hD hd hdc hf ⟨hs, f0, f1, f2, f3, f4, f5⟩
          have r0 : ρ 0 = .pointer (some ⟨b, 0, none⟩) := outD hf 0 rfl
          exact .inl ⟨rfl, L_move (V := .pointer (some ⟨b, 0, none⟩)) r0 ⟨hs, fun _ => rfl, f1, f2, f3, f4, f5⟩⟩
        · rintro D ρ wx hD hd hdc hf ⟨hs, f0, f1, f2, f3, f4, f5⟩
          have g0 := f0 (doneD hd 0 rfl)
          exact .inl ⟨rfl, L_nilCheck g0 ⟨hs, f0, fun _ => rfl, f2, f3, f4, f5⟩⟩
        · rintro D ρ wx hD hd hdc hf ⟨hs, f0, f1, f2, f3, f4, f5⟩
          have g1 := f1 (doneD hd 1 rfl)
          exact .inl ⟨rfl, L_fieldAddr FA_52_1 g1 ⟨hs, f0, f1, fun _ => rfl, f3, f4, f5⟩⟩
        · rintro D ρ wx hD hd hdc hf ⟨hs, f0, f1, f2, f3, f4, f5⟩
          have g2 := f2 (doneD hd 2 rfl)
          exact .inl ⟨rfl, L_ld (V := .map (some r)) S1_50 hs 0 rfl g2 rfl ⟨hs, f0, f1, f2, fun _ => rfl, f4, f5⟩⟩
        · rintro D ρ wx hD hd hdc hf ⟨hs, f0, f1, f2, f3, f4, f5⟩
          have r4 : ρ 4 = .pointer (some ⟨b2, 0, none⟩) := outD hf 4 rfl
          exact .inl ⟨rfl, L_ldW (cs := dc (⟨rep, (vat g2.v rep.toNat) + 1⟩ : Dot)) SA_34 hs 2 rfl r4 rfl ⟨hs, f0, f1, f2, f3, fun _ => rfl, f5⟩⟩
        · rintro D ρ wx hD hd hdc hf ⟨hs, f0, f1, f2, f3, f4, f5⟩
          have g3 := f3 (doneD hd 3 rfl)
          have g4 := f4 (doneD hd 4 rfl)
          have d5 : D 5 = false := hD
          have hs0 := hs; rw [d5] at hs0
          refine .inl ⟨rfl, L_mapDel (k := (⟨rep, (vat g2.v rep.toNat) + 1⟩ : Dot)) UD_50 KO_34 hs0 1 rfl g3 g4 fun _ hs0 => ⟨?_, f0, f1, f2, f3, f4, trivial⟩⟩
          exact hs0
        · rintro ρ1 w1 D hD hf ⟨hs, f0, f1, f2, f3, f4, f5⟩
          rw [hD 5 rfl] at hs
          clear f0 f1 f2 f3 f4 f5
          obtain ⟨ρ2, hρ⟩ : ∃ ρ2, ρ1 = mix [27, 28, 29, 30, 31] ρ2 _ := ⟨ρ1, mix_of (ds := [27, 28, 29, 30, 31]) hf⟩
          clear hf hD
          subst hρ
          replace hs := hs.drew
          refine W_draw2 HM [32, 33, 34, 35, 36, 37, 38, 39, 40, 41] [[], [], [0], [2], [3, 1], [4], [5], [0], [7], [8, 1, 0, 1, 2, 3, 4, 5, 6], [9, 6, 0, 1, 2, 3, 4, 5, 6]] (fun D ρ wx => Own w S wx [cond (D 10) (blk b ((vc (vset g2.v rep.toNat ((vat g2.v rep.toNat) + 1))) ++ [(.map (some r) : Value) ]) 52) (blk b ((vc g2.v) ++ [(.map (some r) : Value) ]) 52), mapR r dv uv (mdel (⟨rep, (vat g2.v rep.toNat) + 1⟩ : Dot) g2.l), blk b2 (dc (⟨rep, (vat g2.v rep.toNat) + 1⟩ : Dot)) 34, blk b7 [] 79] ∧ (D 0 = true → ρ 32 = .pointer (some ⟨b, 0, none⟩)) ∧ (D 1 = true → ρ 33 = .int .u8 rep) ∧ (D 2 = true → ρ 34 = .pointer (some ⟨b, 0, none⟩)) ∧ (D 3 = true → ρ 35 = .pointer (some ⟨b, 0 + 0, none⟩)) ∧ (D 4 = true → ρ 36 = .pointer (some ⟨b, 0 + 0 + rep.toNat, none⟩)) ∧ (D 5 = true → ρ 37 = .int .u32 (vat g2.v rep.toNat)) ∧ (D 6 = true → ρ 38 = .int .u32 ((vat g2.v rep.toNat) + 1)) ∧ (D 7 = true → ρ 39 = .pointer (some ⟨b, 0, none⟩)) ∧ (D 8 = true → ρ 40 = .pointer (some ⟨b, 0 + 0, none⟩)) ∧ (D 9 = true → ρ 41 = .pointer (some ⟨b, 0 + 0 + rep.toNat, none⟩)) ∧ (True)) rfl rfl rfl ⟨hs, fun h => absurd h Bool.false_ne_true, fun h => absurd h Bool.false_ne_true, fun h => absurd h Bool.false_ne_true, fun h => absurd h Bool.false_ne_true, fun h => absurd h Bool.false_ne_true, fun h => absurd h Bool.false_ne_true, fun h => absurd h Bool.false_ne_true, fun h => absurd h Bool.false_ne_true, fun h => absurd h Bool.false_ne_true, fun h => absurd h Bool.false_ne_true, trivial⟩ ⟨?_, ?_, ?_, ?_, ?_, ?_, ?_, ?_, ?_, ?_, ?_, trivial⟩ ?_
          · rintro D ρ wx hD hd hdc hf ⟨hs, f0, f1, f2, f3, f4, f5, f6, f7, f8, f9, f10⟩
            have r0 : ρ 0 = .pointer (some ⟨b, 0, none⟩) := outD hf 0 rfl
            exact .inl ⟨rfl, L_move (V := .pointer (some ⟨b, 0, none⟩)) r0 ⟨hs, fun _ => rfl, f1, f2, f3, f4, f5, f6, f7, f8, f9, f10⟩⟩
          · rintro D ρ wx hD hd hdc hf ⟨hs, f0, f1, f2, f3, f4, f5, f6, f7, f8, f9, f10⟩
            have r1 : ρ 1 = .int .u8 rep := outD hf 1 rfl
            exact .inl ⟨rfl, L_move (V := .int .u8 rep) r1 ⟨hs, f0, fun _ => rfl, f2, f3, f4, f5, f6, f7, f8, f9, f10⟩⟩
          · rintro D ρ wx hD hd hdc hf ⟨hs, f0, f1, f2, f3, f4, f5, f6, f7, f8, f9, f10⟩
            have g0 := f0 (doneD hd 0 rfl)
            exact .inl ⟨rfl, L_nilCheck g0 ⟨hs, f0, f1, fun _ => rfl, f3, f4, f5, f6, f7, f8, f9, f10⟩⟩
          · rintro D ρ wx hD hd hdc hf ⟨hs, f0, f1, f2, f3, f4, f5, f6, f7, f8, f9, f10⟩
            have g2 := f2 (doneD hd 2 rfl)
            exact .inl ⟨rfl, L_fieldAddr FA_52_0 g2 ⟨hs, f0, f1, f2, fun _ => rfl, f4, f5, f6, f7, f8, f9, f10⟩⟩
          · rintro D ρ wx hD hd hdc hf ⟨hs, f0, f1, f2, f3, f4, f5, f6, f7, f8, f9, f10⟩
            have g1 := f1 (doneD hd 1 rfl)
            have g3 := f3 (doneD hd 3 rfl)
            exact .inl ⟨rfl, L_ixArr1 UD_24 S1_22.1 g3 g1 (by omega) (by omega) ⟨hs, f0, f1, f2, f3, fun _ => rfl, f5, f6, f7, f8, f9, f10⟩⟩
          · rintro D ρ wx hD hd hdc hf ⟨hs, f0, f1, f2, f3, f4, f5, f6, f7, f8, f9, f10⟩
            have g4 := f4 (doneD hd 4 rfl)
            have d10 : D 10 = false := (notYetD hdc (j := 10) rfl rfl hD)
            have hs0 := hs; rw [d10] at hs0
            exact .inl ⟨rfl, L_ld (V := .int .u32 (vat g2.v rep.toNat)) S1_22 hs0 0 rfl g4 (vc_atA (by omega) (by omega)) ⟨hs, f0, f1, f2, f3, f4, fun _ => rfl, f6, f7, f8, f9, f10⟩⟩
          · rintro D ρ wx hD hd hdc hf ⟨hs, f0, f1, f2, f3, f4, f5, f6, f7, f8, f9, f10⟩
            have g5 := f5 (doneD hd 5 rfl)
            exact .inl ⟨rfl, L_add (a := vat g2.v rep.toNat) (b := 1) (c := (vat g2.v rep.toNat) + 1) g5 rfl (wr_u32 (by omega) (by omega)) ⟨hs, f0, f1, f2, f3, f4, f5, fun _ => rfl, f7, f8, f9, f10⟩⟩
          · rintro D ρ wx hD hd hdc hf ⟨hs, f0, f1, f2, f3, f4, f5, f6, f7, f8, f9, f10⟩
            have g0 := f0 (doneD hd 0 rfl)
            exact .inl ⟨rfl, L_nilCheck g0 ⟨hs, f0, f1, f2, f3, f4, f5, f6, fun _ => rfl, f8, f9, f10⟩⟩
          · rintro D ρ wx hD hd hdc hf ⟨hs, f0, f1, f2, f3, f4, f5, f6, f7, f8, f9, f10⟩
            have g7 := f7 (doneD hd 7 rfl)
            exact .inl ⟨rfl, L_fieldAddr FA_52_0 g7 ⟨hs, f0, f1, f2, f3, f4, f5, f6, f7, fun _ => rfl, f9, f10⟩⟩
          · rintro D ρ wx hD hd hdc hf ⟨hs, f0, f1, f2, f3, f4, f5, f6, f7, f8, f9, f10⟩
            have g1 := f1 (doneD hd 1 rfl)
            have g8 := f8 (doneD hd 8 rfl)
            exact .inl ⟨rfl, L_ixArr1 UD_24 S1_22.1 g8 g1 (by omega) (by omega) ⟨hs, f0, f1, f2, f3, f4, f5, f6, f7, f8, fun _ => rfl, f10⟩⟩
          · rintro D ρ wx hD hd hdc hf ⟨hs, f0, f1, f2, f3, f4, f5, f6, f7, f8, f9, f10⟩
            have g6 := f6 (doneD hd 6 rfl)
            have g9 := f9 (doneD hd 9 rfl)
            have d10 : D 10 = false := hD
            have hs0 := hs; rw [d10] at hs0
            refine .inl ⟨rfl, L_st1 (V := .int .u32 ((vat g2.v rep.toNat) + 1)) (cs' := (vc (vset g2.v rep.toNat ((vat g2.v rep.toNat) + 1))) ++ [(.map (some r) : Value) ]) S1_22 hs0 0 rfl g9 g6 rfl (vc_ltA (by omega)) (vc_setA (by omega) (by omega)) fun _ hs0 => ⟨?_, f0, f1, f2, f3, f4, f5, f6, f7, f8, f9, trivial⟩⟩
            exact hs0
          · rintro ρ1 w1 D hD hf ⟨hs, f0, f1, f2, f3, f4, f5, f6, f7, f8, f9, f10⟩
            rw [hD 10 rfl] at hs
            clear f0 f1 f2 f3 f4 f5 f6 f7 f8 f9 f10
            obtain ⟨ρ2, hρ⟩ : ∃ ρ2, ρ1 = mix [32, 33, 34, 35, 36, 37, 38, 39, 40, 41] ρ2 _ := ⟨ρ1, mix_of (ds := [32, 33, 34, 35, 36, 37, 38, 39, 40, 41]) hf⟩
            clear hf hD
            subst hρ
            have hml := mdel_len c9
            refine ⟨_, ?_, _, setStep rep g2, mix_of (ds := [4, 5, 6, 7, 8, 9, 10, 11, 12, 13, 14, 15, 16, 17, 18, 19, 20, 21, 22, 23, 24, 25, 26, 27, 28, 29, 30, 31, 32, 33, 34, 35, 36, 37, 38, 39, 40, 41]) (by repeat (first | exact Agr.refl _ _ | refine Agr.upd ?_ rfl | refine Agr.mix ?_ rfl)), (hse.trans (settle_step c9)), (settle_ok hg2 c9), rfl, hs.take 2⟩
            show (mdel _ _).length < _; omega
end Tt
end Go.Proofs
