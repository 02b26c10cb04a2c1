/- A part of a proof: what functions of the program compute, and plain facts on that. -/
import Derived.Test.YtnanhhiofnohbaaVtH
namespace Go.Proofs
open Go Go.Vx Go.RowKit
namespace Tt
theorem EN_25 : En Try.prog 25 := Try.call25
theorem EN_49 : En Try.prog 49 := Try.call49
theorem EN_50 : En Try.prog 50 := Try.call50
theorem EN_65 : En Try.prog 65 := Try.call65
theorem gives_keys {w : World} {bx r N : Nat} {lm : List (Dot × Unit)} (hc : CellsF w bx [.map (some r)]) (hm : MapF w r dv uv lm) (hN : lm.length ≤ N) :
    Gives Try.prog 65 [.pointer (some ⟨bx, 0, none⟩)] (okS dv N) (fun xs => xs.Perm ((lm.map (·.1)).map dv)) w := by
  rintro l w1 R S ⟨L1, hs1⟩ hlt hS hR hy
  have hb : bx < w.heap.size := World.block_lt_of_cell? _ _ (hc 0 _ rfl)
  have hr : r < w.heap.size := by obtain ⟨es, clock, h, _⟩ := hm; exact (Array.getElem?_eq_some_iff.1 h).1
  exact keys1D_ok w1 S bx r l lm R (okS dv N) (fun pre k hp _ => ⟨⟨k, rfl⟩, by rw [List.length_map]; omega⟩) hy hR hlt (fun h => hS _ h hb) (fun h => hS _ h hr) (hc.own' hs1) (hm.own' hs1)
set_option maxRecDepth 20000 in
set_option maxHeartbeats 4000000 in
theorem gLoose_ok (w : World) (b r : Nat) (g : Grp) (hN : g.l.length ≤ 1000000) (hsort : SortC Try.prog 64 51 dc 34 2 sortD) (hc : CellsF w b (gcs r g)) (hm : MapF w r dv uv g.l) : Calls Try.prog 25 #[.pointer (some ⟨b, 0, none⟩)] w (fun e w' => ∃ x : List Dot × Option Addr × Nat, e = .returned (.slice x.2.1 x.1.length x.2.2) ∧ Own w no w' [row (.slice x.2.1 x.1.length x.2.2) (x.1.map dc) 34 2] ∧ LooseP g x.1) := by
  refine calls_of_Wn (n := 12) Try.func25 rfl Try.ntmps25 rfl ?_
  have hs := Own.start w
  refine W_seq ?_
  refine W_region ?_
  refine RW_op (L_assign (V := .slice none 0 0) rfl ?_)
  refine RW_nil ?_
  refine W_seq ?_
  refine W_seq ?_
  refine W_region ?_
  refine RW_op (L_move (V := .pointer (some ⟨b, 0, none⟩)) rfl ?_)
  refine RW_op (L_callP (vs := [.pointer (some ⟨b, 0, none⟩)]) (V := .bool true) EN_44 rfl rfl (gGood_ok _ b r g  (hc.own' hs) (MapF.own' hm hs)) hs fun w1 hs => ?_)
  refine RW_op (L_not rfl ?_)
  refine RW_nil ?_
  refine W_condF rfl ?_
  refine W_skip ?_
  refine W_seq ?_
  refine W_region ?_
  refine RW_op (L_move (V := .pointer (some ⟨b, 0, none⟩)) rfl ?_)
  refine RW_op (L_nilCheck rfl ?_)
  refine RW_op (L_fieldAddr FA_52_1 rfl ?_)
  refine RW_op (L_ldF (V := .map (some r)) S1_50 (hc.own' hs) rfl rfl ?_)
  refine RW_op (L_callX (vs := [.map (some r)]) (V := fun x : Nat => .func (.func 65) #[] #[.pointer (some ⟨x, 0, none⟩)]) EN_50 rfl rfl (keysD_ok _ r) hs fun x2 w3 hs _ => ?_)
  refine RW_op (L_callX (vs := [.func (.func 65) #[] #[.pointer (some ⟨x2, 0, none⟩)], .func (.func 51) #[] #[]]) EN_49 rfl rfl (sortedD_ok _ 65 1000000 [.pointer (some ⟨x2, 0, none⟩)] EN_65 (by decide) (fun xs => xs.Perm ((g.l.map (·.1)).map dv)) (gives_keys (hs.cellsf 0 rfl) (MapF.own hm hs (fun h => h)) (by omega)) hsort) hs fun x4 w5 hs hF6 => ?_)
  refine RW_op (L_assign (V := .slice x4.2.1 x4.1.length x4.2.2) rfl ?_)
  refine RW_nil ?_
  refine W_ret ?_
  refine ⟨_, res_one (V := .slice x4.2.1 x4.1.length x4.2.2) Try.results25 rfl, ?_⟩
  exact ⟨(x4.1, x4.2.1, x4.2.2), rfl, hs.only 1 rfl, loose_of hF6⟩
set_option maxRecDepth 20000 in
set_option maxHeartbeats 4000000 in
theorem gMissing_ok (w : World) (b r : Nat) (g : Grp) (hg : GOk g) (hN : g.l.length ≤ 1000000) (hsort : SortC Try.prog 64 51 dc 34 2 sortD) (hc : CellsF w b (gcs r g)) (hm : MapF w r dv uv g.l) : Calls Try.prog 27 #[.pointer (some ⟨b, 0, none⟩)] w (fun e w' => ∃ x : List Dot × Option Addr × Nat, e = .returned (.slice x.2.1 x.1.length x.2.2) ∧ Own w no w' [row (.slice x.2.1 x.1.length x.2.2) (x.1.map dc) 34 2] ∧ ∃ m, LooseP g m ∧ x.1 = missGo g.v m) := by
  refine calls_of_Wn (n := 52) Try.func27 rfl Try.ntmps27 rfl ?_
  have hs := Own.start w
  refine W_seq ?_
  refine W_region ?_
  refine RW_op (L_assign (V := .slice none 0 0) rfl ?_)
  refine RW_nil ?_
  refine W_seq ?_
  refine W_region ?_
  refine RW_op (L_assign (V := .slice none 0 0) rfl ?_)
  refine RW_nil ?_
  refine W_seq ?_
  refine W_seq ?_
  refine W_region ?_
  refine RW_op (L_move (V := .pointer (some ⟨b, 0, none⟩)) rfl ?_)
  refine RW_op (L_callP (vs := [.pointer (some ⟨b, 0, none⟩)]) (V := .bool true) EN_44 rfl rfl (gGood_ok _ b r g  (hc.own' hs) (MapF.own' hm hs)) hs fun w1 hs => ?_)
  refine RW_op (L_not rfl ?_)
  refine RW_nil ?_
  refine W_condF rfl ?_
  refine W_skip ?_
  refine W_seq ?_
  refine W_region ?_
  refine RW_op (L_move (V := .pointer (some ⟨b, 0, none⟩)) rfl ?_)
  refine RW_op (L_nilCheck rfl ?_)
  refine RW_op (L_fieldAddr FA_52_0 rfl ?_)
  refine RW_op (L_ldFA (vs := vc g.v) SA_24 (hc.own' hs) rfl rfl rfl ?_)
  refine RW_op (L_alloc (cs := vc vzero) ZV_24 rfl hs fun b2 w3 hs => ?_)
  refine RW_op (L_st (V := .agg (vc g.v).toArray) (vs := vc g.v) (cs' := vc g.v) SA_24.1 hs 0 rfl rfl rfl rfl rfl (Nat.le_of_ble_eq_true rfl) (vc_one _) (spl_whole rfl) fun w4 hs => ?_)
  refine RW_nil ?_
  refine W_seq ?_
  refine W_seq ?_
  refine W_region ?_
  refine RW_op (L_move (V := .pointer (some ⟨b, 0, none⟩)) rfl ?_)
  refine RW_op (L_callX (vs := [.pointer (some ⟨b, 0, none⟩)]) EN_25 rfl rfl (gLoose_ok _ b r g (by omega) hsort (hc.own' hs) (MapF.own' hm hs)) hs fun x5 w6 hs hF7 => ?_)
  refine RW_op (L_lenR (n := x5.1.length) UD_25 (hs.rd 1 rfl) (by simp) rfl ?_)
  refine RW_op (L_move (V := .int .i64 0) rfl ?_)
  refine RW_nil ?_
  refine W_block ?_
  replace hs := hs.more (row (.slice none 0 0) (List.map dc []) 34 2) (row_nil _ _ _ _)
  have hll := Rd.sml (hs.rd 1 rfl)
  have hdl := dots_sort hg.l hF7
  have hpl := hF7.1.length_eq
  rw [List.length_map] at hpl
  refine W_loopI (fun ρ m ρ' w' => ∃ (ρo : Env) (k : Nat) (at1 : Vec) (a1 : Option Addr) (c1 : Nat) (out : List Dot), ρ' = upd (upd (mix [3, 6, 17, 18, 19, 20, 21, 22, 23, 24, 25, 26, 27, 28, 29, 30, 31, 32, 33, 34, 35, 36, 37, 38, 39, 40, 41, 42, 43, 44, 45, 46, 47, 48, 49, 50] ρo ρ) 17 (.int .i64 (k : Int))) 3 (.slice a1 out.length c1) ∧ (k ≤ x5.1.length) ∧ (out ++ missGo at1 (x5.1.drop k) = missGo g.v x5.1) ∧ (VOk at1) ∧ (((out.length : Nat) : Int) ≤ (k : Int) * 1048577) ∧ m = x5.1.length - k ∧ Own w no w' [blk b2 (vc at1) 24, row (.slice x5.2.1 x5.1.length x5.2.2) (x5.1.map dc) 34 2, row (.slice a1 out.length c1) (out.map dc) 34 2]) ?_ ?_
  · exact ⟨_, _, 0, g.v, none, 0, [], upd_of (upd_of (mix_of (ds := [3, 6, 17, 18, 19, 20, 21, 22, 23, 24, 25, 26, 27, 28, 29, 30, 31, 32, 33, 34, 35, 36, 37, 38, 39, 40, 41, 42, 43, 44, 45, 46, 47, 48, 49, 50]) (Agr.refl _ _)) rfl) rfl, (by omega), (by simp), hg.v, (by simp), rfl, hs⟩
  · rintro m ρ' w8 ⟨ρo, k, at1, a1, c1, out, rfl, hk, hm1, hat, hlen, rfl, hs⟩
    have hkk : ((k : Int)).toNat = k := rfl
    refine W_seq ?_
    refine W_region ?_
    refine RW_op (L_lss rfl rfl ?_)
    refine RW_nil ?_
    refine W_seq ?_
    refine W_cond (t := decide ((k : Int) < ((x5.1.length : Nat) : Int))) rfl (fun c9 => ?_) (fun c9 => ?_)
    ·
      replace c9 := of_decide_eq_true c9
      refine W_skip ?_
      refine W_seq ?_
      refine W_block ?_
      refine W_seq ?_
      refine W_region ?_
      refine RW_op (L_ixR UD_25 SA_34.1 (hs.rd 1 rfl) rfl rfl (by omega) (by rw [List.length_map]; omega) ?_)
      refine RW_op (L_ldRA (j := 0) (vs := dc (gd x5.1 k)) k SA_34 (hs.rd 1 rfl) (gd_at (by omega)) rfl rfl rfl (by omega) ?_)
      refine RW_op (L_alloc (cs := dc (⟨0, 0⟩ : Dot)) ZV_34 rfl hs fun b10 w11 hs => ?_)
      refine RW_op (L_st (V := .agg (dc (gd x5.1 k)).toArray) (vs := dc (gd x5.1 k)) (cs' := dc (gd x5.1 k)) SA_34.1 hs 3 rfl rfl rfl rfl rfl (Nat.le_of_ble_eq_true rfl) (dc_one _) (spl_whole rfl) fun w12 hs => ?_)
      refine RW_nil ?_
      refine W_seq ?_
      refine W_block ?_
      have hd := dots_at hdl (i := k) (by omega)
      have hva := hat.at (gd x5.1 k).rep.toNat
      refine W_loopI (fun ρ m ρ' w' => ∃ (ρo : Env) (c2 : Nat) (at2 : Vec) (a2 : Option Addr) (c3 : Nat) (out2 : List Dot), ρ' = upd (mix [3, 21, 22, 23, 24, 25, 26, 27, 28, 29, 30, 31, 32, 33, 34, 35, 36, 37, 38, 39, 40, 41, 42, 43, 44] ρo ρ) 3 (.slice a2 out2.length c3) ∧ (at2 = vset at1 (gd x5.1 k).rep.toNat (vat at1 (gd x5.1 k).rep.toNat + c2)) ∧ (VOk at2) ∧ (out2 = out ++ stretch (gd x5.1 k).rep (vat at1 (gd x5.1 k).rep.toNat + 1) c2) ∧ ((c2 : Int) ≤ max 0 ((gd x5.1 k).seq - 1 - vat at1 (gd x5.1 k).rep.toNat)) ∧ (((out2.length : Nat) : Int) ≤ (k : Int) * 1048577 + (c2 : Int)) ∧ m = ((gd x5.1 k).seq - vat at2 (gd x5.1 k).rep.toNat).toNat ∧ Own w no w' [blk b2 (vc at2) 24, row (.slice x5.2.1 x5.1.length x5.2.2) (x5.1.map dc) 34 2, row (.slice a2 out2.length c3) (out2.map dc) 34 2, blk b10 (dc (gd x5.1 k)) 34]) ?_ ?_
      · exact ⟨_, _, 0, at1, a1, c1, out, upd_of (mix_of (ds := [3, 21, 22, 23, 24, 25, 26, 27, 28, 29, 30, 31, 32, 33, 34, 35, 36, 37, 38, 39, 40, 41, 42, 43, 44]) (Agr.refl _ _)) rfl, (vset_same0 _ _), hat, (miss_start _ _ _), (by omega), (by omega), rfl, hs⟩
      · rintro m ρ' w13 ⟨ρo, c2, at2, a2, c3, out2, rfl, hat2, hat2o, hout2, hc2, hlen2, rfl, hs⟩
        have hv2 := hat2o.at (gd x5.1 k).rep.toNat
        have hv3 : vat at2 (gd x5.1 k).rep.toNat = vat at1 (gd x5.1 k).rep.toNat + c2 := by rw [hat2, vat_vset _ _ _ _ (by omega), if_pos rfl]
        refine W_seq ?_
        refine W_seq ?_
        replace hs := hs.drew
        refine W_draw2 HM [21, 22, 23, 24, 25, 26, 27, 28] [[], [0], [1], [2], [3], [], [5], [4, 6]] (fun D ρ wx => Own w no wx [blk b2 (vc at2) 24, row (.slice x5.2.1 x5.1.length x5.2.2) (x5.1.map dc) 34 2, row (.slice a2 out2.length c3) (out2.map dc) 34 2, blk b10 (dc (gd x5.1 k)) 34] ∧ (D 0 = true → ρ 21 = .pointer (some ⟨b10, 0 + 0, none⟩)) ∧ (D 1 = true → ρ 22 = .int .u8 ((gd x5.1 k).rep)) ∧ (D 2 = true → ρ 23 = .pointer (some ⟨b2, 0 + ((gd x5.1 k).rep).toNat, none⟩)) ∧ (D 3 = true → ρ 24 = .int .u32 (vat at2 ((gd x5.1 k).rep).toNat)) ∧ (D 4 = true → ρ 25 = .int .u32 ((vat at2 ((gd x5.1 k).rep).toNat) + 1)) ∧ (D 5 = true → ρ 26 = .pointer (some ⟨b10, 0 + 1, none⟩)) ∧ (D 6 = true → ρ 27 = .int .u32 ((gd x5.1 k).seq)) ∧ (D 7 = true → ρ 28 = .bool (decide ((vat at2 ((gd x5.1 k).rep).toNat) + 1 < (gd x5.1 k).seq)))) rfl rfl rfl ⟨hs, fun h => absurd h Bool.false_ne_true, fun h => absurd h Bool.false_ne_true, fun h => absurd h Bool.false_ne_true, fun h => absurd h Bool.false_ne_true, fun h => absurd h Bool.false_ne_true, fun h => absurd h Bool.false_ne_true, fun h => absurd h Bool.false_ne_true, fun h => absurd h Bool.false_ne_true⟩ ⟨?_, ?_, ?_, ?_, ?_, ?_, ?_, ?_, trivial⟩ ?_
        · rintro D ρ wx hD hd hdc hf ⟨hs, f0, f1, f2, f3, f4, f5, f6, f7⟩
          have r6 : ρ 6 = .pointer (some ⟨b10, 0, none⟩) := outD hf 6 rfl
          exact .inl ⟨rfl, L_fieldAddr FA_34_0 r6 ⟨hs, fun _ => rfl, f1, f2, f3, f4, f5, f6, f7⟩⟩
        · rintro D ρ wx hD hd hdc hf ⟨hs, f0, f1, f2, f3, f4, f5, f6, f7⟩
          have g0 := f0 (doneD hd 0 rfl)
          exact .inl ⟨rfl, L_ld (V := .int .u8 ((gd x5.1 k).rep)) S1_5 hs 3 rfl g0 rfl ⟨hs, f0, fun _ => rfl, f2, f3, f4, f5, f6, f7⟩⟩
        · rintro D ρ wx hD hd hdc hf ⟨hs, f0, f1, f2, f3, f4, f5, f6, f7⟩
          have g1 := f1 (doneD hd 1 rfl)
          have r4 : ρ 4 = .pointer (some ⟨b2, 0, none⟩) := outD hf 4 rfl
          exact .inl ⟨rfl, L_ixArr1 UD_24 S1_22.1 r4 g1 (by omega) (by omega) ⟨hs, f0, f1, fun _ => rfl, f3, f4, f5, f6, f7⟩⟩
        · rintro D ρ wx hD hd hdc hf ⟨hs, f0, f1, f2, f3, f4, f5, f6, f7⟩
          have g2 := f2 (doneD hd 2 rfl)
          exact .inl ⟨rfl, L_ld (V := .int .u32 (vat at2 ((gd x5.1 k).rep).toNat)) S1_22 hs 0 rfl g2 (vc_atO (by omega) (by omega)) ⟨hs, f0, f1, f2, fun _ => rfl, f4, f5, f6, f7⟩⟩
        · rintro D ρ wx hD hd hdc hf ⟨hs, f0, f1, f2, f3, f4, f5, f6, f7⟩
          have g3 := f3 (doneD hd 3 rfl)
          exact .inl ⟨rfl, L_add (a := vat at2 ((gd x5.1 k).rep).toNat) (b := 1) (c := (vat at2 ((gd x5.1 k).rep).toNat) + 1) g3 rfl (wr_u32 (by omega) (by omega)) ⟨hs, f0, f1, f2, f3, fun _ => rfl, f5, f6, f7⟩⟩
        · rintro D ρ wx hD hd hdc hf ⟨hs, f0, f1, f2, f3, f4, f5, f6, f7⟩
          have r6 : ρ 6 = .pointer (some ⟨b10, 0, none⟩) := outD hf 6 rfl
          exact .inl ⟨rfl, L_fieldAddr FA_34_1 r6 ⟨hs, f0, f1, f2, f3, f4, fun _ => rfl, f6, f7⟩⟩
        · rintro D ρ wx hD hd hdc hf ⟨hs, f0, f1, f2, f3, f4, f5, f6, f7⟩
          have g5 := f5 (doneD hd 5 rfl)
          exact .inl ⟨rfl, L_ld (V := .int .u32 ((gd x5.1 k).seq)) S1_22 hs 3 rfl g5 rfl ⟨hs, f0, f1, f2, f3, f4, f5, fun _ => rfl, f7⟩⟩
        · rintro D ρ wx hD hd hdc hf ⟨hs, f0, f1, f2, f3, f4, f5, f6, f7⟩
          have g4 := f4 (doneD hd 4 rfl)
          have g6 := f6 (doneD hd 6 rfl)
          exact .inl ⟨rfl, L_lss g4 g6 ⟨hs, f0, f1, f2, f3, f4, f5, f6, fun _ => rfl⟩⟩
        · rintro ρ1 w1 D hD hf ⟨hs, f0, f1, f2, f3, f4, f5, f6, f7⟩
          have e7 := f7 (hD 7 rfl)
          clear f0 f1 f2 f3 f4 f5 f6 f7
          obtain ⟨ρ2, hρ⟩ : ∃ ρ2, ρ1 = upd (mix [21, 22, 23, 24, 25, 26, 27, 28] ρ2 _) 28 (.bool (decide ((vat at2 ((gd x5.1 k).rep).toNat) + 1 < (gd x5.1 k).seq))) := ⟨ρ1, upd_of (mix_of (ds := [21, 22, 23, 24, 25, 26, 27, 28]) hf) e7⟩
          clear hf hD e7
          subst hρ
          refine W_cond (t := decide ((vat at2 ((gd x5.1 k).rep).toNat) + 1 < (gd x5.1 k).seq)) rfl (fun c15 => ?_) (fun c15 => ?_)
          ·
            replace c15 := of_decide_eq_true c15
            refine W_skip ?_
            refine W_block ?_
            refine W_seq ?_
            refine W_region ?_
            refine RW_op (L_fieldAddr FA_34_0 rfl ?_)
            refine RW_op (L_ld (V := .int .u8 ((gd x5.1 k).rep)) S1_5 hs 3 rfl rfl rfl ?_)
            refine RW_op (L_ixArr1 UD_24 S1_22.1 rfl rfl (by omega) (by omega) ?_)
            refine RW_op (L_ld (V := .int .u32 (vat at2 ((gd x5.1 k).rep).toNat)) S1_22 hs 0 rfl rfl (vc_atO (by omega) (by omega)) ?_)
            refine RW_op (L_add (a := vat at2 ((gd x5.1 k).rep).toNat) (b := 1) (c := (vat at2 ((gd x5.1 k).rep).toNat) + 1) rfl rfl (wr_u32 (by omega) (by omega)) ?_)
            refine RW_op (L_ixArr1 UD_24 S1_22.1 rfl rfl (by omega) (by omega) ?_)
            refine RW_op (L_st1 (V := .int .u32 ((vat at2 ((gd x5.1 k).rep).toNat) + 1)) (cs' := vc (vset at2 ((gd x5.1 k).rep).toNat ((vat at2 ((gd x5.1 k).rep).toNat) + 1))) S1_22 hs 0 rfl rfl rfl rfl (vc_lt (by omega)) (vc_setO (by omega) (by omega)) fun w16 hs => ?_)
            refine RW_nil ?_
            replace hs := hs.more emp trivial
            replace hs := hs.drew
            refine W_draw2 HM [35, 36, 37, 38, 39, 40, 41, 42, 43, 44, 3] [[], [], [1], [], [3], [4], [5], [2, 6], [7], [0, 8], [9, 9, 0, 1, 2, 3, 4, 5, 6, 7, 8, 9]] (fun D ρ wx => Own w no wx [blk b2 (vc (vset at2 ((gd x5.1 k).rep).toNat ((vat at2 ((gd x5.1 k).rep).toNat) + 1))) 24, row (.slice x5.2.1 x5.1.length x5.2.2) (x5.1.map dc) 34 2, cond (D 9) (row (.slice (aOf (ρ 44)) ((out2 ++ [(⟨(gd x5.1 k).rep, vat (vset at2 ((gd x5.1 k).rep).toNat ((vat at2 ((gd x5.1 k).rep).toNat) + 1)) ((gd x5.1 k).rep).toNat⟩ : Dot)]).length) (cOf (ρ 44))) ((out2 ++ [(⟨(gd x5.1 k).rep, vat (vset at2 ((gd x5.1 k).rep).toNat ((vat at2 ((gd x5.1 k).rep).toNat) + 1)) ((gd x5.1 k).rep).toNat⟩ : Dot)]).map dc) 34 2) (row (.slice a2 out2.length c3) (out2.map dc) 34 2), blk b10 (dc (gd x5.1 k)) 34, cond (D 8) (row (.slice (some ⟨(bOf (ρ 43)), 0, none⟩) 1 1) ([(⟨(gd x5.1 k).rep, vat (vset at2 ((gd x5.1 k).rep).toNat ((vat at2 ((gd x5.1 k).rep).toNat) + 1)) ((gd x5.1 k).rep).toNat⟩ : Dot)].map dc) 34 2) (emp)] ∧ (D 0 = true → ρ 35 = .slice a2 out2.length c3) ∧ (D 1 = true → ρ 36 = .pointer (some ⟨b10, 0 + 0, none⟩)) ∧ (D 2 = true → ρ 37 = .int .u8 ((gd x5.1 k).rep)) ∧ (D 3 = true → ρ 38 = .pointer (some ⟨b10, 0 + 0, none⟩)) ∧ (D 4 = true → ρ 39 = .int .u8 ((gd x5.1 k).rep)) ∧ (D 5 = true → ρ 40 = .pointer (some ⟨b2, 0 + ((gd x5.1 k).rep).toNat, none⟩)) ∧ (D 6 = true → ρ 41 = .int .u32 (vat (vset at2 ((gd x5.1 k).rep).toNat ((vat at2 ((gd x5.1 k).rep).toNat) + 1)) ((gd x5.1 k).rep).toNat)) ∧ (D 7 = true → ρ 42 = .agg (dc (⟨(gd x5.1 k).rep, vat (vset at2 ((gd x5.1 k).rep).toNat ((vat at2 ((gd x5.1 k).rep).toNat) + 1)) ((gd x5.1 k).rep).toNat⟩ : Dot)).toArray) ∧ (D 8 = true → ρ 43 = .slice (some ⟨(bOf (ρ 43)), 0, none⟩) 1 1) ∧ (D 9 = true → ρ 44 = .slice (aOf (ρ 44)) ((out2 ++ [(⟨(gd x5.1 k).rep, vat (vset at2 ((gd x5.1 k).rep).toNat ((vat at2 ((gd x5.1 k).rep).toNat) + 1)) ((gd x5.1 k).rep).toNat⟩ : Dot)]).length) (cOf (ρ 44))) ∧ (D 10 = true → ρ 3 = .slice (aOf (ρ 44)) ((out2 ++ [(⟨(gd x5.1 k).rep, vat (vset at2 ((gd x5.1 k).rep).toNat ((vat at2 ((gd x5.1 k).rep).toNat) + 1)) ((gd x5.1 k).rep).toNat⟩ : Dot)]).length) (cOf (ρ 44))) ∧ (D 10 = false → ρ 3 = .slice a2 out2.length c3)) rfl rfl rfl ⟨hs, fun h => absurd h Bool.false_ne_true, fun h => absurd h Bool.false_ne_true, fun h => absurd h Bool.false_ne_true, fun h => absurd h Bool.false_ne_true, fun h => absurd h Bool.false_ne_true, fun h => absurd h Bool.false_ne_true, fun h => absurd h Bool.false_ne_true, fun h => absurd h Bool.false_ne_true, fun h => absurd h Bool.false_ne_true, fun h => absurd h Bool.false_ne_true, fun h => absurd h Bool.false_ne_true, fun _ => rfl⟩ ⟨?_, ?_, ?_, ?_, ?_, ?_, ?_, ?_, ?_, ?_, ?_, trivial⟩ ?_
            · rintro D ρ wx hD hd hdc hf ⟨hs, f0, f1, f2, f3, f4, f5, f6, f7, f8, f9, f10, q3⟩
              have r3 : ρ 3 = .slice a2 out2.length c3 := q3 (notYetD hdc (j := 10) rfl rfl hD)
              exact .inl ⟨rfl, L_move (V := .slice a2 out2.length c3) r3 ⟨hs, fun _ => rfl, f1, f2, f3, f4, f5, f6, f7, f8, f9, f10, q3⟩⟩
            · rintro D ρ wx hD hd hdc hf ⟨hs, f0, f1, f2, f3, f4, f5, f6, f7, f8, f9, f10, q3⟩
              have r6 : ρ 6 = .pointer (some ⟨b10, 0, none⟩) := outD hf 6 rfl
              exact .inl ⟨rfl, L_fieldAddr FA_34_0 r6 ⟨hs, f0, fun _ => rfl, f2, f3, f4, f5, f6, f7, f8, f9, f10, q3⟩⟩
            · rintro D ρ wx hD hd hdc hf ⟨hs, f0, f1, f2, f3, f4, f5, f6, f7, f8, f9, f10, q3⟩
              have g1 := f1 (doneD hd 1 rfl)
              exact .inl ⟨rfl, L_ld (V := .int .u8 ((gd x5.1 k).rep)) S1_5 hs 3 rfl g1 rfl ⟨hs, f0, f1, fun _ => rfl, f3, f4, f5, f6, f7, f8, f9, f10, q3⟩⟩
            · rintro D ρ wx hD hd hdc hf ⟨hs, f0, f1, f2, f3, f4, f5, f6, f7, f8, f9, f10, q3⟩
              have r6 : ρ 6 = .pointer (some ⟨b10, 0, none⟩) := outD hf 6 rfl
              exact .inl ⟨rfl, L_fieldAddr FA_34_0 r6 ⟨hs, f0, f1, f2, fun _ => rfl, f4, f5, f6, f7, f8, f9, f10, q3⟩⟩
            · rintro D ρ wx hD hd hdc hf ⟨hs, f0, f1, f2, f3, f4, f5, f6, f7, f8, f9, f10, q3⟩
              have g3 := f3 (doneD hd 3 rfl)
              exact .inl ⟨rfl, L_ld (V := .int .u8 ((gd x5.1 k).rep)) S1_5 hs 3 rfl g3 rfl ⟨hs, f0, f1, f2, f3, fun _ => rfl, f5, f6, f7, f8, f9, f10, q3⟩⟩
            · rintro D ρ wx hD hd hdc hf ⟨hs, f0, f1, f2, f3, f4, f5, f6, f7, f8, f9, f10, q3⟩
              have g4 := f4 (doneD hd 4 rfl)
              have r4 : ρ 4 = .pointer (some ⟨b2, 0, none⟩) := outD hf 4 rfl
              exact .inl ⟨rfl, L_ixArr1 UD_24 S1_22.1 r4 g4 (by omega) (by omega) ⟨hs, f0, f1, f2, f3, f4, fun _ => rfl, f6, f7, f8, f9, f10, q3⟩⟩
            · rintro D ρ wx hD hd hdc hf ⟨hs, f0, f1, f2, f3, f4, f5, f6, f7, f8, f9, f10, q3⟩
              have g5 := f5 (doneD hd 5 rfl)
              exact .inl ⟨rfl, L_ld (V := .int .u32 (vat (vset at2 ((gd x5.1 k).rep).toNat ((vat at2 ((gd x5.1 k).rep).toNat) + 1)) ((gd x5.1 k).rep).toNat)) S1_22 hs 0 rfl g5 (vc_atO (by omega) (by omega)) ⟨hs, f0, f1, f2, f3, f4, f5, fun _ => rfl, f7, f8, f9, f10, q3⟩⟩
            · rintro D ρ wx hD hd hdc hf ⟨hs, f0, f1, f2, f3, f4, f5, f6, f7, f8, f9, f10, q3⟩
              have g2 := f2 (doneD hd 2 rfl)
              have g6 := f6 (doneD hd 6 rfl)
              exact .inl ⟨rfl, L_build (vs := [(0, .int .u8 ((gd x5.1 k).rep)), (1, .int .u32 (vat (vset at2 ((gd x5.1 k).rep).toNat ((vat at2 ((gd x5.1 k).rep).toNat) + 1)) ((gd x5.1 k).rep).toNat))]) (cs := dc (⟨(gd x5.1 k).rep, vat (vset at2 ((gd x5.1 k).rep).toNat ((vat at2 ((gd x5.1 k).rep).toNat) + 1)) ((gd x5.1 k).rep).toNat⟩ : Dot)) BT_34 ((mapb g2 (mapb g6 rfl))) rfl ⟨hs, f0, f1, f2, f3, f4, f5, f6, fun _ => rfl, f8, f9, f10, q3⟩⟩
            · rintro D ρ wx hD hd hdc hf ⟨hs, f0, f1, f2, f3, f4, f5, f6, f7, f8, f9, f10, q3⟩
              have g7 := f7 (doneD hd 7 rfl)
              refine .inl ⟨rfl, L_bs (vals := [.agg (dc (⟨(gd x5.1 k).rep, vat (vset at2 ((gd x5.1 k).rep).toNat ((vat at2 ((gd x5.1 k).rep).toNat) + 1)) ((gd x5.1 k).rep).toNat⟩ : Dot)).toArray]) (ls := List.map dc ([(⟨(gd x5.1 k).rep, vat (vset at2 ((gd x5.1 k).rep).toNat ((vat at2 ((gd x5.1 k).rep).toNat) + 1)) ((gd x5.1 k).rep).toNat⟩ : Dot)] : List Dot)) EL_25 (mapb g7 rfl) rfl rfl (len_map (enc := dc) (fun _ => rfl) _) (one_map dc_one _) (Nat.le_of_ble_eq_true rfl) hs fun b _ hs0 => ⟨?_, f0, f1, f2, f3, f4, f5, f6, f7, fun _ => rfl, f9, f10, q3⟩⟩
              exact hs0.put 4 (Nat.le_of_ble_eq_true rfl)
            · rintro D ρ wx hD hd hdc hf ⟨hs, f0, f1, f2, f3, f4, f5, f6, f7, f8, f9, f10, q3⟩
              have g0 := f0 (doneD hd 0 rfl)
              have g8 := f8 (doneD hd 8 rfl)
              have n10 : D 10 = false := (notYetD hdc (j := 10) rfl rfl hD)
              have d9 : D 9 = false := hD
              have d8 : D 8 = true := doneD hd 8 rfl
              have hs0 := hs; rw [d8, d9] at hs0
              refine .inl ⟨rfl, L_appN (ls' := (out2 ++ [(⟨(gd x5.1 k).rep, vat (vset at2 ((gd x5.1 k).rep).toNat ((vat at2 ((gd x5.1 k).rep).toNat) + 1)) ((gd x5.1 k).rep).toNat⟩ : Dot)]).map dc) (n := (out2 ++ [(⟨(gd x5.1 k).rep, vat (vset at2 ((gd x5.1 k).rep).toNat ((vat at2 ((gd x5.1 k).rep).toNat) + 1)) ((gd x5.1 k).rep).toNat⟩ : Dot)]).length) EL_25 hs0 2 rfl g0 g8 (hs0.rd 4 rfl) (one_map dc_one _) (by simp only [List.length_map, List.length_append, List.length_cons, List.length_nil]; omega) (by simp) (by simp) fun _ _ _ hs0 => ⟨?_, f0, f1, f2, f3, f4, f5, f6, f7, f8, fun _ => rfl, (fun h => absurd (n10.symm.trans h) Bool.false_ne_true), q3⟩⟩
              rw [show Go.Vx.mark D 9 8 = true from d8]
              exact hs0
            · rintro D ρ wx hD hd hdc hf ⟨hs, f0, f1, f2, f3, f4, f5, f6, f7, f8, f9, f10, q3⟩
              have g9 := f9 (doneD hd 9 rfl)
              exact .inl ⟨rfl, L_assign (V := .slice (aOf (ρ 44)) ((out2 ++ [(⟨(gd x5.1 k).rep, vat (vset at2 ((gd x5.1 k).rep).toNat ((vat at2 ((gd x5.1 k).rep).toNat) + 1)) ((gd x5.1 k).rep).toNat⟩ : Dot)]).length) (cOf (ρ 44))) g9 ⟨hs, f0, f1, f2, f3, f4, f5, f6, f7, f8, f9, fun _ => rfl, (fun h => nomatch (show true = false from h))⟩⟩
            · rintro ρ1 w1 D hD hf ⟨hs, f0, f1, f2, f3, f4, f5, f6, f7, f8, f9, f10, q3⟩
              rw [hD 8 rfl, hD 9 rfl] at hs
              have e10 := f10 (hD 10 rfl)
              clear f0 f1 f2 f3 f4 f5 f6 f7 f8 f9 f10 q3
              obtain ⟨b19, hb19⟩ : ∃ b, bOf (ρ1 43) = b := ⟨_, rfl⟩
              try rw [hb19] at hs
              obtain ⟨a20, ha20⟩ : ∃ b, aOf (ρ1 44) = b := ⟨_, rfl⟩
              try rw [ha20] at hs
              try rw [ha20] at e10
              obtain ⟨c21, hc21⟩ : ∃ b, cOf (ρ1 44) = b := ⟨_, rfl⟩
              try rw [hc21] at hs
              try rw [hc21] at e10
              obtain ⟨ρ2, hρ⟩ : ∃ ρ2, ρ1 = upd (mix [35, 36, 37, 38, 39, 40, 41, 42, 43, 44, 3] ρ2 _) 3 (.slice a20 ((out2 ++ [(⟨(gd x5.1 k).rep, vat (vset at2 ((gd x5.1 k).rep).toNat ((vat at2 ((gd x5.1 k).rep).toNat) + 1)) ((gd x5.1 k).rep).toNat⟩ : Dot)]).length) c21) := ⟨ρ1, upd_of (mix_of (ds := [35, 36, 37, 38, 39, 40, 41, 42, 43, 44, 3]) hf) e10⟩
              clear hf hD e10
              subst hρ
              have hvs : vat at2 (gd x5.1 k).rep.toNat + 1 = vat at1 (gd x5.1 k).rep.toNat + 1 + (c2 : Int) := by omega
              refine ⟨_, ?_, _, c2 + 1, vset at2 (gd x5.1 k).rep.toNat (vat at2 (gd x5.1 k).rep.toNat + 1), a20, c21, out2 ++ [(⟨(gd x5.1 k).rep, vat (vset at2 ((gd x5.1 k).rep).toNat ((vat at2 ((gd x5.1 k).rep).toNat) + 1)) ((gd x5.1 k).rep).toNat⟩ : Dot)], upd_of (mix_of (ds := [3, 21, 22, 23, 24, 25, 26, 27, 28, 29, 30, 31, 32, 33, 34, 35, 36, 37, 38, 39, 40, 41, 42, 43, 44]) (by repeat (first | exact Agr.refl _ _ | refine Agr.upd ?_ rfl | refine Agr.mix ?_ rfl))) rfl, (by rw [hvs, hat2, vset_vset]; congr 1; omega), (hat2o.set _ (by omega) (by omega)), (by rw [vat_vset _ _ _ _ (by omega), if_pos rfl, hvs]; exact miss_step hout2), (by omega), (by first | omega | (simp only [List.length_append, List.length_cons, List.length_nil]; omega)), rfl, hs.take 4⟩
              rw [vat_vset _ _ _ _ (by omega), if_pos rfl]; omega
          ·
            replace c15 := of_decide_eq_false c15
            refine W_exit ?_
            refine W_region ?_
            refine RW_op (L_fieldAddr FA_34_0 rfl ?_)
            refine RW_op (L_ld (V := .int .u8 ((gd x5.1 k).rep)) S1_5 hs 3 rfl rfl rfl ?_)
            refine RW_op (L_fieldAddr FA_34_1 rfl ?_)
            refine RW_op (L_ld (V := .int .u32 ((gd x5.1 k).seq)) S1_22 hs 3 rfl rfl rfl ?_)
            refine RW_op (L_ixArr1 UD_24 S1_22.1 rfl rfl (by omega) (by omega) ?_)
            refine RW_op (L_st1 (V := .int .u32 ((gd x5.1 k).seq)) (cs' := vc (vset at2 ((gd x5.1 k).rep).toNat ((gd x5.1 k).seq))) S1_22 hs 0 rfl rfl rfl rfl (vc_lt (by omega)) (vc_setO (by omega) (by omega)) fun w23 hs => ?_)
            refine RW_nil ?_
            refine W_region ?_
            refine RW_op (L_add (a := (k : Int)) (b := 1) (c := (k : Int) + 1) rfl rfl (wr_i64 (by omega) (by omega)) ?_)
            refine RW_op (L_move (V := .int .i64 ((k : Int) + 1)) rfl ?_)
            refine RW_nil ?_
            have hcc : c2 = ((gd x5.1 k).seq - 1 - vat at1 (gd x5.1 k).rep.toNat).toNat := by omega
            refine ⟨_, ?_, _, k + 1, vset at2 (gd x5.1 k).rep.toNat (gd x5.1 k).seq, a2, c3, out2, upd_of (upd_of (mix_of (ds := [3, 6, 17, 18, 19, 20, 21, 22, 23, 24, 25, 26, 27, 28, 29, 30, 31, 32, 33, 34, 35, 36, 37, 38, 39, 40, 41, 42, 43, 44, 45, 46, 47, 48, 49, 50]) (by repeat (first | exact Agr.refl _ _ | refine Agr.upd ?_ rfl | refine Agr.mix ?_ rfl))) rfl) rfl, (by omega), (miss_next (by omega) hm1 hout2 hcc (by rw [hat2, vset_vset])), (hat2o.set _ (by omega) (by omega)), (by omega), rfl, hs.take 3⟩
            omega
    ·
      replace c9 := of_decide_eq_false c9
      refine W_exit ?_
      refine W_seq ?_
      refine W_region ?_
      refine RW_op (L_move (V := .slice a1 out.length c1) rfl ?_)
      refine RW_op (L_assign (V := .slice a1 out.length c1) rfl ?_)
      refine RW_nil ?_
      refine W_ret ?_
      refine ⟨_, res_one (V := .slice a1 out.length c1) Try.results27 rfl, ?_⟩
      have hke : k = x5.1.length := by omega
      subst hke
      rw [List.drop_length] at hm1
      exact ⟨(out, a1, c1), rfl, hs.only 2 rfl, x5.1, hF7, by simpa [missGo] using hm1⟩
end Tt
end Go.Proofs
