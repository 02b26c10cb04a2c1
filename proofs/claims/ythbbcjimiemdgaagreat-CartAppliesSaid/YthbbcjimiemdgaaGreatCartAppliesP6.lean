/- A part of a proof: what functions of the program compute, and plain facts on that. -/
import Derived.Test.YthbbcjimiemdgaaGreatCartAppliesP5
import Derived.KernelRfl
import Derived.Test.YthbbcjimiemdgaaGreatProg
import Derived.Shelf.SlSortCmp.WholeK
import Derived.Shelf.SlLaysF0
import Derived.Ground.SlsfProg
import Derived.Shelf.SlSortCmp.NoneTotal
set_option linter.unusedVariables false
set_option linter.unusedSimpArgs false
namespace Go.Proofs
open Go Go.Vx Go.RowKit
namespace Tt
set_option maxRecDepth 20000 in
set_option maxHeartbeats 4000000 in
theorem ours_ok (w : World) (s : Sta) (a1 : Option Addr) (c1 : Nat) (a2 : Option Addr) (c2 : Nat) (hle : s.ents.length ≤ 100000) (hlt : s.ticks.length ≤ 100000) (hr1 : Rd w (.slice a1 s.ents.length c1) 7 (s.ents.map cec)) (hr2 : Rd w (.slice a2 s.ticks.length c2) 2 (s.ticks.map lsc)) : Calls Tryz.prog 13 #[.agg ((vc s.known) ++ [(.slice a1 s.ents.length c1 : Value), (.slice a2 s.ticks.length c2 : Value) ]).toArray] w (fun e w' => ∃ x : (Option Addr × Nat) × (Option Addr × Nat), e = .returned (.agg (vc (s).known ++ [(.slice x.1.1 (s).ents.length x.1.2 : Value), (.slice x.2.1 (s).ticks.length x.2.2 : Value)]).toArray) ∧ Own w no w' [row (.slice x.1.1 (s).ents.length x.1.2) ((s).ents.map cec) 88 7, row (.slice x.2.1 (s).ticks.length x.2.2) ((s).ticks.map lsc) 89 2] ∧ True) := by
  refine calls_of_Wn (n := 40) Tryz.func13 rfl Tryz.ntmps13 rfl ?_
  have hs := Own.start w
  refine W_seq ?_
  refine W_region ?_
  refine RW_op (L_box (V := .agg ((vc s.known) ++ [(.slice a1 s.ents.length c1 : Value), (.slice a2 s.ticks.length c2 : Value) ]).toArray) (cs := (vc s.known) ++ [(.slice a1 s.ents.length c1 : Value), (.slice a2 s.ticks.length c2 : Value) ]) rfl rfl hs fun b1 w2 hs => ?_)
  refine RW_op (L_alloc (cs := (vc vzero) ++ [(.slice none 0 0 : Value), (.slice none 0 0 : Value) ]) ZV_28 rfl hs fun b3 w4 hs => ?_)
  refine RW_nil ?_
  refine W_seq ?_
  refine W_region ?_
  refine RW_op (L_fieldAddr FA_39_0 rfl ?_)
  refine RW_op (L_ldA (vs := vc s.known) SA_24 hs 0 rfl rfl rfl rfl ?_)
  refine RW_op (L_buildP (vs := [(0, .agg (vc s.known).toArray)]) (cs := (vc s.known) ++ [(.slice none 0 0 : Value), (.slice none 0 0 : Value) ]) [vc vzero, [(.slice none 0 0 : Value)], [(.slice none 0 0 : Value)]] [vc s.known, [(.slice none 0 0 : Value)], [(.slice none 0 0 : Value)]] BT_28 rfl (rfl) rfl rfl ?_)
  refine RW_op (L_alloc (cs := (vc vzero) ++ [(.slice none 0 0 : Value), (.slice none 0 0 : Value) ]) ZV_28 rfl hs fun b5 w6 hs => ?_)
  refine RW_op (L_st (V := .agg ((vc s.known) ++ [(.slice none 0 0 : Value), (.slice none 0 0 : Value) ]).toArray) (vs := (vc s.known) ++ [(.slice none 0 0 : Value), (.slice none 0 0 : Value) ]) (cs' := (vc s.known) ++ [(.slice none 0 0 : Value), (.slice none 0 0 : Value) ]) SA_28.1 hs 2 rfl rfl rfl rfl rfl (Nat.le_of_ble_eq_true rfl) (one_app (vc_one _) (one_cons rfl (one_cons rfl one_nil))) (spl_whole rfl) fun w7 hs => ?_)
  replace hs : Own w no w7 [blk b1 ((vc s.known) ++ [(.slice a1 s.ents.length c1 : Value), (.slice a2 s.ticks.length c2 : Value) ]) 39, blk b3 ((vc vzero) ++ [(.slice none 0 0 : Value), (.slice none 0 0 : Value) ]) 28, blk b5 ((vc s.known) ++ [(.slice none 0 0 : Value), (.slice none 0 0 : Value) ]) 28] := hs
  refine RW_nil ?_
  refine W_seq ?_
  refine W_seq ?_
  refine W_region ?_
  refine RW_op (L_fieldAddr FA_39_1 rfl ?_)
  refine RW_op (L_ld (V := .slice a1 s.ents.length c1) S1_36 hs 0 rfl rfl rfl ?_)
  refine RW_op (L_lenR (n := s.ents.length) UD_36 (Rd.own' hr1 hs) (by simp) rfl ?_)
  refine RW_op (L_move (V := .int .i64 0) rfl ?_)
  refine RW_nil ?_
  refine W_block ?_
  replace hs := hs.more (row (.slice none 0 0) (List.map cec []) 88 7) (row_nil _ _ _ _)
  refine W_loopI (fun ρ μ ρ' w' => ∃ (ρo : Env) (k1 : Nat) (an1 : Option Addr) (cn1 : Nat) (L1 : List Cen), ρ' = upd (mix [5, 14, 15, 16, 17, 18, 19, 20, 21, 22, 23, 24] ρo ρ) 14 (.int .i64 ((k1 : Nat) : Int)) ∧ (k1 ≤ s.ents.length) ∧ (L1 = s.ents.take k1) ∧ (L1.length ≤ k1) ∧ μ = s.ents.length - k1 ∧ Own w no w' [blk b1 ((vc s.known) ++ [(.slice a1 s.ents.length c1 : Value), (.slice a2 s.ticks.length c2 : Value) ]) 39, blk b3 ((vc vzero) ++ [(.slice none 0 0 : Value), (.slice none 0 0 : Value) ]) 28, blk b5 ((vc s.known) ++ [(.slice an1 L1.length cn1 : Value), (.slice none 0 0 : Value) ]) 28, row (.slice an1 L1.length cn1) (L1.map cec) 88 7]) ?_ ?_
  · exact ⟨_, _, 0, none, 0, [], upd_of (mix_of (ds := [5, 14, 15, 16, 17, 18, 19, 20, 21, 22, 23, 24]) (Agr.refl _ _)) rfl, (by omega), rfl, (Nat.le_refl _), rfl, hs⟩
  · rintro μ ρ' w8 ⟨ρo, k1, an1, cn1, L1, rfl, hk1, hL1, hl1, rfl, hs⟩
    have hb1 := hl1
    refine W_seq ?_
    refine W_region ?_
    refine RW_op (L_lss rfl rfl ?_)
    refine RW_nil ?_
    refine W_seq ?_
    refine W_cond (t := decide (((k1 : Nat) : Int) < ((s.ents.length : Nat) : Int))) rfl (fun c9 => ?_) (fun c9 => ?_)
    ·
      replace c9 := of_decide_eq_true c9
      refine W_skip ?_
      refine W_seq ?_
      refine W_block ?_
      refine W_seq ?_
      refine W_region ?_
      refine RW_op (L_ixR UD_36 SA_59.1 (Rd.own' hr1 hs) rfl rfl (by omega) (by rw [List.length_map]; omega) ?_)
      refine RW_op (L_ldRA (j := 0) (vs := cec (gd s.ents k1)) k1 SA_59 (Rd.own' hr1 hs) (gd_at (by omega)) rfl rfl rfl (by omega) ?_)
      refine RW_op (L_alloc (cs := cec (⟨0, 0, 0, 0, (⟨0, 0⟩ : Dot), 0⟩ : Cen)) ZV_59 rfl hs fun b10 w11 hs => ?_)
      refine RW_op (L_st (V := .agg (cec (gd s.ents k1)).toArray) (vs := cec (gd s.ents k1)) (cs' := cec (gd s.ents k1)) SA_59.1 hs 4 rfl rfl rfl rfl rfl (Nat.le_of_ble_eq_true rfl) (cec_one _) (spl_whole rfl) fun w12 hs => ?_)
      refine RW_nil ?_
      refine W_region ?_
      refine RW_op (L_fieldAddr FA_28_1 rfl ?_)
      refine RW_op (L_ld (V := .slice an1 L1.length cn1) S1_25 hs 2 rfl rfl rfl ?_)
      refine RW_op (L_ldW (cs := cec (gd s.ents k1)) SA_59 hs 4 rfl rfl rfl ?_)
      refine RW_op (L_bs (vals := [.agg (cec (gd s.ents k1)).toArray]) (ls := List.map cec ([gd s.ents k1] : List Cen)) EL_25 rfl rfl rfl (len_map (enc := cec) (fun _ => rfl) _) (one_map cec_one _) (Nat.le_of_ble_eq_true rfl) hs fun b13 w14 hs => ?_)
      refine RW_op (L_appN (ls' := (L1 ++ [gd s.ents k1]).map cec) (n := (L1 ++ [gd s.ents k1]).length) EL_25 hs 3 rfl rfl rfl (hs.rd 5 rfl) (one_map cec_one _) (by simp only [List.length_map, List.length_append, List.length_cons, List.length_nil]; omega) (by simp) (by simp) fun a15 c15 w16 hs => ?_)
      replace hs : Own w no w16 [blk b1 ((vc s.known) ++ [(.slice a1 s.ents.length c1 : Value), (.slice a2 s.ticks.length c2 : Value) ]) 39, blk b3 ((vc vzero) ++ [(.slice none 0 0 : Value), (.slice none 0 0 : Value) ]) 28, blk b5 ((vc s.known) ++ [(.slice an1 L1.length cn1 : Value), (.slice none 0 0 : Value) ]) 28, row (.slice a15 ((L1 ++ [gd s.ents k1]).length) c15) ((L1 ++ [gd s.ents k1]).map cec) 88 7, blk b10 (cec (gd s.ents k1)) 59, row (.slice (some ⟨b13, 0, none⟩) 1 1) ([gd s.ents k1].map cec) 88 7] := hs
      refine RW_op (L_fieldAddr FA_28_1 rfl ?_)
      refine RW_op (L_st1 (V := .slice a15 ((L1 ++ [gd s.ents k1]).length) c15) (cs' := (vc s.known) ++ [(.slice a15 ((L1 ++ [gd s.ents k1]).length) c15 : Value), (.slice none 0 0 : Value) ]) S1_25 hs 2 rfl rfl rfl rfl (Nat.le_of_ble_eq_true rfl) rfl fun w17 hs => ?_)
      refine RW_nil ?_
      refine W_region ?_
      refine RW_op (L_add (a := ((k1 : Nat) : Int)) (b := 1) (c := ((k1 + 1 : Nat) : Int)) rfl rfl (nat_i64 (by omega) (by omega)) ?_)
      refine RW_op (L_move (V := .int .i64 ((k1 + 1 : Nat) : Int)) rfl ?_)
      refine RW_nil ?_
      refine ⟨_, ?_, _, k1 + 1, a15, c15, L1 ++ [gd s.ents k1], upd_of (mix_of (ds := [5, 14, 15, 16, 17, 18, 19, 20, 21, 22, 23, 24]) (by repeat (first | exact Agr.refl _ _ | refine Agr.upd ?_ rfl | refine Agr.mix ?_ rfl))) rfl, (by omega), (by rw [take_snoc (by omega), ← hL1]), (by rw [List.length_append, List.length_singleton]; omega), rfl, hs.take 4⟩
      omega
    ·
      replace c9 := of_decide_eq_false c9
      refine W_exit ?_
      refine W_seq ?_
      refine W_seq ?_
      refine W_region ?_
      refine RW_op (L_fieldAddr FA_39_2 rfl ?_)
      refine RW_op (L_ld (V := .slice a2 s.ticks.length c2) S1_37 hs 0 rfl rfl rfl ?_)
      refine RW_op (L_lenR (n := s.ticks.length) UD_37 (Rd.own' hr2 hs) (by simp) rfl ?_)
      refine RW_op (L_move (V := .int .i64 0) rfl ?_)
      refine RW_nil ?_
      refine W_block ?_
      replace hs := hs.more (row (.slice none 0 0) (List.map lsc []) 89 2) (row_nil _ _ _ _)
      refine W_loopI (fun ρ μ ρ' w' => ∃ (ρo : Env) (k2 : Nat) (an2 : Option Addr) (cn2 : Nat) (L2 : List Lst), ρ' = upd (mix [7, 28, 29, 30, 31, 32, 33, 34, 35, 36, 37, 38] ρo ρ) 28 (.int .i64 ((k2 : Nat) : Int)) ∧ (k2 ≤ s.ticks.length) ∧ (L2 = s.ticks.take k2) ∧ (L2.length ≤ k2) ∧ μ = s.ticks.length - k2 ∧ Own w no w' [blk b1 ((vc s.known) ++ [(.slice a1 s.ents.length c1 : Value), (.slice a2 s.ticks.length c2 : Value) ]) 39, blk b3 ((vc vzero) ++ [(.slice none 0 0 : Value), (.slice none 0 0 : Value) ]) 28, blk b5 ((vc s.known) ++ [(.slice an1 L1.length cn1 : Value), (.slice an2 L2.length cn2 : Value) ]) 28, row (.slice an1 L1.length cn1) (L1.map cec) 88 7, row (.slice an2 L2.length cn2) (L2.map lsc) 89 2]) ?_ ?_
      · exact ⟨_, _, 0, none, 0, [], upd_of (mix_of (ds := [7, 28, 29, 30, 31, 32, 33, 34, 35, 36, 37, 38]) (Agr.refl _ _)) rfl, (by omega), rfl, (Nat.le_refl _), rfl, hs⟩
      · rintro μ ρ' w18 ⟨ρo, k2, an2, cn2, L2, rfl, hk2, hL2, hl2, rfl, hs⟩
        have hb2 := hl2
        refine W_seq ?_
        refine W_region ?_
        refine RW_op (L_lss rfl rfl ?_)
        refine RW_nil ?_
        refine W_seq ?_
        refine W_cond (t := decide (((k2 : Nat) : Int) < ((s.ticks.length : Nat) : Int))) rfl (fun c19 => ?_) (fun c19 => ?_)
        ·
          replace c19 := of_decide_eq_true c19
          refine W_skip ?_
          refine W_seq ?_
          refine W_block ?_
          refine W_seq ?_
          refine W_region ?_
          refine RW_op (L_ixR UD_37 SA_87.1 (Rd.own' hr2 hs) rfl rfl (by omega) (by rw [List.length_map]; omega) ?_)
          refine RW_op (L_ldRA (j := 0) (vs := lsc (gd s.ticks k2)) k2 SA_87 (Rd.own' hr2 hs) (gd_at (by omega)) rfl rfl rfl (by omega) ?_)
          refine RW_op (L_alloc (cs := lsc (⟨0, 0⟩ : Lst)) ZV_87 rfl hs fun b20 w21 hs => ?_)
          refine RW_op (L_st (V := .agg (lsc (gd s.ticks k2)).toArray) (vs := lsc (gd s.ticks k2)) (cs' := lsc (gd s.ticks k2)) SA_87.1 hs 5 rfl rfl rfl rfl rfl (Nat.le_of_ble_eq_true rfl) (lsc_one _) (spl_whole rfl) fun w22 hs => ?_)
          refine RW_nil ?_
          refine W_region ?_
          refine RW_op (L_fieldAddr FA_28_2 rfl ?_)
          refine RW_op (L_ld (V := .slice an2 L2.length cn2) S1_26 hs 2 rfl rfl rfl ?_)
          refine RW_op (L_ldW (cs := lsc (gd s.ticks k2)) SA_87 hs 5 rfl rfl rfl ?_)
          refine RW_op (L_bs (vals := [.agg (lsc (gd s.ticks k2)).toArray]) (ls := List.map lsc ([gd s.ticks k2] : List Lst)) EL_26 rfl rfl rfl (len_map (enc := lsc) (fun _ => rfl) _) (one_map lsc_one _) (Nat.le_of_ble_eq_true rfl) hs fun b23 w24 hs => ?_)
          refine RW_op (L_appN (ls' := (L2 ++ [gd s.ticks k2]).map lsc) (n := (L2 ++ [gd s.ticks k2]).length) EL_26 hs 4 rfl rfl rfl (hs.rd 6 rfl) (one_map lsc_one _) (by simp only [List.length_map, List.length_append, List.length_cons, List.length_nil]; omega) (by simp) (by simp) fun a25 c25 w26 hs => ?_)
          replace hs : Own w no w26 [blk b1 ((vc s.known) ++ [(.slice a1 s.ents.length c1 : Value), (.slice a2 s.ticks.length c2 : Value) ]) 39, blk b3 ((vc vzero) ++ [(.slice none 0 0 : Value), (.slice none 0 0 : Value) ]) 28, blk b5 ((vc s.known) ++ [(.slice an1 L1.length cn1 : Value), (.slice an2 L2.length cn2 : Value) ]) 28, row (.slice an1 L1.length cn1) (L1.map cec) 88 7, row (.slice a25 ((L2 ++ [gd s.ticks k2]).length) c25) ((L2 ++ [gd s.ticks k2]).map lsc) 89 2, blk b20 (lsc (gd s.ticks k2)) 87, row (.slice (some ⟨b23, 0, none⟩) 1 1) ([gd s.ticks k2].map lsc) 89 2] := hs
          refine RW_op (L_fieldAddr FA_28_2 rfl ?_)
          refine RW_op (L_st1 (V := .slice a25 ((L2 ++ [gd s.ticks k2]).length) c25) (cs' := (vc s.known) ++ [(.slice an1 L1.length cn1 : Value), (.slice a25 ((L2 ++ [gd s.ticks k2]).length) c25 : Value) ]) S1_26 hs 2 rfl rfl rfl rfl (Nat.le_of_ble_eq_true rfl) rfl fun w27 hs => ?_)
          refine RW_nil ?_
          refine W_region ?_
          refine RW_op (L_add (a := ((k2 : Nat) : Int)) (b := 1) (c := ((k2 + 1 : Nat) : Int)) rfl rfl (nat_i64 (by omega) (by omega)) ?_)
          refine RW_op (L_move (V := .int .i64 ((k2 + 1 : Nat) : Int)) rfl ?_)
          refine RW_nil ?_
          refine ⟨_, ?_, _, k2 + 1, a25, c25, L2 ++ [gd s.ticks k2], upd_of (mix_of (ds := [7, 28, 29, 30, 31, 32, 33, 34, 35, 36, 37, 38]) (by repeat (first | exact Agr.refl _ _ | refine Agr.upd ?_ rfl | refine Agr.mix ?_ rfl))) rfl, (by omega), (by rw [take_snoc (by omega), ← hL2]), (by rw [List.length_append, List.length_singleton]; omega), rfl, hs.take 5⟩
          omega
        ·
          replace c19 := of_decide_eq_false c19
          refine W_exit ?_
          refine W_seq ?_
          refine W_region ?_
          refine RW_op (L_ldW (cs := (vc s.known) ++ [(.slice an1 L1.length cn1 : Value), (.slice an2 L2.length cn2 : Value) ]) SA_28 hs 2 rfl rfl rfl ?_)
          refine RW_op (L_st (V := .agg ((vc s.known) ++ [(.slice an1 L1.length cn1 : Value), (.slice an2 L2.length cn2 : Value) ]).toArray) (vs := (vc s.known) ++ [(.slice an1 L1.length cn1 : Value), (.slice an2 L2.length cn2 : Value) ]) (cs' := (vc s.known) ++ [(.slice an1 L1.length cn1 : Value), (.slice an2 L2.length cn2 : Value) ]) SA_28.1 hs 1 rfl rfl rfl rfl rfl (Nat.le_of_ble_eq_true rfl) (one_app (vc_one _) (one_cons rfl (one_cons rfl one_nil))) (spl_whole rfl) fun w28 hs => ?_)
          refine RW_nil ?_
          refine W_ret ?_
          refine ⟨_, res_cell (cs := (vc s.known) ++ [(.slice an1 L1.length cn1 : Value), (.slice an2 L2.length cn2 : Value) ]) Tryz.results13 SA_28 hs 1 rfl rfl rfl, ?_⟩
          have hX : L1 = s.ents := by rw [hL1, List.take_of_length_le (by omega)]
          have hY : L2 = s.ticks := by rw [hL2, List.take_of_length_le (by omega)]
          rw [hX, hY] at hs ⊢
          exact ⟨((an1, cn1), (an2, cn2)), rfl, hs.two 3 4 (by decide) rfl rfl, trivial⟩
set_option maxRecDepth 20000 in
set_option maxHeartbeats 4000000 in
theorem theirs_ok (w : World) (s : Sta) (a1 : Option Addr) (c1 : Nat) (a2 : Option Addr) (c2 : Nat) (hle : s.ents.length ≤ 100000) (hlt : s.ticks.length ≤ 100000) (hr1 : Rd w (.slice a1 s.ents.length c1) 7 (s.ents.map cec)) (hr2 : Rd w (.slice a2 s.ticks.length c2) 2 (s.ticks.map lsc)) : Calls Tryz.prog 8 #[.agg ((vc s.known) ++ [(.slice a1 s.ents.length c1 : Value), (.slice a2 s.ticks.length c2 : Value) ]).toArray] w (fun e w' => ∃ x : (Option Addr × Nat) × (Option Addr × Nat), e = .returned (.agg (vc (s).known ++ [(.slice x.1.1 (s).ents.length x.1.2 : Value), (.slice x.2.1 (s).ticks.length x.2.2 : Value)]).toArray) ∧ Own w no w' [row (.slice x.1.1 (s).ents.length x.1.2) ((s).ents.map cec) 59 7, row (.slice x.2.1 (s).ticks.length x.2.2) ((s).ticks.map lsc) 87 2] ∧ True) := by
  refine calls_of_Wn (n := 40) Tryz.func8 rfl Tryz.ntmps8 rfl ?_
  have hs := Own.start w
  refine W_seq ?_
  refine W_region ?_
  refine RW_op (L_box (V := .agg ((vc s.known) ++ [(.slice a1 s.ents.length c1 : Value), (.slice a2 s.ticks.length c2 : Value) ]).toArray) (cs := (vc s.known) ++ [(.slice a1 s.ents.length c1 : Value), (.slice a2 s.ticks.length c2 : Value) ]) rfl rfl hs fun b1 w2 hs => ?_)
  refine RW_op (L_alloc (cs := (vc vzero) ++ [(.slice none 0 0 : Value), (.slice none 0 0 : Value) ]) ZV_39 rfl hs fun b3 w4 hs => ?_)
  refine RW_nil ?_
  refine W_seq ?_
  refine W_region ?_
  refine RW_op (L_fieldAddr FA_28_0 rfl ?_)
  refine RW_op (L_ldA (vs := vc s.known) SA_24 hs 0 rfl rfl rfl rfl ?_)
  refine RW_op (L_buildP (vs := [(0, .agg (vc s.known).toArray)]) (cs := (vc s.known) ++ [(.slice none 0 0 : Value), (.slice none 0 0 : Value) ]) [vc vzero, [(.slice none 0 0 : Value)], [(.slice none 0 0 : Value)]] [vc s.known, [(.slice none 0 0 : Value)], [(.slice none 0 0 : Value)]] BT_39 rfl (rfl) rfl rfl ?_)
  refine RW_op (L_alloc (cs := (vc vzero) ++ [(.slice none 0 0 : Value), (.slice none 0 0 : Value) ]) ZV_39 rfl hs fun b5 w6 hs => ?_)
  refine RW_op (L_st (V := .agg ((vc s.known) ++ [(.slice none 0 0 : Value), (.slice none 0 0 : Value) ]).toArray) (vs := (vc s.known) ++ [(.slice none 0 0 : Value), (.slice none 0 0 : Value) ]) (cs' := (vc s.known) ++ [(.slice none 0 0 : Value), (.slice none 0 0 : Value) ]) SA_39.1 hs 2 rfl rfl rfl rfl rfl (Nat.le_of_ble_eq_true rfl) (one_app (vc_one _) (one_cons rfl (one_cons rfl one_nil))) (spl_whole rfl) fun w7 hs => ?_)
  replace hs : Own w no w7 [blk b1 ((vc s.known) ++ [(.slice a1 s.ents.length c1 : Value), (.slice a2 s.ticks.length c2 : Value) ]) 28, blk b3 ((vc vzero) ++ [(.slice none 0 0 : Value), (.slice none 0 0 : Value) ]) 39, blk b5 ((vc s.known) ++ [(.slice none 0 0 : Value), (.slice none 0 0 : Value) ]) 39] := hs
  refine RW_nil ?_
  refine W_seq ?_
  refine W_seq ?_
  refine W_region ?_
  refine RW_op (L_fieldAddr FA_28_1 rfl ?_)
  refine RW_op (L_ld (V := .slice a1 s.ents.length c1) S1_25 hs 0 rfl rfl rfl ?_)
  refine RW_op (L_lenR (n := s.ents.length) UD_25 (Rd.own' hr1 hs) (by simp) rfl ?_)
  refine RW_op (L_move (V := .int .i64 0) rfl ?_)
  refine RW_nil ?_
  refine W_block ?_
  replace hs := hs.more (row (.slice none 0 0) (List.map cec []) 59 7) (row_nil _ _ _ _)
  refine W_loopI (fun ρ μ ρ' w' => ∃ (ρo : Env) (k1 : Nat) (an1 : Option Addr) (cn1 : Nat) (L1 : List Cen), ρ' = upd (mix [5, 14, 15, 16, 17, 18, 19, 20, 21, 22, 23, 24] ρo ρ) 14 (.int .i64 ((k1 : Nat) : Int)) ∧ (k1 ≤ s.ents.length) ∧ (L1 = s.ents.take k1) ∧ (L1.length ≤ k1) ∧ μ = s.ents.length - k1 ∧ Own w no w' [blk b1 ((vc s.known) ++ [(.slice a1 s.ents.length c1 : Value), (.slice a2 s.ticks.length c2 : Value) ]) 28, blk b3 ((vc vzero) ++ [(.slice none 0 0 : Value), (.slice none 0 0 : Value) ]) 39, blk b5 ((vc s.known) ++ [(.slice an1 L1.length cn1 : Value), (.slice none 0 0 : Value) ]) 39, row (.slice an1 L1.length cn1) (L1.map cec) 59 7]) ?_ ?_
  · exact ⟨_, _, 0, none, 0, [], upd_of (mix_of (ds := [5, 14, 15, 16, 17, 18, 19, 20, 21, 22, 23, 24]) (Agr.refl _ _)) rfl, (by omega), rfl, (Nat.le_refl _), rfl, hs⟩
  · rintro μ ρ' w8 ⟨ρo, k1, an1, cn1, L1, rfl, hk1, hL1, hl1, rfl, hs⟩
    have hb1 := hl1
    refine W_seq ?_
    refine W_region ?_
    refine RW_op (L_lss rfl rfl ?_)
    refine RW_nil ?_
    refine W_seq ?_
    refine W_cond (t := decide (((k1 : Nat) : Int) < ((s.ents.length : Nat) : Int))) rfl (fun c9 => ?_) (fun c9 => ?_)
    ·
      replace c9 := of_decide_eq_true c9
      refine W_skip ?_
      refine W_seq ?_
      refine W_block ?_
      refine W_seq ?_
      refine W_region ?_
      refine RW_op (L_ixR UD_25 SA_88.1 (Rd.own' hr1 hs) rfl rfl (by omega) (by rw [List.length_map]; omega) ?_)
      refine RW_op (L_ldRA (j := 0) (vs := cec (gd s.ents k1)) k1 SA_88 (Rd.own' hr1 hs) (gd_at (by omega)) rfl rfl rfl (by omega) ?_)
      refine RW_op (L_alloc (cs := cec (⟨0, 0, 0, 0, (⟨0, 0⟩ : Dot), 0⟩ : Cen)) ZV_88 rfl hs fun b10 w11 hs => ?_)
      refine RW_op (L_st (V := .agg (cec (gd s.ents k1)).toArray) (vs := cec (gd s.ents k1)) (cs' := cec (gd s.ents k1)) SA_88.1 hs 4 rfl rfl rfl rfl rfl (Nat.le_of_ble_eq_true rfl) (cec_one _) (spl_whole rfl) fun w12 hs => ?_)
      refine RW_nil ?_
      refine W_region ?_
      refine RW_op (L_fieldAddr FA_39_1 rfl ?_)
      refine RW_op (L_ld (V := .slice an1 L1.length cn1) S1_36 hs 2 rfl rfl rfl ?_)
      refine RW_op (L_ldW (cs := cec (gd s.ents k1)) SA_88 hs 4 rfl rfl rfl ?_)
      refine RW_op (L_bs (vals := [.agg (cec (gd s.ents k1)).toArray]) (ls := List.map cec ([gd s.ents k1] : List Cen)) EL_36 rfl rfl rfl (len_map (enc := cec) (fun _ => rfl) _) (one_map cec_one _) (Nat.le_of_ble_eq_true rfl) hs fun b13 w14 hs => ?_)
      refine RW_op (L_appN (ls' := (L1 ++ [gd s.ents k1]).map cec) (n := (L1 ++ [gd s.ents k1]).length) EL_36 hs 3 rfl rfl rfl (hs.rd 5 rfl) (one_map cec_one _) (by simp only [List.length_map, List.length_append, List.length_cons, List.length_nil]; omega) (by simp) (by simp) fun a15 c15 w16 hs => ?_)
      replace hs : Own w no w16 [blk b1 ((vc s.known) ++ [(.slice a1 s.ents.length c1 : Value), (.slice a2 s.ticks.length c2 : Value) ]) 28, blk b3 ((vc vzero) ++ [(.slice none 0 0 : Value), (.slice none 0 0 : Value) ]) 39, blk b5 ((vc s.known) ++ [(.slice an1 L1.length cn1 : Value), (.slice none 0 0 : Value) ]) 39, row (.slice a15 ((L1 ++ [gd s.ents k1]).length) c15) ((L1 ++ [gd s.ents k1]).map cec) 59 7, blk b10 (cec (gd s.ents k1)) 88, row (.slice (some ⟨b13, 0, none⟩) 1 1) ([gd s.ents k1].map cec) 59 7] := hs
      refine RW_op (L_fieldAddr FA_39_1 rfl ?_)
      refine RW_op (L_st1 (V := .slice a15 ((L1 ++ [gd s.ents k1]).length) c15) (cs' := (vc s.known) ++ [(.slice a15 ((L1 ++ [gd s.ents k1]).length) c15 : Value), (.slice none 0 0 : Value) ]) S1_36 hs 2 rfl rfl rfl rfl (Nat.le_of_ble_eq_true rfl) rfl fun w17 hs => ?_)
      refine RW_nil ?_
      refine W_region ?_
      refine RW_op (L_add (a := ((k1 : Nat) : Int)) (b := 1) (c := ((k1 + 1 : Nat) : Int)) rfl rfl (nat_i64 (by omega) (by omega)) ?_)
      refine RW_op (L_move (V := .int .i64 ((k1 + 1 : Nat) : Int)) rfl ?_)
      refine RW_nil ?_
      refine ⟨_, ?_, _, k1 + 1, a15, c15, L1 ++ [gd s.ents k1], upd_of (mix_of (ds := [5, 14, 15, 16, 17, 18, 19, 20, 21, 22, 23, 24]) (by repeat (first | exact Agr.refl _ _ | refine Agr.upd ?_ rfl | refine Agr.mix ?_ rfl))) rfl, (by omega), (by rw [take_snoc (by omega), ← hL1]), (by rw [List.length_append, List.length_singleton]; omega), rfl, hs.take 4⟩
      omega
    ·
      replace c9 := of_decide_eq_false c9
      refine W_exit ?_
      refine W_seq ?_
      refine W_seq ?_
      refine W_region ?_
      refine RW_op (L_fieldAddr FA_28_2 rfl ?_)
      refine RW_op (L_ld (V := .slice a2 s.ticks.length c2) S1_26 hs 0 rfl rfl rfl ?_)
      refine RW_op (L_lenR (n := s.ticks.length) UD_26 (Rd.own' hr2 hs) (by simp) rfl ?_)
      refine RW_op (L_move (V := .int .i64 0) rfl ?_)
      refine RW_nil ?_
      refine W_block ?_
      replace hs := hs.more (row (.slice none 0 0) (List.map lsc []) 87 2) (row_nil _ _ _ _)
      refine W_loopI (fun ρ μ ρ' w' => ∃ (ρo : Env) (k2 : Nat) (an2 : Option Addr) (cn2 : Nat) (L2 : List Lst), ρ' = upd (mix [7, 28, 29, 30, 31, 32, 33, 34, 35, 36, 37, 38] ρo ρ) 28 (.int .i64 ((k2 : Nat) : Int)) ∧ (k2 ≤ s.ticks.length) ∧ (L2 = s.ticks.take k2) ∧ (L2.length ≤ k2) ∧ μ = s.ticks.length - k2 ∧ Own w no w' [blk b1 ((vc s.known) ++ [(.slice a1 s.ents.length c1 : Value), (.slice a2 s.ticks.length c2 : Value) ]) 28, blk b3 ((vc vzero) ++ [(.slice none 0 0 : Value), (.slice none 0 0 : Value) ]) 39, blk b5 ((vc s.known) ++ [(.slice an1 L1.length cn1 : Value), (.slice an2 L2.length cn2 : Value) ]) 39, row (.slice an1 L1.length cn1) (L1.map cec) 59 7, row (.slice an2 L2.length cn2) (L2.map lsc) 87 2]) ?_ ?_
      · exact ⟨_, _, 0, none, 0, [], upd_of (mix_of (ds := [7, 28, 29, 30, 31, 32, 33, 34, 35, 36, 37, 38]) (Agr.refl _ _)) rfl, (by omega), rfl, (Nat.le_refl _), rfl, hs⟩
      · rintro μ ρ' w18 ⟨ρo, k2, an2, cn2, L2, rfl, hk2, hL2, hl2, rfl, hs⟩
        have hb2 := hl2
        refine W_seq ?_
        refine W_region ?_
        refine RW_op (L_lss rfl rfl ?_)
        refine RW_nil ?_
        refine W_seq ?_
        refine W_cond (t := decide (((k2 : Nat) : Int) < ((s.ticks.length : Nat) : Int))) rfl (fun c19 => ?_) (fun c19 => ?_)
        ·
          replace c19 := of_decide_eq_true c19
          refine W_skip ?_
          refine W_seq ?_
          refine W_block ?_
          refine W_seq ?_
          refine W_region ?_
          refine RW_op (L_ixR UD_26 SA_89.1 (Rd.own' hr2 hs) rfl rfl (by omega) (by rw [List.length_map]; omega) ?_)
          refine RW_op (L_ldRA (j := 0) (vs := lsc (gd s.ticks k2)) k2 SA_89 (Rd.own' hr2 hs) (gd_at (by omega)) rfl rfl rfl (by omega) ?_)
          refine RW_op (L_alloc (cs := lsc (⟨0, 0⟩ : Lst)) ZV_89 rfl hs fun b20 w21 hs => ?_)
          refine RW_op (L_st (V := .agg (lsc (gd s.ticks k2)).toArray) (vs := lsc (gd s.ticks k2)) (cs' := lsc (gd s.ticks k2)) SA_89.1 hs 5 rfl rfl rfl rfl rfl (Nat.le_of_ble_eq_true rfl) (lsc_one _) (spl_whole rfl) fun w22 hs => ?_)
          refine RW_nil ?_
          refine W_region ?_
          refine RW_op (L_fieldAddr FA_39_2 rfl ?_)
          refine RW_op (L_ld (V := .slice an2 L2.length cn2) S1_37 hs 2 rfl rfl rfl ?_)
          refine RW_op (L_ldW (cs := lsc (gd s.ticks k2)) SA_89 hs 5 rfl rfl rfl ?_)
          refine RW_op (L_bs (vals := [.agg (lsc (gd s.ticks k2)).toArray]) (ls := List.map lsc ([gd s.ticks k2] : List Lst)) EL_37 rfl rfl rfl (len_map (enc := lsc) (fun _ => rfl) _) (one_map lsc_one _) (Nat.le_of_ble_eq_true rfl) hs fun b23 w24 hs => ?_)
          refine RW_op (L_appN (ls' := (L2 ++ [gd s.ticks k2]).map lsc) (n := (L2 ++ [gd s.ticks k2]).length) EL_37 hs 4 rfl rfl rfl (hs.rd 6 rfl) (one_map lsc_one _) (by simp only [List.length_map, List.length_append, List.length_cons, List.length_nil]; omega) (by simp) (by simp) fun a25 c25 w26 hs => ?_)
          replace hs : Own w no w26 [blk b1 ((vc s.known) ++ [(.slice a1 s.ents.length c1 : Value), (.slice a2 s.ticks.length c2 : Value) ]) 28, blk b3 ((vc vzero) ++ [(.slice none 0 0 : Value), (.slice none 0 0 : Value) ]) 39, blk b5 ((vc s.known) ++ [(.slice an1 L1.length cn1 : Value), (.slice an2 L2.length cn2 : Value) ]) 39, row (.slice an1 L1.length cn1) (L1.map cec) 59 7, row (.slice a25 ((L2 ++ [gd s.ticks k2]).length) c25) ((L2 ++ [gd s.ticks k2]).map lsc) 87 2, blk b20 (lsc (gd s.ticks k2)) 89, row (.slice (some ⟨b23, 0, none⟩) 1 1) ([gd s.ticks k2].map lsc) 87 2] := hs
          refine RW_op (L_fieldAddr FA_39_2 rfl ?_)
          refine RW_op (L_st1 (V := .slice a25 ((L2 ++ [gd s.ticks k2]).length) c25) (cs' := (vc s.known) ++ [(.slice an1 L1.length cn1 : Value), (.slice a25 ((L2 ++ [gd s.ticks k2]).length) c25 : Value) ]) S1_37 hs 2 rfl rfl rfl rfl (Nat.le_of_ble_eq_true rfl) rfl fun w27 hs => ?_)
          refine RW_nil ?_
          refine W_region ?_
          refine RW_op (L_add (a := ((k2 : Nat) : Int)) (b := 1) (c := ((k2 + 1 : Nat) : Int)) rfl rfl (nat_i64 (by omega) (by omega)) ?_)
          refine RW_op (L_move (V := .int .i64 ((k2 + 1 : Nat) : Int)) rfl ?_)
          refine RW_nil ?_
          refine ⟨_, ?_, _, k2 + 1, a25, c25, L2 ++ [gd s.ticks k2], upd_of (mix_of (ds := [7, 28, 29, 30, 31, 32, 33, 34, 35, 36, 37, 38]) (by repeat (first | exact Agr.refl _ _ | refine Agr.upd ?_ rfl | refine Agr.mix ?_ rfl))) rfl, (by omega), (by rw [take_snoc (by omega), ← hL2]), (by rw [List.length_append, List.length_singleton]; omega), rfl, hs.take 5⟩
          omega
        ·
          replace c19 := of_decide_eq_false c19
          refine W_exit ?_
          refine W_seq ?_
          refine W_region ?_
          refine RW_op (L_ldW (cs := (vc s.known) ++ [(.slice an1 L1.length cn1 : Value), (.slice an2 L2.length cn2 : Value) ]) SA_39 hs 2 rfl rfl rfl ?_)
          refine RW_op (L_st (V := .agg ((vc s.known) ++ [(.slice an1 L1.length cn1 : Value), (.slice an2 L2.length cn2 : Value) ]).toArray) (vs := (vc s.known) ++ [(.slice an1 L1.length cn1 : Value), (.slice an2 L2.length cn2 : Value) ]) (cs' := (vc s.known) ++ [(.slice an1 L1.length cn1 : Value), (.slice an2 L2.length cn2 : Value) ]) SA_39.1 hs 1 rfl rfl rfl rfl rfl (Nat.le_of_ble_eq_true rfl) (one_app (vc_one _) (one_cons rfl (one_cons rfl one_nil))) (spl_whole rfl) fun w28 hs => ?_)
          refine RW_nil ?_
          refine W_ret ?_
          refine ⟨_, res_cell (cs := (vc s.known) ++ [(.slice an1 L1.length cn1 : Value), (.slice an2 L2.length cn2 : Value) ]) Tryz.results8 SA_39 hs 1 rfl rfl rfl, ?_⟩
          have hX : L1 = s.ents := by rw [hL1, List.take_of_length_le (by omega)]
          have hY : L2 = s.ticks := by rw [hL2, List.take_of_length_le (by omega)]
          rw [hX, hY] at hs ⊢
          exact ⟨((an1, cn1), (an2, cn2)), rfl, hs.two 3 4 (by decide) rfl rfl, trivial⟩
set_option maxRecDepth 20000 in
set_option maxHeartbeats 4000000 in
theorem same8_ok (w : World) (p : Sta) (a1p : Option Addr) (c1p : Nat) (a2p : Option Addr) (c2p : Nat) (q : Sta) (a1q : Option Addr) (c1q : Nat) (a2q : Option Addr) (c2q : Nat) (hr1p : Rd w (.slice a1p p.ents.length c1p) 7 (p.ents.map cec)) (hr2p : Rd w (.slice a2p p.ticks.length c2p) 2 (p.ticks.map lsc)) (hr1q : Rd w (.slice a1q q.ents.length c1q) 7 (q.ents.map cec)) (hr2q : Rd w (.slice a2q q.ticks.length c2q) 2 (q.ticks.map lsc)) : Calls Tryz.prog 12 #[.agg ((vc p.known) ++ [(.slice a1p p.ents.length c1p : Value), (.slice a2p p.ticks.length c2p : Value) ]).toArray, .agg ((vc q.known) ++ [(.slice a1q q.ents.length c1q : Value), (.slice a2q q.ticks.length c2q : Value) ]).toArray] w (fun e w' => e = .returned (.bool (decide (p.known = q.known) && (decide (p.ents = q.ents) && decide (p.ticks = q.ticks)))) ∧ Own w no w' []) := by
  refine calls_of_Wn (n := 66) Tryz.func12 rfl Tryz.ntmps12 rfl ?_
  have hs := Own.start w
  have hn1 := hr1p.sml
  have hn2 := hr2p.sml
  have hn3 := hr1q.sml
  have hn4 := hr2q.sml
  refine W_seq ?_
  refine W_region ?_
  refine RW_op (L_box (V := .agg ((vc p.known) ++ [(.slice a1p p.ents.length c1p : Value), (.slice a2p p.ticks.length c2p : Value) ]).toArray) (cs := (vc p.known) ++ [(.slice a1p p.ents.length c1p : Value), (.slice a2p p.ticks.length c2p : Value) ]) rfl rfl hs fun b1 w2 hs => ?_)
  refine RW_op (L_box (V := .agg ((vc q.known) ++ [(.slice a1q q.ents.length c1q : Value), (.slice a2q q.ticks.length c2q : Value) ]).toArray) (cs := (vc q.known) ++ [(.slice a1q q.ents.length c1q : Value), (.slice a2q q.ticks.length c2q : Value) ]) rfl rfl hs fun b3 w4 hs => ?_)
  refine RW_op (L_assign (V := .bool false) rfl ?_)
  refine RW_nil ?_
  refine W_seq ?_
  refine W_seq ?_
  refine W_regO [some 7, some 8, some 9, some 10, some 11, some 12, some 13, some 14, some 15, some 16, some 17, some 18, some 19, some 20, some 21, some 22, some 23, some 24, some 25, some 26, some 27, some 28, some 29] [] [0, 1, 0, 4, 15, 31, 63, 127, 255, 63, 575, 1599, 4095, 8191, 16383, 32767, 65535, 131071, 32767, 294911, 819199, 2097151, 4194303] [pv (.pointer (some ⟨b1, 0 + 0, none⟩)), pv (.agg (vc p.known).toArray), pv (.pointer (some ⟨b3, 0 + 0, none⟩)), pv (.agg (vc q.known).toArray), pv (.bool (!decide (p.known = q.known))), pv (.bool (!decide (p.known = q.known))), pg ((!decide (p.known = q.known)) == false) (.pointer (some ⟨b1, 0 + 16, none⟩)), pg ((!decide (p.known = q.known)) == false) (.slice a1p p.ents.length c1p), pg ((!decide (p.known = q.known)) == false) (.int .i64 ((p.ents.length : Nat) : Int)), pg ((!decide (p.known = q.known)) == false) (.pointer (some ⟨b3, 0 + 16, none⟩)), pg ((!decide (p.known = q.known)) == false) (.slice a1q q.ents.length c1q), pg ((!decide (p.known = q.known)) == false) (.int .i64 ((q.ents.length : Nat) : Int)), pg ((!decide (p.known = q.known)) == false) (.bool (!decide (((p.ents.length : Nat) : Int) = ((q.ents.length : Nat) : Int)))), pv (.bool ((!decide (p.known = q.known)) || (!decide (((p.ents.length : Nat) : Int) = ((q.ents.length : Nat) : Int))))), pv (.bool ((!decide (p.known = q.known)) || (!decide (((p.ents.length : Nat) : Int) = ((q.ents.length : Nat) : Int))))), pg (((!decide (p.known = q.known)) || (!decide (((p.ents.length : Nat) : Int) = ((q.ents.length : Nat) : Int)))) == false) (.pointer (some ⟨b1, 0 + 17, none⟩)), pg (((!decide (p.known = q.known)) || (!decide (((p.ents.length : Nat) : Int) = ((q.ents.length : Nat) : Int)))) == false) (.slice a2p p.ticks.length c2p), pg (((!decide (p.known = q.known)) || (!decide (((p.ents.length : Nat) : Int) = ((q.ents.length : Nat) : Int)))) == false) (.int .i64 ((p.ticks.length : Nat) : Int)), pg (((!decide (p.known = q.known)) || (!decide (((p.ents.length : Nat) : Int) = ((q.ents.length : Nat) : Int)))) == false) (.pointer (some ⟨b3, 0 + 17, none⟩)), pg (((!decide (p.known = q.known)) || (!decide (((p.ents.length : Nat) : Int) = ((q.ents.length : Nat) : Int)))) == false) (.slice a2q q.ticks.length c2q), pg (((!decide (p.known = q.known)) || (!decide (((p.ents.length : Nat) : Int) = ((q.ents.length : Nat) : Int)))) == false) (.int .i64 ((q.ticks.length : Nat) : Int)), pg (((!decide (p.known = q.known)) || (!decide (((p.ents.length : Nat) : Int) = ((q.ents.length : Nat) : Int)))) == false) (.bool (!decide (((p.ticks.length : Nat) : Int) = ((q.ticks.length : Nat) : Int)))), pv (.bool (((!decide (p.known = q.known)) || (!decide (((p.ents.length : Nat) : Int) = ((q.ents.length : Nat) : Int)))) || (!decide (((p.ticks.length : Nat) : Int) = ((q.ticks.length : Nat) : Int)))))] (fun _ _ => _) [22] (by kernel_rfl) hs ⟨?_, ?_, ?_, ?_, ?_, ?_, ?_, ?_, ?_, ?_, ?_, ?_, ?_, ?_, ?_, ?_, ?_, ?_, ?_, ?_, ?_, ?_, ?_, trivial⟩ ?_
  · exact ob [] [] rfl rfl fun D ρ w hs => L_fieldAddr FA_28_0 rfl ⟨rfl, hs⟩
  · exact ob [0] [] rfl rfl fun D ρ w hs => L_ldA (vs := vc p.known) SA_24 hs 0 rfl rfl rfl rfl ⟨rfl, hs⟩
  · exact ob [] [] rfl rfl fun D ρ w hs => L_fieldAddr FA_28_0 rfl ⟨rfl, hs⟩
  · exact ob [2] [] rfl rfl fun D ρ w hs => L_ldA (vs := vc q.known) SA_24 hs 1 rfl rfl rfl rfl ⟨rfl, hs⟩
  · exact ob [1, 3] [] rfl rfl fun D ρ w hs => L_neA (xs := vc p.known) (ys := vc q.known) Tryz.eqGuardType24 (EQ_24 p.known q.known) rfl rfl rfl ⟨rfl, hs⟩
  · exact ob [4] [] rfl rfl fun D ρ w hs => L_move (V := .bool (!decide (p.known = q.known))) rfl ⟨rfl, hs⟩
  · exact obg [5] [] (!decide (p.known = q.known)) rfl (fun _ => rfl) rfl (fun _ _ _ _ h => h) fun D ρ w hG hs => L_fieldAddr FA_28_1 rfl ⟨rfl, hs⟩
  · exact obgy [5, 6] [] [6] (!decide (p.known = q.known)) rfl (fun _ => rfl) rfl (fun _ _ _ _ h => h) (fun hG => ⟨hG, trivial⟩) fun D ρ w hG hs => L_ld (V := .slice a1p p.ents.length c1p) S1_25 hs 0 rfl rfl rfl ⟨rfl, hs⟩
  · exact obgy [5, 7] [] [7] (!decide (p.known = q.known)) rfl (fun _ => rfl) rfl (fun _ _ _ _ h => h) (fun hG => ⟨hG, trivial⟩) fun D ρ w hG hs => L_lenR (n := p.ents.length) UD_25 (Rd.own' hr1p hs) (by simp) rfl ⟨rfl, hs⟩
  · exact obg [5] [] (!decide (p.known = q.known)) rfl (fun _ => rfl) rfl (fun _ _ _ _ h => h) fun D ρ w hG hs => L_fieldAddr FA_28_1 rfl ⟨rfl, hs⟩
  · exact obgy [5, 9] [] [9] (!decide (p.known = q.known)) rfl (fun _ => rfl) rfl (fun _ _ _ _ h => h) (fun hG => ⟨hG, trivial⟩) fun D ρ w hG hs => L_ld (V := .slice a1q q.ents.length c1q) S1_25 hs 1 rfl rfl rfl ⟨rfl, hs⟩
  · exact obgy [5, 10] [] [10] (!decide (p.known = q.known)) rfl (fun _ => rfl) rfl (fun _ _ _ _ h => h) (fun hG => ⟨hG, trivial⟩) fun D ρ w hG hs => L_lenR (n := q.ents.length) UD_25 (Rd.own' hr1q hs) (by simp) rfl ⟨rfl, hs⟩
  · exact obgy [5, 8, 11] [] [8, 11] (!decide (p.known = q.known)) rfl (fun _ => rfl) rfl (fun _ _ _ _ h => h) (fun hG => ⟨hG, hG, trivial⟩) fun D ρ w hG hs => L_neq rfl rfl ⟨rfl, hs⟩
  · exact ob [5, 12] [] rfl rfl fun D ρ w hs => L_orC (h' := !decide (((p.ents.length : Nat) : Int) = ((q.ents.length : Nat) : Int))) rfl rfl rfl ⟨rfl, hs⟩
  · exact ob [13] [] rfl rfl fun D ρ w hs => L_move (V := .bool ((!decide (p.known = q.known)) || (!decide (((p.ents.length : Nat) : Int) = ((q.ents.length : Nat) : Int))))) rfl ⟨rfl, hs⟩
  · exact obg [14] [] ((!decide (p.known = q.known)) || (!decide (((p.ents.length : Nat) : Int) = ((q.ents.length : Nat) : Int)))) rfl (fun _ => rfl) rfl (fun _ _ _ _ h => h) fun D ρ w hG hs => L_fieldAddr FA_28_2 rfl ⟨rfl, hs⟩
  · exact obgy [14, 15] [] [15] ((!decide (p.known = q.known)) || (!decide (((p.ents.length : Nat) : Int) = ((q.ents.length : Nat) : Int)))) rfl (fun _ => rfl) rfl (fun _ _ _ _ h => h) (fun hG => ⟨hG, trivial⟩) fun D ρ w hG hs => L_ld (V := .slice a2p p.ticks.length c2p) S1_26 hs 0 rfl rfl rfl ⟨rfl, hs⟩
  · exact obgy [14, 16] [] [16] ((!decide (p.known = q.known)) || (!decide (((p.ents.length : Nat) : Int) = ((q.ents.length : Nat) : Int)))) rfl (fun _ => rfl) rfl (fun _ _ _ _ h => h) (fun hG => ⟨hG, trivial⟩) fun D ρ w hG hs => L_lenR (n := p.ticks.length) UD_26 (Rd.own' hr2p hs) (by simp) rfl ⟨rfl, hs⟩
  · exact obg [14] [] ((!decide (p.known = q.known)) || (!decide (((p.ents.length : Nat) : Int) = ((q.ents.length : Nat) : Int)))) rfl (fun _ => rfl) rfl (fun _ _ _ _ h => h) fun D ρ w hG hs => L_fieldAddr FA_28_2 rfl ⟨rfl, hs⟩
  · exact obgy [14, 18] [] [18] ((!decide (p.known = q.known)) || (!decide (((p.ents.length : Nat) : Int) = ((q.ents.length : Nat) : Int)))) rfl (fun _ => rfl) rfl (fun _ _ _ _ h => h) (fun hG => ⟨hG, trivial⟩) fun D ρ w hG hs => L_ld (V := .slice a2q q.ticks.length c2q) S1_26 hs 1 rfl rfl rfl ⟨rfl, hs⟩
  · exact obgy [14, 19] [] [19] ((!decide (p.known = q.known)) || (!decide (((p.ents.length : Nat) : Int) = ((q.ents.length : Nat) : Int)))) rfl (fun _ => rfl) rfl (fun _ _ _ _ h => h) (fun hG => ⟨hG, trivial⟩) fun D ρ w hG hs => L_lenR (n := q.ticks.length) UD_26 (Rd.own' hr2q hs) (by simp) rfl ⟨rfl, hs⟩
  · exact obgy [14, 17, 20] [] [17, 20] ((!decide (p.known = q.known)) || (!decide (((p.ents.length : Nat) : Int) = ((q.ents.length : Nat) : Int)))) rfl (fun _ => rfl) rfl (fun _ _ _ _ h => h) (fun hG => ⟨hG, hG, trivial⟩) fun D ρ w hG hs => L_neq rfl rfl ⟨rfl, hs⟩
  · exact ob [14, 21] [] rfl rfl fun D ρ w hs => L_orC (h' := !decide (((p.ticks.length : Nat) : Int) = ((q.ticks.length : Nat) : Int))) rfl rfl rfl ⟨rfl, hs⟩
  rintro ρ1 w5 ρ2 hρ hs
  replace hρ : ρ2 = upd (mix [7, 8, 9, 10, 11, 12, 13, 14, 15, 16, 17, 18, 19, 20, 21, 22, 23, 24, 25, 26, 27, 28, 29] ρ1 _) 29 (.bool (((!decide (p.known = q.known)) || (!decide (((p.ents.length : Nat) : Int) = ((q.ents.length : Nat) : Int)))) || (!decide (((p.ticks.length : Nat) : Int) = ((q.ticks.length : Nat) : Int))))) := hρ
  subst hρ
  refine W_cond (t := ((!decide (p.known = q.known)) || (!decide (((p.ents.length : Nat) : Int) = ((q.ents.length : Nat) : Int)))) || (!decide (((p.ticks.length : Nat) : Int) = ((q.ticks.length : Nat) : Int)))) rfl (fun c6 => ?_) (fun c6 => ?_)
  ·
    refine W_seq ?_
    refine W_region ?_
    refine RW_op (L_assign (V := .bool false) rfl ?_)
    refine RW_nil ?_
    refine W_ret ?_
    refine ⟨_, res_one (V := .bool false) Tryz.results12 rfl, ?_⟩
    refine ⟨congrArg Ending.returned ?_, hs.take 0⟩
    refine congrArg Value.bool (Eq.symm ?_)
    rw [Bool.eq_false_iff]
    intro g
    simp only [Bool.and_eq_true, decide_eq_true_eq] at g
    obtain ⟨g1, g2, g3⟩ := g
    have hc := c6
    rw [g1, g2, g3] at hc
    simp at hc
  ·
    have c6r := or_r c6
    replace c6 := or_l c6
    have c6rr := or_r c6
    replace c6 := or_l c6
    replace c6 := not_f c6
    replace c6 := of_decide_eq_true c6
    replace c6rr := not_f c6rr
    replace c6rr := of_decide_eq_true c6rr
    replace c6r := not_f c6r
    replace c6r := of_decide_eq_true c6r
    refine W_skip ?_
    refine W_seq ?_
    refine W_seq ?_
    refine W_region ?_
    refine RW_op (L_assign (V := .int .i64 0) rfl ?_)
    refine RW_nil ?_
    refine W_block ?_
    refine W_loopI (fun ρ μ ρ' w' => ∃ (ρo : Env) (ke1 : Nat), ρ' = upd (mix [4, 5, 30, 31, 32, 33, 34, 35, 36, 37, 38, 39, 40, 41, 42, 43, 44, 45, 46, 47] ρo ρ) 5 (.int .i64 ((ke1 : Nat) : Int)) ∧ (ke1 ≤ p.ents.length) ∧ (∀ j : Nat, j < ke1 → gd p.ents j = gd q.ents j) ∧ μ = p.ents.length - ke1 ∧ Own w no w' [blk b1 ((vc p.known) ++ [(.slice a1p p.ents.length c1p : Value), (.slice a2p p.ticks.length c2p : Value) ]) 28, blk b3 ((vc q.known) ++ [(.slice a1q q.ents.length c1q : Value), (.slice a2q q.ticks.length c2q : Value) ]) 28]) ?_ ?_
    · exact ⟨_, _, 0, upd_of (mix_of (ds := [4, 5, 30, 31, 32, 33, 34, 35, 36, 37, 38, 39, 40, 41, 42, 43, 44, 45, 46, 47]) (Agr.refl _ _)) rfl, (by omega), (fun j hj => absurd hj (Nat.not_lt_zero j)), rfl, hs⟩
    · rintro μ ρ' w7 ⟨ρo, ke1, rfl, hke1, e1, rfl, hs⟩
      refine W_seq ?_
      refine W_seq ?_
      refine W_region ?_
      refine RW_op (L_move (V := .int .i64 ((ke1 : Nat) : Int)) rfl ?_)
      refine RW_op (L_fieldAddr FA_28_1 rfl ?_)
      refine RW_op (L_ld (V := .slice a1p p.ents.length c1p) S1_25 hs 0 rfl rfl rfl ?_)
      refine RW_op (L_lenR (n := p.ents.length) UD_25 (Rd.own' hr1p hs) (by simp) rfl ?_)
      refine RW_op (L_lss rfl rfl ?_)
      refine RW_nil ?_
      refine W_cond (t := decide (((ke1 : Nat) : Int) < ((p.ents.length : Nat) : Int))) rfl (fun c8 => ?_) (fun c8 => ?_)
      ·
        replace c8 := of_decide_eq_true c8
        refine W_skip ?_
        refine W_seq ?_
        refine W_block ?_
        refine W_seq ?_
        refine W_regD HM [some 37, some 38, some 39, some 40, some 41, some 42, some 43, some 44, some 45, some 46, some 47] [] [0, 1, 0, 7, 15, 0, 32, 0, 224, 480, 1023] [pv (.pointer (some ⟨b1, 0 + 16, none⟩)), pv (.slice a1p p.ents.length c1p), pv (.int .i64 ((ke1 : Nat) : Int)), pv (.pointer (some ⟨bkS (.slice a1p p.ents.length c1p), ofS (.slice a1p p.ents.length c1p) + ((ke1 : Nat) : Int).toNat * 7, none⟩)), pv (.agg (cec (gd p.ents ke1)).toArray), pv (.pointer (some ⟨b3, 0 + 16, none⟩)), pv (.slice a1q q.ents.length c1q), pv (.int .i64 ((ke1 : Nat) : Int)), pv (.pointer (some ⟨bkS (.slice a1q q.ents.length c1q), ofS (.slice a1q q.ents.length c1q) + ((ke1 : Nat) : Int).toNat * 7, none⟩)), pv (.agg (cec (gd q.ents ke1)).toArray), pv (.bool (!decide (gd p.ents ke1 = gd q.ents ke1)))] (fun _ _ => _) [10] (by kernel_rfl) hs ⟨?_, ?_, ?_, ?_, ?_, ?_, ?_, ?_, ?_, ?_, ?_, trivial⟩ ?_
        · exact ob [] [] rfl rfl fun D ρ w hs => L_fieldAddr FA_28_1 rfl ⟨rfl, hs⟩
        · exact ob [0] [] rfl rfl fun D ρ w hs => L_ld (V := .slice a1p p.ents.length c1p) S1_25 hs 0 rfl rfl rfl ⟨rfl, hs⟩
        · exact ob [] [] rfl rfl fun D ρ w hs => L_move (V := .int .i64 ((ke1 : Nat) : Int)) rfl ⟨rfl, hs⟩
        · exact ob [1, 2] [] rfl rfl fun D ρ w hs => L_ixR UD_25 SA_88.1 (Rd.own' hr1p hs) rfl rfl (by omega) (by rw [List.length_map]; omega) ⟨rfl, hs⟩
        · exact ob [3] [] rfl rfl fun D ρ w hs => L_ldRA (j := 0) (vs := cec (gd p.ents ke1)) ke1 SA_88 (Rd.own' hr1p hs) (gd_at (by omega)) rfl rfl rfl (by omega) ⟨rfl, hs⟩
        · exact ob [] [] rfl rfl fun D ρ w hs => L_fieldAddr FA_28_1 rfl ⟨rfl, hs⟩
        · exact ob [5] [] rfl rfl fun D ρ w hs => L_ld (V := .slice a1q q.ents.length c1q) S1_25 hs 1 rfl rfl rfl ⟨rfl, hs⟩
        · exact ob [] [] rfl rfl fun D ρ w hs => L_move (V := .int .i64 ((ke1 : Nat) : Int)) rfl ⟨rfl, hs⟩
        · exact ob [6, 7] [] rfl rfl fun D ρ w hs => L_ixR UD_25 SA_88.1 (Rd.own' hr1q hs) rfl rfl (by omega) (by rw [List.length_map]; omega) ⟨rfl, hs⟩
        · exact ob [8] [] rfl rfl fun D ρ w hs => L_ldRA (j := 0) (vs := cec (gd q.ents ke1)) ke1 SA_88 (Rd.own' hr1q hs) (gd_at (by omega)) rfl rfl rfl (by omega) ⟨rfl, hs⟩
        · exact ob [4, 9] [] rfl rfl fun D ρ w hs => L_neA (xs := cec (gd p.ents ke1)) (ys := cec (gd q.ents ke1)) Tryz.eqGuardType88 (EQ_88 (gd p.ents ke1) (gd q.ents ke1)) rfl rfl rfl ⟨rfl, hs⟩
        rintro ρ1 w9 ρ2 hρ hs
        replace hρ : ρ2 = upd (mix [37, 38, 39, 40, 41, 42, 43, 44, 45, 46, 47] ρ1 _) 47 (.bool (!decide (gd p.ents ke1 = gd q.ents ke1))) := hρ
        subst hρ
        refine W_cond (t := !decide (gd p.ents ke1 = gd q.ents ke1)) rfl (fun c10 => ?_) (fun c10 => ?_)
        ·
          replace c10 := not_t c10
          replace c10 := of_decide_eq_false c10
          refine W_seq ?_
          refine W_region ?_
          refine RW_op (L_assign (V := .bool false) rfl ?_)
          refine RW_nil ?_
          refine W_ret ?_
          refine ⟨_, res_one (V := .bool false) Tryz.results12 rfl, ?_⟩
          refine ⟨congrArg Ending.returned ?_, hs.take 0⟩
          refine congrArg Value.bool (Eq.symm ?_)
          rw [Bool.eq_false_iff]
          intro g
          simp only [Bool.and_eq_true, decide_eq_true_eq] at g
          obtain ⟨g1, g2, g3⟩ := g
          exact c10 (by rw [g2])
        ·
          replace c10 := not_f c10
          replace c10 := of_decide_eq_true c10
          refine W_skip ?_
          refine W_region ?_
          refine RW_op (L_move (V := .int .i64 ((ke1 : Nat) : Int)) rfl ?_)
          refine RW_op (L_add (a := ((ke1 : Nat) : Int)) (b := 1) (c := ((ke1 + 1 : Nat) : Int)) rfl rfl (nat_i64 (by omega) (by omega)) ?_)
          refine RW_op (L_assign (V := .int .i64 ((ke1 + 1 : Nat) : Int)) rfl ?_)
          refine RW_nil ?_
          refine ⟨_, ?_, _, ke1 + 1, upd_of (mix_of (ds := [4, 5, 30, 31, 32, 33, 34, 35, 36, 37, 38, 39, 40, 41, 42, 43, 44, 45, 46, 47]) (by repeat (first | exact Agr.refl _ _ | refine Agr.upd ?_ rfl | refine Agr.mix ?_ rfl))) rfl, (by omega), (eqG_step e1 c10), rfl, hs.take 2⟩
          omega
      ·
        replace c8 := of_decide_eq_false c8
        refine W_exit ?_
        refine W_seq ?_
        refine W_seq ?_
        refine W_region ?_
        refine RW_op (L_assign (V := .int .i64 0) rfl ?_)
        refine RW_nil ?_
        refine W_block ?_
        refine W_loopI (fun ρ μ ρ' w' => ∃ (ρo : Env) (ke2 : Nat), ρ' = upd (mix [4, 6, 48, 49, 50, 51, 52, 53, 54, 55, 56, 57, 58, 59, 60, 61, 62, 63, 64, 65] ρo ρ) 6 (.int .i64 ((ke2 : Nat) : Int)) ∧ (ke2 ≤ p.ticks.length) ∧ (∀ j : Nat, j < ke2 → gd p.ticks j = gd q.ticks j) ∧ μ = p.ticks.length - ke2 ∧ Own w no w' [blk b1 ((vc p.known) ++ [(.slice a1p p.ents.length c1p : Value), (.slice a2p p.ticks.length c2p : Value) ]) 28, blk b3 ((vc q.known) ++ [(.slice a1q q.ents.length c1q : Value), (.slice a2q q.ticks.length c2q : Value) ]) 28]) ?_ ?_
        · exact ⟨_, _, 0, upd_of (mix_of (ds := [4, 6, 48, 49, 50, 51, 52, 53, 54, 55, 56, 57, 58, 59, 60, 61, 62, 63, 64, 65]) (Agr.refl _ _)) rfl, (by omega), (fun j hj => absurd hj (Nat.not_lt_zero j)), rfl, hs⟩
        · rintro μ ρ' w11 ⟨ρo, ke2, rfl, hke2, e2, rfl, hs⟩
          refine W_seq ?_
          refine W_seq ?_
          refine W_region ?_
          refine RW_op (L_move (V := .int .i64 ((ke2 : Nat) : Int)) rfl ?_)
          refine RW_op (L_fieldAddr FA_28_2 rfl ?_)
          refine RW_op (L_ld (V := .slice a2p p.ticks.length c2p) S1_26 hs 0 rfl rfl rfl ?_)
          refine RW_op (L_lenR (n := p.ticks.length) UD_26 (Rd.own' hr2p hs) (by simp) rfl ?_)
          refine RW_op (L_lss rfl rfl ?_)
          refine RW_nil ?_
          refine W_cond (t := decide (((ke2 : Nat) : Int) < ((p.ticks.length : Nat) : Int))) rfl (fun c12 => ?_) (fun c12 => ?_)
          ·
            replace c12 := of_decide_eq_true c12
            refine W_skip ?_
            refine W_seq ?_
            refine W_block ?_
            refine W_seq ?_
            refine W_regD HM [some 55, some 56, some 57, some 58, some 59, some 60, some 61, some 62, some 63, some 64, some 65] [] [0, 1, 0, 7, 15, 0, 32, 0, 224, 480, 1023] [pv (.pointer (some ⟨b1, 0 + 17, none⟩)), pv (.slice a2p p.ticks.length c2p), pv (.int .i64 ((ke2 : Nat) : Int)), pv (.pointer (some ⟨bkS (.slice a2p p.ticks.length c2p), ofS (.slice a2p p.ticks.length c2p) + ((ke2 : Nat) : Int).toNat * 2, none⟩)), pv (.agg (lsc (gd p.ticks ke2)).toArray), pv (.pointer (some ⟨b3, 0 + 17, none⟩)), pv (.slice a2q q.ticks.length c2q), pv (.int .i64 ((ke2 : Nat) : Int)), pv (.pointer (some ⟨bkS (.slice a2q q.ticks.length c2q), ofS (.slice a2q q.ticks.length c2q) + ((ke2 : Nat) : Int).toNat * 2, none⟩)), pv (.agg (lsc (gd q.ticks ke2)).toArray), pv (.bool (!decide (gd p.ticks ke2 = gd q.ticks ke2)))] (fun _ _ => _) [10] (by kernel_rfl) hs ⟨?_, ?_, ?_, ?_, ?_, ?_, ?_, ?_, ?_, ?_, ?_, trivial⟩ ?_
            · exact ob [] [] rfl rfl fun D ρ w hs => L_fieldAddr FA_28_2 rfl ⟨rfl, hs⟩
            · exact ob [0] [] rfl rfl fun D ρ w hs => L_ld (V := .slice a2p p.ticks.length c2p) S1_26 hs 0 rfl rfl rfl ⟨rfl, hs⟩
            · exact ob [] [] rfl rfl fun D ρ w hs => L_move (V := .int .i64 ((ke2 : Nat) : Int)) rfl ⟨rfl, hs⟩
            · exact ob [1, 2] [] rfl rfl fun D ρ w hs => L_ixR UD_26 SA_89.1 (Rd.own' hr2p hs) rfl rfl (by omega) (by rw [List.length_map]; omega) ⟨rfl, hs⟩
            · exact ob [3] [] rfl rfl fun D ρ w hs => L_ldRA (j := 0) (vs := lsc (gd p.ticks ke2)) ke2 SA_89 (Rd.own' hr2p hs) (gd_at (by omega)) rfl rfl rfl (by omega) ⟨rfl, hs⟩
            · exact ob [] [] rfl rfl fun D ρ w hs => L_fieldAddr FA_28_2 rfl ⟨rfl, hs⟩
            · exact ob [5] [] rfl rfl fun D ρ w hs => L_ld (V := .slice a2q q.ticks.length c2q) S1_26 hs 1 rfl rfl rfl ⟨rfl, hs⟩
            · exact ob [] [] rfl rfl fun D ρ w hs => L_move (V := .int .i64 ((ke2 : Nat) : Int)) rfl ⟨rfl, hs⟩
            · exact ob [6, 7] [] rfl rfl fun D ρ w hs => L_ixR UD_26 SA_89.1 (Rd.own' hr2q hs) rfl rfl (by omega) (by rw [List.length_map]; omega) ⟨rfl, hs⟩
            · exact ob [8] [] rfl rfl fun D ρ w hs => L_ldRA (j := 0) (vs := lsc (gd q.ticks ke2)) ke2 SA_89 (Rd.own' hr2q hs) (gd_at (by omega)) rfl rfl rfl (by omega) ⟨rfl, hs⟩
            · exact ob [4, 9] [] rfl rfl fun D ρ w hs => L_neA (xs := lsc (gd p.ticks ke2)) (ys := lsc (gd q.ticks ke2)) Tryz.eqGuardType89 (EQ_89 (gd p.ticks ke2) (gd q.ticks ke2)) rfl rfl rfl ⟨rfl, hs⟩
            rintro ρ1 w13 ρ2 hρ hs
            replace hρ : ρ2 = upd (mix [55, 56, 57, 58, 59, 60, 61, 62, 63, 64, 65] ρ1 _) 65 (.bool (!decide (gd p.ticks ke2 = gd q.ticks ke2))) := hρ
            subst hρ
            refine W_cond (t := !decide (gd p.ticks ke2 = gd q.ticks ke2)) rfl (fun c14 => ?_) (fun c14 => ?_)
            ·
              replace c14 := not_t c14
              replace c14 := of_decide_eq_false c14
              refine W_seq ?_
              refine W_region ?_
              refine RW_op (L_assign (V := .bool false) rfl ?_)
              refine RW_nil ?_
              refine W_ret ?_
              refine ⟨_, res_one (V := .bool false) Tryz.results12 rfl, ?_⟩
              refine ⟨congrArg Ending.returned ?_, hs.take 0⟩
              refine congrArg Value.bool (Eq.symm ?_)
              rw [Bool.eq_false_iff]
              intro g
              simp only [Bool.and_eq_true, decide_eq_true_eq] at g
              obtain ⟨g1, g2, g3⟩ := g
              exact c14 (by rw [g3])
            ·
              replace c14 := not_f c14
              replace c14 := of_decide_eq_true c14
              refine W_skip ?_
              refine W_region ?_
              refine RW_op (L_move (V := .int .i64 ((ke2 : Nat) : Int)) rfl ?_)
              refine RW_op (L_add (a := ((ke2 : Nat) : Int)) (b := 1) (c := ((ke2 + 1 : Nat) : Int)) rfl rfl (nat_i64 (by omega) (by omega)) ?_)
              refine RW_op (L_assign (V := .int .i64 ((ke2 + 1 : Nat) : Int)) rfl ?_)
              refine RW_nil ?_
              refine ⟨_, ?_, _, ke2 + 1, upd_of (mix_of (ds := [4, 6, 48, 49, 50, 51, 52, 53, 54, 55, 56, 57, 58, 59, 60, 61, 62, 63, 64, 65]) (by repeat (first | exact Agr.refl _ _ | refine Agr.upd ?_ rfl | refine Agr.mix ?_ rfl))) rfl, (by omega), (eqG_step e2 c14), rfl, hs.take 2⟩
              omega
          ·
            replace c12 := of_decide_eq_false c12
            refine W_exit ?_
            refine W_seq ?_
            refine W_region ?_
            refine RW_op (L_assign (V := .bool true) rfl ?_)
            refine RW_nil ?_
            refine W_ret ?_
            refine ⟨_, res_one (V := .bool true) Tryz.results12 rfl, ?_⟩
            refine ⟨congrArg Ending.returned ?_, hs.take 0⟩
            refine congrArg Value.bool ?_
            rw [decide_eq_true c6, decide_eq_true (sameG_yes (l := p.ents) (m := q.ents) (by omega) fun j hj => e1 j (by omega)), decide_eq_true (sameG_yes (l := p.ticks) (m := q.ticks) (by omega) fun j hj => e2 j (by omega))]; rfl
end Tt
end Go.Proofs
namespace Go.Proofs
open Go Go.Vx Go.RowKit
namespace Tt
set_option maxRecDepth 20000 in
set_option maxHeartbeats 4000000 in
theorem ahead_ok (w : World) (x y : Cen) : Calls Tryz.prog 49 #[.agg (cec x).toArray, .agg (cec y).toArray] w (fun e w' => e = .returned (.bool (aheadB x y)) ∧ Own w no w' []) := by
  refine calls_of_Wn (n := 36) Tryz.func49 rfl Tryz.ntmps49 rfl ?_
  have hs := Own.start w
  refine W_seq ?_
  refine W_region ?_
  refine RW_op (L_box (V := .agg (cec x).toArray) (cs := cec x) rfl rfl hs fun b1 w2 hs => ?_)
  refine RW_op (L_box (V := .agg (cec y).toArray) (cs := cec y) rfl rfl hs fun b3 w4 hs => ?_)
  refine RW_op (L_assign (V := .bool false) rfl ?_)
  refine RW_nil ?_
  refine W_seq ?_
  refine W_seq ?_
  refine W_region ?_
  refine RW_op (L_fieldAddr FA_88_0 rfl ?_)
  refine RW_op (L_ld (V := .int .u16 x.cart) S1_31 hs 0 rfl rfl rfl ?_)
  refine RW_op (L_fieldAddr FA_88_0 rfl ?_)
  refine RW_op (L_ld (V := .int .u16 y.cart) S1_31 hs 1 rfl rfl rfl ?_)
  refine RW_op (L_neq rfl rfl ?_)
  refine RW_nil ?_
  refine W_cond (t := !decide (x.cart = y.cart)) rfl (fun c5 => ?_) (fun c5 => ?_)
  ·
    replace c5 := not_t c5
    replace c5 := of_decide_eq_false c5
    refine W_seq ?_
    refine W_region ?_
    refine RW_op (L_fieldAddr FA_88_0 rfl ?_)
    refine RW_op (L_ld (V := .int .u16 x.cart) S1_31 hs 0 rfl rfl rfl ?_)
    refine RW_op (L_fieldAddr FA_88_0 rfl ?_)
    refine RW_op (L_ld (V := .int .u16 y.cart) S1_31 hs 1 rfl rfl rfl ?_)
    refine RW_op (L_lss rfl rfl ?_)
    refine RW_op (L_assign (V := .bool (decide (x.cart < y.cart))) rfl ?_)
    refine RW_nil ?_
    refine W_ret ?_
    refine ⟨_, res_one (V := .bool (decide (x.cart < y.cart))) Tryz.results49 rfl, ?_⟩
    refine ⟨congrArg Ending.returned ?_, hs.take 0⟩
    unfold aheadB; rw [if_neg c5]
  ·
    replace c5 := not_f c5
    replace c5 := of_decide_eq_true c5
    refine W_skip ?_
    refine W_seq ?_
    refine W_seq ?_
    refine W_region ?_
    refine RW_op (L_fieldAddr FA_88_4 rfl ?_)
    refine RW_op (L_fieldAddr FA_30_0 rfl ?_)
    refine RW_op (L_ld (V := .int .u8 x.dot.rep) S1_5 hs 0 rfl rfl rfl ?_)
    refine RW_op (L_fieldAddr FA_88_4 rfl ?_)
    refine RW_op (L_fieldAddr FA_30_0 rfl ?_)
    refine RW_op (L_ld (V := .int .u8 y.dot.rep) S1_5 hs 1 rfl rfl rfl ?_)
    refine RW_op (L_neq rfl rfl ?_)
    refine RW_nil ?_
    refine W_cond (t := !decide (x.dot.rep = y.dot.rep)) rfl (fun c6 => ?_) (fun c6 => ?_)
    ·
      replace c6 := not_t c6
      replace c6 := of_decide_eq_false c6
      refine W_seq ?_
      refine W_region ?_
      refine RW_op (L_fieldAddr FA_88_4 rfl ?_)
      refine RW_op (L_fieldAddr FA_30_0 rfl ?_)
      refine RW_op (L_ld (V := .int .u8 x.dot.rep) S1_5 hs 0 rfl rfl rfl ?_)
      refine RW_op (L_fieldAddr FA_88_4 rfl ?_)
      refine RW_op (L_fieldAddr FA_30_0 rfl ?_)
      refine RW_op (L_ld (V := .int .u8 y.dot.rep) S1_5 hs 1 rfl rfl rfl ?_)
      refine RW_op (L_lss rfl rfl ?_)
      refine RW_op (L_assign (V := .bool (decide (x.dot.rep < y.dot.rep))) rfl ?_)
      refine RW_nil ?_
      refine W_ret ?_
      refine ⟨_, res_one (V := .bool (decide (x.dot.rep < y.dot.rep))) Tryz.results49 rfl, ?_⟩
      refine ⟨congrArg Ending.returned ?_, hs.take 0⟩
      unfold aheadB; rw [if_pos c5, if_neg c6]
    ·
      replace c6 := not_f c6
      replace c6 := of_decide_eq_true c6
      refine W_skip ?_
      refine W_seq ?_
      refine W_region ?_
      refine RW_op (L_fieldAddr FA_88_4 rfl ?_)
      refine RW_op (L_fieldAddr FA_30_1 rfl ?_)
      refine RW_op (L_ld (V := .int .u32 x.dot.seq) S1_22 hs 0 rfl rfl rfl ?_)
      refine RW_op (L_fieldAddr FA_88_4 rfl ?_)
      refine RW_op (L_fieldAddr FA_30_1 rfl ?_)
      refine RW_op (L_ld (V := .int .u32 y.dot.seq) S1_22 hs 1 rfl rfl rfl ?_)
      refine RW_op (L_lss rfl rfl ?_)
      refine RW_op (L_assign (V := .bool (decide (x.dot.seq < y.dot.seq))) rfl ?_)
      refine RW_nil ?_
      refine W_ret ?_
      refine ⟨_, res_one (V := .bool (decide (x.dot.seq < y.dot.seq))) Tryz.results49 rfl, ?_⟩
      refine ⟨congrArg Ending.returned ?_, hs.take 0⟩
      unfold aheadB; rw [if_pos c5, if_pos c6]
set_option maxRecDepth 20000 in
set_option maxHeartbeats 4000000 in
theorem rtick_ok (w : World) (s : Sta) (a1 : Option Addr) (c1 : Nat) (a2 : Option Addr) (c2 : Nat) (c : Int) (hr1 : Rd w (.slice a1 s.ents.length c1) 7 (s.ents.map cec)) (hr2 : Rd w (.slice a2 s.ticks.length c2) 2 (s.ticks.map lsc)) : Calls Tryz.prog 85 #[.agg ((vc s.known) ++ [(.slice a1 s.ents.length c1 : Value), (.slice a2 s.ticks.length c2 : Value) ]).toArray, .int .u16 c] w (fun e w' => e = .returned (.tuple #[.int .u32 ((tickP s.ticks c).getD 0), .bool (tickP s.ticks c).isSome]) ∧ Own w no w' []) := by
  refine calls_of_Wn (n := 28) Tryz.func85 rfl Tryz.ntmps85 rfl ?_
  have hs := Own.start w
  have hn2 := hr2.sml
  refine W_seq ?_
  refine W_region ?_
  refine RW_op (L_box (V := .agg ((vc s.known) ++ [(.slice a1 s.ents.length c1 : Value), (.slice a2 s.ticks.length c2 : Value) ]).toArray) (cs := (vc s.known) ++ [(.slice a1 s.ents.length c1 : Value), (.slice a2 s.ticks.length c2 : Value) ]) rfl rfl hs fun b1 w2 hs => ?_)
  refine RW_op (L_assign (V := .int .u32 0) rfl ?_)
  refine RW_op (L_assign (V := .bool false) rfl ?_)
  refine RW_nil ?_
  refine W_seq ?_
  refine W_seq ?_
  refine W_region ?_
  refine RW_op (L_assign (V := .int .i64 0) rfl ?_)
  refine RW_nil ?_
  refine W_block ?_
  refine W_loopI (fun ρ μ ρ' w' => ∃ (ρo : Env) (k : Nat), ρ' = upd (mix [4, 5, 6, 7, 8, 9, 10, 11, 12, 13, 14, 15, 16, 17, 18, 19, 20, 21, 22, 23, 24, 25, 26, 27] ρo ρ) 6 (.int .i64 ((k : Nat) : Int)) ∧ (k ≤ s.ticks.length) ∧ (∀ j : Nat, j < k → decide ((gd s.ticks j).cart = c) = false) ∧ μ = s.ticks.length - k ∧ Own w no w' [blk b1 ((vc s.known) ++ [(.slice a1 s.ents.length c1 : Value), (.slice a2 s.ticks.length c2 : Value) ]) 28]) ?_ ?_
  · exact ⟨_, _, 0, upd_of (mix_of (ds := [4, 5, 6, 7, 8, 9, 10, 11, 12, 13, 14, 15, 16, 17, 18, 19, 20, 21, 22, 23, 24, 25, 26, 27]) (Agr.refl _ _)) rfl, (by omega), (fun j hj => absurd hj (Nat.not_lt_zero j)), rfl, hs⟩
  · rintro μ ρ' w3 ⟨ρo, k, rfl, hk, hno, rfl, hs⟩
    refine W_seq ?_
    refine W_seq ?_
    refine W_region ?_
    refine RW_op (L_move (V := .int .i64 ((k : Nat) : Int)) rfl ?_)
    refine RW_op (L_fieldAddr FA_28_2 rfl ?_)
    refine RW_op (L_ld (V := .slice a2 s.ticks.length c2) S1_26 hs 0 rfl rfl rfl ?_)
    refine RW_op (L_lenR (n := s.ticks.length) UD_26 (Rd.own' hr2 hs) (by simp) rfl ?_)
    refine RW_op (L_lss rfl rfl ?_)
    refine RW_nil ?_
    refine W_cond (t := decide (((k : Nat) : Int) < ((s.ticks.length : Nat) : Int))) rfl (fun c4 => ?_) (fun c4 => ?_)
    ·
      replace c4 := of_decide_eq_true c4
      refine W_skip ?_
      refine W_seq ?_
      refine W_block ?_
      refine W_seq ?_
      refine W_region ?_
      refine RW_op (L_fieldAddr FA_28_2 rfl ?_)
      refine RW_op (L_ld (V := .slice a2 s.ticks.length c2) S1_26 hs 0 rfl rfl rfl ?_)
      refine RW_op (L_move (V := .int .i64 ((k : Nat) : Int)) rfl ?_)
      refine RW_op (L_ixR UD_26 SA_89.1 (Rd.own' hr2 hs) rfl rfl (by omega) (by rw [List.length_map]; omega) ?_)
      refine RW_op (L_fieldAddr FA_89_0 rfl ?_)
      refine RW_op (L_ldR (j := 0) (V := .int .u16 ((gd s.ticks k).cart)) k S1_31 (Rd.own' hr2 hs) (gd_at (by omega)) rfl rfl (by omega) ?_)
      refine RW_op (L_move (V := .int .u16 c) rfl ?_)
      refine RW_op (L_eql rfl rfl ?_)
      refine RW_nil ?_
      refine W_cond (t := decide ((gd s.ticks k).cart = c)) rfl (fun c5 => ?_) (fun c5 => ?_)
      ·
        replace c5 := of_decide_eq_true c5
        refine W_seq ?_
        refine W_region ?_
        refine RW_op (L_fieldAddr FA_28_2 rfl ?_)
        refine RW_op (L_ld (V := .slice a2 s.ticks.length c2) S1_26 hs 0 rfl rfl rfl ?_)
        refine RW_op (L_move (V := .int .i64 ((k : Nat) : Int)) rfl ?_)
        refine RW_op (L_ixR UD_26 SA_89.1 (Rd.own' hr2 hs) rfl rfl (by omega) (by rw [List.length_map]; omega) ?_)
        refine RW_op (L_fieldAddr FA_89_1 rfl ?_)
        refine RW_op (L_ldR (j := 1) (V := .int .u32 ((gd s.ticks k).tick)) k S1_22 (Rd.own' hr2 hs) (gd_at (by omega)) rfl rfl (by omega) ?_)
        refine RW_op (L_assign (V := .int .u32 ((gd s.ticks k).tick)) rfl ?_)
        refine RW_op (L_assign (V := .bool true) rfl ?_)
        refine RW_nil ?_
        refine W_ret ?_
        refine ⟨_, res_two (U := .int .u32 ((gd s.ticks k).tick)) (V := .bool true) Tryz.results85 rfl rfl, ?_⟩
        refine ⟨congrArg Ending.returned ?_, hs.take 0⟩
        have hX := tickP_at (by omega) hno c5
        rw [hX]; rfl
      ·
        replace c5 := of_decide_eq_false c5
        refine W_skip ?_
        refine W_region ?_
        refine RW_op (L_move (V := .int .i64 ((k : Nat) : Int)) rfl ?_)
        refine RW_op (L_add (a := ((k : Nat) : Int)) (b := 1) (c := ((k + 1 : Nat) : Int)) rfl rfl (nat_i64 (by omega) (by omega)) ?_)
        refine RW_op (L_assign (V := .int .i64 ((k + 1 : Nat) : Int)) rfl ?_)
        refine RW_nil ?_
        refine ⟨_, ?_, _, k + 1, upd_of (mix_of (ds := [4, 5, 6, 7, 8, 9, 10, 11, 12, 13, 14, 15, 16, 17, 18, 19, 20, 21, 22, 23, 24, 25, 26, 27]) (by repeat (first | exact Agr.refl _ _ | refine Agr.upd ?_ rfl | refine Agr.mix ?_ rfl))) rfl, (by omega), (no_step2 hno (decide_eq_false c5)), rfl, hs.take 1⟩
        omega
    ·
      replace c4 := of_decide_eq_false c4
      refine W_exit ?_
      refine W_seq ?_
      refine W_region ?_
      refine RW_op (L_assign (V := .int .u32 0) rfl ?_)
      refine RW_op (L_assign (V := .bool false) rfl ?_)
      refine RW_nil ?_
      refine W_ret ?_
      refine ⟨_, res_two (U := .int .u32 0) (V := .bool false) Tryz.results85 rfl rfl, ?_⟩
      refine ⟨congrArg Ending.returned ?_, hs.take 0⟩
      have hX := tickP_none (ts := s.ticks) (c := c) fun j hj => hno j (by omega)
      rw [hX]; rfl
set_option maxRecDepth 20000 in
set_option maxHeartbeats 4000000 in
theorem rright_ok (w : World) (s : Sta) (a1 : Option Addr) (c1 : Nat) (a2 : Option Addr) (c2 : Nat) (x : Cen) (hx : CenOk x) (hr1 : Rd w (.slice a1 s.ents.length c1) 7 (s.ents.map cec)) (hr2 : Rd w (.slice a2 s.ticks.length c2) 2 (s.ticks.map lsc)) : Calls Tryz.prog 48 #[.agg ((vc s.known) ++ [(.slice a1 s.ents.length c1 : Value), (.slice a2 s.ticks.length c2 : Value) ]).toArray, .agg (cec x).toArray] w (fun e w' => e = .returned (.bool (entB s x)) ∧ Own w no w' []) := by
  refine calls_of_Wn (n := 36) Tryz.func48 rfl Tryz.ntmps48 rfl ?_
  have hs := Own.start w
  have hdx := hx.2.2.2.2.1
  refine W_seq ?_
  refine W_region ?_
  refine RW_op (L_box (V := .agg ((vc s.known) ++ [(.slice a1 s.ents.length c1 : Value), (.slice a2 s.ticks.length c2 : Value) ]).toArray) (cs := (vc s.known) ++ [(.slice a1 s.ents.length c1 : Value), (.slice a2 s.ticks.length c2 : Value) ]) rfl rfl hs fun b1 w2 hs => ?_)
  refine RW_op (L_box (V := .agg (cec x).toArray) (cs := cec x) rfl rfl hs fun b3 w4 hs => ?_)
  refine RW_op (L_assign (V := .bool false) rfl ?_)
  refine RW_nil ?_
  refine W_seq ?_
  refine W_region ?_
  refine RW_op (L_ldW (cs := (vc s.known) ++ [(.slice a1 s.ents.length c1 : Value), (.slice a2 s.ticks.length c2 : Value) ]) SA_28 hs 0 rfl rfl rfl ?_)
  refine RW_op (L_fieldAddr FA_88_0 rfl ?_)
  refine RW_op (L_ld (V := .int .u16 x.cart) S1_31 hs 1 rfl rfl rfl ?_)
  refine RW_op (L_callP (vs := [.agg ((vc s.known) ++ [(.slice a1 s.ents.length c1 : Value), (.slice a2 s.ticks.length c2 : Value) ]).toArray, .int .u16 x.cart]) (V := .tuple #[.int .u32 ((tickP s.ticks x.cart).getD 0), .bool ((tickP s.ticks x.cart).isSome)]) EN_85 rfl rfl ?hc hs fun w5 hs => ?_)
  case hc => exact (rtick_ok _ s a1 c1 a2 c2 x.cart (Rd.own' hr1 hs) (Rd.own' hr2 hs))
  refine RW_op (L_move (V := .tuple #[.int .u32 ((tickP s.ticks x.cart).getD 0), .bool ((tickP s.ticks x.cart).isSome)]) rfl ?_)
  refine RW_op (L_extract (V := .int .u32 ((tickP s.ticks x.cart).getD 0)) rfl rfl ?_)
  refine RW_op (L_extract (V := .bool ((tickP s.ticks x.cart).isSome)) rfl rfl ?_)
  refine RW_op (L_assign (V := .int .u32 ((tickP s.ticks x.cart).getD 0)) rfl ?_)
  refine RW_op (L_assign (V := .bool ((tickP s.ticks x.cart).isSome)) rfl ?_)
  refine RW_nil ?_
  refine W_seq ?_
  refine W_regO [some 14, some 15, some 16, some 17, some 18, some 19, some 20, some 21, some 22, some 23, some 24, some 25, some 26, some 27, some 28, some 29, some 30, some 31, some 32, some 33, some 34, some 35, some 4] [] [0, 1, 3, 7, 15, 31, 63, 127, 63, 319, 1023, 2047, 4095, 8191, 16383, 32767, 65535, 131071, 262143, 524287, 1048575, 2097151, 4194303] [pv (.bool ((tickP s.ticks x.cart).isSome)), pv (.bool ((tickP s.ticks x.cart).isSome)), pg (((tickP s.ticks x.cart).isSome) == true) (.agg (cec x).toArray), pg (((tickP s.ticks x.cart).isSome) == true) (.bool (shapedB x)), pv (.bool (((tickP s.ticks x.cart).isSome) && (shapedB x))), pv (.bool (((tickP s.ticks x.cart).isSome) && (shapedB x))), pg ((((tickP s.ticks x.cart).isSome) && (shapedB x)) == true) (.pointer (some ⟨b1, 0 + 0, none⟩)), pg ((((tickP s.ticks x.cart).isSome) && (shapedB x)) == true) (.agg (vc s.known).toArray), pg ((((tickP s.ticks x.cart).isSome) && (shapedB x)) == true) (.pointer (some ⟨b3, 0 + 4, none⟩)), pg ((((tickP s.ticks x.cart).isSome) && (shapedB x)) == true) (.agg (dc x.dot).toArray), pg ((((tickP s.ticks x.cart).isSome) && (shapedB x)) == true) (.bool (hasB s.known x.dot)), pv (.bool ((((tickP s.ticks x.cart).isSome) && (shapedB x)) && (hasB s.known x.dot))), pv (.bool ((((tickP s.ticks x.cart).isSome) && (shapedB x)) && (hasB s.known x.dot))), pg (((((tickP s.ticks x.cart).isSome) && (shapedB x)) && (hasB s.known x.dot)) == true) (.pointer (some ⟨b3, 0 + 6, none⟩)), pg (((((tickP s.ticks x.cart).isSome) && (shapedB x)) && (hasB s.known x.dot)) == true) (.int .u64 x.count), pg (((((tickP s.ticks x.cart).isSome) && (shapedB x)) && (hasB s.known x.dot)) == true) (.bool (decide (1 ≤ x.count))), pv (.bool (((((tickP s.ticks x.cart).isSome) && (shapedB x)) && (hasB s.known x.dot)) && (decide (1 ≤ x.count)))), pv (.bool (((((tickP s.ticks x.cart).isSome) && (shapedB x)) && (hasB s.known x.dot)) && (decide (1 ≤ x.count)))), pg ((((((tickP s.ticks x.cart).isSome) && (shapedB x)) && (hasB s.known x.dot)) && (decide (1 ≤ x.count))) == true) (.pointer (some ⟨b3, 0 + 6, none⟩)), pg ((((((tickP s.ticks x.cart).isSome) && (shapedB x)) && (hasB s.known x.dot)) && (decide (1 ≤ x.count))) == true) (.int .u64 x.count), pg ((((((tickP s.ticks x.cart).isSome) && (shapedB x)) && (hasB s.known x.dot)) && (decide (1 ≤ x.count))) == true) (.bool (decide (x.count ≤ 16777217))), pv (.bool ((((((tickP s.ticks x.cart).isSome) && (shapedB x)) && (hasB s.known x.dot)) && (decide (1 ≤ x.count))) && (decide (x.count ≤ 16777217)))), pv (.bool ((((((tickP s.ticks x.cart).isSome) && (shapedB x)) && (hasB s.known x.dot)) && (decide (1 ≤ x.count))) && (decide (x.count ≤ 16777217))))] (fun _ _ => _) [22] (by kernel_rfl) hs ⟨?_, ?_, ?_, ?_, ?_, ?_, ?_, ?_, ?_, ?_, ?_, ?_, ?_, ?_, ?_, ?_, ?_, ?_, ?_, ?_, ?_, ?_, ?_, trivial⟩ ?_
  · exact ob [] [] rfl rfl fun D ρ w hs => L_move (V := .bool ((tickP s.ticks x.cart).isSome)) rfl ⟨rfl, hs⟩
  · exact ob [0] [] rfl rfl fun D ρ w hs => L_move (V := .bool ((tickP s.ticks x.cart).isSome)) rfl ⟨rfl, hs⟩
  · exact obg [1] [] ((tickP s.ticks x.cart).isSome) rfl (fun _ => rfl) rfl (fun _ _ _ _ h => h) fun D ρ w hG hs => L_ldW (cs := cec x) SA_88 hs 1 rfl rfl rfl ⟨rfl, hs⟩
  · exact obgy [1, 2] [] [2] ((tickP s.ticks x.cart).isSome) rfl (fun _ => rfl) rfl (fun _ _ _ _ h => h) (fun hG => ⟨hG, trivial⟩) fun D ρ w hG hs => L_callP (vs := [.agg (cec x).toArray]) (V := .bool (shapedB x)) EN_86 rfl rfl (rShaped_ok _ x hx) hs fun _ hs => ⟨rfl, hs⟩
  · exact ob [1, 3] [] rfl rfl fun D ρ w hs => L_andC (h' := shapedB x) rfl rfl rfl ⟨rfl, hs⟩
  · exact ob [4] [] rfl rfl fun D ρ w hs => L_move (V := .bool (((tickP s.ticks x.cart).isSome) && (shapedB x))) rfl ⟨rfl, hs⟩
  · exact obg [5] [] (((tickP s.ticks x.cart).isSome) && (shapedB x)) rfl (fun _ => rfl) rfl (fun _ _ _ _ h => h) fun D ρ w hG hs => L_fieldAddr FA_28_0 rfl ⟨rfl, hs⟩
  · exact obgy [5, 6] [] [6] (((tickP s.ticks x.cart).isSome) && (shapedB x)) rfl (fun _ => rfl) rfl (fun _ _ _ _ h => h) (fun hG => ⟨hG, trivial⟩) fun D ρ w hG hs => L_ldA (vs := vc s.known) SA_24 hs 0 rfl rfl rfl rfl ⟨rfl, hs⟩
  · exact obg [5] [] (((tickP s.ticks x.cart).isSome) && (shapedB x)) rfl (fun _ => rfl) rfl (fun _ _ _ _ h => h) fun D ρ w hG hs => L_fieldAddr FA_88_4 rfl ⟨rfl, hs⟩
  · exact obgy [5, 8] [] [8] (((tickP s.ticks x.cart).isSome) && (shapedB x)) rfl (fun _ => rfl) rfl (fun _ _ _ _ h => h) (fun hG => ⟨hG, trivial⟩) fun D ρ w hG hs => L_ldA (vs := dc x.dot) SA_30 hs 1 rfl rfl rfl rfl ⟨rfl, hs⟩
  · exact obgy [5, 7, 9] [] [7, 9] (((tickP s.ticks x.cart).isSome) && (shapedB x)) rfl (fun _ => rfl) rfl (fun _ _ _ _ h => h) (fun hG => ⟨hG, hG, trivial⟩) fun D ρ w hG hs => L_callP (vs := [.agg (vc s.known).toArray, .agg (dc x.dot).toArray]) (V := .bool (hasB s.known x.dot)) EN_52 rfl rfl (rHas_ok _ s.known x.dot (by first | assumption | exact dotOk_mk (by omega) (by omega) (by omega) (by omega))) hs fun _ hs => ⟨rfl, hs⟩
  · exact ob [5, 10] [] rfl rfl fun D ρ w hs => L_andC (h' := hasB s.known x.dot) rfl rfl rfl ⟨rfl, hs⟩
  · exact ob [11] [] rfl rfl fun D ρ w hs => L_move (V := .bool ((((tickP s.ticks x.cart).isSome) && (shapedB x)) && (hasB s.known x.dot))) rfl ⟨rfl, hs⟩
  · exact obg [12] [] ((((tickP s.ticks x.cart).isSome) && (shapedB x)) && (hasB s.known x.dot)) rfl (fun _ => rfl) rfl (fun _ _ _ _ h => h) fun D ρ w hG hs => L_fieldAddr FA_88_5 rfl ⟨rfl, hs⟩
  · exact obgy [12, 13] [] [13] ((((tickP s.ticks x.cart).isSome) && (shapedB x)) && (hasB s.known x.dot)) rfl (fun _ => rfl) rfl (fun _ _ _ _ h => h) (fun hG => ⟨hG, trivial⟩) fun D ρ w hG hs => L_ld (V := .int .u64 x.count) S1_54 hs 1 rfl rfl rfl ⟨rfl, hs⟩
  · exact obgy [12, 14] [] [14] ((((tickP s.ticks x.cart).isSome) && (shapedB x)) && (hasB s.known x.dot)) rfl (fun _ => rfl) rfl (fun _ _ _ _ h => h) (fun hG => ⟨hG, trivial⟩) fun D ρ w hG hs => L_geq rfl rfl ⟨rfl, hs⟩
  · exact ob [12, 15] [] rfl rfl fun D ρ w hs => L_andC (h' := decide (1 ≤ x.count)) rfl rfl rfl ⟨rfl, hs⟩
  · exact ob [16] [] rfl rfl fun D ρ w hs => L_move (V := .bool (((((tickP s.ticks x.cart).isSome) && (shapedB x)) && (hasB s.known x.dot)) && (decide (1 ≤ x.count)))) rfl ⟨rfl, hs⟩
  · exact obg [17] [] (((((tickP s.ticks x.cart).isSome) && (shapedB x)) && (hasB s.known x.dot)) && (decide (1 ≤ x.count))) rfl (fun _ => rfl) rfl (fun _ _ _ _ h => h) fun D ρ w hG hs => L_fieldAddr FA_88_5 rfl ⟨rfl, hs⟩
  · exact obgy [17, 18] [] [18] (((((tickP s.ticks x.cart).isSome) && (shapedB x)) && (hasB s.known x.dot)) && (decide (1 ≤ x.count))) rfl (fun _ => rfl) rfl (fun _ _ _ _ h => h) (fun hG => ⟨hG, trivial⟩) fun D ρ w hG hs => L_ld (V := .int .u64 x.count) S1_54 hs 1 rfl rfl rfl ⟨rfl, hs⟩
  · exact obgy [17, 19] [] [19] (((((tickP s.ticks x.cart).isSome) && (shapedB x)) && (hasB s.known x.dot)) && (decide (1 ≤ x.count))) rfl (fun _ => rfl) rfl (fun _ _ _ _ h => h) (fun hG => ⟨hG, trivial⟩) fun D ρ w hG hs => L_leq rfl rfl ⟨rfl, hs⟩
  · exact ob [17, 20] [] rfl rfl fun D ρ w hs => L_andC (h' := decide (x.count ≤ 16777217)) rfl rfl rfl ⟨rfl, hs⟩
  · exact ob [21] [] rfl rfl fun D ρ w hs => L_assign (V := .bool ((((((tickP s.ticks x.cart).isSome) && (shapedB x)) && (hasB s.known x.dot)) && (decide (1 ≤ x.count))) && (decide (x.count ≤ 16777217)))) rfl ⟨rfl, hs⟩
  rintro ρ1 w8 ρ2 hρ hs
  replace hρ : ρ2 = upd (mix [14, 15, 16, 17, 18, 19, 20, 21, 22, 23, 24, 25, 26, 27, 28, 29, 30, 31, 32, 33, 34, 35, 4] ρ1 _) 4 (.bool ((((((tickP s.ticks x.cart).isSome) && (shapedB x)) && (hasB s.known x.dot)) && (decide (1 ≤ x.count))) && (decide (x.count ≤ 16777217)))) := hρ
  subst hρ
  refine W_ret ?_
  refine ⟨_, res_one (V := .bool ((((((tickP s.ticks x.cart).isSome) && (shapedB x)) && (hasB s.known x.dot)) && (decide (1 ≤ x.count))) && (decide (x.count ≤ 16777217)))) Tryz.results48 rfl, ?_⟩
  refine ⟨congrArg Ending.returned ?_, hs.take 0⟩
  rfl
set_option maxRecDepth 20000 in
set_option maxHeartbeats 4000000 in
theorem rRight8_ok (w : World) (s : Sta) (a1 : Option Addr) (c1 : Nat) (a2 : Option Addr) (c2 : Nat) (hok : StaOk s) (hr1 : Rd w (.slice a1 s.ents.length c1) 7 (s.ents.map cec)) (hr2 : Rd w (.slice a2 s.ticks.length c2) 2 (s.ticks.map lsc)) : Calls Tryz.prog 11 #[.agg ((vc s.known) ++ [(.slice a1 s.ents.length c1 : Value), (.slice a2 s.ticks.length c2 : Value) ]).toArray] w (fun e w' => e = .returned (.bool (rightS s)) ∧ Own w no w' []) := by
  refine calls_of_Wn (n := 95) Tryz.func11 rfl Tryz.ntmps11 rfl ?_
  have hs := Own.start w
  have ⟨hv0, hE0, hT0⟩ := hok
  have hn1 := hr1.sml
  have hn2 := hr2.sml
  refine W_seq ?_
  refine W_region ?_
  refine RW_op (L_box (V := .agg ((vc s.known) ++ [(.slice a1 s.ents.length c1 : Value), (.slice a2 s.ticks.length c2 : Value) ]).toArray) (cs := (vc s.known) ++ [(.slice a1 s.ents.length c1 : Value), (.slice a2 s.ticks.length c2 : Value) ]) rfl rfl hs fun b1 w2 hs => ?_)
  refine RW_op (L_assign (V := .bool false) rfl ?_)
  refine RW_nil ?_
  refine W_seq ?_
  refine W_seq ?_
  refine W_region ?_
  refine RW_op (L_assign (V := .int .i64 0) rfl ?_)
  refine RW_nil ?_
  refine W_block ?_
  refine W_loopI (fun ρ μ ρ' w' => ∃ (ρo : Env) (k : Nat), ρ' = upd (mix [2, 3, 6, 7, 8, 9, 10, 11, 12, 13, 14, 15, 16, 17, 18, 19, 20, 21, 22, 23, 24, 25, 26, 27, 28, 29, 30, 31, 32, 33, 34, 35, 36, 37, 38, 39] ρo ρ) 3 (.int .i64 ((k : Nat) : Int)) ∧ (k ≤ s.ticks.length) ∧ (∀ j : Nat, j < k → badT s.ticks j = false) ∧ μ = s.ticks.length - k ∧ Own w no w' [blk b1 ((vc s.known) ++ [(.slice a1 s.ents.length c1 : Value), (.slice a2 s.ticks.length c2 : Value) ]) 28]) ?_ ?_
  · exact ⟨_, _, 0, upd_of (mix_of (ds := [2, 3, 6, 7, 8, 9, 10, 11, 12, 13, 14, 15, 16, 17, 18, 19, 20, 21, 22, 23, 24, 25, 26, 27, 28, 29, 30, 31, 32, 33, 34, 35, 36, 37, 38, 39]) (Agr.refl _ _)) rfl, (by omega), (fun j hj => absurd hj (Nat.not_lt_zero j)), rfl, hs⟩
  · rintro μ ρ' w3 ⟨ρo, k, rfl, hk, hbt, rfl, hs⟩
    refine W_seq ?_
    refine W_seq ?_
    refine W_region ?_
    refine RW_op (L_move (V := .int .i64 ((k : Nat) : Int)) rfl ?_)
    refine RW_op (L_fieldAddr FA_28_2 rfl ?_)
    refine RW_op (L_ld (V := .slice a2 s.ticks.length c2) S1_26 hs 0 rfl rfl rfl ?_)
    refine RW_op (L_lenR (n := s.ticks.length) UD_26 (Rd.own' hr2 hs) (by simp) rfl ?_)
    refine RW_op (L_lss rfl rfl ?_)
    refine RW_nil ?_
    refine W_cond (t := decide (((k : Nat) : Int) < ((s.ticks.length : Nat) : Int))) rfl (fun c4 => ?_) (fun c4 => ?_)
    ·
      replace c4 := of_decide_eq_true c4
      refine W_skip ?_
      refine W_seq ?_
      refine W_block ?_
      refine W_seq ?_
      refine W_regD HM [some 13, some 14, some 15, some 16, some 17, some 18, some 19, some 20, some 21, some 22, some 23, some 24, some 25, some 26, some 27, some 28, some 29, some 30, some 31, some 32, some 33, some 34, some 35, some 36, some 37, some 38, some 39] [] [0, 1, 0, 7, 15, 31, 63, 127, 255, 511, 1023, 2047, 4095, 2047, 10239, 32767, 65535, 131071, 2047, 264191, 2047, 1837055, 3934207, 8128511, 16777215, 33554431, 67108863] [pv (.pointer (some ⟨b1, 0 + 17, none⟩)), pv (.slice a2 s.ticks.length c2), pv (.int .i64 ((k : Nat) : Int)), pv (.pointer (some ⟨bkS (.slice a2 s.ticks.length c2), ofS (.slice a2 s.ticks.length c2) + ((k : Nat) : Int).toNat * 2, none⟩)), pv (.pointer (some ⟨bkS (.slice a2 s.ticks.length c2), ofS (.slice a2 s.ticks.length c2) + ((k : Nat) : Int).toNat * 2 + 1, none⟩)), pv (.int .u32 ((gd s.ticks k).tick)), pv (.bool (decide (1073741824 < (gd s.ticks k).tick))), pv (.bool (decide (1073741824 < (gd s.ticks k).tick))), pg ((decide (1073741824 < (gd s.ticks k).tick)) == false) (.int .i64 ((k : Nat) : Int)), pg ((decide (1073741824 < (gd s.ticks k).tick)) == false) (.bool (decide (0 < ((k : Nat) : Int)))), pg ((decide (1073741824 < (gd s.ticks k).tick)) == false) (.bool (decide (0 < ((k : Nat) : Int)))), pg (((decide (1073741824 < (gd s.ticks k).tick)) == false) && ((decide (0 < ((k : Nat) : Int))) == true)) (.pointer (some ⟨b1, 0 + 17, none⟩)), pg (((decide (1073741824 < (gd s.ticks k).tick)) == false) && ((decide (0 < ((k : Nat) : Int))) == true)) (.slice a2 s.ticks.length c2), pg (((decide (1073741824 < (gd s.ticks k).tick)) == false) && ((decide (0 < ((k : Nat) : Int))) == true)) (.int .i64 ((k : Nat) : Int)), pg (((decide (1073741824 < (gd s.ticks k).tick)) == false) && ((decide (0 < ((k : Nat) : Int))) == true)) (.int .i64 ((k - 1 : Nat) : Int)), pg (((decide (1073741824 < (gd s.ticks k).tick)) == false) && ((decide (0 < ((k : Nat) : Int))) == true)) (.pointer (some ⟨bkS (.slice a2 s.ticks.length c2), ofS (.slice a2 s.ticks.length c2) + ((k - 1 : Nat) : Int).toNat * 2, none⟩)), pg (((decide (1073741824 < (gd s.ticks k).tick)) == false) && ((decide (0 < ((k : Nat) : Int))) == true)) (.pointer (some ⟨bkS (.slice a2 s.ticks.length c2), ofS (.slice a2 s.ticks.length c2) + ((k - 1 : Nat) : Int).toNat * 2 + 0, none⟩)), pg (((decide (1073741824 < (gd s.ticks k).tick)) == false) && ((decide (0 < ((k : Nat) : Int))) == true)) (.int .u16 ((gd s.ticks (k - 1)).cart)), pg (((decide (1073741824 < (gd s.ticks k).tick)) == false) && ((decide (0 < ((k : Nat) : Int))) == true)) (.pointer (some ⟨b1, 0 + 17, none⟩)), pg (((decide (1073741824 < (gd s.ticks k).tick)) == false) && ((decide (0 < ((k : Nat) : Int))) == true)) (.slice a2 s.ticks.length c2), pg (((decide (1073741824 < (gd s.ticks k).tick)) == false) && ((decide (0 < ((k : Nat) : Int))) == true)) (.int .i64 ((k : Nat) : Int)), pg (((decide (1073741824 < (gd s.ticks k).tick)) == false) && ((decide (0 < ((k : Nat) : Int))) == true)) (.pointer (some ⟨bkS (.slice a2 s.ticks.length c2), ofS (.slice a2 s.ticks.length c2) + ((k : Nat) : Int).toNat * 2, none⟩)), pg (((decide (1073741824 < (gd s.ticks k).tick)) == false) && ((decide (0 < ((k : Nat) : Int))) == true)) (.pointer (some ⟨bkS (.slice a2 s.ticks.length c2), ofS (.slice a2 s.ticks.length c2) + ((k : Nat) : Int).toNat * 2 + 0, none⟩)), pg (((decide (1073741824 < (gd s.ticks k).tick)) == false) && ((decide (0 < ((k : Nat) : Int))) == true)) (.int .u16 ((gd s.ticks k).cart)), pg (((decide (1073741824 < (gd s.ticks k).tick)) == false) && ((decide (0 < ((k : Nat) : Int))) == true)) (.bool (decide ((gd s.ticks k).cart ≤ (gd s.ticks (k - 1)).cart))), pg ((decide (1073741824 < (gd s.ticks k).tick)) == false) (.bool ((decide (0 < ((k : Nat) : Int))) && (decide ((gd s.ticks k).cart ≤ (gd s.ticks (k - 1)).cart)))), pv (.bool ((decide (1073741824 < (gd s.ticks k).tick)) || ((decide (0 < ((k : Nat) : Int))) && (decide ((gd s.ticks k).cart ≤ (gd s.ticks (k - 1)).cart)))))] (fun _ _ => _) [26] (by kernel_rfl) hs ⟨?_, ?_, ?_, ?_, ?_, ?_, ?_, ?_, ?_, ?_, ?_, ?_, ?_, ?_, ?_, ?_, ?_, ?_, ?_, ?_, ?_, ?_, ?_, ?_, ?_, ?_, ?_, trivial⟩ ?_
      · exact ob [] [] rfl rfl fun D ρ w hs => L_fieldAddr FA_28_2 rfl ⟨rfl, hs⟩
      · exact ob [0] [] rfl rfl fun D ρ w hs => L_ld (V := .slice a2 s.ticks.length c2) S1_26 hs 0 rfl rfl rfl ⟨rfl, hs⟩
      · exact ob [] [] rfl rfl fun D ρ w hs => L_move (V := .int .i64 ((k : Nat) : Int)) rfl ⟨rfl, hs⟩
      · exact ob [1, 2] [] rfl rfl fun D ρ w hs => L_ixR UD_26 SA_89.1 (Rd.own' hr2 hs) rfl rfl (by omega) (by rw [List.length_map]; omega) ⟨rfl, hs⟩
      · exact ob [3] [] rfl rfl fun D ρ w hs => L_fieldAddr FA_89_1 rfl ⟨rfl, hs⟩
      · exact ob [4] [] rfl rfl fun D ρ w hs => L_ldR (j := 1) (V := .int .u32 ((gd s.ticks k).tick)) k S1_22 (Rd.own' hr2 hs) (gd_at (by omega)) rfl rfl (by omega) ⟨rfl, hs⟩
      · exact ob [5] [] rfl rfl fun D ρ w hs => L_gtr rfl rfl ⟨rfl, hs⟩
      · exact ob [6] [] rfl rfl fun D ρ w hs => L_move (V := .bool (decide (1073741824 < (gd s.ticks k).tick))) rfl ⟨rfl, hs⟩
      · exact obg [7] [] (decide (1073741824 < (gd s.ticks k).tick)) rfl (fun _ => rfl) rfl (fun _ _ _ _ h => h) fun D ρ w hG hs => L_move (V := .int .i64 ((k : Nat) : Int)) rfl ⟨rfl, hs⟩
      · exact obgy [7, 8] [] [8] (decide (1073741824 < (gd s.ticks k).tick)) rfl (fun _ => rfl) rfl (fun _ _ _ _ h => h) (fun hG => ⟨hG, trivial⟩) fun D ρ w hG hs => L_gtr rfl rfl ⟨rfl, hs⟩
      · exact obgy [7, 9] [] [9] (decide (1073741824 < (gd s.ticks k).tick)) rfl (fun _ => rfl) rfl (fun _ _ _ _ h => h) (fun hG => ⟨hG, trivial⟩) fun D ρ w hG hs => L_move (V := .bool (decide (0 < ((k : Nat) : Int)))) rfl ⟨rfl, hs⟩
      · exact obg [10] [] (decide (0 < ((k : Nat) : Int))) rfl (fun _ => rfl) rfl (fun _ _ _ _ h => h) fun D ρ w hG hs => L_fieldAddr FA_28_2 rfl ⟨rfl, hs⟩
      · exact obgy [10, 11] [] [11] (decide (0 < ((k : Nat) : Int))) rfl (fun _ => rfl) rfl (fun _ _ _ _ h => h) (fun hG => ⟨hG, trivial⟩) fun D ρ w hG hs => L_ld (V := .slice a2 s.ticks.length c2) S1_26 hs 0 rfl rfl rfl ⟨rfl, hs⟩
      · exact obg [10] [] (decide (0 < ((k : Nat) : Int))) rfl (fun _ => rfl) rfl (fun _ _ _ _ h => h) fun D ρ w hG hs => L_move (V := .int .i64 ((k : Nat) : Int)) rfl ⟨rfl, hs⟩
      · refine obgy [10, 13] [] [13] (decide (0 < ((k : Nat) : Int))) rfl (fun _ => rfl) rfl (fun _ _ _ _ h => h) (fun hG => ⟨hG, trivial⟩) fun D ρ w hG hs => ?_
        have hgd0 := of_decide_eq_false (eq_of_beq (and_l (hG)))
        have hgd1 := of_decide_eq_true (eq_of_beq (and_r (hG)))
        exact L_sub (a := ((k : Nat) : Int)) (b := 1) (c := ((k - 1 : Nat) : Int)) rfl rfl (nat_i64 (by omega) (by omega)) ⟨rfl, hs⟩
      · refine obgy [10, 12, 14] [] [12, 14] (decide (0 < ((k : Nat) : Int))) rfl (fun _ => rfl) rfl (fun _ _ _ _ h => h) (fun hG => ⟨hG, hG, trivial⟩) fun D ρ w hG hs => ?_
        have hgd0 := of_decide_eq_false (eq_of_beq (and_l (hG)))
        have hgd1 := of_decide_eq_true (eq_of_beq (and_r (hG)))
        exact L_ixR UD_26 SA_89.1 (Rd.own' hr2 hs) rfl rfl (by omega) (by rw [List.length_map]; omega) ⟨rfl, hs⟩
      · exact obgy [10, 15] [] [15] (decide (0 < ((k : Nat) : Int))) rfl (fun _ => rfl) rfl (fun _ _ _ _ h => h) (fun hG => ⟨hG, trivial⟩) fun D ρ w hG hs => L_fieldAddr FA_89_0 rfl ⟨rfl, hs⟩
      · refine obgy [10, 16] [] [16] (decide (0 < ((k : Nat) : Int))) rfl (fun _ => rfl) rfl (fun _ _ _ _ h => h) (fun hG => ⟨hG, trivial⟩) fun D ρ w hG hs => ?_
        have hgd0 := of_decide_eq_false (eq_of_beq (and_l (hG)))
        have hgd1 := of_decide_eq_true (eq_of_beq (and_r (hG)))
        exact L_ldR (j := 0) (V := .int .u16 ((gd s.ticks (k - 1)).cart)) (k - 1) S1_31 (Rd.own' hr2 hs) (gd_at (by omega)) rfl rfl (by omega) ⟨rfl, hs⟩
      · exact obg [10] [] (decide (0 < ((k : Nat) : Int))) rfl (fun _ => rfl) rfl (fun _ _ _ _ h => h) fun D ρ w hG hs => L_fieldAddr FA_28_2 rfl ⟨rfl, hs⟩
      · exact obgy [10, 18] [] [18] (decide (0 < ((k : Nat) : Int))) rfl (fun _ => rfl) rfl (fun _ _ _ _ h => h) (fun hG => ⟨hG, trivial⟩) fun D ρ w hG hs => L_ld (V := .slice a2 s.ticks.length c2) S1_26 hs 0 rfl rfl rfl ⟨rfl, hs⟩
      · exact obg [10] [] (decide (0 < ((k : Nat) : Int))) rfl (fun _ => rfl) rfl (fun _ _ _ _ h => h) fun D ρ w hG hs => L_move (V := .int .i64 ((k : Nat) : Int)) rfl ⟨rfl, hs⟩
      · refine obgy [10, 19, 20] [] [19, 20] (decide (0 < ((k : Nat) : Int))) rfl (fun _ => rfl) rfl (fun _ _ _ _ h => h) (fun hG => ⟨hG, hG, trivial⟩) fun D ρ w hG hs => ?_
        have hgd0 := of_decide_eq_false (eq_of_beq (and_l (hG)))
        have hgd1 := of_decide_eq_true (eq_of_beq (and_r (hG)))
        exact L_ixR UD_26 SA_89.1 (Rd.own' hr2 hs) rfl rfl (by omega) (by rw [List.length_map]; omega) ⟨rfl, hs⟩
      · exact obgy [10, 21] [] [21] (decide (0 < ((k : Nat) : Int))) rfl (fun _ => rfl) rfl (fun _ _ _ _ h => h) (fun hG => ⟨hG, trivial⟩) fun D ρ w hG hs => L_fieldAddr FA_89_0 rfl ⟨rfl, hs⟩
      · refine obgy [10, 22] [] [22] (decide (0 < ((k : Nat) : Int))) rfl (fun _ => rfl) rfl (fun _ _ _ _ h => h) (fun hG => ⟨hG, trivial⟩) fun D ρ w hG hs => ?_
        have hgd0 := of_decide_eq_false (eq_of_beq (and_l (hG)))
        have hgd1 := of_decide_eq_true (eq_of_beq (and_r (hG)))
        exact L_ldR (j := 0) (V := .int .u16 ((gd s.ticks k).cart)) k S1_31 (Rd.own' hr2 hs) (gd_at (by omega)) rfl rfl (by omega) ⟨rfl, hs⟩
      · exact obgy [10, 17, 23] [] [17, 23] (decide (0 < ((k : Nat) : Int))) rfl (fun _ => rfl) rfl (fun _ _ _ _ h => h) (fun hG => ⟨hG, hG, trivial⟩) fun D ρ w hG hs => L_geq rfl rfl ⟨rfl, hs⟩
      · exact obgy [7, 10, 24] [] [10] (decide (1073741824 < (gd s.ticks k).tick)) rfl (fun _ => rfl) rfl (fun _ _ _ _ h => h) (fun hG => ⟨hG, trivial⟩) fun D ρ w hG hs => L_andN (h' := decide ((gd s.ticks k).cart ≤ (gd s.ticks (k - 1)).cart)) (G := ((decide (1073741824 < (gd s.ticks k).tick)) == false)) hG rfl rfl rfl ⟨rfl, hs⟩
      · exact ob [7, 25] [] rfl rfl fun D ρ w hs => L_orC (h' := (decide (0 < ((k : Nat) : Int))) && (decide ((gd s.ticks k).cart ≤ (gd s.ticks (k - 1)).cart))) rfl rfl rfl ⟨rfl, hs⟩
      rintro ρ1 w5 ρ2 hρ hs
      replace hρ : ρ2 = upd (mix [13, 14, 15, 16, 17, 18, 19, 20, 21, 22, 23, 24, 25, 26, 27, 28, 29, 30, 31, 32, 33, 34, 35, 36, 37, 38, 39] ρ1 _) 39 (.bool ((decide (1073741824 < (gd s.ticks k).tick)) || ((decide (0 < ((k : Nat) : Int))) && (decide ((gd s.ticks k).cart ≤ (gd s.ticks (k - 1)).cart))))) := hρ
      subst hρ
      refine W_cond (t := (decide (1073741824 < (gd s.ticks k).tick)) || ((decide (0 < ((k : Nat) : Int))) && (decide ((gd s.ticks k).cart ≤ (gd s.ticks (k - 1)).cart)))) rfl (fun c6 => ?_) (fun c6 => ?_)
      ·
        refine W_seq ?_
        refine W_region ?_
        refine RW_op (L_assign (V := .bool false) rfl ?_)
        refine RW_nil ?_
        refine W_ret ?_
        refine ⟨_, res_one (V := .bool false) Tryz.results11 rfl, ?_⟩
        refine ⟨congrArg Ending.returned ?_, hs.take 0⟩
        exact congrArg Value.bool (right_badT (i := k) (by omega) (by unfold badT; have hq := c6; simpa using hq)).symm
      ·
        have c6r := or_r c6
        replace c6 := or_l c6
        replace c6 := of_decide_eq_false c6
        refine W_skip ?_
        refine W_region ?_
        refine RW_op (L_move (V := .int .i64 ((k : Nat) : Int)) rfl ?_)
        refine RW_op (L_add (a := ((k : Nat) : Int)) (b := 1) (c := ((k + 1 : Nat) : Int)) rfl rfl (nat_i64 (by omega) (by omega)) ?_)
        refine RW_op (L_assign (V := .int .i64 ((k + 1 : Nat) : Int)) rfl ?_)
        refine RW_nil ?_
        refine ⟨_, ?_, _, k + 1, upd_of (mix_of (ds := [2, 3, 6, 7, 8, 9, 10, 11, 12, 13, 14, 15, 16, 17, 18, 19, 20, 21, 22, 23, 24, 25, 26, 27, 28, 29, 30, 31, 32, 33, 34, 35, 36, 37, 38, 39]) (by repeat (first | exact Agr.refl _ _ | refine Agr.upd ?_ rfl | refine Agr.mix ?_ rfl))) rfl, (by omega), (no_step2 hbt (by unfold badT; rw [decide_eq_false c6, Bool.false_or]; have hq := c6r; simpa using hq)), rfl, hs.take 1⟩
        omega
    ·
      replace c4 := of_decide_eq_false c4
      refine W_exit ?_
      refine W_seq ?_
      refine W_seq ?_
      refine W_region ?_
      refine RW_op (L_assign (V := .int .i64 0) rfl ?_)
      refine RW_nil ?_
      refine W_block ?_
      refine W_loopI (fun ρ μ ρ' w' => ∃ (ρo : Env) (k2 : Nat), ρ' = upd (mix [2, 4, 5, 40, 41, 42, 43, 44, 45, 46, 47, 48, 49, 50, 51, 52, 53, 54, 55, 56, 57, 58, 59, 60, 61, 62, 63, 64, 65, 66, 67, 68, 69, 70, 71, 72, 73, 74, 75, 76, 77, 78, 79, 80, 81, 82, 83, 84, 85, 86, 87, 88, 89, 90, 91] ρo ρ) 4 (.int .i64 ((k2 : Nat) : Int)) ∧ (k2 ≤ s.ents.length) ∧ (∀ j : Nat, j < k2 → badE s j = false) ∧ μ = s.ents.length - k2 ∧ Own w no w' [blk b1 ((vc s.known) ++ [(.slice a1 s.ents.length c1 : Value), (.slice a2 s.ticks.length c2 : Value) ]) 28]) ?_ ?_
      · exact ⟨_, _, 0, upd_of (mix_of (ds := [2, 4, 5, 40, 41, 42, 43, 44, 45, 46, 47, 48, 49, 50, 51, 52, 53, 54, 55, 56, 57, 58, 59, 60, 61, 62, 63, 64, 65, 66, 67, 68, 69, 70, 71, 72, 73, 74, 75, 76, 77, 78, 79, 80, 81, 82, 83, 84, 85, 86, 87, 88, 89, 90, 91]) (Agr.refl _ _)) rfl, (by omega), (fun j hj => absurd hj (Nat.not_lt_zero j)), rfl, hs⟩
      · rintro μ ρ' w7 ⟨ρo, k2, rfl, hk2, hbe, rfl, hs⟩
        refine W_seq ?_
        refine W_seq ?_
        refine W_region ?_
        refine RW_op (L_move (V := .int .i64 ((k2 : Nat) : Int)) rfl ?_)
        refine RW_op (L_fieldAddr FA_28_1 rfl ?_)
        refine RW_op (L_ld (V := .slice a1 s.ents.length c1) S1_25 hs 0 rfl rfl rfl ?_)
        refine RW_op (L_lenR (n := s.ents.length) UD_25 (Rd.own' hr1 hs) (by simp) rfl ?_)
        refine RW_op (L_lss rfl rfl ?_)
        refine RW_nil ?_
        refine W_cond (t := decide (((k2 : Nat) : Int) < ((s.ents.length : Nat) : Int))) rfl (fun c8 => ?_) (fun c8 => ?_)
        ·
          replace c8 := of_decide_eq_true c8
          refine W_skip ?_
          refine W_seq ?_
          refine W_block ?_
          refine W_seq ?_
          refine W_seq ?_
          refine W_regD HM [some 47, some 48, some 49, some 50, some 51, some 52, some 53, some 54, some 55, some 56, some 57, some 58, some 59, some 60, some 61, some 62, some 63, some 64, some 65, some 66, some 67, some 68, some 69, some 70, some 71, some 72, some 73] [] [0, 0, 2, 0, 14, 30, 63, 127, 255, 511, 1023, 2047, 4095, 8191, 4095, 20479, 65535, 131071, 4095, 266239, 4095, 1839103, 3936255, 8388607, 16777215, 33554431, 67108863] [pv (.agg ((vc s.known) ++ [(.slice a1 s.ents.length c1 : Value), (.slice a2 s.ticks.length c2 : Value) ]).toArray), pv (.pointer (some ⟨b1, 0 + 16, none⟩)), pv (.slice a1 s.ents.length c1), pv (.int .i64 ((k2 : Nat) : Int)), pv (.pointer (some ⟨bkS (.slice a1 s.ents.length c1), ofS (.slice a1 s.ents.length c1) + ((k2 : Nat) : Int).toNat * 7, none⟩)), pv (.agg (cec (gd s.ents k2)).toArray), pv (.bool (entB s (gd s.ents k2))), pv (.bool (!(entB s (gd s.ents k2)))), pv (.bool (!(entB s (gd s.ents k2)))), pg ((!(entB s (gd s.ents k2))) == false) (.int .i64 ((k2 : Nat) : Int)), pg ((!(entB s (gd s.ents k2))) == false) (.bool (decide (0 < ((k2 : Nat) : Int)))), pg ((!(entB s (gd s.ents k2))) == false) (.bool (decide (0 < ((k2 : Nat) : Int)))), pg (((!(entB s (gd s.ents k2))) == false) && ((decide (0 < ((k2 : Nat) : Int))) == true)) (.pointer (some ⟨b1, 0 + 16, none⟩)), pg (((!(entB s (gd s.ents k2))) == false) && ((decide (0 < ((k2 : Nat) : Int))) == true)) (.slice a1 s.ents.length c1), pg (((!(entB s (gd s.ents k2))) == false) && ((decide (0 < ((k2 : Nat) : Int))) == true)) (.int .i64 ((k2 : Nat) : Int)), pg (((!(entB s (gd s.ents k2))) == false) && ((decide (0 < ((k2 : Nat) : Int))) == true)) (.int .i64 ((k2 - 1 : Nat) : Int)), pg (((!(entB s (gd s.ents k2))) == false) && ((decide (0 < ((k2 : Nat) : Int))) == true)) (.pointer (some ⟨bkS (.slice a1 s.ents.length c1), ofS (.slice a1 s.ents.length c1) + ((k2 - 1 : Nat) : Int).toNat * 7, none⟩)), pg (((!(entB s (gd s.ents k2))) == false) && ((decide (0 < ((k2 : Nat) : Int))) == true)) (.agg (cec (gd s.ents (k2 - 1))).toArray), pg (((!(entB s (gd s.ents k2))) == false) && ((decide (0 < ((k2 : Nat) : Int))) == true)) (.pointer (some ⟨b1, 0 + 16, none⟩)), pg (((!(entB s (gd s.ents k2))) == false) && ((decide (0 < ((k2 : Nat) : Int))) == true)) (.slice a1 s.ents.length c1), pg (((!(entB s (gd s.ents k2))) == false) && ((decide (0 < ((k2 : Nat) : Int))) == true)) (.int .i64 ((k2 : Nat) : Int)), pg (((!(entB s (gd s.ents k2))) == false) && ((decide (0 < ((k2 : Nat) : Int))) == true)) (.pointer (some ⟨bkS (.slice a1 s.ents.length c1), ofS (.slice a1 s.ents.length c1) + ((k2 : Nat) : Int).toNat * 7, none⟩)), pg (((!(entB s (gd s.ents k2))) == false) && ((decide (0 < ((k2 : Nat) : Int))) == true)) (.agg (cec (gd s.ents k2)).toArray), pg (((!(entB s (gd s.ents k2))) == false) && ((decide (0 < ((k2 : Nat) : Int))) == true)) (.bool (aheadB (gd s.ents (k2 - 1)) (gd s.ents k2))), pg (((!(entB s (gd s.ents k2))) == false) && ((decide (0 < ((k2 : Nat) : Int))) == true)) (.bool (!(aheadB (gd s.ents (k2 - 1)) (gd s.ents k2)))), pg ((!(entB s (gd s.ents k2))) == false) (.bool ((decide (0 < ((k2 : Nat) : Int))) && (!(aheadB (gd s.ents (k2 - 1)) (gd s.ents k2))))), pv (.bool ((!(entB s (gd s.ents k2))) || ((decide (0 < ((k2 : Nat) : Int))) && (!(aheadB (gd s.ents (k2 - 1)) (gd s.ents k2))))))] (fun _ _ => _) [26] (by kernel_rfl) hs ⟨?_, ?_, ?_, ?_, ?_, ?_, ?_, ?_, ?_, ?_, ?_, ?_, ?_, ?_, ?_, ?_, ?_, ?_, ?_, ?_, ?_, ?_, ?_, ?_, ?_, ?_, ?_, trivial⟩ ?_
          · exact ob [] [] rfl rfl fun D ρ w hs => L_ldW (cs := (vc s.known) ++ [(.slice a1 s.ents.length c1 : Value), (.slice a2 s.ticks.length c2 : Value) ]) SA_28 hs 0 rfl rfl rfl ⟨rfl, hs⟩
          · exact ob [] [] rfl rfl fun D ρ w hs => L_fieldAddr FA_28_1 rfl ⟨rfl, hs⟩
          · exact ob [1] [] rfl rfl fun D ρ w hs => L_ld (V := .slice a1 s.ents.length c1) S1_25 hs 0 rfl rfl rfl ⟨rfl, hs⟩
          · exact ob [] [] rfl rfl fun D ρ w hs => L_move (V := .int .i64 ((k2 : Nat) : Int)) rfl ⟨rfl, hs⟩
          · exact ob [2, 3] [] rfl rfl fun D ρ w hs => L_ixR UD_25 SA_88.1 (Rd.own' hr1 hs) rfl rfl (by omega) (by rw [List.length_map]; omega) ⟨rfl, hs⟩
          · exact ob [4] [] rfl rfl fun D ρ w hs => L_ldRA (j := 0) (vs := cec (gd s.ents k2)) k2 SA_88 (Rd.own' hr1 hs) (gd_at (by omega)) rfl rfl rfl (by omega) ⟨rfl, hs⟩
          · exact ob [0, 5] [] rfl rfl fun D ρ w hs => L_callP (vs := [.agg ((vc s.known) ++ [(.slice a1 s.ents.length c1 : Value), (.slice a2 s.ticks.length c2 : Value) ]).toArray, .agg (cec (gd s.ents k2)).toArray]) (V := .bool (entB s (gd s.ents k2))) EN_48 rfl rfl (rright_ok _ s a1 c1 a2 c2 (gd s.ents k2) (hE0 _ (gd_mem (by omega))) (Rd.own' hr1 hs) (Rd.own' hr2 hs)) hs fun _ hs => ⟨rfl, hs⟩
          · exact ob [6] [] rfl rfl fun D ρ w hs => L_not rfl ⟨rfl, hs⟩
          · exact ob [7] [] rfl rfl fun D ρ w hs => L_move (V := .bool (!(entB s (gd s.ents k2)))) rfl ⟨rfl, hs⟩
          · exact obg [8] [] (!(entB s (gd s.ents k2))) rfl (fun _ => rfl) rfl (fun _ _ _ _ h => h) fun D ρ w hG hs => L_move (V := .int .i64 ((k2 : Nat) : Int)) rfl ⟨rfl, hs⟩
          · exact obgy [8, 9] [] [9] (!(entB s (gd s.ents k2))) rfl (fun _ => rfl) rfl (fun _ _ _ _ h => h) (fun hG => ⟨hG, trivial⟩) fun D ρ w hG hs => L_gtr rfl rfl ⟨rfl, hs⟩
          · exact obgy [8, 10] [] [10] (!(entB s (gd s.ents k2))) rfl (fun _ => rfl) rfl (fun _ _ _ _ h => h) (fun hG => ⟨hG, trivial⟩) fun D ρ w hG hs => L_move (V := .bool (decide (0 < ((k2 : Nat) : Int)))) rfl ⟨rfl, hs⟩
          · exact obg [11] [] (decide (0 < ((k2 : Nat) : Int))) rfl (fun _ => rfl) rfl (fun _ _ _ _ h => h) fun D ρ w hG hs => L_fieldAddr FA_28_1 rfl ⟨rfl, hs⟩
          · exact obgy [11, 12] [] [12] (decide (0 < ((k2 : Nat) : Int))) rfl (fun _ => rfl) rfl (fun _ _ _ _ h => h) (fun hG => ⟨hG, trivial⟩) fun D ρ w hG hs => L_ld (V := .slice a1 s.ents.length c1) S1_25 hs 0 rfl rfl rfl ⟨rfl, hs⟩
          · exact obg [11] [] (decide (0 < ((k2 : Nat) : Int))) rfl (fun _ => rfl) rfl (fun _ _ _ _ h => h) fun D ρ w hG hs => L_move (V := .int .i64 ((k2 : Nat) : Int)) rfl ⟨rfl, hs⟩
          · refine obgy [11, 14] [] [14] (decide (0 < ((k2 : Nat) : Int))) rfl (fun _ => rfl) rfl (fun _ _ _ _ h => h) (fun hG => ⟨hG, trivial⟩) fun D ρ w hG hs => ?_
            have hgd1 := of_decide_eq_true (eq_of_beq (and_r (hG)))
            exact L_sub (a := ((k2 : Nat) : Int)) (b := 1) (c := ((k2 - 1 : Nat) : Int)) rfl rfl (nat_i64 (by omega) (by omega)) ⟨rfl, hs⟩
          · refine obgy [11, 13, 15] [] [13, 15] (decide (0 < ((k2 : Nat) : Int))) rfl (fun _ => rfl) rfl (fun _ _ _ _ h => h) (fun hG => ⟨hG, hG, trivial⟩) fun D ρ w hG hs => ?_
            have hgd1 := of_decide_eq_true (eq_of_beq (and_r (hG)))
            exact L_ixR UD_25 SA_88.1 (Rd.own' hr1 hs) rfl rfl (by omega) (by rw [List.length_map]; omega) ⟨rfl, hs⟩
          · refine obgy [11, 16] [] [16] (decide (0 < ((k2 : Nat) : Int))) rfl (fun _ => rfl) rfl (fun _ _ _ _ h => h) (fun hG => ⟨hG, trivial⟩) fun D ρ w hG hs => ?_
            have hgd1 := of_decide_eq_true (eq_of_beq (and_r (hG)))
            exact L_ldRA (j := 0) (vs := cec (gd s.ents (k2 - 1))) (k2 - 1) SA_88 (Rd.own' hr1 hs) (gd_at (by omega)) rfl rfl rfl (by omega) ⟨rfl, hs⟩
          · exact obg [11] [] (decide (0 < ((k2 : Nat) : Int))) rfl (fun _ => rfl) rfl (fun _ _ _ _ h => h) fun D ρ w hG hs => L_fieldAddr FA_28_1 rfl ⟨rfl, hs⟩
          · exact obgy [11, 18] [] [18] (decide (0 < ((k2 : Nat) : Int))) rfl (fun _ => rfl) rfl (fun _ _ _ _ h => h) (fun hG => ⟨hG, trivial⟩) fun D ρ w hG hs => L_ld (V := .slice a1 s.ents.length c1) S1_25 hs 0 rfl rfl rfl ⟨rfl, hs⟩
          · exact obg [11] [] (decide (0 < ((k2 : Nat) : Int))) rfl (fun _ => rfl) rfl (fun _ _ _ _ h => h) fun D ρ w hG hs => L_move (V := .int .i64 ((k2 : Nat) : Int)) rfl ⟨rfl, hs⟩
          · refine obgy [11, 19, 20] [] [19, 20] (decide (0 < ((k2 : Nat) : Int))) rfl (fun _ => rfl) rfl (fun _ _ _ _ h => h) (fun hG => ⟨hG, hG, trivial⟩) fun D ρ w hG hs => ?_
            have hgd1 := of_decide_eq_true (eq_of_beq (and_r (hG)))
            exact L_ixR UD_25 SA_88.1 (Rd.own' hr1 hs) rfl rfl (by omega) (by rw [List.length_map]; omega) ⟨rfl, hs⟩
          · refine obgy [11, 21] [] [21] (decide (0 < ((k2 : Nat) : Int))) rfl (fun _ => rfl) rfl (fun _ _ _ _ h => h) (fun hG => ⟨hG, trivial⟩) fun D ρ w hG hs => ?_
            have hgd1 := of_decide_eq_true (eq_of_beq (and_r (hG)))
            exact L_ldRA (j := 0) (vs := cec (gd s.ents k2)) k2 SA_88 (Rd.own' hr1 hs) (gd_at (by omega)) rfl rfl rfl (by omega) ⟨rfl, hs⟩
          · exact obgy [11, 17, 22] [] [17, 22] (decide (0 < ((k2 : Nat) : Int))) rfl (fun _ => rfl) rfl (fun _ _ _ _ h => h) (fun hG => ⟨hG, hG, trivial⟩) fun D ρ w hG hs => L_callP (vs := [.agg (cec (gd s.ents (k2 - 1))).toArray, .agg (cec (gd s.ents k2)).toArray]) (V := .bool (aheadB (gd s.ents (k2 - 1)) (gd s.ents k2))) EN_49 rfl rfl (ahead_ok _ (gd s.ents (k2 - 1)) (gd s.ents k2)) hs fun _ hs => ⟨rfl, hs⟩
          · exact obgy [11, 23] [] [23] (decide (0 < ((k2 : Nat) : Int))) rfl (fun _ => rfl) rfl (fun _ _ _ _ h => h) (fun hG => ⟨hG, trivial⟩) fun D ρ w hG hs => L_not rfl ⟨rfl, hs⟩
          · exact obgy [8, 11, 24] [] [11] (!(entB s (gd s.ents k2))) rfl (fun _ => rfl) rfl (fun _ _ _ _ h => h) (fun hG => ⟨hG, trivial⟩) fun D ρ w hG hs => L_andN (h' := !(aheadB (gd s.ents (k2 - 1)) (gd s.ents k2))) (G := ((!(entB s (gd s.ents k2))) == false)) hG rfl rfl rfl ⟨rfl, hs⟩
          · exact ob [8, 25] [] rfl rfl fun D ρ w hs => L_orC (h' := (decide (0 < ((k2 : Nat) : Int))) && (!(aheadB (gd s.ents (k2 - 1)) (gd s.ents k2)))) rfl rfl rfl ⟨rfl, hs⟩
          rintro ρ1 w11 ρ2 hρ hs
          replace hρ : ρ2 = upd (mix [47, 48, 49, 50, 51, 52, 53, 54, 55, 56, 57, 58, 59, 60, 61, 62, 63, 64, 65, 66, 67, 68, 69, 70, 71, 72, 73] ρ1 _) 73 (.bool ((!(entB s (gd s.ents k2))) || ((decide (0 < ((k2 : Nat) : Int))) && (!(aheadB (gd s.ents (k2 - 1)) (gd s.ents k2)))))) := hρ
          subst hρ
          refine W_cond (t := (!(entB s (gd s.ents k2))) || ((decide (0 < ((k2 : Nat) : Int))) && (!(aheadB (gd s.ents (k2 - 1)) (gd s.ents k2))))) rfl (fun c12 => ?_) (fun c12 => ?_)
          ·
            refine W_seq ?_
            refine W_region ?_
            refine RW_op (L_assign (V := .bool false) rfl ?_)
            refine RW_nil ?_
            refine W_ret ?_
            refine ⟨_, res_one (V := .bool false) Tryz.results11 rfl, ?_⟩
            refine ⟨congrArg Ending.returned ?_, hs.take 0⟩
            refine congrArg Value.bool (right_badE (i := k2) (by omega) ?_).symm
            have hq := c12
            unfold badE
            revert hq
            rcases Nat.eq_zero_or_pos k2 with q9 | q9
            · subst q9; cases entB s (gd s.ents 0) <;> simp
            · rw [decide_eq_true (p := 0 < k2) q9, decide_eq_true (p := (0 : Int) < _) (by omega)]; cases entB s (gd s.ents k2) <;> cases aheadB (gd s.ents (k2 - 1)) (gd s.ents k2) <;> simp
          ·
            have c12r := or_r c12
            replace c12 := or_l c12
            replace c12 := not_f c12
            refine W_skip ?_
            refine W_seq ?_
            refine W_region ?_
            refine RW_op (L_assign (V := .int .i64 0) rfl ?_)
            refine RW_nil ?_
            refine W_block ?_
            have hen := c12
            have hah : (decide (0 < k2) && !aheadB (gd s.ents (k2 - 1)) (gd s.ents k2)) = false := by have hq := c12r; simpa using hq
            refine W_loopI (fun ρ μ ρ' w' => ∃ (ρo : Env) (k3 : Nat), ρ' = upd (mix [2, 5, 74, 75, 76, 77, 78, 79, 80, 81, 82, 83, 84, 85, 86, 87, 88, 89, 90, 91] ρo ρ) 5 (.int .i64 ((k3 : Nat) : Int)) ∧ (k3 ≤ k2) ∧ (∀ j : Nat, j < k3 → decide ((gd s.ents j).dot = (gd s.ents k2).dot) = false) ∧ μ = k2 - k3 ∧ Own w no w' [blk b1 ((vc s.known) ++ [(.slice a1 s.ents.length c1 : Value), (.slice a2 s.ticks.length c2 : Value) ]) 28]) ?_ ?_
            · exact ⟨_, _, 0, upd_of (mix_of (ds := [2, 5, 74, 75, 76, 77, 78, 79, 80, 81, 82, 83, 84, 85, 86, 87, 88, 89, 90, 91]) (Agr.refl _ _)) rfl, (by omega), (fun j hj => absurd hj (Nat.not_lt_zero j)), rfl, hs⟩
            · rintro μ ρ' w13 ⟨ρo, k3, rfl, hk3, hdd, rfl, hs⟩
              refine W_seq ?_
              refine W_seq ?_
              refine W_region ?_
              refine RW_op (L_move (V := .int .i64 ((k3 : Nat) : Int)) rfl ?_)
              refine RW_op (L_move (V := .int .i64 ((k2 : Nat) : Int)) rfl ?_)
              refine RW_op (L_lss rfl rfl ?_)
              refine RW_nil ?_
              refine W_cond (t := decide (((k3 : Nat) : Int) < ((k2 : Nat) : Int))) rfl (fun c14 => ?_) (fun c14 => ?_)
              ·
                replace c14 := of_decide_eq_true c14
                refine W_skip ?_
                refine W_seq ?_
                refine W_block ?_
                refine W_seq ?_
                refine W_regD HM [some 79, some 80, some 81, some 82, some 83, some 84, some 85, some 86, some 87, some 88, some 89, some 90, some 91] [] [0, 1, 0, 7, 15, 31, 0, 64, 0, 448, 960, 1984, 4095] [pv (.pointer (some ⟨b1, 0 + 16, none⟩)), pv (.slice a1 s.ents.length c1), pv (.int .i64 ((k3 : Nat) : Int)), pv (.pointer (some ⟨bkS (.slice a1 s.ents.length c1), ofS (.slice a1 s.ents.length c1) + ((k3 : Nat) : Int).toNat * 7, none⟩)), pv (.pointer (some ⟨bkS (.slice a1 s.ents.length c1), ofS (.slice a1 s.ents.length c1) + ((k3 : Nat) : Int).toNat * 7 + 4, none⟩)), pv (.agg (dc ((gd s.ents k3).dot)).toArray), pv (.pointer (some ⟨b1, 0 + 16, none⟩)), pv (.slice a1 s.ents.length c1), pv (.int .i64 ((k2 : Nat) : Int)), pv (.pointer (some ⟨bkS (.slice a1 s.ents.length c1), ofS (.slice a1 s.ents.length c1) + ((k2 : Nat) : Int).toNat * 7, none⟩)), pv (.pointer (some ⟨bkS (.slice a1 s.ents.length c1), ofS (.slice a1 s.ents.length c1) + ((k2 : Nat) : Int).toNat * 7 + 4, none⟩)), pv (.agg (dc ((gd s.ents k2).dot)).toArray), pv (.bool (decide ((gd s.ents k3).dot = (gd s.ents k2).dot)))] (fun _ _ => _) [12] (by kernel_rfl) hs ⟨?_, ?_, ?_, ?_, ?_, ?_, ?_, ?_, ?_, ?_, ?_, ?_, ?_, trivial⟩ ?_
                · exact ob [] [] rfl rfl fun D ρ w hs => L_fieldAddr FA_28_1 rfl ⟨rfl, hs⟩
                · exact ob [0] [] rfl rfl fun D ρ w hs => L_ld (V := .slice a1 s.ents.length c1) S1_25 hs 0 rfl rfl rfl ⟨rfl, hs⟩
                · exact ob [] [] rfl rfl fun D ρ w hs => L_move (V := .int .i64 ((k3 : Nat) : Int)) rfl ⟨rfl, hs⟩
                · exact ob [1, 2] [] rfl rfl fun D ρ w hs => L_ixR UD_25 SA_88.1 (Rd.own' hr1 hs) rfl rfl (by omega) (by rw [List.length_map]; omega) ⟨rfl, hs⟩
                · exact ob [3] [] rfl rfl fun D ρ w hs => L_fieldAddr FA_88_4 rfl ⟨rfl, hs⟩
                · exact ob [4] [] rfl rfl fun D ρ w hs => L_ldRA (j := 4) (vs := dc ((gd s.ents k3).dot)) k3 SA_30 (Rd.own' hr1 hs) (gd_at (by omega)) rfl rfl rfl (by omega) ⟨rfl, hs⟩
                · exact ob [] [] rfl rfl fun D ρ w hs => L_fieldAddr FA_28_1 rfl ⟨rfl, hs⟩
                · exact ob [6] [] rfl rfl fun D ρ w hs => L_ld (V := .slice a1 s.ents.length c1) S1_25 hs 0 rfl rfl rfl ⟨rfl, hs⟩
                · exact ob [] [] rfl rfl fun D ρ w hs => L_move (V := .int .i64 ((k2 : Nat) : Int)) rfl ⟨rfl, hs⟩
                · exact ob [7, 8] [] rfl rfl fun D ρ w hs => L_ixR UD_25 SA_88.1 (Rd.own' hr1 hs) rfl rfl (by omega) (by rw [List.length_map]; omega) ⟨rfl, hs⟩
                · exact ob [9] [] rfl rfl fun D ρ w hs => L_fieldAddr FA_88_4 rfl ⟨rfl, hs⟩
                · exact ob [10] [] rfl rfl fun D ρ w hs => L_ldRA (j := 4) (vs := dc ((gd s.ents k2).dot)) k2 SA_30 (Rd.own' hr1 hs) (gd_at (by omega)) rfl rfl rfl (by omega) ⟨rfl, hs⟩
                · exact ob [5, 11] [] rfl rfl fun D ρ w hs => L_eqA (xs := dc ((gd s.ents k3).dot)) (ys := dc ((gd s.ents k2).dot)) Tryz.eqGuardType30 (EQ_30 ((gd s.ents k3).dot) ((gd s.ents k2).dot)) rfl rfl rfl ⟨rfl, hs⟩
                rintro ρ1 w15 ρ2 hρ hs
                replace hρ : ρ2 = upd (mix [79, 80, 81, 82, 83, 84, 85, 86, 87, 88, 89, 90, 91] ρ1 _) 91 (.bool (decide ((gd s.ents k3).dot = (gd s.ents k2).dot))) := hρ
                subst hρ
                refine W_cond (t := decide ((gd s.ents k3).dot = (gd s.ents k2).dot)) rfl (fun c16 => ?_) (fun c16 => ?_)
                ·
                  replace c16 := of_decide_eq_true c16
                  refine W_seq ?_
                  refine W_region ?_
                  refine RW_op (L_assign (V := .bool false) rfl ?_)
                  refine RW_nil ?_
                  refine W_ret ?_
                  refine ⟨_, res_one (V := .bool false) Tryz.results11 rfl, ?_⟩
                  refine ⟨congrArg Ending.returned ?_, hs.take 0⟩
                  exact congrArg Value.bool (right_badE (i := k2) (by omega) (badE_dup (j := k3) (by omega) (by omega) c16)).symm
                ·
                  replace c16 := of_decide_eq_false c16
                  refine W_skip ?_
                  refine W_region ?_
                  refine RW_op (L_move (V := .int .i64 ((k3 : Nat) : Int)) rfl ?_)
                  refine RW_op (L_add (a := ((k3 : Nat) : Int)) (b := 1) (c := ((k3 + 1 : Nat) : Int)) rfl rfl (nat_i64 (by omega) (by omega)) ?_)
                  refine RW_op (L_assign (V := .int .i64 ((k3 + 1 : Nat) : Int)) rfl ?_)
                  refine RW_nil ?_
                  refine ⟨_, ?_, _, k3 + 1, upd_of (mix_of (ds := [2, 5, 74, 75, 76, 77, 78, 79, 80, 81, 82, 83, 84, 85, 86, 87, 88, 89, 90, 91]) (by repeat (first | exact Agr.refl _ _ | refine Agr.upd ?_ rfl | refine Agr.mix ?_ rfl))) rfl, (by omega), (no_step2 hdd (decide_eq_false c16)), rfl, hs.take 1⟩
                  omega
              ·
                replace c14 := of_decide_eq_false c14
                refine W_exit ?_
                refine W_region ?_
                refine RW_op (L_move (V := .int .i64 ((k2 : Nat) : Int)) rfl ?_)
                refine RW_op (L_add (a := ((k2 : Nat) : Int)) (b := 1) (c := ((k2 + 1 : Nat) : Int)) rfl rfl (nat_i64 (by omega) (by omega)) ?_)
                refine RW_op (L_assign (V := .int .i64 ((k2 + 1 : Nat) : Int)) rfl ?_)
                refine RW_nil ?_
                refine ⟨_, ?_, _, k2 + 1, upd_of (mix_of (ds := [2, 4, 5, 40, 41, 42, 43, 44, 45, 46, 47, 48, 49, 50, 51, 52, 53, 54, 55, 56, 57, 58, 59, 60, 61, 62, 63, 64, 65, 66, 67, 68, 69, 70, 71, 72, 73, 74, 75, 76, 77, 78, 79, 80, 81, 82, 83, 84, 85, 86, 87, 88, 89, 90, 91]) (by repeat (first | exact Agr.refl _ _ | refine Agr.upd ?_ rfl | refine Agr.mix ?_ rfl))) rfl, (by omega), (no_step2 hbe (badE_no (by omega) hen hah fun j hj => hdd j (by omega))), rfl, hs.take 1⟩
                omega
        ·
          replace c8 := of_decide_eq_false c8
          refine W_exit ?_
          refine W_seq ?_
          refine W_region ?_
          refine RW_op (L_fieldAddr FA_28_0 rfl ?_)
          refine RW_op (L_ldA (vs := vc s.known) SA_24 hs 0 rfl rfl rfl rfl ?_)
          refine RW_op (L_callP (vs := [.agg (vc s.known).toArray, .int .i64 16]) (V := .bool (rightB s.known 16)) EN_50 rfl rfl ?hc hs fun w17 hs => ?_)
          case hc => exact (rRight_ok _ s.known 16 (by first | assumption | exact vzero_ok))
          refine RW_op (L_assign (V := .bool (rightB s.known 16)) rfl ?_)
          refine RW_nil ?_
          refine W_ret ?_
          refine ⟨_, res_one (V := .bool (rightB s.known 16)) Tryz.results11 rfl, ?_⟩
          refine ⟨congrArg Ending.returned ?_, hs.take 0⟩
          exact congrArg Value.bool (rightS_fin (fun i hi => hbt i (by omega)) fun i hi => hbe i (by omega)).symm
set_option maxRecDepth 20000 in
set_option maxHeartbeats 4000000 in
theorem few_ok (w : World) (s : Sta) (a1 : Option Addr) (c1 : Nat) (a2 : Option Addr) (c2 : Nat) (hr1 : Rd w (.slice a1 s.ents.length c1) 7 (s.ents.map cec)) (hr2 : Rd w (.slice a2 s.ticks.length c2) 2 (s.ticks.map lsc)) : Calls Tryz.prog 6 #[.agg ((vc s.known) ++ [(.slice a1 s.ents.length c1 : Value), (.slice a2 s.ticks.length c2 : Value) ]).toArray] w (fun e w' => e = .returned (.bool (fewB s)) ∧ Own w no w' []) := by
  refine calls_of_Wn (n := 13) Tryz.func6 rfl Tryz.ntmps6 rfl ?_
  have hs := Own.start w
  refine W_seq ?_
  refine W_region ?_
  refine RW_op (L_box (V := .agg ((vc s.known) ++ [(.slice a1 s.ents.length c1 : Value), (.slice a2 s.ticks.length c2 : Value) ]).toArray) (cs := (vc s.known) ++ [(.slice a1 s.ents.length c1 : Value), (.slice a2 s.ticks.length c2 : Value) ]) rfl rfl hs fun b1 w2 hs => ?_)
  refine RW_op (L_assign (V := .bool false) rfl ?_)
  refine RW_nil ?_
  refine W_seq ?_
  refine W_regO [some 3, some 4, some 5, some 6, some 7, some 8, some 9, some 10, some 11, some 12, some 2] [] [0, 1, 3, 7, 15, 31, 63, 127, 255, 511, 1023] [pv (.pointer (some ⟨b1, 0 + 16, none⟩)), pv (.slice a1 s.ents.length c1), pv (.int .i64 ((s.ents.length : Nat) : Int)), pv (.bool (decide (((s.ents.length : Nat) : Int) ≤ 60))), pv (.bool (decide (((s.ents.length : Nat) : Int) ≤ 60))), pg ((decide (((s.ents.length : Nat) : Int) ≤ 60)) == true) (.pointer (some ⟨b1, 0 + 17, none⟩)), pg ((decide (((s.ents.length : Nat) : Int) ≤ 60)) == true) (.slice a2 s.ticks.length c2), pg ((decide (((s.ents.length : Nat) : Int) ≤ 60)) == true) (.int .i64 ((s.ticks.length : Nat) : Int)), pg ((decide (((s.ents.length : Nat) : Int) ≤ 60)) == true) (.bool (decide (((s.ticks.length : Nat) : Int) ≤ 60))), pv (.bool ((decide (((s.ents.length : Nat) : Int) ≤ 60)) && (decide (((s.ticks.length : Nat) : Int) ≤ 60)))), pv (.bool ((decide (((s.ents.length : Nat) : Int) ≤ 60)) && (decide (((s.ticks.length : Nat) : Int) ≤ 60))))] (fun _ _ => _) [10] (by kernel_rfl) hs ⟨?_, ?_, ?_, ?_, ?_, ?_, ?_, ?_, ?_, ?_, ?_, trivial⟩ ?_
  · exact ob [] [] rfl rfl fun D ρ w hs => L_fieldAddr FA_28_1 rfl ⟨rfl, hs⟩
  · exact ob [0] [] rfl rfl fun D ρ w hs => L_ld (V := .slice a1 s.ents.length c1) S1_25 hs 0 rfl rfl rfl ⟨rfl, hs⟩
  · exact ob [1] [] rfl rfl fun D ρ w hs => L_lenR (n := s.ents.length) UD_25 (Rd.own' hr1 hs) (by simp) rfl ⟨rfl, hs⟩
  · exact ob [2] [] rfl rfl fun D ρ w hs => L_leq rfl rfl ⟨rfl, hs⟩
  · exact ob [3] [] rfl rfl fun D ρ w hs => L_move (V := .bool (decide (((s.ents.length : Nat) : Int) ≤ 60))) rfl ⟨rfl, hs⟩
  · exact obg [4] [] (decide (((s.ents.length : Nat) : Int) ≤ 60)) rfl (fun _ => rfl) rfl (fun _ _ _ _ h => h) fun D ρ w hG hs => L_fieldAddr FA_28_2 rfl ⟨rfl, hs⟩
  · exact obgy [4, 5] [] [5] (decide (((s.ents.length : Nat) : Int) ≤ 60)) rfl (fun _ => rfl) rfl (fun _ _ _ _ h => h) (fun hG => ⟨hG, trivial⟩) fun D ρ w hG hs => L_ld (V := .slice a2 s.ticks.length c2) S1_26 hs 0 rfl rfl rfl ⟨rfl, hs⟩
  · exact obgy [4, 6] [] [6] (decide (((s.ents.length : Nat) : Int) ≤ 60)) rfl (fun _ => rfl) rfl (fun _ _ _ _ h => h) (fun hG => ⟨hG, trivial⟩) fun D ρ w hG hs => L_lenR (n := s.ticks.length) UD_26 (Rd.own' hr2 hs) (by simp) rfl ⟨rfl, hs⟩
  · exact obgy [4, 7] [] [7] (decide (((s.ents.length : Nat) : Int) ≤ 60)) rfl (fun _ => rfl) rfl (fun _ _ _ _ h => h) (fun hG => ⟨hG, trivial⟩) fun D ρ w hG hs => L_leq rfl rfl ⟨rfl, hs⟩
  · exact ob [4, 8] [] rfl rfl fun D ρ w hs => L_andC (h' := decide (((s.ticks.length : Nat) : Int) ≤ 60)) rfl rfl rfl ⟨rfl, hs⟩
  · exact ob [9] [] rfl rfl fun D ρ w hs => L_assign (V := .bool ((decide (((s.ents.length : Nat) : Int) ≤ 60)) && (decide (((s.ticks.length : Nat) : Int) ≤ 60)))) rfl ⟨rfl, hs⟩
  rintro ρ1 w3 ρ2 hρ hs
  replace hρ : ρ2 = upd (mix [3, 4, 5, 6, 7, 8, 9, 10, 11, 12, 2] ρ1 _) 2 (.bool ((decide (((s.ents.length : Nat) : Int) ≤ 60)) && (decide (((s.ticks.length : Nat) : Int) ≤ 60)))) := hρ
  subst hρ
  refine W_ret ?_
  refine ⟨_, res_one (V := .bool ((decide (((s.ents.length : Nat) : Int) ≤ 60)) && (decide (((s.ticks.length : Nat) : Int) ≤ 60)))) Tryz.results6 rfl, ?_⟩
  refine ⟨congrArg Ending.returned ?_, hs.take 0⟩
  rfl
end Tt
end Go.Proofs
namespace Go.Proofs
open Go Go.Vx Go.RowKit
namespace Tt
set_option maxRecDepth 20000 in
set_option maxHeartbeats 4000000 in
theorem rput_ok (w : World) (a : Option Addr) (c : Nat) (l : List Cen) (y : Cen) (hlen : l.length ≤ 10000) (hr : Rd w (.slice a l.length c) 7 (l.map cec)) : Calls Tryz.prog 42 #[.slice a l.length c, .agg (cec y).toArray] w (fun e w' => ∃ x : Option Addr × Nat, e = .returned (.slice x.1 (putE y l).length x.2) ∧ Own w no w' [row (.slice x.1 (putE y l).length x.2) ((putE y l).map cec) 88 7] ∧ True) := by
  refine calls_of_Wn (n := 42) Tryz.func42 rfl Tryz.ntmps42 rfl ?_
  have hs := Own.start w
  refine W_seq ?_
  refine W_region ?_
  refine RW_op (L_box (V := .agg (cec y).toArray) (cs := cec y) rfl rfl hs fun b1 w2 hs => ?_)
  refine RW_op (L_assign (V := .slice none 0 0) rfl ?_)
  refine RW_nil ?_
  refine W_seq ?_
  refine W_region ?_
  refine RW_op (L_assign (V := .slice none 0 0) rfl ?_)
  refine RW_nil ?_
  refine W_seq ?_
  refine W_region ?_
  refine RW_op (L_assign (V := .bool false) rfl ?_)
  refine RW_nil ?_
  refine W_seq ?_
  refine W_seq ?_
  refine W_region ?_
  refine RW_op (L_assign (V := .int .i64 0) rfl ?_)
  refine RW_nil ?_
  refine W_block ?_
  replace hs := hs.more (row (.slice none 0 0) (List.map cec []) 88 7) (row_nil _ _ _ _)
  refine W_loopI (fun ρ μ ρ' w' => ∃ (ρo : Env) (k : Nat) (an : Option Addr) (cn : Nat) (out : List Cen) (dn : Bool), ρ' = upd (upd (upd (mix [5, 6, 7, 8, 9, 10, 11, 12, 13, 14, 15, 16, 17, 18, 19, 20, 21, 22, 23, 24, 25, 26, 27, 28, 29, 30, 31, 32, 33, 34] ρo ρ) 7 (.int .i64 ((k : Nat) : Int))) 5 (.slice an out.length cn)) 6 (.bool dn) ∧ (k ≤ l.length) ∧ (out.length ≤ 2 * k) ∧ (putE y l = out ++ cond dn (l.drop k) (putE y (l.drop k))) ∧ μ = l.length - k ∧ Own w no w' [blk b1 (cec y) 88, row (.slice an out.length cn) (out.map cec) 88 7]) ?_ ?_
  · exact ⟨_, _, 0, none, 0, [], false, upd_of (upd_of (upd_of (mix_of (ds := [5, 6, 7, 8, 9, 10, 11, 12, 13, 14, 15, 16, 17, 18, 19, 20, 21, 22, 23, 24, 25, 26, 27, 28, 29, 30, 31, 32, 33, 34]) (Agr.refl _ _)) rfl) rfl) rfl, (by omega), (Nat.zero_le _), rfl, rfl, hs⟩
  · rintro μ ρ' w3 ⟨ρo, k, an, cn, out, dn, rfl, hk, hol, hput, rfl, hs⟩
    refine W_seq ?_
    refine W_seq ?_
    refine W_region ?_
    refine RW_op (L_move (V := .int .i64 ((k : Nat) : Int)) rfl ?_)
    refine RW_op (L_move (V := .slice a l.length c) rfl ?_)
    refine RW_op (L_lenR (n := l.length) UD_25 (Rd.own' hr hs) (by simp) rfl ?_)
    refine RW_op (L_lss rfl rfl ?_)
    refine RW_nil ?_
    refine W_cond (t := decide (((k : Nat) : Int) < ((l.length : Nat) : Int))) rfl (fun c4 => ?_) (fun c4 => ?_)
    ·
      replace c4 := of_decide_eq_true c4
      refine W_skip ?_
      refine W_seq ?_
      refine W_block ?_
      refine W_seq ?_
      refine W_seq ?_
      refine W_regD HM [some 14, some 15, some 16, some 17, some 18, some 19, some 20, some 21, some 22, some 23] [] [0, 1, 3, 7, 7, 7, 55, 119, 255, 511] [pv (.bool dn), pv (.bool (!dn)), pv (.bool (!dn)), pg ((!dn) == true) (.agg (cec y).toArray), pg ((!dn) == true) (.slice a l.length c), pg ((!dn) == true) (.int .i64 ((k : Nat) : Int)), pg ((!dn) == true) (.pointer (some ⟨bkS (.slice a l.length c), ofS (.slice a l.length c) + ((k : Nat) : Int).toNat * 7, none⟩)), pg ((!dn) == true) (.agg (cec (gd l k)).toArray), pg ((!dn) == true) (.bool (aheadB y (gd l k))), pv (.bool ((!dn) && (aheadB y (gd l k))))] (fun _ _ => _) [9] (by kernel_rfl) hs ⟨?_, ?_, ?_, ?_, ?_, ?_, ?_, ?_, ?_, ?_, trivial⟩ ?_
      · exact ob [] [] rfl rfl fun D ρ w hs => L_move (V := .bool dn) rfl ⟨rfl, hs⟩
      · exact ob [0] [] rfl rfl fun D ρ w hs => L_not rfl ⟨rfl, hs⟩
      · exact ob [1] [] rfl rfl fun D ρ w hs => L_move (V := .bool (!dn)) rfl ⟨rfl, hs⟩
      · exact obg [2] [] (!dn) rfl (fun _ => rfl) rfl (fun _ _ _ _ h => h) fun D ρ w hG hs => L_ldW (cs := cec y) SA_88 hs 0 rfl rfl rfl ⟨rfl, hs⟩
      · exact obg [2] [] (!dn) rfl (fun _ => rfl) rfl (fun _ _ _ _ h => h) fun D ρ w hG hs => L_move (V := .slice a l.length c) rfl ⟨rfl, hs⟩
      · exact obg [2] [] (!dn) rfl (fun _ => rfl) rfl (fun _ _ _ _ h => h) fun D ρ w hG hs => L_move (V := .int .i64 ((k : Nat) : Int)) rfl ⟨rfl, hs⟩
      · exact obgy [2, 4, 5] [] [4, 5] (!dn) rfl (fun _ => rfl) rfl (fun _ _ _ _ h => h) (fun hG => ⟨hG, hG, trivial⟩) fun D ρ w hG hs => L_ixR UD_25 SA_88.1 (Rd.own' hr hs) rfl rfl (by omega) (by rw [List.length_map]; omega) ⟨rfl, hs⟩
      · exact obgy [2, 6] [] [6] (!dn) rfl (fun _ => rfl) rfl (fun _ _ _ _ h => h) (fun hG => ⟨hG, trivial⟩) fun D ρ w hG hs => L_ldRA (j := 0) (vs := cec (gd l k)) k SA_88 (Rd.own' hr hs) (gd_at (by omega)) rfl rfl rfl (by omega) ⟨rfl, hs⟩
      · exact obgy [2, 3, 7] [] [3, 7] (!dn) rfl (fun _ => rfl) rfl (fun _ _ _ _ h => h) (fun hG => ⟨hG, hG, trivial⟩) fun D ρ w hG hs => L_callP (vs := [.agg (cec y).toArray, .agg (cec (gd l k)).toArray]) (V := .bool (aheadB y (gd l k))) EN_49 rfl rfl (ahead_ok _ y (gd l k)) hs fun _ hs => ⟨rfl, hs⟩
      · exact ob [2, 8] [] rfl rfl fun D ρ w hs => L_andC (h' := aheadB y (gd l k)) rfl rfl rfl ⟨rfl, hs⟩
      rintro ρ1 w6 ρ2 hρ hs
      replace hρ : ρ2 = upd (mix [14, 15, 16, 17, 18, 19, 20, 21, 22, 23] ρ1 _) 23 (.bool ((!dn) && (aheadB y (gd l k)))) := hρ
      subst hρ
      refine W_cond (t := (!dn) && (aheadB y (gd l k))) rfl (fun c7 => ?_) (fun c7 => ?_)
      ·
        have c7r := and_r c7
        replace c7 := and_l c7
        replace c7 := not_t c7
        refine W_seq ?_
        refine W_region ?_
        refine RW_op (L_move (V := .slice an out.length cn) rfl ?_)
        refine RW_op (L_ldW (cs := cec y) SA_88 hs 0 rfl rfl rfl ?_)
        refine RW_op (L_bs (vals := [.agg (cec y).toArray]) (ls := List.map cec ([y] : List Cen)) EL_25 rfl rfl rfl (len_map (enc := cec) (fun _ => rfl) _) (one_map cec_one _) (Nat.le_of_ble_eq_true rfl) hs fun b8 w9 hs => ?_)
        refine RW_op (L_appN (ls' := (out ++ [y]).map cec) (n := (out ++ [y]).length) EL_25 hs 1 rfl rfl rfl (hs.rd 2 rfl) (one_map cec_one _) (by simp only [List.length_map, List.length_append, List.length_cons, List.length_nil]; omega) (by simp) (by simp) fun a10 c10 w11 hs => ?_)
        refine RW_op (L_assign (V := .slice a10 ((out ++ [y]).length) c10) rfl ?_)
        refine RW_nil ?_
        refine W_region ?_
        refine RW_op (L_assign (V := .bool true) rfl ?_)
        refine RW_nil ?_
        refine W_region ?_
        refine RW_op (L_move (V := .slice a10 ((out ++ [y]).length) c10) rfl ?_)
        refine RW_op (L_move (V := .slice a l.length c) rfl ?_)
        refine RW_op (L_move (V := .int .i64 ((k : Nat) : Int)) rfl ?_)
        refine RW_op (L_ixR UD_25 SA_88.1 (Rd.own' hr hs) rfl rfl (by omega) (by rw [List.length_map]; omega) ?_)
        refine RW_op (L_ldRA (j := 0) (vs := cec (gd l k)) k SA_88 (Rd.own' hr hs) (gd_at (by omega)) rfl rfl rfl (by omega) ?_)
        refine RW_op (L_bs (vals := [.agg (cec (gd l k)).toArray]) (ls := List.map cec ([gd l k] : List Cen)) EL_25 rfl rfl rfl (len_map (enc := cec) (fun _ => rfl) _) (one_map cec_one _) (Nat.le_of_ble_eq_true rfl) hs fun b12 w13 hs => ?_)
        replace hs : Own w no w13 [blk b1 (cec y) 88, row (.slice a10 ((out ++ [y]).length) c10) ((out ++ [y]).map cec) 88 7, row (.slice (some ⟨b8, 0, none⟩) 1 1) ([y].map cec) 88 7, row (.slice (some ⟨b12, 0, none⟩) 1 1) ([gd l k].map cec) 88 7] := hs
        refine RW_op (L_appN (ls' := ((out ++ [y]) ++ [gd l k]).map cec) (n := ((out ++ [y]) ++ [gd l k]).length) EL_25 hs 1 rfl rfl rfl (hs.rd 3 rfl) (one_map cec_one _) (by simp only [List.length_map, List.length_append, List.length_cons, List.length_nil]; omega) (by simp) (by simp) fun a14 c14 w15 hs => ?_)
        refine RW_op (L_assign (V := .slice a14 (((out ++ [y]) ++ [gd l k]).length) c14) rfl ?_)
        refine RW_nil ?_
        refine W_region ?_
        refine RW_op (L_move (V := .int .i64 ((k : Nat) : Int)) rfl ?_)
        refine RW_op (L_add (a := ((k : Nat) : Int)) (b := 1) (c := ((k + 1 : Nat) : Int)) rfl rfl (nat_i64 (by omega) (by omega)) ?_)
        refine RW_op (L_assign (V := .int .i64 ((k + 1 : Nat) : Int)) rfl ?_)
        refine RW_nil ?_
        refine ⟨_, ?_, _, k + 1, a14, c14, (out ++ [y]) ++ [gd l k], true, upd_of (upd_of (upd_of (mix_of (ds := [5, 6, 7, 8, 9, 10, 11, 12, 13, 14, 15, 16, 17, 18, 19, 20, 21, 22, 23, 24, 25, 26, 27, 28, 29, 30, 31, 32, 33, 34]) (by repeat (first | exact Agr.refl _ _ | refine Agr.upd ?_ rfl | refine Agr.mix ?_ rfl))) rfl) rfl) rfl, (by omega), (by simp only [List.length_append, List.length_singleton]; omega), (put_ins hput (by omega) c7 c7r), rfl, hs.take 2⟩
        omega
      ·
        refine W_skip ?_
        refine W_region ?_
        refine RW_op (L_move (V := .slice an out.length cn) rfl ?_)
        refine RW_op (L_move (V := .slice a l.length c) rfl ?_)
        refine RW_op (L_move (V := .int .i64 ((k : Nat) : Int)) rfl ?_)
        refine RW_op (L_ixR UD_25 SA_88.1 (Rd.own' hr hs) rfl rfl (by omega) (by rw [List.length_map]; omega) ?_)
        refine RW_op (L_ldRA (j := 0) (vs := cec (gd l k)) k SA_88 (Rd.own' hr hs) (gd_at (by omega)) rfl rfl rfl (by omega) ?_)
        refine RW_op (L_bs (vals := [.agg (cec (gd l k)).toArray]) (ls := List.map cec ([gd l k] : List Cen)) EL_25 rfl rfl rfl (len_map (enc := cec) (fun _ => rfl) _) (one_map cec_one _) (Nat.le_of_ble_eq_true rfl) hs fun b16 w17 hs => ?_)
        refine RW_op (L_appN (ls' := (out ++ [gd l k]).map cec) (n := (out ++ [gd l k]).length) EL_25 hs 1 rfl rfl rfl (hs.rd 2 rfl) (one_map cec_one _) (by simp only [List.length_map, List.length_append, List.length_cons, List.length_nil]; omega) (by simp) (by simp) fun a18 c18 w19 hs => ?_)
        refine RW_op (L_assign (V := .slice a18 ((out ++ [gd l k]).length) c18) rfl ?_)
        refine RW_nil ?_
        refine W_region ?_
        refine RW_op (L_move (V := .int .i64 ((k : Nat) : Int)) rfl ?_)
        refine RW_op (L_add (a := ((k : Nat) : Int)) (b := 1) (c := ((k + 1 : Nat) : Int)) rfl rfl (nat_i64 (by omega) (by omega)) ?_)
        refine RW_op (L_assign (V := .int .i64 ((k + 1 : Nat) : Int)) rfl ?_)
        refine RW_nil ?_
        refine ⟨_, ?_, _, k + 1, a18, c18, out ++ [gd l k], dn, upd_of (upd_of (upd_of (mix_of (ds := [5, 6, 7, 8, 9, 10, 11, 12, 13, 14, 15, 16, 17, 18, 19, 20, 21, 22, 23, 24, 25, 26, 27, 28, 29, 30, 31, 32, 33, 34]) (by repeat (first | exact Agr.refl _ _ | refine Agr.upd ?_ rfl | refine Agr.mix ?_ rfl))) rfl) rfl) rfl, (by omega), (by simp only [List.length_append, List.length_singleton]; omega), (put_go hput (by omega) c7), rfl, hs.take 2⟩
        omega
    ·
      replace c4 := of_decide_eq_false c4
      refine W_exit ?_
      refine W_seq ?_
      refine W_seq ?_
      refine W_region ?_
      refine RW_op (L_move (V := .bool dn) rfl ?_)
      refine RW_op (L_not rfl ?_)
      refine RW_nil ?_
      refine W_cond (t := !dn) rfl (fun c20 => ?_) (fun c20 => ?_)
      ·
        replace c20 := not_t c20
        refine W_region ?_
        refine RW_op (L_move (V := .slice an out.length cn) rfl ?_)
        refine RW_op (L_ldW (cs := cec y) SA_88 hs 0 rfl rfl rfl ?_)
        refine RW_op (L_bs (vals := [.agg (cec y).toArray]) (ls := List.map cec ([y] : List Cen)) EL_25 rfl rfl rfl (len_map (enc := cec) (fun _ => rfl) _) (one_map cec_one _) (Nat.le_of_ble_eq_true rfl) hs fun b21 w22 hs => ?_)
        refine RW_op (L_appN (ls' := (out ++ [y]).map cec) (n := (out ++ [y]).length) EL_25 hs 1 rfl rfl rfl (hs.rd 2 rfl) (one_map cec_one _) (by simp only [List.length_map, List.length_append, List.length_cons, List.length_nil]; omega) (by simp) (by simp) fun a23 c23 w24 hs => ?_)
        refine RW_op (L_assign (V := .slice a23 ((out ++ [y]).length) c23) rfl ?_)
        refine RW_nil ?_
        refine W_seq ?_
        refine W_region ?_
        refine RW_op (L_move (V := .slice a23 ((out ++ [y]).length) c23) rfl ?_)
        refine RW_op (L_assign (V := .slice a23 ((out ++ [y]).length) c23) rfl ?_)
        refine RW_nil ?_
        refine W_ret ?_
        refine ⟨_, res_one (V := .slice a23 ((out ++ [y]).length) c23) Tryz.results42 rfl, ?_⟩
        have hX := (put_end hput (by omega)).2 c20
        rw [← hX] at hs ⊢
        exact ⟨(a23, c23), rfl, hs.only 1 rfl, trivial⟩
      ·
        replace c20 := not_f c20
        refine W_skip ?_
        refine W_seq ?_
        refine W_region ?_
        refine RW_op (L_move (V := .slice an out.length cn) rfl ?_)
        refine RW_op (L_assign (V := .slice an out.length cn) rfl ?_)
        refine RW_nil ?_
        refine W_ret ?_
        refine ⟨_, res_one (V := .slice an out.length cn) Tryz.results42 rfl, ?_⟩
        have hX := (put_end hput (by omega)).1 c20
        rw [← hX] at hs ⊢
        exact ⟨(an, cn), rfl, hs.only 1 rfl, trivial⟩
set_option maxRecDepth 20000 in
set_option maxHeartbeats 4000000 in
theorem rticked_ok (w : World) (a : Option Addr) (ca : Nat) (l : List Lst) (c t : Int) (hlen : l.length ≤ 10000) (hT : RisT l) (hr : Rd w (.slice a l.length ca) 2 (l.map lsc)) : Calls Tryz.prog 43 #[.slice a l.length ca, .int .u16 c, .int .u32 t] w (fun e w' => ∃ x : Option Addr × Nat, e = .returned (.slice x.1 (putT c t l).length x.2) ∧ Own w no w' [row (.slice x.1 (putT c t l).length x.2) ((putT c t l).map lsc) 89 2] ∧ True) := by
  refine calls_of_Wn (n := 57) Tryz.func43 rfl Tryz.ntmps43 rfl ?_
  have hs := Own.start w
  refine W_seq ?_
  refine W_region ?_
  refine RW_op (L_assign (V := .slice none 0 0) rfl ?_)
  refine RW_nil ?_
  refine W_seq ?_
  refine W_region ?_
  refine RW_op (L_assign (V := .slice none 0 0) rfl ?_)
  refine RW_nil ?_
  refine W_seq ?_
  refine W_region ?_
  refine RW_op (L_assign (V := .bool false) rfl ?_)
  refine RW_nil ?_
  refine W_seq ?_
  refine W_seq ?_
  refine W_region ?_
  refine RW_op (L_assign (V := .int .i64 0) rfl ?_)
  refine RW_nil ?_
  refine W_block ?_
  replace hs := hs.more (row (.slice none 0 0) (List.map lsc []) 89 2) (row_nil _ _ _ _)
  refine W_loopI (fun ρ μ ρ' w' => ∃ (ρo : Env) (k : Nat) (an : Option Addr) (cn : Nat) (out : List Lst) (dn : Bool), ρ' = upd (upd (upd (mix [7, 8, 9, 10, 11, 12, 13, 14, 15, 16, 17, 18, 19, 20, 21, 22, 23, 24, 25, 26, 27, 28, 29, 30, 31, 32, 33, 34, 35, 36, 37, 38, 39, 40, 41, 42, 43, 44, 45, 46, 47] ρo ρ) 9 (.int .i64 ((k : Nat) : Int))) 7 (.slice an out.length cn)) 8 (.bool dn) ∧ (k ≤ l.length) ∧ (out.length ≤ 2 * k) ∧ (TkI l out (putT c t l) c t dn k) ∧ μ = l.length - k ∧ Own w no w' [row (.slice an out.length cn) (out.map lsc) 89 2]) ?_ ?_
  · exact ⟨_, _, 0, none, 0, [], false, upd_of (upd_of (upd_of (mix_of (ds := [7, 8, 9, 10, 11, 12, 13, 14, 15, 16, 17, 18, 19, 20, 21, 22, 23, 24, 25, 26, 27, 28, 29, 30, 31, 32, 33, 34, 35, 36, 37, 38, 39, 40, 41, 42, 43, 44, 45, 46, 47]) (Agr.refl _ _)) rfl) rfl) rfl, (by omega), (Nat.zero_le _), (⟨rfl, fun h => nomatch h⟩), rfl, hs⟩
  · rintro μ ρ' w1 ⟨ρo, k, an, cn, out, dn, rfl, hk, hol, htk, rfl, hs⟩
    refine W_seq ?_
    refine W_seq ?_
    refine W_region ?_
    refine RW_op (L_move (V := .int .i64 ((k : Nat) : Int)) rfl ?_)
    refine RW_op (L_move (V := .slice a l.length ca) rfl ?_)
    refine RW_op (L_lenR (n := l.length) UD_26 (Rd.own' hr hs) (by simp) rfl ?_)
    refine RW_op (L_lss rfl rfl ?_)
    refine RW_nil ?_
    refine W_cond (t := decide (((k : Nat) : Int) < ((l.length : Nat) : Int))) rfl (fun c2 => ?_) (fun c2 => ?_)
    ·
      replace c2 := of_decide_eq_true c2
      refine W_skip ?_
      refine W_seq ?_
      refine W_block ?_
      refine W_seq ?_
      refine W_region ?_
      refine RW_op (L_move (V := .slice a l.length ca) rfl ?_)
      refine RW_op (L_move (V := .int .i64 ((k : Nat) : Int)) rfl ?_)
      refine RW_op (L_ixR UD_26 SA_89.1 (Rd.own' hr hs) rfl rfl (by omega) (by rw [List.length_map]; omega) ?_)
      refine RW_op (L_ldRA (j := 0) (vs := lsc (gd l k)) k SA_89 (Rd.own' hr hs) (gd_at (by omega)) rfl rfl rfl (by omega) ?_)
      refine RW_op (L_alloc (cs := lsc (⟨0, 0⟩ : Lst)) ZV_89 rfl hs fun b3 w4 hs => ?_)
      refine RW_op (L_st (V := .agg (lsc (gd l k)).toArray) (vs := lsc (gd l k)) (cs' := lsc (gd l k)) SA_89.1 hs 1 rfl rfl rfl rfl rfl (Nat.le_of_ble_eq_true rfl) (lsc_one _) (spl_whole rfl) fun w5 hs => ?_)
      refine RW_nil ?_
      refine W_seq ?_
      refine W_seq ?_
      refine W_region ?_
      refine RW_op (L_fieldAddr FA_89_0 rfl ?_)
      refine RW_op (L_ld (V := .int .u16 ((gd l k).cart)) S1_31 hs 1 rfl rfl rfl ?_)
      refine RW_op (L_move (V := .int .u16 c) rfl ?_)
      refine RW_op (L_eql rfl rfl ?_)
      refine RW_nil ?_
      refine W_cond (t := decide ((gd l k).cart = c)) rfl (fun c6 => ?_) (fun c6 => ?_)
      ·
        replace c6 := of_decide_eq_true c6
        refine W_seq ?_
        refine W_region ?_
        refine RW_op (L_fieldAddr FA_89_1 rfl ?_)
        refine RW_op (L_ld (V := .int .u32 ((gd l k).tick)) S1_22 hs 1 rfl rfl rfl ?_)
        refine RW_op (L_move (V := .int .u32 t) rfl ?_)
        refine RW_op (L_max rfl rfl ?_)
        refine RW_op (L_fieldAddr FA_89_1 rfl ?_)
        refine RW_op (L_st1 (V := .int .u32 (max ((gd l k).tick) t)) (cs' := lsc (⟨(gd l k).cart, max ((gd l k).tick) t⟩ : Lst)) S1_22 hs 1 rfl rfl rfl rfl (Nat.le_of_ble_eq_true rfl) rfl fun w7 hs => ?_)
        refine RW_nil ?_
        refine W_region ?_
        refine RW_op (L_assign (V := .bool true) rfl ?_)
        refine RW_nil ?_
        refine W_seq ?_
        refine W_seq ?_
        refine W_regO [some 30, some 31, some 32, some 33, some 34, some 35, some 36, some 37] [] [0, 1, 3, 7, 15, 7, 63, 127] [pv (.bool true), pv (.bool false), pv (.bool false), pg false (.bool true), pg false (.bool true), pg false (.bool true), pg false (.bool true), pv (.bool false)] (fun _ _ => _) [7] (by kernel_rfl) hs ⟨?_, ?_, ?_, ?_, ?_, ?_, ?_, ?_, trivial⟩ ?_
        · exact ob [] [] rfl rfl fun D ρ w hs => L_move (V := .bool true) rfl ⟨rfl, hs⟩
        · exact ob [0] [] rfl rfl fun D ρ w hs => L_not rfl ⟨rfl, hs⟩
        · exact ob [1] [] rfl rfl fun D ρ w hs => L_move (V := .bool false) rfl ⟨rfl, hs⟩
        · exact obg [] [] false rfl (fun _ => rfl) rfl (fun _ _ _ _ h => h) (fun _ _ _ h => nomatch h)
        · exact obg [] [] false rfl (fun _ => rfl) rfl (fun _ _ _ _ h => h) (fun _ _ _ h => nomatch h)
        · exact obg [] [] false rfl (fun _ => rfl) rfl (fun _ _ _ _ h => h) (fun _ _ _ h => nomatch h)
        · exact obg [] [] false rfl (fun _ => rfl) rfl (fun _ _ _ _ h => h) (fun _ _ _ h => nomatch h)
        · exact ob [2] [] rfl rfl fun D ρ w hs => L_pick (V := .bool false) rfl rfl ⟨rfl, hs⟩
        rintro ρ1 w8 ρ2 hρ hs
        replace hρ : ρ2 = upd (mix [30, 31, 32, 33, 34, 35, 36, 37] ρ1 _) 37 (.bool false) := hρ
        subst hρ
        refine W_condF rfl ?_
        refine W_skip ?_
        refine W_region ?_
        refine RW_op (L_move (V := .slice an out.length cn) rfl ?_)
        refine RW_op (L_ldW (cs := lsc (⟨(gd l k).cart, max ((gd l k).tick) t⟩ : Lst)) SA_89 hs 1 rfl rfl rfl ?_)
        refine RW_op (L_bs (vals := [.agg (lsc (⟨(gd l k).cart, max ((gd l k).tick) t⟩ : Lst)).toArray]) (ls := List.map lsc ([(⟨(gd l k).cart, max ((gd l k).tick) t⟩ : Lst)] : List Lst)) EL_26 rfl rfl rfl (len_map (enc := lsc) (fun _ => rfl) _) (one_map lsc_one _) (Nat.le_of_ble_eq_true rfl) hs fun b9 w10 hs => ?_)
        replace hs : Own w no w10 [row (.slice an out.length cn) (out.map lsc) 89 2, blk b3 (lsc (⟨(gd l k).cart, max ((gd l k).tick) t⟩ : Lst)) 89, row (.slice (some ⟨b9, 0, none⟩) 1 1) ([(⟨(gd l k).cart, max ((gd l k).tick) t⟩ : Lst)].map lsc) 89 2] := hs
        refine RW_op (L_appN (ls' := (out ++ [(⟨(gd l k).cart, max ((gd l k).tick) t⟩ : Lst)]).map lsc) (n := (out ++ [(⟨(gd l k).cart, max ((gd l k).tick) t⟩ : Lst)]).length) EL_26 hs 0 rfl rfl rfl (hs.rd 2 rfl) (one_map lsc_one _) (by simp only [List.length_map, List.length_append, List.length_cons, List.length_nil]; omega) (by simp) (by simp) fun a11 c11 w12 hs => ?_)
        refine RW_op (L_assign (V := .slice a11 ((out ++ [(⟨(gd l k).cart, max ((gd l k).tick) t⟩ : Lst)]).length) c11) rfl ?_)
        refine RW_nil ?_
        refine W_region ?_
        refine RW_op (L_move (V := .int .i64 ((k : Nat) : Int)) rfl ?_)
        refine RW_op (L_add (a := ((k : Nat) : Int)) (b := 1) (c := ((k + 1 : Nat) : Int)) rfl rfl (nat_i64 (by omega) (by omega)) ?_)
        refine RW_op (L_assign (V := .int .i64 ((k + 1 : Nat) : Int)) rfl ?_)
        refine RW_nil ?_
        refine ⟨_, ?_, _, k + 1, a11, c11, out ++ [(⟨(gd l k).cart, max ((gd l k).tick) t⟩ : Lst)], true, upd_of (upd_of (upd_of (mix_of (ds := [7, 8, 9, 10, 11, 12, 13, 14, 15, 16, 17, 18, 19, 20, 21, 22, 23, 24, 25, 26, 27, 28, 29, 30, 31, 32, 33, 34, 35, 36, 37, 38, 39, 40, 41, 42, 43, 44, 45, 46, 47]) (by repeat (first | exact Agr.refl _ _ | refine Agr.upd ?_ rfl | refine Agr.mix ?_ rfl))) rfl) rfl) rfl, (by omega), (by simp only [List.length_append, List.length_singleton]; omega), (tk_eq htk hT (by omega) c6), rfl, hs.take 1⟩
        omega
      ·
        replace c6 := of_decide_eq_false c6
        refine W_skip ?_
        refine W_seq ?_
        refine W_seq ?_
        refine W_regO [some 30, some 31, some 32, some 33, some 34, some 35, some 36, some 37] [] [0, 1, 3, 7, 15, 7, 63, 127] [pv (.bool dn), pv (.bool (!dn)), pv (.bool (!dn)), pg ((!dn) == true) (.pointer (some ⟨b3, 0 + 0, none⟩)), pg ((!dn) == true) (.int .u16 ((gd l k).cart)), pg ((!dn) == true) (.int .u16 c), pg ((!dn) == true) (.bool (decide (c < (gd l k).cart))), pv (.bool ((!dn) && (decide (c < (gd l k).cart))))] (fun _ _ => _) [7] (by kernel_rfl) hs ⟨?_, ?_, ?_, ?_, ?_, ?_, ?_, ?_, trivial⟩ ?_
        · exact ob [] [] rfl rfl fun D ρ w hs => L_move (V := .bool dn) rfl ⟨rfl, hs⟩
        · exact ob [0] [] rfl rfl fun D ρ w hs => L_not rfl ⟨rfl, hs⟩
        · exact ob [1] [] rfl rfl fun D ρ w hs => L_move (V := .bool (!dn)) rfl ⟨rfl, hs⟩
        · exact obg [2] [] (!dn) rfl (fun _ => rfl) rfl (fun _ _ _ _ h => h) fun D ρ w hG hs => L_fieldAddr FA_89_0 rfl ⟨rfl, hs⟩
        · exact obgy [2, 3] [] [3] (!dn) rfl (fun _ => rfl) rfl (fun _ _ _ _ h => h) (fun hG => ⟨hG, trivial⟩) fun D ρ w hG hs => L_ld (V := .int .u16 ((gd l k).cart)) S1_31 hs 1 rfl rfl rfl ⟨rfl, hs⟩
        · exact obg [2] [] (!dn) rfl (fun _ => rfl) rfl (fun _ _ _ _ h => h) fun D ρ w hG hs => L_move (V := .int .u16 c) rfl ⟨rfl, hs⟩
        · exact obgy [2, 4, 5] [] [4, 5] (!dn) rfl (fun _ => rfl) rfl (fun _ _ _ _ h => h) (fun hG => ⟨hG, hG, trivial⟩) fun D ρ w hG hs => L_gtr rfl rfl ⟨rfl, hs⟩
        · exact ob [2, 6] [] rfl rfl fun D ρ w hs => L_andC (h' := decide (c < (gd l k).cart)) rfl rfl rfl ⟨rfl, hs⟩
        rintro ρ1 w13 ρ2 hρ hs
        replace hρ : ρ2 = upd (mix [30, 31, 32, 33, 34, 35, 36, 37] ρ1 _) 37 (.bool ((!dn) && (decide (c < (gd l k).cart)))) := hρ
        subst hρ
        refine W_cond (t := (!dn) && (decide (c < (gd l k).cart))) rfl (fun c14 => ?_) (fun c14 => ?_)
        ·
          have c14r := and_r c14
          replace c14 := and_l c14
          replace c14 := not_t c14
          replace c14r := of_decide_eq_true c14r
          refine W_seq ?_
          refine W_region ?_
          refine RW_op (L_move (V := .slice an out.length cn) rfl ?_)
          refine RW_op (L_move (V := .int .u16 c) rfl ?_)
          refine RW_op (L_move (V := .int .u32 t) rfl ?_)
          refine RW_op (L_build (vs := [(0, .int .u16 c), (1, .int .u32 t)]) (cs := lsc (⟨c, t⟩ : Lst)) BT_89 (rfl) rfl ?_)
          refine RW_op (L_bs (vals := [.agg (lsc (⟨c, t⟩ : Lst)).toArray]) (ls := List.map lsc ([(⟨c, t⟩ : Lst)] : List Lst)) EL_26 rfl rfl rfl (len_map (enc := lsc) (fun _ => rfl) _) (one_map lsc_one _) (Nat.le_of_ble_eq_true rfl) hs fun b15 w16 hs => ?_)
          refine RW_op (L_appN (ls' := (out ++ [(⟨c, t⟩ : Lst)]).map lsc) (n := (out ++ [(⟨c, t⟩ : Lst)]).length) EL_26 hs 0 rfl rfl rfl (hs.rd 2 rfl) (one_map lsc_one _) (by simp only [List.length_map, List.length_append, List.length_cons, List.length_nil]; omega) (by simp) (by simp) fun a17 c17 w18 hs => ?_)
          replace hs : Own w no w18 [row (.slice a17 ((out ++ [(⟨c, t⟩ : Lst)]).length) c17) ((out ++ [(⟨c, t⟩ : Lst)]).map lsc) 89 2, blk b3 (lsc (gd l k)) 89, row (.slice (some ⟨b15, 0, none⟩) 1 1) ([(⟨c, t⟩ : Lst)].map lsc) 89 2] := hs
          refine RW_op (L_assign (V := .slice a17 ((out ++ [(⟨c, t⟩ : Lst)]).length) c17) rfl ?_)
          refine RW_nil ?_
          refine W_region ?_
          refine RW_op (L_assign (V := .bool true) rfl ?_)
          refine RW_nil ?_
          refine W_region ?_
          refine RW_op (L_move (V := .slice a17 ((out ++ [(⟨c, t⟩ : Lst)]).length) c17) rfl ?_)
          refine RW_op (L_ldW (cs := lsc (gd l k)) SA_89 hs 1 rfl rfl rfl ?_)
          refine RW_op (L_bs (vals := [.agg (lsc (gd l k)).toArray]) (ls := List.map lsc ([gd l k] : List Lst)) EL_26 rfl rfl rfl (len_map (enc := lsc) (fun _ => rfl) _) (one_map lsc_one _) (Nat.le_of_ble_eq_true rfl) hs fun b19 w20 hs => ?_)
          refine RW_op (L_appN (ls' := ((out ++ [(⟨c, t⟩ : Lst)]) ++ [gd l k]).map lsc) (n := ((out ++ [(⟨c, t⟩ : Lst)]) ++ [gd l k]).length) EL_26 hs 0 rfl rfl rfl (hs.rd 3 rfl) (one_map lsc_one _) (by simp only [List.length_map, List.length_append, List.length_cons, List.length_nil]; omega) (by simp) (by simp) fun a21 c21 w22 hs => ?_)
          refine RW_op (L_assign (V := .slice a21 (((out ++ [(⟨c, t⟩ : Lst)]) ++ [gd l k]).length) c21) rfl ?_)
          refine RW_nil ?_
          refine W_region ?_
          refine RW_op (L_move (V := .int .i64 ((k : Nat) : Int)) rfl ?_)
          refine RW_op (L_add (a := ((k : Nat) : Int)) (b := 1) (c := ((k + 1 : Nat) : Int)) rfl rfl (nat_i64 (by omega) (by omega)) ?_)
          refine RW_op (L_assign (V := .int .i64 ((k + 1 : Nat) : Int)) rfl ?_)
          refine RW_nil ?_
          refine ⟨_, ?_, _, k + 1, a21, c21, (out ++ [(⟨c, t⟩ : Lst)]) ++ [gd l k], true, upd_of (upd_of (upd_of (mix_of (ds := [7, 8, 9, 10, 11, 12, 13, 14, 15, 16, 17, 18, 19, 20, 21, 22, 23, 24, 25, 26, 27, 28, 29, 30, 31, 32, 33, 34, 35, 36, 37, 38, 39, 40, 41, 42, 43, 44, 45, 46, 47]) (by repeat (first | exact Agr.refl _ _ | refine Agr.upd ?_ rfl | refine Agr.mix ?_ rfl))) rfl) rfl) rfl, (by omega), (by simp only [List.length_append, List.length_singleton]; omega), (tk_ins htk hT (by omega) c6 c14 c14r), rfl, hs.take 1⟩
          omega
        ·
          refine W_skip ?_
          refine W_region ?_
          refine RW_op (L_move (V := .slice an out.length cn) rfl ?_)
          refine RW_op (L_ldW (cs := lsc (gd l k)) SA_89 hs 1 rfl rfl rfl ?_)
          refine RW_op (L_bs (vals := [.agg (lsc (gd l k)).toArray]) (ls := List.map lsc ([gd l k] : List Lst)) EL_26 rfl rfl rfl (len_map (enc := lsc) (fun _ => rfl) _) (one_map lsc_one _) (Nat.le_of_ble_eq_true rfl) hs fun b23 w24 hs => ?_)
          refine RW_op (L_appN (ls' := (out ++ [gd l k]).map lsc) (n := (out ++ [gd l k]).length) EL_26 hs 0 rfl rfl rfl (hs.rd 2 rfl) (one_map lsc_one _) (by simp only [List.length_map, List.length_append, List.length_cons, List.length_nil]; omega) (by simp) (by simp) fun a25 c25 w26 hs => ?_)
          replace hs : Own w no w26 [row (.slice a25 ((out ++ [gd l k]).length) c25) ((out ++ [gd l k]).map lsc) 89 2, blk b3 (lsc (gd l k)) 89, row (.slice (some ⟨b23, 0, none⟩) 1 1) ([gd l k].map lsc) 89 2] := hs
          refine RW_op (L_assign (V := .slice a25 ((out ++ [gd l k]).length) c25) rfl ?_)
          refine RW_nil ?_
          refine W_region ?_
          refine RW_op (L_move (V := .int .i64 ((k : Nat) : Int)) rfl ?_)
          refine RW_op (L_add (a := ((k : Nat) : Int)) (b := 1) (c := ((k + 1 : Nat) : Int)) rfl rfl (nat_i64 (by omega) (by omega)) ?_)
          refine RW_op (L_assign (V := .int .i64 ((k + 1 : Nat) : Int)) rfl ?_)
          refine RW_nil ?_
          refine ⟨_, ?_, _, k + 1, a25, c25, out ++ [gd l k], dn, upd_of (upd_of (upd_of (mix_of (ds := [7, 8, 9, 10, 11, 12, 13, 14, 15, 16, 17, 18, 19, 20, 21, 22, 23, 24, 25, 26, 27, 28, 29, 30, 31, 32, 33, 34, 35, 36, 37, 38, 39, 40, 41, 42, 43, 44, 45, 46, 47]) (by repeat (first | exact Agr.refl _ _ | refine Agr.upd ?_ rfl | refine Agr.mix ?_ rfl))) rfl) rfl) rfl, (by omega), (by simp only [List.length_append, List.length_singleton]; omega), (tk_go htk (by omega) c6 c14), rfl, hs.take 1⟩
          omega
    ·
      replace c2 := of_decide_eq_false c2
      refine W_exit ?_
      refine W_seq ?_
      refine W_seq ?_
      refine W_region ?_
      refine RW_op (L_move (V := .bool dn) rfl ?_)
      refine RW_op (L_not rfl ?_)
      refine RW_nil ?_
      refine W_cond (t := !dn) rfl (fun c27 => ?_) (fun c27 => ?_)
      ·
        replace c27 := not_t c27
        refine W_region ?_
        refine RW_op (L_move (V := .slice an out.length cn) rfl ?_)
        refine RW_op (L_move (V := .int .u16 c) rfl ?_)
        refine RW_op (L_move (V := .int .u32 t) rfl ?_)
        refine RW_op (L_build (vs := [(0, .int .u16 c), (1, .int .u32 t)]) (cs := lsc (⟨c, t⟩ : Lst)) BT_89 (rfl) rfl ?_)
        refine RW_op (L_bs (vals := [.agg (lsc (⟨c, t⟩ : Lst)).toArray]) (ls := List.map lsc ([(⟨c, t⟩ : Lst)] : List Lst)) EL_26 rfl rfl rfl (len_map (enc := lsc) (fun _ => rfl) _) (one_map lsc_one _) (Nat.le_of_ble_eq_true rfl) hs fun b28 w29 hs => ?_)
        refine RW_op (L_appN (ls' := (out ++ [(⟨c, t⟩ : Lst)]).map lsc) (n := (out ++ [(⟨c, t⟩ : Lst)]).length) EL_26 hs 0 rfl rfl rfl (hs.rd 1 rfl) (one_map lsc_one _) (by simp only [List.length_map, List.length_append, List.length_cons, List.length_nil]; omega) (by simp) (by simp) fun a30 c30 w31 hs => ?_)
        refine RW_op (L_assign (V := .slice a30 ((out ++ [(⟨c, t⟩ : Lst)]).length) c30) rfl ?_)
        refine RW_nil ?_
        refine W_seq ?_
        refine W_region ?_
        refine RW_op (L_move (V := .slice a30 ((out ++ [(⟨c, t⟩ : Lst)]).length) c30) rfl ?_)
        refine RW_op (L_assign (V := .slice a30 ((out ++ [(⟨c, t⟩ : Lst)]).length) c30) rfl ?_)
        refine RW_nil ?_
        refine W_ret ?_
        refine ⟨_, res_one (V := .slice a30 ((out ++ [(⟨c, t⟩ : Lst)]).length) c30) Tryz.results43 rfl, ?_⟩
        have hX := (tk_end htk (by omega)).2 c27
        rw [← hX] at hs ⊢
        exact ⟨(a30, c30), rfl, hs.only 0 rfl, trivial⟩
      ·
        replace c27 := not_f c27
        refine W_skip ?_
        refine W_seq ?_
        refine W_region ?_
        refine RW_op (L_move (V := .slice an out.length cn) rfl ?_)
        refine RW_op (L_assign (V := .slice an out.length cn) rfl ?_)
        refine RW_nil ?_
        refine W_ret ?_
        refine ⟨_, res_one (V := .slice an out.length cn) Tryz.results43 rfl, ?_⟩
        have hX := (tk_end htk (by omega)).1 c27
        rw [← hX] at hs ⊢
        exact ⟨(an, cn), rfl, hs.only 0 rfl, trivial⟩
end Tt
end Go.Proofs
namespace Go.Proofs
open Go Go.Vx Go.RowKit
namespace Tt
set_option maxRecDepth 20000 in
set_option maxHeartbeats 4000000 in
theorem rlaid_ok (w : World) (x : Cen) : Calls Tryz.prog 40 #[.agg (cec x).toArray] w (fun e w' => e = .returned (.agg (oc (laidO x)).toArray) ∧ Own w no w' []) := by
  refine calls_of_Wn (n := 14) Tryz.func40 rfl Tryz.ntmps40 rfl ?_
  have hs := Own.start w
  refine W_seq ?_
  refine W_region ?_
  refine RW_op (L_box (V := .agg (cec x).toArray) (cs := cec x) rfl rfl hs fun b1 w2 hs => ?_)
  refine RW_op (L_alloc (cs := oc (⟨(⟨0, 0⟩ : Dot), 0, 0, 0, 0, 0, vzero⟩ : Opn)) ZV_33 rfl hs fun b3 w4 hs => ?_)
  refine RW_nil ?_
  refine W_seq ?_
  refine W_region ?_
  refine RW_op (L_fieldAddr FA_88_4 rfl ?_)
  refine RW_op (L_ldA (vs := dc x.dot) SA_30 hs 0 rfl rfl rfl rfl ?_)
  refine RW_op (L_fieldAddr FA_88_3 rfl ?_)
  refine RW_op (L_ld (V := .int .u8 x.kind) S1_5 hs 0 rfl rfl rfl ?_)
  refine RW_op (L_fieldAddr FA_88_0 rfl ?_)
  refine RW_op (L_ld (V := .int .u16 x.cart) S1_31 hs 0 rfl rfl rfl ?_)
  refine RW_op (L_fieldAddr FA_88_1 rfl ?_)
  refine RW_op (L_ld (V := .int .u16 x.item) S1_31 hs 0 rfl rfl rfl ?_)
  refine RW_op (L_fieldAddr FA_88_2 rfl ?_)
  refine RW_op (L_ld (V := .int .u16 x.qty) S1_31 hs 0 rfl rfl rfl ?_)
  refine RW_op (L_buildP (vs := [(0, .agg (dc x.dot).toArray), (1, .int .u8 x.kind), (2, .int .u16 x.cart), (3, .int .u16 x.item), (4, .int .u16 x.qty)]) (cs := oc (⟨x.dot, x.kind, x.cart, x.item, x.qty, 0, vzero⟩ : Opn)) [dc (⟨0, 0⟩ : Dot), [(.int .u8 0 : Value)], [(.int .u16 0 : Value)], [(.int .u16 0 : Value)], [(.int .u16 0 : Value)], [(.int .u32 0 : Value)], vc vzero] [dc x.dot, [(.int .u8 x.kind : Value)], [(.int .u16 x.cart : Value)], [(.int .u16 x.item : Value)], [(.int .u16 x.qty : Value)], [(.int .u32 0 : Value)], vc vzero] BT_33 rfl (rfl) rfl rfl ?_)
  refine RW_op (L_st (V := .agg (oc (⟨x.dot, x.kind, x.cart, x.item, x.qty, 0, vzero⟩ : Opn)).toArray) (vs := oc (⟨x.dot, x.kind, x.cart, x.item, x.qty, 0, vzero⟩ : Opn)) (cs' := oc (⟨x.dot, x.kind, x.cart, x.item, x.qty, 0, vzero⟩ : Opn)) SA_33.1 hs 1 rfl rfl rfl rfl rfl (Nat.le_of_ble_eq_true rfl) (oc_one _) (spl_whole rfl) fun w5 hs => ?_)
  refine RW_nil ?_
  refine W_ret ?_
  refine ⟨_, res_cell (cs := oc (⟨x.dot, x.kind, x.cart, x.item, x.qty, 0, vzero⟩ : Opn)) Tryz.results40 SA_33 hs 1 rfl rfl rfl, ?_⟩
  refine ⟨congrArg Ending.returned ?_, hs.take 0⟩
  rfl
set_option maxRecDepth 20000 in
set_option maxHeartbeats 4000000 in
theorem rApply_ok (w : World) (s : Sta) (a1 : Option Addr) (c1 : Nat) (a2 : Option Addr) (c2 : Nat) (o : Opn) (hO : OpnOk o) (hok : StaOk s) (hle : s.ents.length ≤ 1000) (hlt : s.ticks.length ≤ 1000) (hr1 : Rd w (.slice a1 s.ents.length c1) 7 (s.ents.map cec)) (hr2 : Rd w (.slice a2 s.ticks.length c2) 2 (s.ticks.map lsc)) : Calls Tryz.prog 9 #[.agg ((vc s.known) ++ [(.slice a1 s.ents.length c1 : Value), (.slice a2 s.ticks.length c2 : Value) ]).toArray, .agg (oc o).toArray] w (fun e w' => ∃ x : (Option Addr × Nat) × (Option Addr × Nat), e = .returned (.tuple #[.agg (vc (applyR s o).known ++ [(.slice x.1.1 (applyR s o).ents.length x.1.2 : Value), (.slice x.2.1 (applyR s o).ticks.length x.2.2 : Value)]).toArray, .int .i64 (applyI s o)]) ∧ Own w no w' [row (.slice x.1.1 (applyR s o).ents.length x.1.2) ((applyR s o).ents.map cec) 88 7, row (.slice x.2.1 (applyR s o).ticks.length x.2.2) ((applyR s o).ticks.map lsc) 89 2] ∧ True) := by
  refine calls_of_Wn (n := 82) Tryz.func9 rfl Tryz.ntmps9 rfl ?_
  have hs := Own.start w
  have ⟨hdo, _, _, _, _, _, hctx⟩ := hO
  have ⟨hv0, hE0, hT0⟩ := hok
  refine W_seq ?_
  refine W_region ?_
  refine RW_op (L_box (V := .agg ((vc s.known) ++ [(.slice a1 s.ents.length c1 : Value), (.slice a2 s.ticks.length c2 : Value) ]).toArray) (cs := (vc s.known) ++ [(.slice a1 s.ents.length c1 : Value), (.slice a2 s.ticks.length c2 : Value) ]) rfl rfl hs fun b1 w2 hs => ?_)
  refine RW_op (L_box (V := .agg (oc o).toArray) (cs := oc o) rfl rfl hs fun b3 w4 hs => ?_)
  refine RW_op (L_alloc (cs := (vc vzero) ++ [(.slice none 0 0 : Value), (.slice none 0 0 : Value) ]) ZV_28 rfl hs fun b5 w6 hs => ?_)
  refine RW_op (L_assign (V := .int .i64 0) rfl ?_)
  refine RW_nil ?_
  refine W_seq ?_
  refine W_seq ?_
  refine W_region ?_
  refine RW_op (L_ldW (cs := (vc s.known) ++ [(.slice a1 s.ents.length c1 : Value), (.slice a2 s.ticks.length c2 : Value) ]) SA_28 hs 0 rfl rfl rfl ?_)
  refine RW_op (L_callP (vs := [.agg ((vc s.known) ++ [(.slice a1 s.ents.length c1 : Value), (.slice a2 s.ticks.length c2 : Value) ]).toArray]) (V := .bool (rightS s)) EN_11 rfl rfl ?hc hs fun w7 hs => ?_)
  case hc => exact (rRight8_ok _ s a1 c1 a2 c2 hok (Rd.own' hr1 hs) (Rd.own' hr2 hs))
  refine RW_op (L_not rfl ?_)
  refine RW_nil ?_
  refine W_cond (t := !(rightS s)) rfl (fun c8 => ?_) (fun c8 => ?_)
  ·
    replace c8 := not_t c8
    refine W_seq ?_
    refine W_region ?_
    refine RW_op (L_buildP (vs := []) (cs := (vc vzero) ++ [(.slice none 0 0 : Value), (.slice none 0 0 : Value) ]) [vc vzero, [(.slice none 0 0 : Value)], [(.slice none 0 0 : Value)]] [vc vzero, [(.slice none 0 0 : Value)], [(.slice none 0 0 : Value)]] BT_28 rfl (rfl) rfl rfl ?_)
    refine RW_op (L_st (V := .agg ((vc vzero) ++ [(.slice none 0 0 : Value), (.slice none 0 0 : Value) ]).toArray) (vs := (vc vzero) ++ [(.slice none 0 0 : Value), (.slice none 0 0 : Value) ]) (cs' := (vc vzero) ++ [(.slice none 0 0 : Value), (.slice none 0 0 : Value) ]) SA_28.1 hs 2 rfl rfl rfl rfl rfl (Nat.le_of_ble_eq_true rfl) (one_app (vc_one _) (one_cons rfl (one_cons rfl one_nil))) (spl_whole rfl) fun w9 hs => ?_)
    replace hs : Own w no w9 [blk b1 ((vc s.known) ++ [(.slice a1 s.ents.length c1 : Value), (.slice a2 s.ticks.length c2 : Value) ]) 28, blk b3 (oc o) 33, blk b5 ((vc vzero) ++ [(.slice none 0 0 : Value), (.slice none 0 0 : Value) ]) 28] := hs
    refine RW_op (L_assign (V := .int .i64 2) rfl ?_)
    refine RW_nil ?_
    refine W_ret ?_
    refine ⟨_, res_cell2 (cs := (vc vzero) ++ [(.slice none 0 0 : Value), (.slice none 0 0 : Value) ]) (V := .int .i64 2) Tryz.results9 SA_28 hs 2 rfl rfl rfl rfl, ?_⟩
    have hI : applyI s o = 2 := by unfold applyI; rw [if_neg (by rw [c8]; decide)]
    have hR : applyR s o = szero := by unfold applyR; rw [if_neg (by rw [hI]; decide)]
    rw [hI, hR]
    exact ⟨((none, 0), (none, 0)), rfl, ((hs.take 0).more _ (row_nil _ _ 88 7)).more _ (row_nil _ _ 89 2), trivial⟩
  ·
    replace c8 := not_f c8
    refine W_skip ?_
    refine W_seq ?_
    refine W_region ?_
    refine RW_op (L_fieldAddr FA_28_0 rfl ?_)
    refine RW_op (L_ldA (vs := vc s.known) SA_24 hs 0 rfl rfl rfl rfl ?_)
    refine RW_op (L_ldW (cs := oc o) SA_33 hs 1 rfl rfl rfl ?_)
    refine RW_op (L_callP (vs := [.agg (vc s.known).toArray, .agg (oc o).toArray]) (V := .int .i64 (readyI s.known o)) EN_38 rfl rfl ?hc hs fun w10 hs => ?_)
    case hc => exact (rReady_ok _ s.known o (by assumption))
    refine RW_op (L_assign (V := .int .i64 (readyI s.known o)) rfl ?_)
    refine RW_nil ?_
    refine W_seq ?_
    refine W_seq ?_
    refine W_region ?_
    refine RW_op (L_move (V := .int .i64 (readyI s.known o)) rfl ?_)
    refine RW_op (L_neq rfl rfl ?_)
    refine RW_nil ?_
    refine W_cond (t := !decide (readyI s.known o = 0)) rfl (fun c11 => ?_) (fun c11 => ?_)
    ·
      replace c11 := not_t c11
      replace c11 := of_decide_eq_false c11
      refine W_seq ?_
      refine W_region ?_
      refine RW_op (L_buildP (vs := []) (cs := (vc vzero) ++ [(.slice none 0 0 : Value), (.slice none 0 0 : Value) ]) [vc vzero, [(.slice none 0 0 : Value)], [(.slice none 0 0 : Value)]] [vc vzero, [(.slice none 0 0 : Value)], [(.slice none 0 0 : Value)]] BT_28 rfl (rfl) rfl rfl ?_)
      refine RW_op (L_move (V := .int .i64 (readyI s.known o)) rfl ?_)
      refine RW_op (L_st (V := .agg ((vc vzero) ++ [(.slice none 0 0 : Value), (.slice none 0 0 : Value) ]).toArray) (vs := (vc vzero) ++ [(.slice none 0 0 : Value), (.slice none 0 0 : Value) ]) (cs' := (vc vzero) ++ [(.slice none 0 0 : Value), (.slice none 0 0 : Value) ]) SA_28.1 hs 2 rfl rfl rfl rfl rfl (Nat.le_of_ble_eq_true rfl) (one_app (vc_one _) (one_cons rfl (one_cons rfl one_nil))) (spl_whole rfl) fun w12 hs => ?_)
      replace hs : Own w no w12 [blk b1 ((vc s.known) ++ [(.slice a1 s.ents.length c1 : Value), (.slice a2 s.ticks.length c2 : Value) ]) 28, blk b3 (oc o) 33, blk b5 ((vc vzero) ++ [(.slice none 0 0 : Value), (.slice none 0 0 : Value) ]) 28] := hs
      refine RW_op (L_assign (V := .int .i64 (readyI s.known o)) rfl ?_)
      refine RW_nil ?_
      refine W_ret ?_
      refine ⟨_, res_cell2 (cs := (vc vzero) ++ [(.slice none 0 0 : Value), (.slice none 0 0 : Value) ]) (V := .int .i64 (readyI s.known o)) Tryz.results9 SA_28 hs 2 rfl rfl rfl rfl, ?_⟩
      have hI : applyI s o = readyI s.known o := by unfold applyI; rw [if_pos c8]
      have hR : applyR s o = szero := by unfold applyR; rw [if_neg (by rw [hI]; exact c11)]
      rw [hI, hR]
      exact ⟨((none, 0), (none, 0)), rfl, ((hs.take 0).more _ (row_nil _ _ 88 7)).more _ (row_nil _ _ 89 2), trivial⟩
    ·
      replace c11 := not_f c11
      replace c11 := of_decide_eq_true c11
      refine W_skip ?_
      refine W_seq ?_
      refine W_region ?_
      refine RW_op (L_fieldAddr FA_28_0 rfl ?_)
      refine RW_op (L_ldA (vs := vc s.known) SA_24 hs 0 rfl rfl rfl rfl ?_)
      refine RW_op (L_alloc (cs := vc vzero) ZV_24 rfl hs fun b13 w14 hs => ?_)
      replace hs : Own w no w14 [blk b1 ((vc s.known) ++ [(.slice a1 s.ents.length c1 : Value), (.slice a2 s.ticks.length c2 : Value) ]) 28, blk b3 (oc o) 33, blk b5 ((vc vzero) ++ [(.slice none 0 0 : Value), (.slice none 0 0 : Value) ]) 28, blk b13 (vc vzero) 24] := hs
      refine RW_op (L_st (V := .agg (vc s.known).toArray) (vs := vc s.known) (cs' := vc s.known) SA_24.1 hs 3 rfl rfl rfl rfl rfl (Nat.le_of_ble_eq_true rfl) (vc_one _) (spl_whole rfl) fun w15 hs => ?_)
      refine RW_nil ?_
      refine W_seq ?_
      have hrc := rightS_iff.1 c8
      have hrd := readyI_dot hO c11
      have ⟨hd0, hd1, hd2, hd3⟩ := hrd.1
      refine W_region ?_
      refine RW_op (L_fieldAddr FA_33_0 rfl ?_)
      refine RW_op (L_fieldAddr FA_30_0 rfl ?_)
      refine RW_op (L_ld (V := .int .u8 o.dot.rep) S1_5 hs 1 rfl rfl rfl ?_)
      refine RW_op (L_fieldAddr FA_33_0 rfl ?_)
      refine RW_op (L_fieldAddr FA_30_1 rfl ?_)
      refine RW_op (L_ld (V := .int .u32 o.dot.seq) S1_22 hs 1 rfl rfl rfl ?_)
      refine RW_op (L_ixArr1 UD_24 S1_22.1 rfl rfl (by omega) (by omega) ?_)
      refine RW_op (L_st1 (V := .int .u32 o.dot.seq) (cs' := vc (vset s.known o.dot.rep.toNat o.dot.seq)) S1_22 hs 3 rfl rfl rfl rfl (vc_lt (by omega)) (vc_setO (by omega) (by omega)) fun w16 hs => ?_)
      refine RW_nil ?_
      refine W_seq ?_
      refine W_region ?_
      refine RW_op (L_assign (V := .slice none 0 0) rfl ?_)
      refine RW_nil ?_
      refine W_seq ?_
      refine W_seq ?_
      refine W_region ?_
      refine RW_op (L_assign (V := .int .i64 0) rfl ?_)
      refine RW_nil ?_
      refine W_block ?_
      replace hs := hs.more (row (.slice none 0 0) (List.map cec []) 88 7) (row_nil _ _ _ _)
      refine W_loopI (fun ρ μ ρ' w' => ∃ (ρo : Env) (k : Nat) (an : Option Addr) (cn : Nat) (out : List Cen), ρ' = upd (upd (mix [8, 9, 31, 32, 33, 34, 35, 36, 37, 38, 39, 40, 41, 42, 43, 44, 45, 46, 47, 48, 49, 50, 51, 52, 53, 54] ρo ρ) 9 (.int .i64 ((k : Nat) : Int))) 8 (.slice an out.length cn) ∧ (k ≤ s.ents.length) ∧ (out.length ≤ k) ∧ (out = (s.ents.take k).filter (fun x => !endsB o (laidO x))) ∧ μ = s.ents.length - k ∧ Own w no w' [blk b1 ((vc s.known) ++ [(.slice a1 s.ents.length c1 : Value), (.slice a2 s.ticks.length c2 : Value) ]) 28, blk b3 (oc o) 33, blk b5 ((vc vzero) ++ [(.slice none 0 0 : Value), (.slice none 0 0 : Value) ]) 28, blk b13 (vc (vset s.known o.dot.rep.toNat o.dot.seq)) 24, row (.slice an out.length cn) (out.map cec) 88 7]) ?_ ?_
      · exact ⟨_, _, 0, none, 0, [], upd_of (upd_of (mix_of (ds := [8, 9, 31, 32, 33, 34, 35, 36, 37, 38, 39, 40, 41, 42, 43, 44, 45, 46, 47, 48, 49, 50, 51, 52, 53, 54]) (Agr.refl _ _)) rfl) rfl, (by omega), (Nat.le_refl _), rfl, rfl, hs⟩
      · rintro μ ρ' w17 ⟨ρo, k, an, cn, out, rfl, hk, hol, hout, rfl, hs⟩
        refine W_seq ?_
        refine W_seq ?_
        refine W_region ?_
        refine RW_op (L_move (V := .int .i64 ((k : Nat) : Int)) rfl ?_)
        refine RW_op (L_fieldAddr FA_28_1 rfl ?_)
        refine RW_op (L_ld (V := .slice a1 s.ents.length c1) S1_25 hs 0 rfl rfl rfl ?_)
        refine RW_op (L_lenR (n := s.ents.length) UD_25 (Rd.own' hr1 hs) (by simp) rfl ?_)
        refine RW_op (L_lss rfl rfl ?_)
        refine RW_nil ?_
        refine W_cond (t := decide (((k : Nat) : Int) < ((s.ents.length : Nat) : Int))) rfl (fun c18 => ?_) (fun c18 => ?_)
        ·
          replace c18 := of_decide_eq_true c18
          refine W_skip ?_
          refine W_seq ?_
          refine W_block ?_
          refine W_seq ?_
          refine W_regD HM [some 38, some 39, some 40, some 41, some 42, some 43, some 44, some 45, some 46] [] [0, 0, 2, 0, 14, 30, 62, 127, 255] [pv (.agg (oc o).toArray), pv (.pointer (some ⟨b1, 0 + 16, none⟩)), pv (.slice a1 s.ents.length c1), pv (.int .i64 ((k : Nat) : Int)), pv (.pointer (some ⟨bkS (.slice a1 s.ents.length c1), ofS (.slice a1 s.ents.length c1) + ((k : Nat) : Int).toNat * 7, none⟩)), pv (.agg (cec (gd s.ents k)).toArray), pv (.agg (oc (laidO (gd s.ents k))).toArray), pv (.bool (endsB o (laidO (gd s.ents k)))), pv (.bool (!(endsB o (laidO (gd s.ents k)))))] (fun _ _ => _) [8] (by kernel_rfl) hs ⟨?_, ?_, ?_, ?_, ?_, ?_, ?_, ?_, ?_, trivial⟩ ?_
          · exact ob [] [] rfl rfl fun D ρ w hs => L_ldW (cs := oc o) SA_33 hs 1 rfl rfl rfl ⟨rfl, hs⟩
          · exact ob [] [] rfl rfl fun D ρ w hs => L_fieldAddr FA_28_1 rfl ⟨rfl, hs⟩
          · exact ob [1] [] rfl rfl fun D ρ w hs => L_ld (V := .slice a1 s.ents.length c1) S1_25 hs 0 rfl rfl rfl ⟨rfl, hs⟩
          · exact ob [] [] rfl rfl fun D ρ w hs => L_move (V := .int .i64 ((k : Nat) : Int)) rfl ⟨rfl, hs⟩
          · exact ob [2, 3] [] rfl rfl fun D ρ w hs => L_ixR UD_25 SA_88.1 (Rd.own' hr1 hs) rfl rfl (by omega) (by rw [List.length_map]; omega) ⟨rfl, hs⟩
          · exact ob [4] [] rfl rfl fun D ρ w hs => L_ldRA (j := 0) (vs := cec (gd s.ents k)) k SA_88 (Rd.own' hr1 hs) (gd_at (by omega)) rfl rfl rfl (by omega) ⟨rfl, hs⟩
          · exact ob [5] [] rfl rfl fun D ρ w hs => L_callP (vs := [.agg (cec (gd s.ents k)).toArray]) (V := .agg (oc (laidO (gd s.ents k))).toArray) EN_40 rfl rfl (rlaid_ok _ (gd s.ents k)) hs fun _ hs => ⟨rfl, hs⟩
          · exact ob [0, 6] [] rfl rfl fun D ρ w hs => L_callP (vs := [.agg (oc o).toArray, .agg (oc (laidO (gd s.ents k))).toArray]) (V := .bool (endsB o (laidO (gd s.ents k)))) EN_39 rfl rfl (rEnds_ok _ o (laidO (gd s.ents k)) (hE0 _ (gd_mem (by omega))).2.2.2.2.1) hs fun _ hs => ⟨rfl, hs⟩
          · exact ob [7] [] rfl rfl fun D ρ w hs => L_not rfl ⟨rfl, hs⟩
          rintro ρ1 w21 ρ2 hρ hs
          replace hρ : ρ2 = upd (mix [38, 39, 40, 41, 42, 43, 44, 45, 46] ρ1 _) 46 (.bool (!(endsB o (laidO (gd s.ents k))))) := hρ
          subst hρ
          refine W_cond (t := !(endsB o (laidO (gd s.ents k)))) rfl (fun c22 => ?_) (fun c22 => ?_)
          ·
            replace c22 := not_t c22
            refine W_region ?_
            refine RW_op (L_move (V := .slice an out.length cn) rfl ?_)
            refine RW_op (L_fieldAddr FA_28_1 rfl ?_)
            refine RW_op (L_ld (V := .slice a1 s.ents.length c1) S1_25 hs 0 rfl rfl rfl ?_)
            refine RW_op (L_move (V := .int .i64 ((k : Nat) : Int)) rfl ?_)
            refine RW_op (L_ixR UD_25 SA_88.1 (Rd.own' hr1 hs) rfl rfl (by omega) (by rw [List.length_map]; omega) ?_)
            refine RW_op (L_ldRA (j := 0) (vs := cec (gd s.ents k)) k SA_88 (Rd.own' hr1 hs) (gd_at (by omega)) rfl rfl rfl (by omega) ?_)
            refine RW_op (L_bs (vals := [.agg (cec (gd s.ents k)).toArray]) (ls := List.map cec ([gd s.ents k] : List Cen)) EL_25 rfl rfl rfl (len_map (enc := cec) (fun _ => rfl) _) (one_map cec_one _) (Nat.le_of_ble_eq_true rfl) hs fun b23 w24 hs => ?_)
            refine RW_op (L_appN (ls' := (out ++ [gd s.ents k]).map cec) (n := (out ++ [gd s.ents k]).length) EL_25 hs 4 rfl rfl rfl (hs.rd 5 rfl) (one_map cec_one _) (by simp only [List.length_map, List.length_append, List.length_cons, List.length_nil]; omega) (by simp) (by simp) fun a25 c25 w26 hs => ?_)
            replace hs : Own w no w26 [blk b1 ((vc s.known) ++ [(.slice a1 s.ents.length c1 : Value), (.slice a2 s.ticks.length c2 : Value) ]) 28, blk b3 (oc o) 33, blk b5 ((vc vzero) ++ [(.slice none 0 0 : Value), (.slice none 0 0 : Value) ]) 28, blk b13 (vc (vset s.known o.dot.rep.toNat o.dot.seq)) 24, row (.slice a25 ((out ++ [gd s.ents k]).length) c25) ((out ++ [gd s.ents k]).map cec) 88 7, row (.slice (some ⟨b23, 0, none⟩) 1 1) ([gd s.ents k].map cec) 88 7] := hs
            refine RW_op (L_assign (V := .slice a25 ((out ++ [gd s.ents k]).length) c25) rfl ?_)
            refine RW_nil ?_
            refine W_region ?_
            refine RW_op (L_move (V := .int .i64 ((k : Nat) : Int)) rfl ?_)
            refine RW_op (L_add (a := ((k : Nat) : Int)) (b := 1) (c := ((k + 1 : Nat) : Int)) rfl rfl (nat_i64 (by omega) (by omega)) ?_)
            refine RW_op (L_assign (V := .int .i64 ((k + 1 : Nat) : Int)) rfl ?_)
            refine RW_nil ?_
            refine ⟨_, ?_, _, k + 1, a25, c25, out ++ [gd s.ents k], upd_of (upd_of (mix_of (ds := [8, 9, 31, 32, 33, 34, 35, 36, 37, 38, 39, 40, 41, 42, 43, 44, 45, 46, 47, 48, 49, 50, 51, 52, 53, 54]) (by repeat (first | exact Agr.refl _ _ | refine Agr.upd ?_ rfl | refine Agr.mix ?_ rfl))) rfl) rfl, (by omega), (by first | omega | (rw [List.length_append, List.length_singleton]; omega)), (filt_next_yes (p := (fun x => !endsB o (laidO x))) hout (by omega) (by simp [c22])), rfl, hs.take 5⟩
            omega
          ·
            replace c22 := not_f c22
            refine W_skip ?_
            refine W_region ?_
            refine RW_op (L_move (V := .int .i64 ((k : Nat) : Int)) rfl ?_)
            refine RW_op (L_add (a := ((k : Nat) : Int)) (b := 1) (c := ((k + 1 : Nat) : Int)) rfl rfl (nat_i64 (by omega) (by omega)) ?_)
            refine RW_op (L_assign (V := .int .i64 ((k + 1 : Nat) : Int)) rfl ?_)
            refine RW_nil ?_
            refine ⟨_, ?_, _, k + 1, an, cn, out, upd_of (upd_of (mix_of (ds := [8, 9, 31, 32, 33, 34, 35, 36, 37, 38, 39, 40, 41, 42, 43, 44, 45, 46, 47, 48, 49, 50, 51, 52, 53, 54]) (by repeat (first | exact Agr.refl _ _ | refine Agr.upd ?_ rfl | refine Agr.mix ?_ rfl))) rfl) rfl, (by omega), (by first | omega | (rw [List.length_append, List.length_singleton]; omega)), (filt_next_no (p := (fun x => !endsB o (laidO x))) hout (by omega) (by simp [c22])), rfl, hs.take 5⟩
            omega
        ·
          replace c18 := of_decide_eq_false c18
          refine W_exit ?_
          refine W_seq ?_
          refine W_seq ?_
          refine W_region ?_
          refine RW_op (L_ldW (cs := oc o) SA_33 hs 1 rfl rfl rfl ?_)
          refine RW_op (L_callP (vs := [.agg (oc o).toArray]) (V := .bool (laysB o)) EN_41 rfl rfl ?hc hs fun w27 hs => ?_)
          case hc => exact (rlays_ok _ o)
          refine RW_nil ?_
          refine W_cond (t := laysB o) rfl (fun c28 => ?_) (fun c28 => ?_)
          ·
            replace hs := hs.more emp trivial
            refine W_regD HM [some 57, some 58, some 59, some 60, some 61, some 62, some 63, some 64, some 65, some 66, some 67, some 68, some 69, some 70, some 71, some 8] [[], [], [], [], [], [], [], [], [], [], [], [], [], [], [71], [71]] [0, 0, 2, 0, 8, 0, 32, 0, 128, 0, 512, 0, 2048, 8190, 16383, 32767] [pv (.slice an out.length cn), pv (.pointer (some ⟨b3, 0 + 3, none⟩)), pv (.int .u16 o.cart), pv (.pointer (some ⟨b3, 0 + 4, none⟩)), pv (.int .u16 o.item), pv (.pointer (some ⟨b3, 0 + 5, none⟩)), pv (.int .u16 o.qty), pv (.pointer (some ⟨b3, 0 + 2, none⟩)), pv (.int .u8 o.kind), pv (.pointer (some ⟨b3, 0 + 0, none⟩)), pv (.agg (dc o.dot).toArray), pv (.agg (oc o).toArray), pv (.int .u64 (cntO o)), pv (.agg (cec (⟨o.cart, o.item, o.qty, o.kind, o.dot, cntO o⟩ : Cen)).toArray), (true, fun ρ => .slice (aOf (ρ 71)) ((putE (⟨o.cart, o.item, o.qty, o.kind, o.dot, cntO o⟩ : Cen) out).length) (cOf (ρ 71))), (true, fun ρ => .slice (aOf (ρ 71)) ((putE (⟨o.cart, o.item, o.qty, o.kind, o.dot, cntO o⟩ : Cen) out).length) (cOf (ρ 71)))] (fun D ρ => [blk b1 ((vc s.known) ++ [(.slice a1 s.ents.length c1 : Value), (.slice a2 s.ticks.length c2 : Value) ]) 28, blk b3 (oc o) 33, blk b5 ((vc vzero) ++ [(.slice none 0 0 : Value), (.slice none 0 0 : Value) ]) 28, blk b13 (vc (vset s.known o.dot.rep.toNat o.dot.seq)) 24, row (.slice an out.length cn) (out.map cec) 88 7, cond (D 14) (row (.slice (aOf (ρ 71)) ((putE (⟨o.cart, o.item, o.qty, o.kind, o.dot, cntO o⟩ : Cen) out).length) (cOf (ρ 71))) ((putE (⟨o.cart, o.item, o.qty, o.kind, o.dot, cntO o⟩ : Cen) out).map cec) 88 7) (emp)]) [15] (by kernel_rfl) hs ⟨?_, ?_, ?_, ?_, ?_, ?_, ?_, ?_, ?_, ?_, ?_, ?_, ?_, ?_, ?_, ?_, trivial⟩ ?_
            · exact ob [] [15] rfl rfl fun D ρ w hs => L_move (V := .slice an out.length cn) rfl ⟨rfl, hs⟩
            · exact ob [] [] rfl rfl fun D ρ w hs => L_fieldAddr FA_33_2 rfl ⟨rfl, hs⟩
            · exact ob [1] [] rfl rfl fun D ρ w hs => L_ld (V := .int .u16 o.cart) S1_31 hs 1 rfl rfl rfl ⟨rfl, hs⟩
            · exact ob [] [] rfl rfl fun D ρ w hs => L_fieldAddr FA_33_3 rfl ⟨rfl, hs⟩
            · exact ob [3] [] rfl rfl fun D ρ w hs => L_ld (V := .int .u16 o.item) S1_31 hs 1 rfl rfl rfl ⟨rfl, hs⟩
            · exact ob [] [] rfl rfl fun D ρ w hs => L_fieldAddr FA_33_4 rfl ⟨rfl, hs⟩
            · exact ob [5] [] rfl rfl fun D ρ w hs => L_ld (V := .int .u16 o.qty) S1_31 hs 1 rfl rfl rfl ⟨rfl, hs⟩
            · exact ob [] [] rfl rfl fun D ρ w hs => L_fieldAddr FA_33_1 rfl ⟨rfl, hs⟩
            · exact ob [7] [] rfl rfl fun D ρ w hs => L_ld (V := .int .u8 o.kind) S1_5 hs 1 rfl rfl rfl ⟨rfl, hs⟩
            · exact ob [] [] rfl rfl fun D ρ w hs => L_fieldAddr FA_33_0 rfl ⟨rfl, hs⟩
            · exact ob [9] [] rfl rfl fun D ρ w hs => L_ldA (vs := dc o.dot) SA_30 hs 1 rfl rfl rfl rfl ⟨rfl, hs⟩
            · exact ob [] [] rfl rfl fun D ρ w hs => L_ldW (cs := oc o) SA_33 hs 1 rfl rfl rfl ⟨rfl, hs⟩
            · exact ob [11] [] rfl rfl fun D ρ w hs => L_callP (vs := [.agg (oc o).toArray]) (V := .int .u64 (cntO o)) EN_18 rfl rfl (rCountO_ok _ o (by assumption)) hs fun _ hs => ⟨rfl, hs⟩
            · exact ob [2, 4, 6, 8, 10, 12] [] rfl rfl fun D ρ w hs => L_build (vs := [(0, .int .u16 o.cart), (1, .int .u16 o.item), (2, .int .u16 o.qty), (3, .int .u8 o.kind), (4, .agg (dc o.dot).toArray), (5, .int .u64 (cntO o))]) (cs := cec (⟨o.cart, o.item, o.qty, o.kind, o.dot, cntO o⟩ : Cen)) BT_88 (rfl) rfl ⟨rfl, hs⟩
            · exact ob [0, 13] [] rfl rfl fun D ρ w hs => L_callX (vs := [.slice an out.length cn, .agg (cec (⟨o.cart, o.item, o.qty, o.kind, o.dot, cntO o⟩ : Cen)).toArray]) (V := fun x : Option Addr × Nat => .slice x.1 (putE (⟨o.cart, o.item, o.qty, o.kind, o.dot, cntO o⟩ : Cen) out).length x.2) EN_42 rfl rfl (rput_ok _ an cn out (⟨o.cart, o.item, o.qty, o.kind, o.dot, cntO o⟩ : Cen) (by omega) (hs.rd 4 rfl)) hs fun _ _ hs _ => ⟨rfl, hs.put 5 (Nat.le_of_ble_eq_true rfl)⟩
            · exact ob [14] [] rfl rfl fun D ρ w hs => L_assign (V := .slice (aOf (ρ 71)) ((putE (⟨o.cart, o.item, o.qty, o.kind, o.dot, cntO o⟩ : Cen) out).length) (cOf (ρ 71))) rfl ⟨rfl, hs⟩
            rintro ρ1 w31 ρ2 hρ hs
            replace hρ : ρ2 = upd (mix [57, 58, 59, 60, 61, 62, 63, 64, 65, 66, 67, 68, 69, 70, 71, 8] ρ1 _) 8 (.slice (aOf (ρ1 71)) ((putE (⟨o.cart, o.item, o.qty, o.kind, o.dot, cntO o⟩ : Cen) out).length) (cOf (ρ1 71))) := hρ
            replace hs : Own w no w31 [blk b1 ((vc s.known) ++ [(.slice a1 s.ents.length c1 : Value), (.slice a2 s.ticks.length c2 : Value) ]) 28, blk b3 (oc o) 33, blk b5 ((vc vzero) ++ [(.slice none 0 0 : Value), (.slice none 0 0 : Value) ]) 28, blk b13 (vc (vset s.known o.dot.rep.toNat o.dot.seq)) 24, row (.slice an out.length cn) (out.map cec) 88 7, row (.slice (aOf (ρ1 71)) ((putE (⟨o.cart, o.item, o.qty, o.kind, o.dot, cntO o⟩ : Cen) out).length) (cOf (ρ1 71))) ((putE (⟨o.cart, o.item, o.qty, o.kind, o.dot, cntO o⟩ : Cen) out).map cec) 88 7] := hs
            generalize (aOf (ρ1 71)) = a32 at hρ hs
            generalize (cOf (ρ1 71)) = c33 at hρ hs
            subst hρ
            refine W_seq ?_
            replace hs := hs.more emp trivial
            refine W_regD HM [some 72, some 73, some 74, some 75, some 76, some 77, some 78, some 79, some 80, some 81, none, some 5] [[], [], [], [], [], [], [], [], [80], [80]] [0, 0, 0, 4, 0, 16, 0, 64, 252, 511, 1023, 2047] [pv (.agg (vc (vset s.known o.dot.rep.toNat o.dot.seq)).toArray), pv (.slice a32 ((putE (⟨o.cart, o.item, o.qty, o.kind, o.dot, cntO o⟩ : Cen) out).length) c33), pv (.pointer (some ⟨b1, 0 + 17, none⟩)), pv (.slice a2 s.ticks.length c2), pv (.pointer (some ⟨b3, 0 + 3, none⟩)), pv (.int .u16 o.cart), pv (.pointer (some ⟨b3, 0 + 6, none⟩)), pv (.int .u32 o.tick), (true, fun ρ => .slice (aOf (ρ 80)) ((putT o.cart o.tick s.ticks).length) (cOf (ρ 80))), (true, fun ρ => .agg ((vc (vset s.known o.dot.rep.toNat o.dot.seq)) ++ [(.slice a32 ((putE (⟨o.cart, o.item, o.qty, o.kind, o.dot, cntO o⟩ : Cen) out).length) c33 : Value), (.slice (aOf (ρ 80)) ((putT o.cart o.tick s.ticks).length) (cOf (ρ 80)) : Value) ]).toArray), pn, pv (.int .i64 0)] (fun D ρ => [blk b1 ((vc s.known) ++ [(.slice a1 s.ents.length c1 : Value), (.slice a2 s.ticks.length c2 : Value) ]) 28, blk b3 (oc o) 33, cond (D 10) (blk b5 ((vc (vset s.known o.dot.rep.toNat o.dot.seq)) ++ [(.slice a32 ((putE (⟨o.cart, o.item, o.qty, o.kind, o.dot, cntO o⟩ : Cen) out).length) c33 : Value), (.slice (aOf (ρ 80)) ((putT o.cart o.tick s.ticks).length) (cOf (ρ 80)) : Value) ]) 28) (blk b5 ((vc vzero) ++ [(.slice none 0 0 : Value), (.slice none 0 0 : Value) ]) 28), blk b13 (vc (vset s.known o.dot.rep.toNat o.dot.seq)) 24, row (.slice an out.length cn) (out.map cec) 88 7, row (.slice a32 ((putE (⟨o.cart, o.item, o.qty, o.kind, o.dot, cntO o⟩ : Cen) out).length) c33) ((putE (⟨o.cart, o.item, o.qty, o.kind, o.dot, cntO o⟩ : Cen) out).map cec) 88 7, cond (D 8) (row (.slice (aOf (ρ 80)) ((putT o.cart o.tick s.ticks).length) (cOf (ρ 80))) ((putT o.cart o.tick s.ticks).map lsc) 89 2) (emp)]) [11] (by kernel_rfl) hs ⟨?_, ?_, ?_, ?_, ?_, ?_, ?_, ?_, ?_, ?_, ?_, ?_, trivial⟩ ?_
            · exact ob [] [] rfl rfl fun D ρ w hs => L_ldW (cs := vc (vset s.known o.dot.rep.toNat o.dot.seq)) SA_24 hs 3 rfl rfl rfl ⟨rfl, hs⟩
            · exact ob [] [] rfl rfl fun D ρ w hs => L_move (V := .slice a32 ((putE (⟨o.cart, o.item, o.qty, o.kind, o.dot, cntO o⟩ : Cen) out).length) c33) rfl ⟨rfl, hs⟩
            · exact ob [] [] rfl rfl fun D ρ w hs => L_fieldAddr FA_28_2 rfl ⟨rfl, hs⟩
            · exact ob [2] [] rfl rfl fun D ρ w hs => L_ld (V := .slice a2 s.ticks.length c2) S1_26 hs 0 rfl rfl rfl ⟨rfl, hs⟩
            · exact ob [] [] rfl rfl fun D ρ w hs => L_fieldAddr FA_33_2 rfl ⟨rfl, hs⟩
            · exact ob [4] [] rfl rfl fun D ρ w hs => L_ld (V := .int .u16 o.cart) S1_31 hs 1 rfl rfl rfl ⟨rfl, hs⟩
            · exact ob [] [] rfl rfl fun D ρ w hs => L_fieldAddr FA_33_5 rfl ⟨rfl, hs⟩
            · exact ob [6] [] rfl rfl fun D ρ w hs => L_ld (V := .int .u32 o.tick) S1_22 hs 1 rfl rfl rfl ⟨rfl, hs⟩
            · exact ob [3, 5, 7] [10] rfl rfl fun D ρ w hs => L_callX (vs := [.slice a2 s.ticks.length c2, .int .u16 o.cart, .int .u32 o.tick]) (V := fun x : Option Addr × Nat => .slice x.1 (putT o.cart o.tick s.ticks).length x.2) EN_43 rfl rfl (rticked_ok _ a2 c2 s.ticks o.cart o.tick (by omega) hrc.rt (Rd.own' hr2 hs)) hs fun _ _ hs _ => ⟨rfl, hs.put 6 (Nat.le_of_ble_eq_true rfl)⟩
            · exact ob [0, 1, 8] [] rfl rfl fun D ρ w hs => L_buildP (vs := [(0, .agg (vc (vset s.known o.dot.rep.toNat o.dot.seq)).toArray), (1, .slice a32 ((putE (⟨o.cart, o.item, o.qty, o.kind, o.dot, cntO o⟩ : Cen) out).length) c33), (2, .slice (aOf (ρ 80)) ((putT o.cart o.tick s.ticks).length) (cOf (ρ 80)))]) (cs := (vc (vset s.known o.dot.rep.toNat o.dot.seq)) ++ [(.slice a32 ((putE (⟨o.cart, o.item, o.qty, o.kind, o.dot, cntO o⟩ : Cen) out).length) c33 : Value), (.slice (aOf (ρ 80)) ((putT o.cart o.tick s.ticks).length) (cOf (ρ 80)) : Value) ]) [vc vzero, [(.slice none 0 0 : Value)], [(.slice none 0 0 : Value)]] [vc (vset s.known o.dot.rep.toNat o.dot.seq), [(.slice a32 ((putE (⟨o.cart, o.item, o.qty, o.kind, o.dot, cntO o⟩ : Cen) out).length) c33 : Value)], [(.slice (aOf (ρ 80)) ((putT o.cart o.tick s.ticks).length) (cOf (ρ 80)) : Value)]] BT_28 rfl (rfl) rfl rfl ⟨rfl, hs⟩
            · exact ob [9] [] rfl rfl fun D ρ w hs => L_st (V := .agg ((vc (vset s.known o.dot.rep.toNat o.dot.seq)) ++ [(.slice a32 ((putE (⟨o.cart, o.item, o.qty, o.kind, o.dot, cntO o⟩ : Cen) out).length) c33 : Value), (.slice (aOf (ρ 80)) ((putT o.cart o.tick s.ticks).length) (cOf (ρ 80)) : Value) ]).toArray) (vs := (vc (vset s.known o.dot.rep.toNat o.dot.seq)) ++ [(.slice a32 ((putE (⟨o.cart, o.item, o.qty, o.kind, o.dot, cntO o⟩ : Cen) out).length) c33 : Value), (.slice (aOf (ρ 80)) ((putT o.cart o.tick s.ticks).length) (cOf (ρ 80)) : Value) ]) (cs' := (vc (vset s.known o.dot.rep.toNat o.dot.seq)) ++ [(.slice a32 ((putE (⟨o.cart, o.item, o.qty, o.kind, o.dot, cntO o⟩ : Cen) out).length) c33 : Value), (.slice (aOf (ρ 80)) ((putT o.cart o.tick s.ticks).length) (cOf (ρ 80)) : Value) ]) SA_28.1 hs 2 rfl rfl rfl rfl rfl (Nat.le_of_ble_eq_true rfl) (one_app (vc_one _) (one_cons rfl (one_cons rfl one_nil))) (spl_whole rfl) fun _ hs => ⟨trivial, hs⟩
            · exact ob [] [] rfl rfl fun D ρ w hs => L_assign (V := .int .i64 0) rfl ⟨rfl, hs⟩
            rintro ρ1 w36 ρ2 hρ hs
            replace hρ : ρ2 = upd (mix [72, 73, 74, 75, 76, 77, 78, 79, 80, 81, 5] ρ1 _) 5 (.int .i64 0) := hρ
            replace hs : Own w no w36 [blk b1 ((vc s.known) ++ [(.slice a1 s.ents.length c1 : Value), (.slice a2 s.ticks.length c2 : Value) ]) 28, blk b3 (oc o) 33, blk b5 ((vc (vset s.known o.dot.rep.toNat o.dot.seq)) ++ [(.slice a32 ((putE (⟨o.cart, o.item, o.qty, o.kind, o.dot, cntO o⟩ : Cen) out).length) c33 : Value), (.slice (aOf (ρ1 80)) ((putT o.cart o.tick s.ticks).length) (cOf (ρ1 80)) : Value) ]) 28, blk b13 (vc (vset s.known o.dot.rep.toNat o.dot.seq)) 24, row (.slice an out.length cn) (out.map cec) 88 7, row (.slice a32 ((putE (⟨o.cart, o.item, o.qty, o.kind, o.dot, cntO o⟩ : Cen) out).length) c33) ((putE (⟨o.cart, o.item, o.qty, o.kind, o.dot, cntO o⟩ : Cen) out).map cec) 88 7, row (.slice (aOf (ρ1 80)) ((putT o.cart o.tick s.ticks).length) (cOf (ρ1 80))) ((putT o.cart o.tick s.ticks).map lsc) 89 2] := hs
            generalize (aOf (ρ1 80)) = a37 at hs
            generalize (cOf (ρ1 80)) = c38 at hs
            subst hρ
            refine W_ret ?_
            refine ⟨_, res_cell2 (cs := (vc (vset s.known o.dot.rep.toNat o.dot.seq)) ++ [(.slice a32 ((putE (⟨o.cart, o.item, o.qty, o.kind, o.dot, cntO o⟩ : Cen) out).length) c33 : Value), (.slice a37 ((putT o.cart o.tick s.ticks).length) c38 : Value) ]) (V := .int .i64 0) Tryz.results9 SA_28 hs 2 rfl rfl rfl rfl, ?_⟩
            have hI : applyI s o = 0 := by unfold applyI; rw [if_pos c8]; exact c11
            have hF : out = s.ents.filter (fun x => !endsB o (laidO x)) := by rw [hout, take_all (by omega)]
            have hR : applyR s o = (⟨vset s.known o.dot.rep.toNat o.dot.seq, putE (⟨o.cart, o.item, o.qty, o.kind, o.dot, cntO o⟩ : Cen) out, putT o.cart o.tick s.ticks⟩ : Sta) := by unfold applyR; rw [if_pos hI, hF]; unfold applyE; rw [if_pos c28]; first | done | rfl
            rw [hI, hR]
            exact ⟨((a32, c33), (a37, c38)), rfl, hs.two 5 6 (by decide) rfl rfl, trivial⟩
          ·
            refine W_skip ?_
            refine W_seq ?_
            replace hs := hs.more emp trivial
            refine W_regD HM [some 72, some 73, some 74, some 75, some 76, some 77, some 78, some 79, some 80, some 81, none, some 5] [[], [], [], [], [], [], [], [], [80], [80]] [0, 0, 0, 4, 0, 16, 0, 64, 252, 511, 1023, 2047] [pv (.agg (vc (vset s.known o.dot.rep.toNat o.dot.seq)).toArray), pv (.slice an out.length cn), pv (.pointer (some ⟨b1, 0 + 17, none⟩)), pv (.slice a2 s.ticks.length c2), pv (.pointer (some ⟨b3, 0 + 3, none⟩)), pv (.int .u16 o.cart), pv (.pointer (some ⟨b3, 0 + 6, none⟩)), pv (.int .u32 o.tick), (true, fun ρ => .slice (aOf (ρ 80)) ((putT o.cart o.tick s.ticks).length) (cOf (ρ 80))), (true, fun ρ => .agg ((vc (vset s.known o.dot.rep.toNat o.dot.seq)) ++ [(.slice an out.length cn : Value), (.slice (aOf (ρ 80)) ((putT o.cart o.tick s.ticks).length) (cOf (ρ 80)) : Value) ]).toArray), pn, pv (.int .i64 0)] (fun D ρ => [blk b1 ((vc s.known) ++ [(.slice a1 s.ents.length c1 : Value), (.slice a2 s.ticks.length c2 : Value) ]) 28, blk b3 (oc o) 33, cond (D 10) (blk b5 ((vc (vset s.known o.dot.rep.toNat o.dot.seq)) ++ [(.slice an out.length cn : Value), (.slice (aOf (ρ 80)) ((putT o.cart o.tick s.ticks).length) (cOf (ρ 80)) : Value) ]) 28) (blk b5 ((vc vzero) ++ [(.slice none 0 0 : Value), (.slice none 0 0 : Value) ]) 28), blk b13 (vc (vset s.known o.dot.rep.toNat o.dot.seq)) 24, row (.slice an out.length cn) (out.map cec) 88 7, cond (D 8) (row (.slice (aOf (ρ 80)) ((putT o.cart o.tick s.ticks).length) (cOf (ρ 80))) ((putT o.cart o.tick s.ticks).map lsc) 89 2) (emp)]) [11] (by kernel_rfl) hs ⟨?_, ?_, ?_, ?_, ?_, ?_, ?_, ?_, ?_, ?_, ?_, ?_, trivial⟩ ?_
            · exact ob [] [] rfl rfl fun D ρ w hs => L_ldW (cs := vc (vset s.known o.dot.rep.toNat o.dot.seq)) SA_24 hs 3 rfl rfl rfl ⟨rfl, hs⟩
            · exact ob [] [] rfl rfl fun D ρ w hs => L_move (V := .slice an out.length cn) rfl ⟨rfl, hs⟩
            · exact ob [] [] rfl rfl fun D ρ w hs => L_fieldAddr FA_28_2 rfl ⟨rfl, hs⟩
            · exact ob [2] [] rfl rfl fun D ρ w hs => L_ld (V := .slice a2 s.ticks.length c2) S1_26 hs 0 rfl rfl rfl ⟨rfl, hs⟩
            · exact ob [] [] rfl rfl fun D ρ w hs => L_fieldAddr FA_33_2 rfl ⟨rfl, hs⟩
            · exact ob [4] [] rfl rfl fun D ρ w hs => L_ld (V := .int .u16 o.cart) S1_31 hs 1 rfl rfl rfl ⟨rfl, hs⟩
            · exact ob [] [] rfl rfl fun D ρ w hs => L_fieldAddr FA_33_5 rfl ⟨rfl, hs⟩
            · exact ob [6] [] rfl rfl fun D ρ w hs => L_ld (V := .int .u32 o.tick) S1_22 hs 1 rfl rfl rfl ⟨rfl, hs⟩
            · exact ob [3, 5, 7] [10] rfl rfl fun D ρ w hs => L_callX (vs := [.slice a2 s.ticks.length c2, .int .u16 o.cart, .int .u32 o.tick]) (V := fun x : Option Addr × Nat => .slice x.1 (putT o.cart o.tick s.ticks).length x.2) EN_43 rfl rfl (rticked_ok _ a2 c2 s.ticks o.cart o.tick (by omega) hrc.rt (Rd.own' hr2 hs)) hs fun _ _ hs _ => ⟨rfl, hs.put 5 (Nat.le_of_ble_eq_true rfl)⟩
            · exact ob [0, 1, 8] [] rfl rfl fun D ρ w hs => L_buildP (vs := [(0, .agg (vc (vset s.known o.dot.rep.toNat o.dot.seq)).toArray), (1, .slice an out.length cn), (2, .slice (aOf (ρ 80)) ((putT o.cart o.tick s.ticks).length) (cOf (ρ 80)))]) (cs := (vc (vset s.known o.dot.rep.toNat o.dot.seq)) ++ [(.slice an out.length cn : Value), (.slice (aOf (ρ 80)) ((putT o.cart o.tick s.ticks).length) (cOf (ρ 80)) : Value) ]) [vc vzero, [(.slice none 0 0 : Value)], [(.slice none 0 0 : Value)]] [vc (vset s.known o.dot.rep.toNat o.dot.seq), [(.slice an out.length cn : Value)], [(.slice (aOf (ρ 80)) ((putT o.cart o.tick s.ticks).length) (cOf (ρ 80)) : Value)]] BT_28 rfl (rfl) rfl rfl ⟨rfl, hs⟩
            · exact ob [9] [] rfl rfl fun D ρ w hs => L_st (V := .agg ((vc (vset s.known o.dot.rep.toNat o.dot.seq)) ++ [(.slice an out.length cn : Value), (.slice (aOf (ρ 80)) ((putT o.cart o.tick s.ticks).length) (cOf (ρ 80)) : Value) ]).toArray) (vs := (vc (vset s.known o.dot.rep.toNat o.dot.seq)) ++ [(.slice an out.length cn : Value), (.slice (aOf (ρ 80)) ((putT o.cart o.tick s.ticks).length) (cOf (ρ 80)) : Value) ]) (cs' := (vc (vset s.known o.dot.rep.toNat o.dot.seq)) ++ [(.slice an out.length cn : Value), (.slice (aOf (ρ 80)) ((putT o.cart o.tick s.ticks).length) (cOf (ρ 80)) : Value) ]) SA_28.1 hs 2 rfl rfl rfl rfl rfl (Nat.le_of_ble_eq_true rfl) (one_app (vc_one _) (one_cons rfl (one_cons rfl one_nil))) (spl_whole rfl) fun _ hs => ⟨trivial, hs⟩
            · exact ob [] [] rfl rfl fun D ρ w hs => L_assign (V := .int .i64 0) rfl ⟨rfl, hs⟩
            rintro ρ1 w41 ρ2 hρ hs
            replace hρ : ρ2 = upd (mix [72, 73, 74, 75, 76, 77, 78, 79, 80, 81, 5] ρ1 _) 5 (.int .i64 0) := hρ
            replace hs : Own w no w41 [blk b1 ((vc s.known) ++ [(.slice a1 s.ents.length c1 : Value), (.slice a2 s.ticks.length c2 : Value) ]) 28, blk b3 (oc o) 33, blk b5 ((vc (vset s.known o.dot.rep.toNat o.dot.seq)) ++ [(.slice an out.length cn : Value), (.slice (aOf (ρ1 80)) ((putT o.cart o.tick s.ticks).length) (cOf (ρ1 80)) : Value) ]) 28, blk b13 (vc (vset s.known o.dot.rep.toNat o.dot.seq)) 24, row (.slice an out.length cn) (out.map cec) 88 7, row (.slice (aOf (ρ1 80)) ((putT o.cart o.tick s.ticks).length) (cOf (ρ1 80))) ((putT o.cart o.tick s.ticks).map lsc) 89 2] := hs
            generalize (aOf (ρ1 80)) = a42 at hs
            generalize (cOf (ρ1 80)) = c43 at hs
            subst hρ
            refine W_ret ?_
            refine ⟨_, res_cell2 (cs := (vc (vset s.known o.dot.rep.toNat o.dot.seq)) ++ [(.slice an out.length cn : Value), (.slice a42 ((putT o.cart o.tick s.ticks).length) c43 : Value) ]) (V := .int .i64 0) Tryz.results9 SA_28 hs 2 rfl rfl rfl rfl, ?_⟩
            have hI : applyI s o = 0 := by unfold applyI; rw [if_pos c8]; exact c11
            have hF : out = s.ents.filter (fun x => !endsB o (laidO x)) := by rw [hout, take_all (by omega)]
            have hR : applyR s o = (⟨vset s.known o.dot.rep.toNat o.dot.seq, out, putT o.cart o.tick s.ticks⟩ : Sta) := by unfold applyR; rw [if_pos hI, hF]; unfold applyE; rw [if_neg (by rw [c28]; decide)]; first | done | rfl
            rw [hI, hR]
            exact ⟨((an, cn), (a42, c43)), rfl, hs.two 4 5 (by decide) rfl rfl, trivial⟩
end Tt
end Go.Proofs
namespace Go.Proofs
open Go Go.Vx Go.RowKit
namespace Tt
set_option maxRecDepth 20000 in
set_option maxHeartbeats 4000000 in
theorem cartApplies_ok (w : World) (s : Sta) (a1 : Option Addr) (c1 : Nat) (a2 : Option Addr) (c2 : Nat) (o : Opn) (hsortE : SortC Tryz.prog 68 35 cec 59 7 srtE) (hO : OpnOk o) (hok : StaOk s) (hr1 : Rd w (.slice a1 s.ents.length c1) 7 (s.ents.map cec)) (hr2 : Rd w (.slice a2 s.ticks.length c2) 2 (s.ticks.map lsc)) : Calls Tryz.prog 3 #[.agg ((vc s.known) ++ [(.slice a1 s.ents.length c1 : Value), (.slice a2 s.ticks.length c2 : Value) ]).toArray, .agg (oc o).toArray] w (fun e w' => e = .returned (.bool true) ∧ Own w no w' []) := by
  refine calls_of_Wn (n := 44) Tryz.func3 rfl Tryz.ntmps3 rfl ?_
  have hs := Own.start w
  refine W_seq ?_
  refine W_region ?_
  refine RW_op (L_box (V := .agg ((vc s.known) ++ [(.slice a1 s.ents.length c1 : Value), (.slice a2 s.ticks.length c2 : Value) ]).toArray) (cs := (vc s.known) ++ [(.slice a1 s.ents.length c1 : Value), (.slice a2 s.ticks.length c2 : Value) ]) rfl rfl hs fun b1 w2 hs => ?_)
  refine RW_op (L_box (V := .agg (oc o).toArray) (cs := oc o) rfl rfl hs fun b3 w4 hs => ?_)
  refine RW_op (L_assign (V := .bool false) rfl ?_)
  refine RW_nil ?_
  refine W_seq ?_
  refine W_seq ?_
  refine W_region ?_
  refine RW_op (L_callP (vs := []) (V := .bool true) EN_5 rfl rfl ?hc hs fun w5 hs => ?_)
  case hc => exact (alive8_ok _ hsortE)
  refine RW_op (L_not rfl ?_)
  refine RW_nil ?_
  refine W_condF rfl ?_
  refine W_skip ?_
  refine W_seq ?_
  refine W_seq ?_
  refine W_region ?_
  refine RW_op (L_ldW (cs := (vc s.known) ++ [(.slice a1 s.ents.length c1 : Value), (.slice a2 s.ticks.length c2 : Value) ]) SA_28 hs 0 rfl rfl rfl ?_)
  refine RW_op (L_callP (vs := [.agg ((vc s.known) ++ [(.slice a1 s.ents.length c1 : Value), (.slice a2 s.ticks.length c2 : Value) ]).toArray]) (V := .bool (fewB s)) EN_6 rfl rfl ?hc hs fun w6 hs => ?_)
  case hc => exact (few_ok _ s a1 c1 a2 c2 (Rd.own' hr1 hs) (Rd.own' hr2 hs))
  refine RW_op (L_not rfl ?_)
  refine RW_nil ?_
  refine W_cond (t := !(fewB s)) rfl (fun c7 => ?_) (fun c7 => ?_)
  ·
    replace c7 := not_t c7
    refine W_seq ?_
    refine W_region ?_
    refine RW_op (L_assign (V := .bool true) rfl ?_)
    refine RW_nil ?_
    refine W_ret ?_
    refine ⟨_, res_one (V := .bool true) Tryz.results3 rfl, ?_⟩
    refine ⟨congrArg Ending.returned ?_, hs.take 0⟩
    rfl
  ·
    replace c7 := not_f c7
    refine W_skip ?_
    refine W_seq ?_
    have ⟨hf1, hf2⟩ := few_le c7
    replace hs := hs.more emp trivial
    replace hs := hs.more emp trivial
    replace hs := hs.more emp trivial
    replace hs := hs.more emp trivial
    replace hs := hs.more emp trivial
    refine W_regD HM [some 15, some 16, some 17, some 18, some 14, some 19, some 20, some 5, none, some 6] [[], [16], [], [18], [18], [18], [], [5]] [0, 1, 0, 7, 15, 31, 31, 0, 191, 511] [pv (.agg ((vc s.known) ++ [(.slice a1 s.ents.length c1 : Value), (.slice a2 s.ticks.length c2 : Value) ]).toArray), (true, fun ρ => .agg ((vc s.known) ++ [(.slice (aOf (aggS (ρ 16) 16)) ((s.ents).length) (cOf (aggS (ρ 16) 16)) : Value), (.slice (aOf (aggS (ρ 16) 17)) ((s.ticks).length) (cOf (aggS (ρ 16) 17)) : Value) ]).toArray), pv (.agg (oc o).toArray), (true, fun ρ => .tuple #[.agg ((vc ((applyR s o).known)) ++ [(.slice (aOf (tupS (ρ 18) 0 16)) (((applyR s o).ents).length) (cOf (tupS (ρ 18) 0 16)) : Value), (.slice (aOf (tupS (ρ 18) 0 17)) (((applyR s o).ticks).length) (cOf (tupS (ρ 18) 0 17)) : Value) ]).toArray, .int .i64 (applyI s o)]), (true, fun ρ => .tuple #[.agg ((vc ((applyR s o).known)) ++ [(.slice (aOf (tupS (ρ 18) 0 16)) (((applyR s o).ents).length) (cOf (tupS (ρ 18) 0 16)) : Value), (.slice (aOf (tupS (ρ 18) 0 17)) (((applyR s o).ticks).length) (cOf (tupS (ρ 18) 0 17)) : Value) ]).toArray, .int .i64 (applyI s o)]), (true, fun ρ => .agg ((vc ((applyR s o).known)) ++ [(.slice (aOf (tupS (ρ 18) 0 16)) (((applyR s o).ents).length) (cOf (tupS (ρ 18) 0 16)) : Value), (.slice (aOf (tupS (ρ 18) 0 17)) (((applyR s o).ticks).length) (cOf (tupS (ρ 18) 0 17)) : Value) ]).toArray), pv (.int .i64 (applyI s o)), (true, fun ρ => .pointer (some ⟨(bOf (ρ 5)), 0, none⟩)), pn, pv (.int .i64 (applyI s o))] (fun D ρ => [blk b1 ((vc s.known) ++ [(.slice a1 s.ents.length c1 : Value), (.slice a2 s.ticks.length c2 : Value) ]) 28, blk b3 (oc o) 33, cond (D 1) (row (.slice (aOf (aggS (ρ 16) 16)) ((s.ents).length) (cOf (aggS (ρ 16) 16))) (s.ents.map cec) 59 7) (emp), cond (D 1) (row (.slice (aOf (aggS (ρ 16) 17)) ((s.ticks).length) (cOf (aggS (ρ 16) 17))) (s.ticks.map lsc) 87 2) (emp), cond (D 3) (row (.slice (aOf (tupS (ρ 18) 0 16)) (((applyR s o).ents).length) (cOf (tupS (ρ 18) 0 16))) (((applyR s o).ents).map cec) 59 7) (emp), cond (D 3) (row (.slice (aOf (tupS (ρ 18) 0 17)) (((applyR s o).ticks).length) (cOf (tupS (ρ 18) 0 17))) (((applyR s o).ticks).map lsc) 87 2) (emp), cond (D 8) (blk (bOf (ρ 5)) ((vc ((applyR s o).known)) ++ [(.slice (aOf (tupS (ρ 18) 0 16)) (((applyR s o).ents).length) (cOf (tupS (ρ 18) 0 16)) : Value), (.slice (aOf (tupS (ρ 18) 0 17)) (((applyR s o).ticks).length) (cOf (tupS (ρ 18) 0 17)) : Value) ]) 39) (cond (D 7) (blk (bOf (ρ 5)) ((vc vzero) ++ [(.slice none 0 0 : Value), (.slice none 0 0 : Value) ]) 39) (emp))]) [9, 7] (by kernel_rfl) hs ⟨?_, ?_, ?_, ?_, ?_, ?_, ?_, ?_, ?_, ?_, trivial⟩ ?_
    · exact ob [] [] rfl rfl fun D ρ w hs => L_ldW (cs := (vc s.known) ++ [(.slice a1 s.ents.length c1 : Value), (.slice a2 s.ticks.length c2 : Value) ]) SA_28 hs 0 rfl rfl rfl ⟨rfl, hs⟩
    · exact ob [0] [] rfl rfl fun D ρ w hs => L_callX (α := (Option Addr × Nat) × (Option Addr × Nat)) (vs := [.agg ((vc s.known) ++ [(.slice a1 s.ents.length c1 : Value), (.slice a2 s.ticks.length c2 : Value) ]).toArray]) (V := fun x : (Option Addr × Nat) × (Option Addr × Nat) => .agg (vc s.known ++ [(.slice x.1.1 (s.ents).length x.1.2 : Value), (.slice x.2.1 (s.ticks).length x.2.2 : Value)]).toArray) (Lo := fun x => [row (.slice x.1.1 (s.ents).length x.1.2) ((s.ents).map cec) 59 7, row (.slice x.2.1 (s.ticks).length x.2.2) ((s.ticks).map lsc) 87 2]) (F := fun _ _ => True) EN_8 rfl rfl (theirs_ok _ s a1 c1 a2 c2 (by omega) (by omega) (Rd.own' hr1 hs) (Rd.own' hr2 hs)) hs fun _ _ hs _ => ⟨rfl, hs.put2 2 3 (Nat.le_of_ble_eq_true rfl) (Nat.le_of_ble_eq_true rfl)⟩
    · exact ob [] [] rfl rfl fun D ρ w hs => L_ldW (cs := oc o) SA_33 hs 1 rfl rfl rfl ⟨rfl, hs⟩
    · exact ob [1, 2] [8] rfl rfl fun D ρ w hs => L_callX (α := (Option Addr × Nat) × (Option Addr × Nat)) (vs := [.agg ((vc s.known) ++ [(.slice (aOf (aggS (ρ 16) 16)) ((s.ents).length) (cOf (aggS (ρ 16) 16)) : Value), (.slice (aOf (aggS (ρ 16) 17)) ((s.ticks).length) (cOf (aggS (ρ 16) 17)) : Value) ]).toArray, .agg (oc o).toArray]) (V := fun x : (Option Addr × Nat) × (Option Addr × Nat) => .tuple #[.agg (vc (applyR s o).known ++ [(.slice x.1.1 ((applyR s o).ents).length x.1.2 : Value), (.slice x.2.1 ((applyR s o).ticks).length x.2.2 : Value)]).toArray, .int .i64 (applyI s o)]) (Lo := fun x => [row (.slice x.1.1 ((applyR s o).ents).length x.1.2) (((applyR s o).ents).map cec) 59 7, row (.slice x.2.1 ((applyR s o).ticks).length x.2.2) (((applyR s o).ticks).map lsc) 87 2]) (F := fun _ _ => True) EN_7 rfl rfl (cApply_ok _ s (aOf (aggS (ρ 16) 16)) (cOf (aggS (ρ 16) 16)) (aOf (aggS (ρ 16) 17)) (cOf (aggS (ρ 16) 17)) o hO hok (by omega) (by omega) (hs.rd 2 rfl) (hs.rd 3 rfl)) hs fun _ _ hs _ => ⟨rfl, hs.put2 4 5 (Nat.le_of_ble_eq_true rfl) (Nat.le_of_ble_eq_true rfl)⟩
    · exact ob [3] [] rfl rfl fun D ρ w hs => L_move (V := .tuple #[.agg ((vc ((applyR s o).known)) ++ [(.slice (aOf (tupS (ρ 18) 0 16)) (((applyR s o).ents).length) (cOf (tupS (ρ 18) 0 16)) : Value), (.slice (aOf (tupS (ρ 18) 0 17)) (((applyR s o).ticks).length) (cOf (tupS (ρ 18) 0 17)) : Value) ]).toArray, .int .i64 (applyI s o)]) rfl ⟨rfl, hs⟩
    · exact ob [4] [] rfl rfl fun D ρ w hs => L_extract (V := .agg ((vc ((applyR s o).known)) ++ [(.slice (aOf (tupS (ρ 18) 0 16)) (((applyR s o).ents).length) (cOf (tupS (ρ 18) 0 16)) : Value), (.slice (aOf (tupS (ρ 18) 0 17)) (((applyR s o).ticks).length) (cOf (tupS (ρ 18) 0 17)) : Value) ]).toArray) rfl rfl ⟨rfl, hs⟩
    · exact ob [4] [] rfl rfl fun D ρ w hs => L_extract (V := .int .i64 (applyI s o)) rfl rfl ⟨rfl, hs⟩
    · exact ob [] [8] rfl rfl fun D ρ w hs => L_alloc (cs := (vc vzero) ++ [(.slice none 0 0 : Value), (.slice none 0 0 : Value) ]) ZV_39 rfl hs fun _ _ hs => ⟨rfl, hs.put 6 (Nat.le_of_ble_eq_true rfl)⟩
    · exact ob [5, 7] [] rfl rfl fun D ρ w hs => L_st (V := .agg ((vc ((applyR s o).known)) ++ [(.slice (aOf (tupS (ρ 18) 0 16)) (((applyR s o).ents).length) (cOf (tupS (ρ 18) 0 16)) : Value), (.slice (aOf (tupS (ρ 18) 0 17)) (((applyR s o).ticks).length) (cOf (tupS (ρ 18) 0 17)) : Value) ]).toArray) (vs := (vc ((applyR s o).known)) ++ [(.slice (aOf (tupS (ρ 18) 0 16)) (((applyR s o).ents).length) (cOf (tupS (ρ 18) 0 16)) : Value), (.slice (aOf (tupS (ρ 18) 0 17)) (((applyR s o).ticks).length) (cOf (tupS (ρ 18) 0 17)) : Value) ]) (cs' := (vc ((applyR s o).known)) ++ [(.slice (aOf (tupS (ρ 18) 0 16)) (((applyR s o).ents).length) (cOf (tupS (ρ 18) 0 16)) : Value), (.slice (aOf (tupS (ρ 18) 0 17)) (((applyR s o).ticks).length) (cOf (tupS (ρ 18) 0 17)) : Value) ]) SA_39.1 hs 6 rfl rfl rfl rfl rfl (Nat.le_of_ble_eq_true rfl) (one_app (vc_one _) (one_cons rfl (one_cons rfl one_nil))) (spl_whole rfl) fun _ hs => ⟨trivial, hs⟩
    · exact ob [6] [] rfl rfl fun D ρ w hs => L_assign (V := .int .i64 (applyI s o)) rfl ⟨rfl, hs⟩
    rintro ρ1 w12 ρ2 hρ hs
    replace hρ : ρ2 = upd (upd (mix [15, 16, 17, 18, 14, 19, 20, 5, 6] ρ1 _) 5 (.pointer (some ⟨(bOf (ρ1 5)), 0, none⟩))) 6 (.int .i64 (applyI s o)) := hρ
    replace hs : Own w no w12 [blk b1 ((vc s.known) ++ [(.slice a1 s.ents.length c1 : Value), (.slice a2 s.ticks.length c2 : Value) ]) 28, blk b3 (oc o) 33, row (.slice (aOf (aggS (ρ1 16) 16)) ((s.ents).length) (cOf (aggS (ρ1 16) 16))) (s.ents.map cec) 59 7, row (.slice (aOf (aggS (ρ1 16) 17)) ((s.ticks).length) (cOf (aggS (ρ1 16) 17))) (s.ticks.map lsc) 87 2, row (.slice (aOf (tupS (ρ1 18) 0 16)) (((applyR s o).ents).length) (cOf (tupS (ρ1 18) 0 16))) (((applyR s o).ents).map cec) 59 7, row (.slice (aOf (tupS (ρ1 18) 0 17)) (((applyR s o).ticks).length) (cOf (tupS (ρ1 18) 0 17))) (((applyR s o).ticks).map lsc) 87 2, blk (bOf (ρ1 5)) ((vc ((applyR s o).known)) ++ [(.slice (aOf (tupS (ρ1 18) 0 16)) (((applyR s o).ents).length) (cOf (tupS (ρ1 18) 0 16)) : Value), (.slice (aOf (tupS (ρ1 18) 0 17)) (((applyR s o).ticks).length) (cOf (tupS (ρ1 18) 0 17)) : Value) ]) 39] := hs
    generalize (aOf (aggS (ρ1 16) 16)) = na13 at hs
    generalize (cOf (aggS (ρ1 16) 16)) = nc14 at hs
    generalize (aOf (aggS (ρ1 16) 17)) = na15 at hs
    generalize (cOf (aggS (ρ1 16) 17)) = nc16 at hs
    generalize (aOf (tupS (ρ1 18) 0 16)) = na17 at hs
    generalize (cOf (tupS (ρ1 18) 0 16)) = nc18 at hs
    generalize (aOf (tupS (ρ1 18) 0 17)) = na19 at hs
    generalize (cOf (tupS (ρ1 18) 0 17)) = nc20 at hs
    generalize (bOf (ρ1 5)) = b21 at hρ hs
    subst hρ
    refine W_seq ?_
    refine W_region ?_
    refine RW_op (L_ldW (cs := (vc s.known) ++ [(.slice a1 s.ents.length c1 : Value), (.slice a2 s.ticks.length c2 : Value) ]) SA_28 hs 0 rfl rfl rfl ?_)
    refine RW_op (L_ldW (cs := oc o) SA_33 hs 1 rfl rfl rfl ?_)
    refine RW_op (L_callX (α := (Option Addr × Nat) × (Option Addr × Nat)) (vs := [.agg ((vc s.known) ++ [(.slice a1 s.ents.length c1 : Value), (.slice a2 s.ticks.length c2 : Value) ]).toArray, .agg (oc o).toArray]) (V := fun x : (Option Addr × Nat) × (Option Addr × Nat) => .tuple #[.agg (vc (applyR s o).known ++ [(.slice x.1.1 ((applyR s o).ents).length x.1.2 : Value), (.slice x.2.1 ((applyR s o).ticks).length x.2.2 : Value)]).toArray, .int .i64 (applyI s o)]) (Lo := fun x => [row (.slice x.1.1 ((applyR s o).ents).length x.1.2) (((applyR s o).ents).map cec) 88 7, row (.slice x.2.1 ((applyR s o).ticks).length x.2.2) (((applyR s o).ticks).map lsc) 89 2]) (F := fun _ _ => True) EN_9 rfl rfl ?hc hs fun x23 w22 hs _ => ?_)
    case hc => exact (rApply_ok _ s a1 c1 a2 c2 o hO hok (by omega) (by omega) (Rd.own' hr1 hs) (Rd.own' hr2 hs))
    refine RW_op (L_move (V := .tuple #[.agg ((vc ((applyR s o).known)) ++ [(.slice x23.1.1 (((applyR s o).ents).length) x23.1.2 : Value), (.slice x23.2.1 (((applyR s o).ticks).length) x23.2.2 : Value) ]).toArray, .int .i64 (applyI s o)]) rfl ?_)
    refine RW_op (L_extract (V := .agg ((vc ((applyR s o).known)) ++ [(.slice x23.1.1 (((applyR s o).ents).length) x23.1.2 : Value), (.slice x23.2.1 (((applyR s o).ticks).length) x23.2.2 : Value) ]).toArray) rfl rfl ?_)
    refine RW_op (L_extract (V := .int .i64 (applyI s o)) rfl rfl ?_)
    refine RW_op (L_alloc (cs := (vc vzero) ++ [(.slice none 0 0 : Value), (.slice none 0 0 : Value) ]) ZV_28 rfl hs fun b24 w25 hs => ?_)
    replace hs : Own w no w25 [blk b1 ((vc s.known) ++ [(.slice a1 s.ents.length c1 : Value), (.slice a2 s.ticks.length c2 : Value) ]) 28, blk b3 (oc o) 33, row (.slice na13 ((s.ents).length) nc14) (s.ents.map cec) 59 7, row (.slice na15 ((s.ticks).length) nc16) (s.ticks.map lsc) 87 2, row (.slice na17 (((applyR s o).ents).length) nc18) (((applyR s o).ents).map cec) 59 7, row (.slice na19 (((applyR s o).ticks).length) nc20) (((applyR s o).ticks).map lsc) 87 2, blk b21 ((vc ((applyR s o).known)) ++ [(.slice na17 (((applyR s o).ents).length) nc18 : Value), (.slice na19 (((applyR s o).ticks).length) nc20 : Value) ]) 39, row (.slice x23.1.1 (((applyR s o).ents).length) x23.1.2) (((applyR s o).ents).map cec) 88 7, row (.slice x23.2.1 (((applyR s o).ticks).length) x23.2.2) (((applyR s o).ticks).map lsc) 89 2, blk b24 ((vc vzero) ++ [(.slice none 0 0 : Value), (.slice none 0 0 : Value) ]) 28] := hs
    refine RW_op (L_st (V := .agg ((vc ((applyR s o).known)) ++ [(.slice x23.1.1 (((applyR s o).ents).length) x23.1.2 : Value), (.slice x23.2.1 (((applyR s o).ticks).length) x23.2.2 : Value) ]).toArray) (vs := (vc ((applyR s o).known)) ++ [(.slice x23.1.1 (((applyR s o).ents).length) x23.1.2 : Value), (.slice x23.2.1 (((applyR s o).ticks).length) x23.2.2 : Value) ]) (cs' := (vc ((applyR s o).known)) ++ [(.slice x23.1.1 (((applyR s o).ents).length) x23.1.2 : Value), (.slice x23.2.1 (((applyR s o).ticks).length) x23.2.2 : Value) ]) SA_28.1 hs 9 rfl rfl rfl rfl rfl (Nat.le_of_ble_eq_true rfl) (one_app (vc_one _) (one_cons rfl (one_cons rfl one_nil))) (spl_whole rfl) fun w26 hs => ?_)
    refine RW_op (L_assign (V := .int .i64 (applyI s o)) rfl ?_)
    refine RW_nil ?_
    refine W_seq ?_
    have hal := applyR_lens s o
    replace hs := hs.more emp trivial
    replace hs := hs.more emp trivial
    replace hs := hs.more emp trivial
    replace hs := hs.more emp trivial
    refine W_regD HM [some 27, some 28, some 29, some 30, some 31, some 32, some 33, some 34, some 35, some 36, some 37, some 38, some 39, some 40, some 41, some 42, some 43, some 4] [[], [28], [], [], [], [], [], [], [35]] [0, 1, 3, 0, 15, 31, 63, 127, 255, 127, 1023, 2047, 4095, 8191, 8191, 32767, 65535, 131071] [pv (.agg ((vc s.known) ++ [(.slice a1 s.ents.length c1 : Value), (.slice a2 s.ticks.length c2 : Value) ]).toArray), (true, fun ρ => .agg ((vc s.known) ++ [(.slice (aOf (aggS (ρ 28) 16)) ((s.ents).length) (cOf (aggS (ρ 28) 16)) : Value), (.slice (aOf (aggS (ρ 28) 17)) ((s.ticks).length) (cOf (aggS (ρ 28) 17)) : Value) ]).toArray), pv (.bool (rightS s)), pv (.agg ((vc s.known) ++ [(.slice a1 s.ents.length c1 : Value), (.slice a2 s.ticks.length c2 : Value) ]).toArray), pv (.bool (rightS s)), pv (.bool true), pv (.bool true), pv (.agg ((vc ((applyR s o).known)) ++ [(.slice na17 (((applyR s o).ents).length) nc18 : Value), (.slice na19 (((applyR s o).ticks).length) nc20 : Value) ]).toArray), (true, fun ρ => .agg ((vc (((applyR s o)).known)) ++ [(.slice (aOf (aggS (ρ 35) 16)) ((((applyR s o)).ents).length) (cOf (aggS (ρ 35) 16)) : Value), (.slice (aOf (aggS (ρ 35) 17)) ((((applyR s o)).ticks).length) (cOf (aggS (ρ 35) 17)) : Value) ]).toArray), pv (.agg ((vc ((applyR s o).known)) ++ [(.slice x23.1.1 (((applyR s o).ents).length) x23.1.2 : Value), (.slice x23.2.1 (((applyR s o).ticks).length) x23.2.2 : Value) ]).toArray), pv (.bool true), pv (.bool true), pv (.bool true), pv (.int .i64 (applyI s o)), pv (.int .i64 (applyI s o)), pv (.bool true), pv (.bool true), pv (.bool true)] (fun D ρ => [blk b1 ((vc s.known) ++ [(.slice a1 s.ents.length c1 : Value), (.slice a2 s.ticks.length c2 : Value) ]) 28, blk b3 (oc o) 33, row (.slice na13 ((s.ents).length) nc14) (s.ents.map cec) 59 7, row (.slice na15 ((s.ticks).length) nc16) (s.ticks.map lsc) 87 2, row (.slice na17 (((applyR s o).ents).length) nc18) (((applyR s o).ents).map cec) 59 7, row (.slice na19 (((applyR s o).ticks).length) nc20) (((applyR s o).ticks).map lsc) 87 2, blk b21 ((vc ((applyR s o).known)) ++ [(.slice na17 (((applyR s o).ents).length) nc18 : Value), (.slice na19 (((applyR s o).ticks).length) nc20 : Value) ]) 39, row (.slice x23.1.1 (((applyR s o).ents).length) x23.1.2) (((applyR s o).ents).map cec) 88 7, row (.slice x23.2.1 (((applyR s o).ticks).length) x23.2.2) (((applyR s o).ticks).map lsc) 89 2, blk b24 ((vc ((applyR s o).known)) ++ [(.slice x23.1.1 (((applyR s o).ents).length) x23.1.2 : Value), (.slice x23.2.1 (((applyR s o).ticks).length) x23.2.2 : Value) ]) 28, cond (D 1) (row (.slice (aOf (aggS (ρ 28) 16)) ((s.ents).length) (cOf (aggS (ρ 28) 16))) (s.ents.map cec) 59 7) (emp), cond (D 1) (row (.slice (aOf (aggS (ρ 28) 17)) ((s.ticks).length) (cOf (aggS (ρ 28) 17))) (s.ticks.map lsc) 87 2) (emp), cond (D 8) (row (.slice (aOf (aggS (ρ 35) 16)) ((((applyR s o)).ents).length) (cOf (aggS (ρ 35) 16))) ((((applyR s o)).ents).map cec) 88 7) (emp), cond (D 8) (row (.slice (aOf (aggS (ρ 35) 17)) ((((applyR s o)).ticks).length) (cOf (aggS (ρ 35) 17))) ((((applyR s o)).ticks).map lsc) 89 2) (emp)]) [17] (by kernel_rfl) hs ⟨?_, ?_, ?_, ?_, ?_, ?_, ?_, ?_, ?_, ?_, ?_, ?_, ?_, ?_, ?_, ?_, ?_, ?_, trivial⟩ ?_
    · exact ob [] [] rfl rfl fun D ρ w hs => L_ldW (cs := (vc s.known) ++ [(.slice a1 s.ents.length c1 : Value), (.slice a2 s.ticks.length c2 : Value) ]) SA_28 hs 0 rfl rfl rfl ⟨rfl, hs⟩
    · exact ob [0] [] rfl rfl fun D ρ w hs => L_callX (α := (Option Addr × Nat) × (Option Addr × Nat)) (vs := [.agg ((vc s.known) ++ [(.slice a1 s.ents.length c1 : Value), (.slice a2 s.ticks.length c2 : Value) ]).toArray]) (V := fun x : (Option Addr × Nat) × (Option Addr × Nat) => .agg (vc s.known ++ [(.slice x.1.1 (s.ents).length x.1.2 : Value), (.slice x.2.1 (s.ticks).length x.2.2 : Value)]).toArray) (Lo := fun x => [row (.slice x.1.1 (s.ents).length x.1.2) ((s.ents).map cec) 59 7, row (.slice x.2.1 (s.ticks).length x.2.2) ((s.ticks).map lsc) 87 2]) (F := fun _ _ => True) EN_8 rfl rfl (theirs_ok _ s a1 c1 a2 c2 (by omega) (by omega) (Rd.own' hr1 hs) (Rd.own' hr2 hs)) hs fun _ _ hs _ => ⟨rfl, hs.put2 10 11 (Nat.le_of_ble_eq_true rfl) (Nat.le_of_ble_eq_true rfl)⟩
    · exact ob [1] [] rfl rfl fun D ρ w hs => L_callP (vs := [.agg ((vc s.known) ++ [(.slice (aOf (aggS (ρ 28) 16)) ((s.ents).length) (cOf (aggS (ρ 28) 16)) : Value), (.slice (aOf (aggS (ρ 28) 17)) ((s.ticks).length) (cOf (aggS (ρ 28) 17)) : Value) ]).toArray]) (V := .bool (rightS s)) EN_10 rfl rfl (cRight_ok _ s (aOf (aggS (ρ 28) 16)) (cOf (aggS (ρ 28) 16)) (aOf (aggS (ρ 28) 17)) (cOf (aggS (ρ 28) 17)) hok (by omega) (by omega) (hs.rd 10 rfl) (hs.rd 11 rfl)) hs fun _ hs => ⟨rfl, hs⟩
    · exact ob [] [] rfl rfl fun D ρ w hs => L_ldW (cs := (vc s.known) ++ [(.slice a1 s.ents.length c1 : Value), (.slice a2 s.ticks.length c2 : Value) ]) SA_28 hs 0 rfl rfl rfl ⟨rfl, hs⟩
    · exact ob [3] [] rfl rfl fun D ρ w hs => L_callP (vs := [.agg ((vc s.known) ++ [(.slice a1 s.ents.length c1 : Value), (.slice a2 s.ticks.length c2 : Value) ]).toArray]) (V := .bool (rightS s)) EN_11 rfl rfl (rRight8_ok _ s a1 c1 a2 c2 hok (Rd.own' hr1 hs) (Rd.own' hr2 hs)) hs fun _ hs => ⟨rfl, hs⟩
    · exact ob [2, 4] [] rfl rfl fun D ρ w hs => opW_to (V := .bool ((rightS s) == (rightS s))) (V' := .bool true) (L_eqb UDR_4 rfl rfl ⟨rfl, rfl⟩) (congrArg Value.bool (beqT rfl)) ⟨rfl, hs⟩
    · exact ob [5] [] rfl rfl fun D ρ w hs => L_move (V := .bool true) rfl ⟨rfl, hs⟩
    · exact obg [6] [] true rfl (fun _ => rfl) rfl (fun _ _ _ h => nomatch h) fun D ρ w _ hs => L_ldW (cs := (vc ((applyR s o).known)) ++ [(.slice na17 (((applyR s o).ents).length) nc18 : Value), (.slice na19 (((applyR s o).ticks).length) nc20 : Value) ]) SA_39 hs 6 rfl rfl rfl ⟨rfl, hs⟩
    · exact obg [6, 7] [] true rfl (fun _ => rfl) rfl (fun _ _ _ h => nomatch h) fun D ρ w _ hs => L_callX (α := (Option Addr × Nat) × (Option Addr × Nat)) (vs := [.agg ((vc ((applyR s o).known)) ++ [(.slice na17 (((applyR s o).ents).length) nc18 : Value), (.slice na19 (((applyR s o).ticks).length) nc20 : Value) ]).toArray]) (V := fun x : (Option Addr × Nat) × (Option Addr × Nat) => .agg (vc ((applyR s o)).known ++ [(.slice x.1.1 (((applyR s o)).ents).length x.1.2 : Value), (.slice x.2.1 (((applyR s o)).ticks).length x.2.2 : Value)]).toArray) (Lo := fun x => [row (.slice x.1.1 (((applyR s o)).ents).length x.1.2) ((((applyR s o)).ents).map cec) 88 7, row (.slice x.2.1 (((applyR s o)).ticks).length x.2.2) ((((applyR s o)).ticks).map lsc) 89 2]) (F := fun _ _ => True) EN_13 rfl rfl (ours_ok _ (applyR s o) na17 nc18 na19 nc20 (by omega) (by omega) (hs.rd 4 rfl) (hs.rd 5 rfl)) hs fun _ _ hs _ => ⟨rfl, hs.put2 12 13 (Nat.le_of_ble_eq_true rfl) (Nat.le_of_ble_eq_true rfl)⟩
    · exact obg [6] [] true rfl (fun _ => rfl) rfl (fun _ _ _ h => nomatch h) fun D ρ w _ hs => L_ldW (cs := (vc ((applyR s o).known)) ++ [(.slice x23.1.1 (((applyR s o).ents).length) x23.1.2 : Value), (.slice x23.2.1 (((applyR s o).ticks).length) x23.2.2 : Value) ]) SA_28 hs 9 rfl rfl rfl ⟨rfl, hs⟩
    · exact obg [6, 8, 9] [] true rfl (fun _ => rfl) rfl (fun _ _ _ h => nomatch h) fun D ρ w _ hs => L_callPV (V' := .bool true) (congrArg Value.bool (by simp)) (vs := [.agg ((vc (((applyR s o)).known)) ++ [(.slice (aOf (aggS (ρ 35) 16)) ((((applyR s o)).ents).length) (cOf (aggS (ρ 35) 16)) : Value), (.slice (aOf (aggS (ρ 35) 17)) ((((applyR s o)).ticks).length) (cOf (aggS (ρ 35) 17)) : Value) ]).toArray, .agg ((vc ((applyR s o).known)) ++ [(.slice x23.1.1 (((applyR s o).ents).length) x23.1.2 : Value), (.slice x23.2.1 (((applyR s o).ticks).length) x23.2.2 : Value) ]).toArray]) (V := .bool (decide (((applyR s o)).known = (applyR s o).known) && (decide (((applyR s o)).ents = (applyR s o).ents) && decide (((applyR s o)).ticks = (applyR s o).ticks)))) EN_12 rfl rfl (same8_ok _ ((applyR s o)) (aOf (aggS (ρ 35) 16)) (cOf (aggS (ρ 35) 16)) (aOf (aggS (ρ 35) 17)) (cOf (aggS (ρ 35) 17)) (applyR s o) x23.1.1 x23.1.2 x23.2.1 x23.2.2 (hs.rd 12 rfl) (hs.rd 13 rfl) (hs.rd 7 rfl) (hs.rd 8 rfl)) hs fun _ hs => ⟨rfl, hs⟩
    · exact ob [6, 10] [] rfl rfl fun D ρ w hs => L_pick (V := .bool true) rfl rfl ⟨rfl, hs⟩
    · exact ob [11] [] rfl rfl fun D ρ w hs => L_move (V := .bool true) rfl ⟨rfl, hs⟩
    · exact obg [12] [] true rfl (fun _ => rfl) rfl (fun _ _ _ h => nomatch h) fun D ρ w _ hs => L_move (V := .int .i64 (applyI s o)) rfl ⟨rfl, hs⟩
    · exact obg [12] [] true rfl (fun _ => rfl) rfl (fun _ _ _ h => nomatch h) fun D ρ w _ hs => L_move (V := .int .i64 (applyI s o)) rfl ⟨rfl, hs⟩
    · exact obg [12, 13, 14] [] true rfl (fun _ => rfl) rfl (fun _ _ _ h => nomatch h) fun D ρ w _ hs => opW_to (V := .bool (decide (applyI s o = applyI s o))) (V' := .bool true) (L_eql rfl rfl ⟨rfl, rfl⟩) (congrArg Value.bool (by simp)) ⟨rfl, hs⟩
    · exact ob [12, 15] [] rfl rfl fun D ρ w hs => L_pick (V := .bool true) rfl rfl ⟨rfl, hs⟩
    · exact ob [16] [] rfl rfl fun D ρ w hs => L_assign (V := .bool true) rfl ⟨rfl, hs⟩
    rintro ρ1 w32 ρ2 hρ hs
    replace hρ : ρ2 = upd (mix [27, 28, 29, 30, 31, 32, 33, 34, 35, 36, 37, 38, 39, 40, 41, 42, 43, 4] ρ1 _) 4 (.bool true) := hρ
    replace hs : Own w no w32 [blk b1 ((vc s.known) ++ [(.slice a1 s.ents.length c1 : Value), (.slice a2 s.ticks.length c2 : Value) ]) 28, blk b3 (oc o) 33, row (.slice na13 ((s.ents).length) nc14) (s.ents.map cec) 59 7, row (.slice na15 ((s.ticks).length) nc16) (s.ticks.map lsc) 87 2, row (.slice na17 (((applyR s o).ents).length) nc18) (((applyR s o).ents).map cec) 59 7, row (.slice na19 (((applyR s o).ticks).length) nc20) (((applyR s o).ticks).map lsc) 87 2, blk b21 ((vc ((applyR s o).known)) ++ [(.slice na17 (((applyR s o).ents).length) nc18 : Value), (.slice na19 (((applyR s o).ticks).length) nc20 : Value) ]) 39, row (.slice x23.1.1 (((applyR s o).ents).length) x23.1.2) (((applyR s o).ents).map cec) 88 7, row (.slice x23.2.1 (((applyR s o).ticks).length) x23.2.2) (((applyR s o).ticks).map lsc) 89 2, blk b24 ((vc ((applyR s o).known)) ++ [(.slice x23.1.1 (((applyR s o).ents).length) x23.1.2 : Value), (.slice x23.2.1 (((applyR s o).ticks).length) x23.2.2 : Value) ]) 28, row (.slice (aOf (aggS (ρ1 28) 16)) ((s.ents).length) (cOf (aggS (ρ1 28) 16))) (s.ents.map cec) 59 7, row (.slice (aOf (aggS (ρ1 28) 17)) ((s.ticks).length) (cOf (aggS (ρ1 28) 17))) (s.ticks.map lsc) 87 2, row (.slice (aOf (aggS (ρ1 35) 16)) ((((applyR s o)).ents).length) (cOf (aggS (ρ1 35) 16))) ((((applyR s o)).ents).map cec) 88 7, row (.slice (aOf (aggS (ρ1 35) 17)) ((((applyR s o)).ticks).length) (cOf (aggS (ρ1 35) 17))) ((((applyR s o)).ticks).map lsc) 89 2] := hs
    generalize (aOf (aggS (ρ1 28) 16)) = na33 at hs
    generalize (cOf (aggS (ρ1 28) 16)) = nc34 at hs
    generalize (aOf (aggS (ρ1 28) 17)) = na35 at hs
    generalize (cOf (aggS (ρ1 28) 17)) = nc36 at hs
    generalize (aOf (aggS (ρ1 35) 16)) = na37 at hs
    generalize (cOf (aggS (ρ1 35) 16)) = nc38 at hs
    generalize (aOf (aggS (ρ1 35) 17)) = na39 at hs
    generalize (cOf (aggS (ρ1 35) 17)) = nc40 at hs
    subst hρ
    refine W_ret ?_
    refine ⟨_, res_one (V := .bool true) Tryz.results3 rfl, ?_⟩
    refine ⟨congrArg Ending.returned ?_, hs.take 0⟩
    rfl
end Tt
end Go.Proofs
namespace Go.Proofs.YthbbcjimiemdgaaGreat
open Go.RowKit Go.Vx
theorem Tryz.own : ownKnob Tryz.prog.godebug = none := by kernel_rfl
theorem Tryz.laidOut : laidOutB Tryz.prog = true := by kernel_rfl
theorem O24 : OpenT Tryz.prog 24 vc VecOk := O_vec Tryz.underlying24 Tryz.underlying22 (by kernel_rfl) (by kernel_rfl)
theorem O30 : OpenT Tryz.prog 30 dc DotOk := O_dot Tryz.underlying30 rfl rfl Tryz.underlying5 Tryz.underlying22 (by kernel_rfl) (by kernel_rfl) (by kernel_rfl)
theorem O33 : OpenT Tryz.prog 33 oc OpnOk := O_opn Tryz.underlying33 rfl rfl O30 O24 Tryz.underlying5 Tryz.underlying31 Tryz.underlying31 Tryz.underlying31 Tryz.underlying22 (by kernel_rfl) (by kernel_rfl)
theorem O88 : OpenT Tryz.prog 88 cec CenOk := O_cen Tryz.underlying88 rfl rfl O30 Tryz.underlying31 Tryz.underlying31 Tryz.underlying31 Tryz.underlying5 Tryz.underlying54 (by kernel_rfl) (by kernel_rfl)
theorem O89 : OpenT Tryz.prog 89 lsc LstOk := O_lst Tryz.underlying89 rfl Tryz.underlying31 Tryz.underlying22 (by kernel_rfl) (by kernel_rfl)
end Go.Proofs.YthbbcjimiemdgaaGreat
namespace Go.Vx
open Go.RowKit Go.Shelf Go.Sort Go.Proofs
theorem own_grow {w w' : World} {L : List Res} (h : Own w no w' L) : ∃ q os, w' = grow (w.drewN q) os := by
  refine ⟨w'.drawn - w.drawn, w'.heap.extract w.heap.size w'.heap.size, ?_⟩
  have hd : w.drawn + (w'.drawn - w.drawn) = w'.drawn := by have := h.tape.2; omega
  have hh : w.heap ++ w'.heap.extract w.heap.size w'.heap.size = w'.heap := by
    apply Array.ext_getElem?
    intro i
    by_cases hi : i < w.heap.size
    · rw [Array.getElem?_append_left hi, h.old i hi (fun h => h)]
    · rw [Array.getElem?_append_right (by omega)]
      have := h.size
      simp only [Array.getElem?_extract]
      split
      · congr 1; omega
      · rw [Array.getElem?_eq_none (by omega)]
  have h1 := h.os
  have h2 := h.tape.1
  have h3 := h.output
  cases w' with
  | mk heap tape drawn os output =>
    cases w with
    | mk heap0 tape0 drawn0 os0 output0 =>
      simp only at h1 h2 h3 hd hh
      subst h1; subst h2; subst h3
      simp [grow, World.drewN, hh, hd]
section
variable {P : Program} {ρ : Ren} {α : Type} [Inhabited α]
theorem flatK_at {enc : α → List Value} {k : Nat} {l : List α} (hk : ∀ x, (enc x).length = k) {j : Nat} (hj : j < l.length * k) : (l.map enc).flatten[j]? = some (flatK enc k l.toArray)[j]! := by
  have hk0 : 0 < k := by
    rcases Nat.eq_zero_or_pos k with h | h
    · subst h; simp at hj
    · exact h
  have hi : j / k < l.length := Nat.div_lt_of_lt_mul (by rw [Nat.mul_comm]; exact hj)
  have hm : j % k < k := Nat.mod_lt _ hk0
  have e1 : (l.map enc)[j / k]? = some (enc l[j / k]) := by simp [hi]
  have e2 : (enc l[j / k])[j % k]? = some (enc l[j / k])[j % k]! := by
    rw [List.getElem?_eq_getElem (by rw [hk]; exact hm), List.getElem!_eq_getElem?_getD, List.getElem?_eq_getElem (by rw [hk]; exact hm)]
    rfl
  have h := flat_at (l.map enc) k (len_map hk l) (j / k) (j % k) _ _ e1 e2
  rw [Nat.mul_comm, Nat.div_add_mod] at h
  rw [h, get_flatK enc k l.toArray j (by simpa using hj)]
  simp [hi]
theorem own_sorted {enc : α → List Value} {k : Nat} {w : World} {S : Nat → Prop} {g cap T n : Nat} {l m : List α} {os : Array Obj} (hk : ∀ x, (enc x).length = k) (h1 : ∀ x, ∀ v ∈ enc x, v.oneCell' = true)
    (hR : (row (.slice (some ⟨g, 0, none⟩) l.length cap) (l.map enc) T k).holds w S) (hlt : ∀ b, S b → b < w.heap.size) (hlen : m.length = l.length) :
    Own w S (sortWorldK enc k w g 0 n m.toArray os) [row (.slice (some ⟨g, 0, none⟩) l.length cap) (m.map enc) T k] := by
  obtain ⟨_, hown, hS⟩ := hR
  have hSg := hS g rfl
  have hgl := hlt g hSg
  rcases hown.2 with ⟨hv, _⟩ | ⟨g', cap', cur, hv, _, hg, hnc, hcm, hcs, htake⟩
  · cases hv
  · simp only [Value.slice.injEq, Option.some.injEq, Addr.mk.injEq, and_true] at hv
    obtain ⟨rfl, hn, rfl⟩ := hv
    simp only [List.length_map] at hnc htake hn
    have hX : ∀ c, c < w.heap.size → (sortWorldK enc k w g 0 n m.toArray os).heap[c]? = (w.heap.modify g (onCells (putCells id 0 (flatK enc k m.toArray))))[c]? := by
      intro c hc
      show ((w.heap.modify g (onCells (putCells id 0 (flatK enc k m.toArray)))) ++ os)[c]? = _
      rw [Array.getElem?_append_left (by simpa using hc)]
    have hXg : (sortWorldK enc k w g 0 n m.toArray os).heap[g]? = some (.cells (putCells id 0 (flatK enc k m.toArray) cur) T (0, 0)) := by
      rw [hX g hgl, Array.getElem?_modify, if_pos rfl, hg]; rfl
    have hXo : ∀ c, c < w.heap.size → c ≠ g → (sortWorldK enc k w g 0 n m.toArray os).heap[c]? = w.heap[c]? := by
      intro c hc hne
      rw [hX c hc, Array.getElem?_modify, if_neg (fun e => hne e.symm)]
    have hsz : (sortWorldK enc k w g 0 n m.toArray os).heap.size = w.heap.size + os.size := by
      show ((w.heap.modify g (onCells (putCells id 0 (flatK enc k m.toArray)))) ++ os).size = _
      simp
    refine ⟨rfl, ⟨rfl, Nat.le_add_right _ _⟩, rfl, by omega, fun b hb hm => hXo b hb (fun e => hm (e ▸ hSg)), fun j b => j = 0 ∧ b = g, fun j R hj => ?_, fun j b hb => by rw [hb.2]; omega, fun j j' b hb hb' => hb.1.trans hb'.1.symm, fun j b hb _ => by rw [hb.2]; exact hSg⟩
    cases j with
    | succ j => simp at hj
    | zero =>
      simp only [List.getElem?_cons_zero, Option.some.injEq] at hj
      subst hj
      refine ⟨⟨len_map hk m, one_map h1 m⟩, ⟨?_, .inr ⟨g, cap, _, by rw [List.length_map, hlen], Nat.zero_le _, hXg, by rw [List.length_map]; omega, hcm, by unfold putCells; simpa using hcs, ?_⟩⟩, fun g' hg' => by cases hg'; exact ⟨rfl, rfl⟩⟩
      · rw [flat_len _ (len_map hk m)]
      · apply List.ext_getElem?
        intro j
        rw [List.getElem?_take, List.length_map]
        by_cases hj : j < m.length * k
        · have hjc : j < cur.size := by
            rw [hcs]
            exact Nat.lt_of_lt_of_le hj (Nat.mul_le_mul_right _ (by omega))
          rw [if_pos hj, flatK_at hk hj, Array.getElem?_toList]
          unfold putCells
          rw [Array.getElem?_mapIdx, Array.getElem?_eq_getElem hjc]
          simp [hj]
        · rw [if_neg hj, List.getElem?_eq_none (by rw [flat_len _ (len_map hk m), List.length_map]; omega)]
theorem sortC_of (L : SlLaysF0.n6 P ρ) {k T g : Nat} {enc : α → List Value} {cf : α → α → Int} (aE : ∀ w, (isAgg (ρ.t 24)).run P w = .ok true w) (zE : ∀ w, (Go.sizeOf (ρ.t 24)).run P w = .ok k w) (hk : ∀ x, (enc x).length = k) (h1 : ∀ x, ∀ v ∈ enc x, v.oneCell' = true)
    (hO : SWO (ltOf cf)) (hg : En P g) (hc : ∀ w x y, Calls P g #[.agg (enc x).toArray, .agg (enc y).toArray] w fun e w' => e = .returned (.int .i64 (cf x y)) ∧ Own w no w' [])
    (hnil : ∀ w, Calls P (ρ.f 6) #[.slice none 0 0, .func (.func g) #[] #[]] w fun e w' => e = .returned (.tuple #[]) ∧ w' = w) :
    SortC P (ρ.f 6) g enc T k (fun l m => m.Perm l ∧ m.Pairwise fun x y => ¬ cf y x < 0) := by
  intro w S a c l hR hlt hsz
  have hR' := hR
  obtain ⟨_, hown, hS⟩ := hR
  rcases hown.2 with ⟨hv, hn⟩ | ⟨b, cap, cur, hv, _, hb, hnc, hcm, hcs, htake⟩
  · have hl : l = [] := by simpa using hn
    subst hl
    simp only [List.length_nil, Value.slice.injEq] at hv
    obtain ⟨rfl, _, rfl⟩ := hv
    exact (hnil w).mono fun e w' ⟨he, hw⟩ => ⟨⟨[], List.Perm.refl _, List.Pairwise.nil⟩, he, by subst hw; exact Own.lent hR' hlt, trivial⟩
  · simp only [Value.slice.injEq, List.length_map] at hv
    obtain ⟨rfl, _, rfl⟩ := hv
    have hbl := hlt b (hS b rfl)
    have hH : HoldsK enc k w b 0 l.toArray := by
      intro j hj
      have hj' : j < l.length * k := by simpa using hj
      rw [Nat.zero_add]
      refine ⟨?_, frozen_of_row w b _ _ _ hb⟩
      rw [cell_of_row w b j _ _ _ hb]
      have h2 := flatK_at (l := l) hk hj'
      rw [← htake, List.getElem?_take, List.length_map, if_pos hj'] at h2
      simpa using h2
    have hcmp : CmpLays P g #[] enc k cf b 0 l.toArray.size w := fun m os dk _ x y =>
      (hc _ x y).mono fun e w' ⟨he, ho⟩ => ⟨he, own_grow ho⟩
    refine (AnyQ.slices_SortFunc L k aE zE enc hk h1 cf hO g #[] b 0 c l.toArray w hg hcmp hH hbl (by simpa using hsz)).mono ?_
    rintro e w' ⟨he, d', n, os, hp, hs, rfl⟩
    obtain ⟨hp1, _, hp2⟩ := hp
    have hsz' : d'.toList.length = l.length := by simpa using hp1
    refine ⟨⟨d'.toList, ?_, ?_⟩, he, ?_, trivial⟩
    · have e1 : d'.extract 0 l.toArray.size = d' := by rw [← hp1]; simp
      have e2 : l.toArray.extract 0 l.toArray.size = l.toArray := by simp
      rw [e1, e2] at hp2
      simpa using hp2
    · rw [List.pairwise_iff_getElem]
      intro i j hi hj hij
      have h3 := hs i j (Nat.zero_le _) hij (by rw [← hp1]; simpa using hj)
      unfold ltOf at h3
      have e1 : d'[i]! = d'.toList[i] := by simp at hi; simp [hi]
      have e2 : d'[j]! = d'.toList[j] := by simp at hj; simp [hj]
      rw [e1, e2] at h3
      simpa using h3
    · have := own_sorted (n := n) (os := os) hk h1 hR' hlt hsz'
      simpa using this
end
end Go.Vx
namespace Go.Proofs
open Go.Shelf
def Tryz.sortE_ren : Go.Shelf.Ren := ⟨fun | 6 => 68 | 15 => 102 | 14 => 101 | 28 => 123 | 29 => 124 | 20 => 110 | 21 => 116 | 22 => 117 | 23 => 118 | 24 => 119 | 25 => 120 | 26 => 121 | 27 => 122 | 46 => 138 | 47 => 139 | 48 => 140 | 49 => 141 | 50 => 142 | 57 => 148 | n => n, fun | 22 => 36 | 24 => 59 | 25 => 83 | 3 => 3 | 39 => 127 | 0 => 0 | 53 => 22 | 55 => 54 | 4 => 4 | 46 => 160 | 45 => 159 | 50 => 81 | 5 => 5 | 9 => 9 | 66 => 175 | 70 => 179 | 76 => 184 | 77 => 185 | n => n, fun | n => n⟩
theorem Tryz.sortE : Go.Proofs.SlLaysF0.n6 Tryz.prog Tryz.sortE_ren := {
  mixed := by kernel_rfl
  f6 := ⟨Tryz.f68.name, by decide, Tryz.func68.trans (congrArg some (by kernel_rfl))⟩
  f14 := ⟨Tryz.f101.name, by decide, Tryz.func101.trans (congrArg some (by kernel_rfl))⟩
  f15 := Tryz.func102.trans (congrArg some (by kernel_rfl))
  f20 := ⟨Tryz.f110.name, by decide, Tryz.func110.trans (congrArg some (by kernel_rfl))⟩
  f21 := ⟨Tryz.f116.name, by decide, Tryz.func116.trans (congrArg some (by kernel_rfl))⟩
  f22 := ⟨Tryz.f117.name, by decide, Tryz.func117.trans (congrArg some (by kernel_rfl))⟩
  f23 := ⟨Tryz.f118.name, by decide, Tryz.func118.trans (congrArg some (by kernel_rfl))⟩
  f24 := ⟨Tryz.f119.name, by decide, Tryz.func119.trans (congrArg some (by kernel_rfl))⟩
  f25 := ⟨Tryz.f120.name, by decide, Tryz.func120.trans (congrArg some (by kernel_rfl))⟩
  f26 := ⟨Tryz.f121.name, by decide, Tryz.func121.trans (congrArg some (by kernel_rfl))⟩
  f27 := ⟨Tryz.f122.name, by decide, Tryz.func122.trans (congrArg some (by kernel_rfl))⟩
  f28 := Tryz.func123.trans (congrArg some (by kernel_rfl))
  f29 := Tryz.func124.trans (congrArg some (by kernel_rfl))
  f46 := ⟨Tryz.f138.name, by decide, Tryz.func138.trans (congrArg some (by kernel_rfl))⟩
  f47 := Tryz.func139.trans (congrArg some (by kernel_rfl))
  f48 := Tryz.func140.trans (congrArg some (by kernel_rfl))
  f49 := ⟨Tryz.f141.name, by decide, Tryz.func141.trans (congrArg some (by kernel_rfl))⟩
  f50 := ⟨Tryz.f142.name, by decide, Tryz.func142.trans (congrArg some (by kernel_rfl))⟩
  f57 := ⟨Tryz.f148.name, by decide, Tryz.func148.trans (congrArg some (by kernel_rfl))⟩
  t0 := Tryz.underlying0
  a0 := Tryz.isAgg0
  z0 := Tryz.sizeOf0
  v0 := Tryz.zeroValue0
  t3 := Tryz.underlying3
  a3 := Tryz.isAgg3
  z3 := Tryz.sizeOf3
  v3 := Tryz.zeroValue3
  t4 := Tryz.underlying4
  a4 := Tryz.isAgg4
  z4 := Tryz.sizeOf4
  v4 := Tryz.zeroValue4
  t5 := Tryz.underlying5
  a5 := Tryz.isAgg5
  z5 := Tryz.sizeOf5
  v5 := Tryz.zeroValue5
  t9 := Tryz.underlying9
  a9 := Tryz.isAgg9
  z9 := Tryz.sizeOf9
  v9 := Tryz.zeroValue9
  t22 := Tryz.underlying36
  a22 := Tryz.isAgg36
  z22 := Tryz.sizeOf36
  v22 := Tryz.zeroValue36
  t25 := Tryz.underlying83
  a25 := Tryz.isAgg83
  z25 := Tryz.sizeOf83
  v25 := Tryz.zeroValue83
  t39 := Tryz.underlying127
  a39 := Tryz.isAgg127
  z39 := Tryz.sizeOf127
  v39 := Tryz.zeroValue127
  t45 := Tryz.underlying159
  a45 := Tryz.isAgg159
  z45 := Tryz.sizeOf159
  v45 := Tryz.zeroValue159
  t46 := Tryz.underlying160
  a46 := Tryz.isAgg160
  z46 := Tryz.sizeOf160
  v46 := Tryz.zeroValue160
  t50 := Tryz.underlying81
  a50 := Tryz.isAgg81
  z50 := Tryz.sizeOf81
  v50 := Tryz.zeroValue81
  t53 := Tryz.underlying22
  a53 := Tryz.isAgg22
  z53 := Tryz.sizeOf22
  v53 := Tryz.zeroValue22
  t55 := Tryz.underlying54
  a55 := Tryz.isAgg54
  z55 := Tryz.sizeOf54
  v55 := Tryz.zeroValue54
  t66 := Tryz.underlying175
  a66 := Tryz.isAgg175
  z66 := Tryz.sizeOf175
  v66 := Tryz.zeroValue175
  t70 := Tryz.underlying179
  a70 := Tryz.isAgg179
  z70 := Tryz.sizeOf179
  v70 := Tryz.zeroValue179
  t76 := Tryz.underlying184
  a76 := Tryz.isAgg184
  z76 := Tryz.sizeOf184
  v76 := Tryz.zeroValue184
  t77 := Tryz.underlying185
  a77 := Tryz.isAgg185
  z77 := Tryz.sizeOf185
  v77 := Tryz.zeroValue185 }
end Go.Proofs
namespace Go.Proofs.YthbbcjimiemdgaaGreat
open Go.Vx Go.Sort Go.Proofs
theorem swoE : SWO (ltOf placeI) where
  irrefl x := by unfold ltOf; rw [decide_eq_false_iff_not, place_lt, ahead_irrefl]; decide
  trans x y z h1 h2 := by unfold ltOf at *; rw [decide_eq_true_iff, place_lt] at *; exact ahead_trans h1 h2
  ntrans x y z h1 h2 := by unfold ltOf at *; rw [decide_eq_false_iff_not, place_lt, ahead_iff] at *; omega
theorem sortsE : SortC Tryz.prog 68 35 cec 59 7 srtE :=
  sortC_of (ρ := Tryz.sortE_ren) (k := 7) (T := 59) Tryz.sortE Tryz.isAgg59 Tryz.sizeOf59 (fun _ => rfl) cec_one swoE Tryz.call35 (fun w x y => Tt.place_ok w x y) (fun w => AnyF.slices_SortFunc_none Tryz.sortE none 0 _ w)
end Go.Proofs.YthbbcjimiemdgaaGreat
