/- A part of a proof: what functions of the program compute, and plain facts on that. -/
import Derived.Test.YtnanhhiofnohbaaVtU
namespace Go.Proofs
open Go Go.Vx Go.RowKit
namespace Tt
set_option maxRecDepth 20000 in
theorem EL_53 : El Try.prog 53 27 1 8 := ⟨Try.underlying53, _, _, Try.type27, rfl, rfl, rfl, rfl, by decide⟩
theorem S1_27 : T1 Try.prog 27 := ⟨Try.sizeOf27, Try.isAgg27⟩
theorem UD_53 : Ud Try.prog 53 (.slice 27) := Try.runUnderlying53
set_option maxRecDepth 20000 in
set_option maxHeartbeats 4000000 in
theorem dotsNobody_ok (w : World) (d : Dot) (hsort : SortC Try.prog 64 51 dc 34 2 sortD) : Calls Try.prog 6 #[.agg (dc d).toArray] w (fun e w' => e = .returned (.bool true) ∧ Own w no w' []) := by
  refine calls_of_Wn (n := 43) Try.func6 rfl Try.ntmps6 rfl ?_
  have hs := Own.start w
  refine W_seq ?_
  refine W_region ?_
  refine RW_op (L_box (V := .agg (dc d).toArray) (cs := dc d) rfl rfl hs fun b1 w2 hs => ?_)
  refine RW_op (L_assign (V := .bool false) rfl ?_)
  refine RW_nil ?_
  refine W_seq ?_
  refine W_seq ?_
  refine W_region ?_
  refine RW_op (L_callP (vs := []) (V := .bool true) EN_15 rfl rfl (alive5_ok _ hsort) hs fun w3 hs => ?_)
  refine RW_op (L_not rfl ?_)
  refine RW_nil ?_
  refine W_condF rfl ?_
  refine W_skip ?_
  refine W_seq ?_
  refine W_seq ?_
  refine W_region ?_
  refine RW_op (L_build (vs := []) (cs := (vc vzero) ++ [(.map none : Value) ]) BT_52 (rfl) rfl ?_)
  refine RW_op (L_box (V := .agg ((vc vzero) ++ [(.map none : Value) ]).toArray) (cs := (vc vzero) ++ [(.map none : Value) ]) rfl rfl hs fun b4 w5 hs => ?_)
  refine RW_op (L_bs (vals := [.pointer none, .pointer (some ⟨b4, 0, none⟩)]) (ls := List.map po ([none, (some ⟨b4, 0, none⟩)] : List (Option Addr))) EL_53 rfl rfl rfl (len_map (enc := po) (fun _ => rfl) _) (one_map po_one _) (Nat.le_of_ble_eq_true rfl) hs fun b6 w7 hs => ?_)
  refine RW_op (L_lenR (n := 2) UD_53 (hs.rd 2 rfl) (by simp) rfl ?_)
  refine RW_op (L_move (V := .int .i64 0) rfl ?_)
  refine RW_nil ?_
  refine W_block ?_
  refine W_loopI (fun ρ m ρ' w' => ∃ (ρo : Env) (k : Nat), ρ' = upd (mix [2, 4, 11, 12, 13, 14, 15, 16, 17, 18, 19, 20, 21, 22, 23, 24, 25, 26, 27, 28, 29, 30, 31, 32, 33, 34, 35, 36, 37, 38, 39, 40, 41, 42] ρo ρ) 11 (.int .i64 (k : Int)) ∧ (k ≤ 2) ∧ m = 2 - k ∧ Own w no w' [blk b1 (dc d) 34, blk b4 ((vc vzero) ++ [(.map none : Value) ]) 52, row (.slice (some ⟨b6, 0, none⟩) 2 2) ([none, (some ⟨b4, 0, none⟩)].map po) 27 1]) ?_ ?_
  · exact ⟨_, _, 0, upd_of (mix_of (ds := [2, 4, 11, 12, 13, 14, 15, 16, 17, 18, 19, 20, 21, 22, 23, 24, 25, 26, 27, 28, 29, 30, 31, 32, 33, 34, 35, 36, 37, 38, 39, 40, 41, 42]) (Agr.refl _ _)) rfl, (by omega), rfl, hs⟩
  · rintro m ρ' w8 ⟨ρo, k, rfl, hk, rfl, hs⟩
    refine W_seq ?_
    refine W_region ?_
    refine RW_op (L_lss rfl rfl ?_)
    refine RW_nil ?_
    refine W_seq ?_
    refine W_cond (t := decide ((k : Int) < ((2 : Nat) : Int))) rfl (fun c9 => ?_) (fun c9 => ?_)
    ·
      replace c9 := of_decide_eq_true c9
      refine W_skip ?_
      refine W_seq ?_
      refine W_block ?_
      refine W_seq ?_
      rcases (show k = 0 ∨ k = 1 by omega) with hk5 | hk5
      ·
        refine W_region ?_
        refine RW_op (L_ixR UD_53 S1_27.1 (hs.rd 2 rfl) rfl rfl (by omega) (by rw [List.length_map]; omega) ?_)
        refine RW_op (opW_to (V := .pointer (gd [none, (some ⟨b4, 0, none⟩)] k)) (V' := .pointer none) (L_ldR (j := 0) (V := .pointer (gd [none, (some ⟨b4, 0, none⟩)] k)) k S1_27 (hs.rd 2 rfl) (gd_at (by simp only [List.length_cons, List.length_nil]; omega)) rfl rfl (by omega) ⟨rfl, rfl⟩) (by subst hk5; rfl) ?_)
        refine RW_op (L_assign (V := .pointer none) rfl ?_)
        refine RW_nil ?_
        refine W_seq ?_
        refine W_region ?_
        refine RW_op (L_move (V := .pointer none) rfl ?_)
        refine RW_op (L_ldW (cs := dc d) SA_34 hs 0 rfl rfl rfl ?_)
        refine RW_op (L_callP (vs := [.pointer none, .agg (dc d).toArray]) (V := .int .i64 1) EN_21 rfl rfl (gAdd_nil _ d) hs fun w10 hs => ?_)
        refine RW_op (opW_to (V := .bool (!decide ((1 : Int) = 1))) (V' := .bool false) (L_neq rfl rfl ⟨rfl, rfl⟩) (congrArg Value.bool (rfl)) ?_)
        refine RW_op (L_move (V := .bool false) rfl ?_)
        refine RW_gy rfl (L_move (V := .pointer none) rfl ?_)
        refine RW_gy rfl (L_ldW (cs := dc d) SA_34 hs 0 rfl rfl rfl ?_)
        refine RW_gy rfl (L_callP (vs := [.pointer none, .agg (dc d).toArray]) (V := .bool false) EN_18 rfl rfl (gHas_nil _ d) hs fun w11 hs => ?_)
        refine RW_op (L_pick (V := .bool false) rfl rfl ?_)
        refine RW_op (L_move (V := .bool false) rfl ?_)
        refine RW_gy rfl (L_move (V := .pointer none) rfl ?_)
        refine RW_gy rfl (L_callP (vs := [.pointer none]) (V := .agg (vc vzero).toArray) EN_22 rfl rfl (gClosed_nil _) hs fun w12 hs => ?_)
        refine RW_gy rfl (L_build (vs := []) (cs := vc vzero) BT_24 (rfl) rfl ?_)
        refine RW_gy rfl (opW_to (V := .bool (!decide (vzero = vzero))) (V' := .bool false) (L_neA (xs := vc vzero) (ys := vc vzero) Try.eqGuardType24 (EQ_24 vzero vzero) rfl rfl rfl ⟨rfl, rfl⟩) (congrArg Value.bool (by simp)) ?_)
        refine RW_op (L_pick (V := .bool false) rfl rfl ?_)
        refine RW_op (L_move (V := .bool false) rfl ?_)
        refine RW_gy rfl (L_move (V := .pointer none) rfl ?_)
        refine RW_gy rfl (L_callP (vs := [.pointer none]) (V := .slice none 0 0) EN_25 rfl rfl (gLoose_nil _) hs fun w13 hs => ?_)
        refine RW_gy rfl (L_lenR (n := 0) UD_25 (Rd.nil _ 2) (by simp) rfl ?_)
        refine RW_gy rfl (opW_to (V := .bool (!decide (((0 : Nat) : Int) = 0))) (V' := .bool false) (L_neq rfl rfl ⟨rfl, rfl⟩) (congrArg Value.bool (rfl)) ?_)
        refine RW_op (L_pick (V := .bool false) rfl rfl ?_)
        refine RW_op (L_move (V := .bool false) rfl ?_)
        refine RW_gy rfl (L_move (V := .pointer none) rfl ?_)
        refine RW_gy rfl (L_callP (vs := [.pointer none]) (V := .slice none 0 0) EN_27 rfl rfl (gMissing_nil _) hs fun w14 hs => ?_)
        refine RW_gy rfl (L_lenR (n := 0) UD_25 (Rd.nil _ 2) (by simp) rfl ?_)
        refine RW_gy rfl (opW_to (V := .bool (!decide (((0 : Nat) : Int) = 0))) (V' := .bool false) (L_neq rfl rfl ⟨rfl, rfl⟩) (congrArg Value.bool (rfl)) ?_)
        refine RW_op (L_pick (V := .bool false) rfl rfl ?_)
        refine RW_nil ?_
        refine W_condF rfl ?_
        refine W_skip ?_
        refine W_region ?_
        refine RW_op (L_add (a := (k : Int)) (b := 1) (c := (k : Int) + 1) rfl rfl (wr_i64 (by omega) (by omega)) ?_)
        refine RW_op (L_move (V := .int .i64 ((k : Int) + 1)) rfl ?_)
        refine RW_nil ?_
        refine ⟨_, ?_, _, k + 1, upd_of (mix_of (ds := [2, 4, 11, 12, 13, 14, 15, 16, 17, 18, 19, 20, 21, 22, 23, 24, 25, 26, 27, 28, 29, 30, 31, 32, 33, 34, 35, 36, 37, 38, 39, 40, 41, 42]) (by repeat (first | exact Agr.refl _ _ | refine Agr.upd ?_ rfl | refine Agr.mix ?_ rfl))) rfl, (by omega), rfl, hs.take 3⟩
        omega
      ·
        refine W_region ?_
        refine RW_op (L_ixR UD_53 S1_27.1 (hs.rd 2 rfl) rfl rfl (by omega) (by rw [List.length_map]; omega) ?_)
        refine RW_op (opW_to (V := .pointer (gd [none, (some ⟨b4, 0, none⟩)] k)) (V' := .pointer (some ⟨b4, 0, none⟩)) (L_ldR (j := 0) (V := .pointer (gd [none, (some ⟨b4, 0, none⟩)] k)) k S1_27 (hs.rd 2 rfl) (gd_at (by simp only [List.length_cons, List.length_nil]; omega)) rfl rfl (by omega) ⟨rfl, rfl⟩) (by subst hk5; rfl) ?_)
        refine RW_op (L_assign (V := .pointer (some ⟨b4, 0, none⟩)) rfl ?_)
        refine RW_nil ?_
        refine W_seq ?_
        refine W_region ?_
        refine RW_op (L_move (V := .pointer (some ⟨b4, 0, none⟩)) rfl ?_)
        refine RW_op (L_ldW (cs := dc d) SA_34 hs 0 rfl rfl rfl ?_)
        refine RW_op (L_callP (vs := [.pointer (some ⟨b4, 0, none⟩), .agg (dc d).toArray]) (V := .int .i64 1) EN_21 rfl rfl (gAdd_zero _ d b4 (hs.cellsf 1 rfl)) hs fun w15 hs => ?_)
        refine RW_op (opW_to (V := .bool (!decide ((1 : Int) = 1))) (V' := .bool false) (L_neq rfl rfl ⟨rfl, rfl⟩) (congrArg Value.bool (rfl)) ?_)
        refine RW_op (L_move (V := .bool false) rfl ?_)
        refine RW_gy rfl (L_move (V := .pointer (some ⟨b4, 0, none⟩)) rfl ?_)
        refine RW_gy rfl (L_ldW (cs := dc d) SA_34 hs 0 rfl rfl rfl ?_)
        refine RW_gy rfl (L_callP (vs := [.pointer (some ⟨b4, 0, none⟩), .agg (dc d).toArray]) (V := .bool false) EN_18 rfl rfl (gHas_zero _ d b4 (hs.cellsf 1 rfl)) hs fun w16 hs => ?_)
        refine RW_op (L_pick (V := .bool false) rfl rfl ?_)
        refine RW_op (L_move (V := .bool false) rfl ?_)
        refine RW_gy rfl (L_move (V := .pointer (some ⟨b4, 0, none⟩)) rfl ?_)
        refine RW_gy rfl (L_callP (vs := [.pointer (some ⟨b4, 0, none⟩)]) (V := .agg (vc vzero).toArray) EN_22 rfl rfl (gClosed_zero _ b4 (hs.cellsf 1 rfl)) hs fun w17 hs => ?_)
        refine RW_gy rfl (L_build (vs := []) (cs := vc vzero) BT_24 (rfl) rfl ?_)
        refine RW_gy rfl (opW_to (V := .bool (!decide (vzero = vzero))) (V' := .bool false) (L_neA (xs := vc vzero) (ys := vc vzero) Try.eqGuardType24 (EQ_24 vzero vzero) rfl rfl rfl ⟨rfl, rfl⟩) (congrArg Value.bool (by simp)) ?_)
        refine RW_op (L_pick (V := .bool false) rfl rfl ?_)
        refine RW_op (L_move (V := .bool false) rfl ?_)
        refine RW_gy rfl (L_move (V := .pointer (some ⟨b4, 0, none⟩)) rfl ?_)
        refine RW_gy rfl (L_callP (vs := [.pointer (some ⟨b4, 0, none⟩)]) (V := .slice none 0 0) EN_25 rfl rfl (gLoose_zero _ b4 (hs.cellsf 1 rfl)) hs fun w18 hs => ?_)
        refine RW_gy rfl (L_lenR (n := 0) UD_25 (Rd.nil _ 2) (by simp) rfl ?_)
        refine RW_gy rfl (opW_to (V := .bool (!decide (((0 : Nat) : Int) = 0))) (V' := .bool false) (L_neq rfl rfl ⟨rfl, rfl⟩) (congrArg Value.bool (rfl)) ?_)
        refine RW_op (L_pick (V := .bool false) rfl rfl ?_)
        refine RW_op (L_move (V := .bool false) rfl ?_)
        refine RW_gy rfl (L_move (V := .pointer (some ⟨b4, 0, none⟩)) rfl ?_)
        refine RW_gy rfl (L_callP (vs := [.pointer (some ⟨b4, 0, none⟩)]) (V := .slice none 0 0) EN_27 rfl rfl (gMissing_zero _ b4 (hs.cellsf 1 rfl)) hs fun w19 hs => ?_)
        refine RW_gy rfl (L_lenR (n := 0) UD_25 (Rd.nil _ 2) (by simp) rfl ?_)
        refine RW_gy rfl (opW_to (V := .bool (!decide (((0 : Nat) : Int) = 0))) (V' := .bool false) (L_neq rfl rfl ⟨rfl, rfl⟩) (congrArg Value.bool (rfl)) ?_)
        refine RW_op (L_pick (V := .bool false) rfl rfl ?_)
        refine RW_nil ?_
        refine W_condF rfl ?_
        refine W_skip ?_
        refine W_region ?_
        refine RW_op (L_add (a := (k : Int)) (b := 1) (c := (k : Int) + 1) rfl rfl (wr_i64 (by omega) (by omega)) ?_)
        refine RW_op (L_move (V := .int .i64 ((k : Int) + 1)) rfl ?_)
        refine RW_nil ?_
        refine ⟨_, ?_, _, k + 1, upd_of (mix_of (ds := [2, 4, 11, 12, 13, 14, 15, 16, 17, 18, 19, 20, 21, 22, 23, 24, 25, 26, 27, 28, 29, 30, 31, 32, 33, 34, 35, 36, 37, 38, 39, 40, 41, 42]) (by repeat (first | exact Agr.refl _ _ | refine Agr.upd ?_ rfl | refine Agr.mix ?_ rfl))) rfl, (by omega), rfl, hs.take 3⟩
        omega
    ·
      replace c9 := of_decide_eq_false c9
      refine W_exit ?_
      refine W_seq ?_
      refine W_region ?_
      refine RW_op (L_assign (V := .bool true) rfl ?_)
      refine RW_nil ?_
      refine W_ret ?_
      refine ⟨_, res_one (V := .bool true) Try.results6 rfl, ?_⟩
      refine ⟨congrArg Ending.returned ?_, hs.take 0⟩
      rfl
end Tt
end Go.Proofs
