/- A part of a proof: what functions of the program compute, and plain facts on that. -/
import Derived.Test.YtnanhhiofnohbaaFoldOthersP5
import Derived.Shelf.SlLaysF0
import Derived.Ground.SlsfProg
import Derived.Test.YtnanhhiofnohbaaProg
import Derived.KernelRfl
set_option linter.unusedVariables false
set_option linter.unusedSimpArgs false
namespace Go.Proofs
open Go Go.Vx Go.RowKit
open Tt
namespace Tf
set_option maxRecDepth 20000 in
theorem BT_59 : Bt Try.prog 59 [(0, 2), (2, 1), (3, 1), (4, 1), (5, 1), (6, 1), (7, 16)] (oc (⟨(⟨0, 0⟩ : Dot), 0, 0, 0, 0, 0, vzero⟩ : Opn)) := Bt_struct Try.type59 rfl rfl Try.underlying59 (by kernel_rfl)
theorem EN_37 : En Try.prog 37 := Try.call37
theorem EN_53 : En Try.prog 53 := Try.call53
theorem FA_67_1 : FA Try.prog 67 1 1 := fun b o w => by simp [Instr.fieldAt, Instr.sureAddr, fieldPlace, add_eq]
theorem UD_90 : Ud Try.prog 90 (.slice 4) := Try.runUnderlying90
theorem alive_all {o : Opn} (h : o = aliveA ∨ o = aliveB ∨ o = aliveC) : OpnOk o := by
  obtain ⟨h1, h2, h3⟩ := alive_ok
  rcases h with rfl | rfl | rfl <;> assumption
set_option maxRecDepth 20000 in
set_option maxHeartbeats 4000000 in
theorem alive7_ok (w : World) (hsortU : SortI Try.prog 76 .u16 57) : Calls Try.prog 32 #[] w (fun e w' => e = .returned (.bool true) ∧ Own w no w' []) := by
  refine calls_of_Wn (n := 80) Try.func32 rfl Try.ntmps32 rfl ?_
  have hs := Own.start w
  have ⟨hoA, hoB, hoC⟩ := alive_ok
  refine W_seq ?_
  refine W_region ?_
  refine RW_op (L_assign (V := .bool false) rfl ?_)
  refine RW_nil ?_
  refine W_seq ?_
  refine W_region ?_
  refine RW_op (L_build (vs := [(1, .int .u32 1)]) (cs := dc (⟨0, 1⟩ : Dot)) BT_34 (rfl) rfl ?_)
  refine RW_op (opW_to (V := .agg (oc (⟨(⟨0, 1⟩ : Dot), 1, 3, 4, 2, 5, vzero⟩ : Opn)).toArray) (V' := .agg (oc aliveA).toArray) (L_build (vs := [(0, .agg (dc (⟨0, 1⟩ : Dot)).toArray), (1, .int .u8 1), (2, .int .u16 3), (3, .int .u16 4), (4, .int .u16 2), (5, .int .u32 5)]) (cs := oc (⟨(⟨0, 1⟩ : Dot), 1, 3, 4, 2, 5, vzero⟩ : Opn)) BT_59 (rfl) rfl ⟨rfl, rfl⟩) rfl ?_)
  refine RW_op (L_alloc (cs := oc (⟨(⟨0, 0⟩ : Dot), 0, 0, 0, 0, 0, vzero⟩ : Opn)) ZV_59 rfl hs fun b1 w2 hs => ?_)
  refine RW_op (L_st (V := .agg (oc aliveA).toArray) (vs := oc aliveA) (cs' := oc aliveA) SA_59.1 hs 0 rfl rfl rfl rfl rfl (Nat.le_of_ble_eq_true rfl) (oc_one _) (spl_whole rfl) fun w3 hs => ?_)
  refine RW_nil ?_
  refine W_seq ?_
  refine W_region ?_
  refine RW_op (L_build (vs := [(0, .int .u8 1), (1, .int .u32 1)]) (cs := dc (⟨1, 1⟩ : Dot)) BT_34 (rfl) rfl ?_)
  refine RW_op (opW_to (V := .agg (oc (⟨(⟨1, 1⟩ : Dot), 1, 3, 4, 3, 9, vzero⟩ : Opn)).toArray) (V' := .agg (oc aliveB).toArray) (L_build (vs := [(0, .agg (dc (⟨1, 1⟩ : Dot)).toArray), (1, .int .u8 1), (2, .int .u16 3), (3, .int .u16 4), (4, .int .u16 3), (5, .int .u32 9)]) (cs := oc (⟨(⟨1, 1⟩ : Dot), 1, 3, 4, 3, 9, vzero⟩ : Opn)) BT_59 (rfl) rfl ⟨rfl, rfl⟩) rfl ?_)
  refine RW_op (L_alloc (cs := oc (⟨(⟨0, 0⟩ : Dot), 0, 0, 0, 0, 0, vzero⟩ : Opn)) ZV_59 rfl hs fun b4 w5 hs => ?_)
  replace hs : Own w no w5 [blk b1 (oc aliveA) 59, blk b4 (oc (⟨(⟨0, 0⟩ : Dot), 0, 0, 0, 0, 0, vzero⟩ : Opn)) 59] := hs
  refine RW_op (L_st (V := .agg (oc aliveB).toArray) (vs := oc aliveB) (cs' := oc aliveB) SA_59.1 hs 1 rfl rfl rfl rfl rfl (Nat.le_of_ble_eq_true rfl) (oc_one _) (spl_whole rfl) fun w6 hs => ?_)
  refine RW_nil ?_
  refine W_seq ?_
  refine W_region ?_
  refine RW_op (L_build (vs := [(0, .int .u8 2), (1, .int .u32 1)]) (cs := dc (⟨2, 1⟩ : Dot)) BT_34 (rfl) rfl ?_)
  refine RW_op (L_build (vs := [(0, .int .u32 1)]) (cs := vc (vset vzero 0 1)) BT_24 (rfl) rfl ?_)
  refine RW_op (opW_to (V := .agg (oc (⟨(⟨2, 1⟩ : Dot), 2, 3, 4, 1, 7, vset vzero 0 1⟩ : Opn)).toArray) (V' := .agg (oc aliveC).toArray) (L_build (vs := [(0, .agg (dc (⟨2, 1⟩ : Dot)).toArray), (1, .int .u8 2), (2, .int .u16 3), (3, .int .u16 4), (4, .int .u16 1), (5, .int .u32 7), (6, .agg (vc (vset vzero 0 1)).toArray)]) (cs := oc (⟨(⟨2, 1⟩ : Dot), 2, 3, 4, 1, 7, vset vzero 0 1⟩ : Opn)) BT_59 (rfl) rfl ⟨rfl, rfl⟩) rfl ?_)
  refine RW_op (L_alloc (cs := oc (⟨(⟨0, 0⟩ : Dot), 0, 0, 0, 0, 0, vzero⟩ : Opn)) ZV_59 rfl hs fun b7 w8 hs => ?_)
  refine RW_op (L_st (V := .agg (oc aliveC).toArray) (vs := oc aliveC) (cs' := oc aliveC) SA_59.1 hs 2 rfl rfl rfl rfl rfl (Nat.le_of_ble_eq_true rfl) (oc_one _) (spl_whole rfl) fun w9 hs => ?_)
  replace hs : Own w no w9 [blk b1 (oc aliveA) 59, blk b4 (oc aliveB) 59, blk b7 (oc aliveC) 59] := hs
  refine RW_nil ?_
  refine W_seq ?_
  refine W_region ?_
  refine RW_op (L_ldW (cs := oc aliveA) SA_59 hs 0 rfl rfl rfl ?_)
  refine RW_op (L_ldW (cs := oc aliveB) SA_59 hs 1 rfl rfl rfl ?_)
  refine RW_op (L_bs (vals := [.agg (oc aliveA).toArray, .agg (oc aliveB).toArray]) (ls := List.map oc ([aliveA, aliveB] : List Opn)) EL_56 rfl rfl rfl (len_map (enc := oc) (fun _ => rfl) _) (one_map oc_one _) (Nat.le_of_ble_eq_true rfl) hs fun b10 w11 hs => ?_)
  refine RW_op (L_callX (α := Option Addr × Nat) (vs := [.slice (some ⟨b10, 0, none⟩) 2 2, .int .u16 3]) (V := fun x => .agg ([.int .u16 (((⟨3, [⟨4, 5⟩], false, 9⟩ : Vw)).cart), .slice x.1 ([(⟨4, 5⟩ : Line)].length) x.2, .bool false, .int .u32 9]).toArray) (Lo := fun x => [row (.slice x.1 [(⟨4, 5⟩ : Line)].length x.2) ([(⟨4, 5⟩ : Line)].map lc) 67 2]) (F := fun _ _ => True) EN_34 rfl rfl ?hc hs fun x13 w12 hs _ => ?_)
  case hc => exact (fViewE_ok _ (some ⟨b10, 0, none⟩) 2 [aliveA, aliveB] 3 (⟨3, [⟨4, 5⟩], false, 9⟩ : Vw) (aliveV1) (fun o ho => alive_all (by simp only [List.mem_cons, List.not_mem_nil, or_false] at ho; grind)) (by decide) (hs.rd 3 rfl) hsortU)
  refine RW_op (L_alloc (cs := [.int .u16 0, .slice none 0 0, .bool false, .int .u32 0]) ZV_63 rfl hs fun b14 w15 hs => ?_)
  replace hs : Own w no w15 [blk b1 (oc aliveA) 59, blk b4 (oc aliveB) 59, blk b7 (oc aliveC) 59, row (.slice (some ⟨b10, 0, none⟩) 2 2) ([aliveA, aliveB].map oc) 59 23, row (.slice x13.1 ([(⟨4, 5⟩ : Line)].length) x13.2) ([(⟨4, 5⟩ : Line)].map lc) 67 2, blk b14 [.int .u16 0, .slice none 0 0, .bool false, .int .u32 0] 63] := hs
  refine RW_op (L_st (V := .agg ([.int .u16 (((⟨3, [⟨4, 5⟩], false, 9⟩ : Vw)).cart), .slice x13.1 ([(⟨4, 5⟩ : Line)].length) x13.2, .bool false, .int .u32 9]).toArray) (vs := [.int .u16 (((⟨3, [⟨4, 5⟩], false, 9⟩ : Vw)).cart), .slice x13.1 ([(⟨4, 5⟩ : Line)].length) x13.2, .bool false, .int .u32 9]) (cs' := [.int .u16 (((⟨3, [⟨4, 5⟩], false, 9⟩ : Vw)).cart), .slice x13.1 ([(⟨4, 5⟩ : Line)].length) x13.2, .bool false, .int .u32 9]) SA_63.1 hs 5 rfl rfl rfl rfl rfl (Nat.le_of_ble_eq_true rfl) (one_cons rfl (one_cons rfl (one_cons rfl (one_cons rfl one_nil)))) (spl_whole rfl) fun w16 hs => ?_)
  refine RW_nil ?_
  refine W_seq ?_
  refine W_region ?_
  refine RW_op (L_ldW (cs := oc aliveA) SA_59 hs 0 rfl rfl rfl ?_)
  refine RW_op (L_ldW (cs := oc aliveB) SA_59 hs 1 rfl rfl rfl ?_)
  refine RW_op (L_ldW (cs := oc aliveC) SA_59 hs 2 rfl rfl rfl ?_)
  refine RW_op (L_bs (vals := [.agg (oc aliveA).toArray, .agg (oc aliveB).toArray, .agg (oc aliveC).toArray]) (ls := List.map oc ([aliveA, aliveB, aliveC] : List Opn)) EL_56 rfl rfl rfl (len_map (enc := oc) (fun _ => rfl) _) (one_map oc_one _) (Nat.le_of_ble_eq_true rfl) hs fun b17 w18 hs => ?_)
  refine RW_op (L_callX (α := Option Addr × Nat) (vs := [.slice (some ⟨b17, 0, none⟩) 3 3, .int .u16 3]) (V := fun x => .agg ([.int .u16 (((⟨3, [⟨4, 4⟩], false, 9⟩ : Vw)).cart), .slice x.1 ([(⟨4, 4⟩ : Line)].length) x.2, .bool false, .int .u32 9]).toArray) (Lo := fun x => [row (.slice x.1 [(⟨4, 4⟩ : Line)].length x.2) ([(⟨4, 4⟩ : Line)].map lc) 67 2]) (F := fun _ _ => True) EN_34 rfl rfl ?hc hs fun x20 w19 hs _ => ?_)
  case hc => exact (fViewE_ok _ (some ⟨b17, 0, none⟩) 3 [aliveA, aliveB, aliveC] 3 (⟨3, [⟨4, 4⟩], false, 9⟩ : Vw) (aliveV2) (fun o ho => alive_all (by simp only [List.mem_cons, List.not_mem_nil, or_false] at ho; grind)) (by decide) (hs.rd 6 rfl) hsortU)
  replace hs : Own w no w19 [blk b1 (oc aliveA) 59, blk b4 (oc aliveB) 59, blk b7 (oc aliveC) 59, row (.slice (some ⟨b10, 0, none⟩) 2 2) ([aliveA, aliveB].map oc) 59 23, row (.slice x13.1 ([(⟨4, 5⟩ : Line)].length) x13.2) ([(⟨4, 5⟩ : Line)].map lc) 67 2, blk b14 [.int .u16 (((⟨3, [⟨4, 5⟩], false, 9⟩ : Vw)).cart), .slice x13.1 ([(⟨4, 5⟩ : Line)].length) x13.2, .bool false, .int .u32 9] 63, row (.slice (some ⟨b17, 0, none⟩) 3 3) ([aliveA, aliveB, aliveC].map oc) 59 23, row (.slice x20.1 ([(⟨4, 4⟩ : Line)].length) x20.2) ([(⟨4, 4⟩ : Line)].map lc) 67 2] := hs
  refine RW_op (L_alloc (cs := [.int .u16 0, .slice none 0 0, .bool false, .int .u32 0]) ZV_63 rfl hs fun b21 w22 hs => ?_)
  refine RW_op (L_st (V := .agg ([.int .u16 (((⟨3, [⟨4, 4⟩], false, 9⟩ : Vw)).cart), .slice x20.1 ([(⟨4, 4⟩ : Line)].length) x20.2, .bool false, .int .u32 9]).toArray) (vs := [.int .u16 (((⟨3, [⟨4, 4⟩], false, 9⟩ : Vw)).cart), .slice x20.1 ([(⟨4, 4⟩ : Line)].length) x20.2, .bool false, .int .u32 9]) (cs' := [.int .u16 (((⟨3, [⟨4, 4⟩], false, 9⟩ : Vw)).cart), .slice x20.1 ([(⟨4, 4⟩ : Line)].length) x20.2, .bool false, .int .u32 9]) SA_63.1 hs 8 rfl rfl rfl rfl rfl (Nat.le_of_ble_eq_true rfl) (one_cons rfl (one_cons rfl (one_cons rfl (one_cons rfl one_nil)))) (spl_whole rfl) fun w23 hs => ?_)
  refine RW_nil ?_
  refine W_seq ?_
  refine W_region ?_
  refine RW_op (L_fieldAddr FA_63_1 rfl ?_)
  refine RW_op (L_ld (V := .slice x13.1 ([(⟨4, 5⟩ : Line)].length) x13.2) S1_61 hs 5 rfl rfl rfl ?_)
  refine RW_op (L_lenR (n := [(⟨4, 5⟩ : Line)].length) UD_61 (hs.rd 4 rfl) (by simp) rfl ?_)
  refine RW_op (opW_to (V := .bool (decide ((([(⟨4, 5⟩ : Line)].length : Nat) : Int) = 1))) (V' := .bool true) (L_eql rfl rfl ⟨rfl, rfl⟩) (congrArg Value.bool (by decide)) ?_)
  refine RW_op (L_move (V := .bool true) rfl ?_)
  refine RW_gy rfl (L_fieldAddr FA_63_1 rfl ?_)
  refine RW_gy rfl (L_ld (V := .slice x13.1 ([(⟨4, 5⟩ : Line)].length) x13.2) S1_61 hs 5 rfl rfl rfl ?_)
  refine RW_gy rfl (L_ixR UD_61 SA_67.1 (hs.rd 4 rfl) rfl rfl (by decide) (by simp only [List.length_map, List.length_cons, List.length_nil]; omega) ?_)
  refine RW_gy rfl (L_ldRA (j := 0) (vs := lc (gd [(⟨4, 5⟩ : Line)] 0)) 0 SA_67 (hs.rd 4 rfl) (gd_at (by simp only [List.length_cons, List.length_nil]; omega)) rfl rfl rfl (by omega) ?_)
  refine RW_gy rfl (L_build (vs := [(0, .int .u16 4), (1, .int .u32 5)]) (cs := lc (⟨4, 5⟩ : Line)) BT_67 (rfl) rfl ?_)
  refine RW_gy rfl (opW_to (V := .bool (decide (gd [(⟨4, 5⟩ : Line)] 0 = (⟨4, 5⟩ : Line)))) (V' := .bool true) (L_eqA (xs := lc (gd [(⟨4, 5⟩ : Line)] 0)) (ys := lc (⟨4, 5⟩ : Line)) Try.eqGuardType67 (EQ_67 (gd [(⟨4, 5⟩ : Line)] 0) (⟨4, 5⟩ : Line)) rfl rfl rfl ⟨rfl, rfl⟩) (congrArg Value.bool (by decide)) ?_)
  refine RW_op (L_pick (V := .bool true) rfl rfl ?_)
  refine RW_op (L_move (V := .bool true) rfl ?_)
  refine RW_gy rfl (L_fieldAddr FA_63_3 rfl ?_)
  refine RW_gy rfl (L_ld (V := .int .u32 9) S1_22 hs 5 rfl rfl rfl ?_)
  refine RW_gy rfl (opW_to (V := .bool (decide ((9 : Int) = 9))) (V' := .bool true) (L_eql rfl rfl ⟨rfl, rfl⟩) (congrArg Value.bool (by decide)) ?_)
  refine RW_op (L_pick (V := .bool true) rfl rfl ?_)
  refine RW_op (L_move (V := .bool true) rfl ?_)
  refine RW_gy rfl (L_fieldAddr FA_63_1 rfl ?_)
  refine RW_gy rfl (L_ld (V := .slice x20.1 ([(⟨4, 4⟩ : Line)].length) x20.2) S1_61 hs 8 rfl rfl rfl ?_)
  refine RW_gy rfl (L_lenR (n := [(⟨4, 4⟩ : Line)].length) UD_61 (hs.rd 7 rfl) (by simp) rfl ?_)
  refine RW_gy rfl (opW_to (V := .bool (decide ((([(⟨4, 4⟩ : Line)].length : Nat) : Int) = 1))) (V' := .bool true) (L_eql rfl rfl ⟨rfl, rfl⟩) (congrArg Value.bool (by decide)) ?_)
  refine RW_op (L_pick (V := .bool true) rfl rfl ?_)
  refine RW_op (L_move (V := .bool true) rfl ?_)
  refine RW_gy rfl (L_fieldAddr FA_63_1 rfl ?_)
  refine RW_gy rfl (L_ld (V := .slice x20.1 ([(⟨4, 4⟩ : Line)].length) x20.2) S1_61 hs 8 rfl rfl rfl ?_)
  refine RW_gy rfl (L_ixR UD_61 SA_67.1 (hs.rd 7 rfl) rfl rfl (by decide) (by simp only [List.length_map, List.length_cons, List.length_nil]; omega) ?_)
  refine RW_gy rfl (L_fieldAddr FA_67_1 rfl ?_)
  refine RW_gy rfl (L_ldR (j := 1) (V := .int .u32 ((gd [(⟨4, 4⟩ : Line)] 0).qty)) 0 S1_22 (hs.rd 7 rfl) (gd_at (by simp only [List.length_cons, List.length_nil]; omega)) rfl rfl (by omega) ?_)
  refine RW_gy rfl (opW_to (V := .bool (decide ((gd [(⟨4, 4⟩ : Line)] 0).qty = 4))) (V' := .bool true) (L_eql rfl rfl ⟨rfl, rfl⟩) (congrArg Value.bool (by decide)) ?_)
  refine RW_op (L_pick (V := .bool true) rfl rfl ?_)
  refine RW_op (L_move (V := .bool true) rfl ?_)
  refine RW_gy rfl (L_ldW (cs := oc aliveA) SA_59 hs 0 rfl rfl rfl ?_)
  refine RW_gy rfl (L_bs (vals := [.agg (oc aliveA).toArray]) (ls := List.map oc ([aliveA] : List Opn)) EL_56 rfl rfl rfl (len_map (enc := oc) (fun _ => rfl) _) (one_map oc_one _) (Nat.le_of_ble_eq_true rfl) hs fun b24 w25 hs => ?_)
  replace hs : Own w no w25 [blk b1 (oc aliveA) 59, blk b4 (oc aliveB) 59, blk b7 (oc aliveC) 59, row (.slice (some ⟨b10, 0, none⟩) 2 2) ([aliveA, aliveB].map oc) 59 23, row (.slice x13.1 ([(⟨4, 5⟩ : Line)].length) x13.2) ([(⟨4, 5⟩ : Line)].map lc) 67 2, blk b14 [.int .u16 (((⟨3, [⟨4, 5⟩], false, 9⟩ : Vw)).cart), .slice x13.1 ([(⟨4, 5⟩ : Line)].length) x13.2, .bool false, .int .u32 9] 63, row (.slice (some ⟨b17, 0, none⟩) 3 3) ([aliveA, aliveB, aliveC].map oc) 59 23, row (.slice x20.1 ([(⟨4, 4⟩ : Line)].length) x20.2) ([(⟨4, 4⟩ : Line)].map lc) 67 2, blk b21 [.int .u16 (((⟨3, [⟨4, 4⟩], false, 9⟩ : Vw)).cart), .slice x20.1 ([(⟨4, 4⟩ : Line)].length) x20.2, .bool false, .int .u32 9] 63, row (.slice (some ⟨b24, 0, none⟩) 1 1) ([aliveA].map oc) 59 23] := hs
  refine RW_gy rfl (L_callX (α := Option Addr × Nat) (vs := [.slice (some ⟨b24, 0, none⟩) 1 1, .int .u16 2]) (V := fun x => .agg ([.int .u16 (((⟨2, [], false, 0⟩ : Vw)).cart), .slice x.1 (([] : List Line).length) x.2, .bool false, .int .u32 0]).toArray) (Lo := fun x => [row (.slice x.1 ([] : List Line).length x.2) (([] : List Line).map lc) 67 2]) (F := fun _ _ => True) EN_34 rfl rfl ?hc hs fun x27 w26 hs _ => ?_)
  case hc => exact (fViewE_ok _ (some ⟨b24, 0, none⟩) 1 [aliveA] 2 (⟨2, [], false, 0⟩ : Vw) (aliveV3) (fun o ho => alive_all (by simp only [List.mem_cons, List.not_mem_nil, or_false] at ho; grind)) (by decide) (hs.rd 9 rfl) hsortU)
  refine RW_gy rfl (L_fieldV (V := .bool false) (fun w => by simp [Instr.field, part, asAgg]) rfl ?_)
  refine RW_gy rfl (L_not rfl ?_)
  refine RW_op (L_pick (V := .bool true) rfl rfl ?_)
  refine RW_op (L_move (V := .bool true) rfl ?_)
  refine RW_gy rfl (L_ldW (cs := oc aliveC) SA_59 hs 2 rfl rfl rfl ?_)
  refine RW_gy rfl (L_ldW (cs := oc aliveA) SA_59 hs 0 rfl rfl rfl ?_)
  refine RW_gy rfl (L_bs (vals := [.agg (oc aliveC).toArray, .agg (oc aliveA).toArray]) (ls := List.map oc ([aliveC, aliveA] : List Opn)) EL_56 rfl rfl rfl (len_map (enc := oc) (fun _ => rfl) _) (one_map oc_one _) (Nat.le_of_ble_eq_true rfl) hs fun b28 w29 hs => ?_)
  refine RW_gy rfl (L_callPV (V' := .bool true) (congrArg Value.bool (aliveC1)) (vs := [.slice (some ⟨b28, 0, none⟩) 2 2]) (V := .bool (closedP [aliveC, aliveA])) EN_37 rfl rfl ?hc hs fun w30 hs => ?_)
  case hc => exact (fClosed_ok _ (some ⟨b28, 0, none⟩) 2 [aliveC, aliveA] (fun o ho => alive_all (by simp only [List.mem_cons, List.not_mem_nil, or_false] at ho; grind)) (by decide) (hs.rd 11 rfl))
  refine RW_op (L_pick (V := .bool true) rfl rfl ?_)
  refine RW_op (L_move (V := .bool true) rfl ?_)
  refine RW_gy rfl (L_ldW (cs := oc aliveC) SA_59 hs 2 rfl rfl rfl ?_)
  refine RW_gy rfl (L_bs (vals := [.agg (oc aliveC).toArray]) (ls := List.map oc ([aliveC] : List Opn)) EL_56 rfl rfl rfl (len_map (enc := oc) (fun _ => rfl) _) (one_map oc_one _) (Nat.le_of_ble_eq_true rfl) hs fun b31 w32 hs => ?_)
  replace hs : Own w no w32 [blk b1 (oc aliveA) 59, blk b4 (oc aliveB) 59, blk b7 (oc aliveC) 59, row (.slice (some ⟨b10, 0, none⟩) 2 2) ([aliveA, aliveB].map oc) 59 23, row (.slice x13.1 ([(⟨4, 5⟩ : Line)].length) x13.2) ([(⟨4, 5⟩ : Line)].map lc) 67 2, blk b14 [.int .u16 (((⟨3, [⟨4, 5⟩], false, 9⟩ : Vw)).cart), .slice x13.1 ([(⟨4, 5⟩ : Line)].length) x13.2, .bool false, .int .u32 9] 63, row (.slice (some ⟨b17, 0, none⟩) 3 3) ([aliveA, aliveB, aliveC].map oc) 59 23, row (.slice x20.1 ([(⟨4, 4⟩ : Line)].length) x20.2) ([(⟨4, 4⟩ : Line)].map lc) 67 2, blk b21 [.int .u16 (((⟨3, [⟨4, 4⟩], false, 9⟩ : Vw)).cart), .slice x20.1 ([(⟨4, 4⟩ : Line)].length) x20.2, .bool false, .int .u32 9] 63, row (.slice (some ⟨b24, 0, none⟩) 1 1) ([aliveA].map oc) 59 23, row (.slice x27.1 (([] : List Line).length) x27.2) (([] : List Line).map lc) 67 2, row (.slice (some ⟨b28, 0, none⟩) 2 2) ([aliveC, aliveA].map oc) 59 23, row (.slice (some ⟨b31, 0, none⟩) 1 1) ([aliveC].map oc) 59 23] := hs
  refine RW_gy rfl (L_callPV (V' := .bool false) (congrArg Value.bool aliveC2) (vs := [.slice (some ⟨b31, 0, none⟩) 1 1]) (V := .bool (closedP [aliveC])) EN_37 rfl rfl ?hc hs fun w33 hs => ?_)
  case hc => exact (fClosed_ok _ (some ⟨b31, 0, none⟩) 1 [aliveC] (fun o ho => alive_all (by simp only [List.mem_cons, List.not_mem_nil, or_false] at ho; grind)) (by decide) (hs.rd 12 rfl))
  refine RW_gy rfl (L_not rfl ?_)
  refine RW_op (L_pick (V := .bool true) rfl rfl ?_)
  refine RW_op (L_move (V := .bool true) rfl ?_)
  refine RW_gy rfl (L_ldW (cs := oc aliveA) SA_59 hs 0 rfl rfl rfl ?_)
  refine RW_gy rfl (L_ldW (cs := oc aliveC) SA_59 hs 2 rfl rfl rfl ?_)
  refine RW_gy rfl (L_bs (vals := [.agg (oc aliveA).toArray, .agg (oc aliveC).toArray]) (ls := List.map oc ([aliveA, aliveC] : List Opn)) EL_56 rfl rfl rfl (len_map (enc := oc) (fun _ => rfl) _) (one_map oc_one _) (Nat.le_of_ble_eq_true rfl) hs fun b34 w35 hs => ?_)
  refine RW_gy rfl (L_callX (vs := [.slice (some ⟨b34, 0, none⟩) 2 2]) EN_53 rfl rfl (fLives_ok _ (some ⟨b34, 0, none⟩) 2 [aliveA, aliveC] (fun o ho => alive_all (by simp only [List.mem_cons, List.not_mem_nil, or_false] at ho; grind)) (by decide) (hs.rd 13 rfl) ) hs fun x37 w36 hs _ => ?_)
  refine RW_gy rfl (L_lenR (n := ([aliveA, aliveC].map (liveB [aliveA, aliveC])).length) UD_90 (hs.rd 14 rfl) (by simp) rfl ?_)
  refine RW_gy rfl (opW_to (V := .bool (decide (((([aliveA, aliveC].map (liveB [aliveA, aliveC])).length : Nat) : Int) = 2))) (V' := .bool true) (L_eql rfl rfl ⟨rfl, rfl⟩) (congrArg Value.bool (by decide)) ?_)
  refine RW_op (L_pick (V := .bool true) rfl rfl ?_)
  refine RW_op (L_assign (V := .bool true) rfl ?_)
  refine RW_nil ?_
  refine W_ret ?_
  refine ⟨_, res_one (V := .bool true) Try.results32 rfl, ?_⟩
  refine ⟨congrArg Ending.returned ?_, hs.take 0⟩
  rfl
end Tf
end Go.Proofs
namespace Go.Proofs
open Go Go.Vx Go.RowKit
open Tt
namespace Tf
theorem EN_32 : En Try.prog 32 := Try.call32
end Tf
end Go.Proofs
namespace Go.Proofs
open Go Go.Vx Go.RowKit
open Tt
namespace Tf
theorem EN_33 : En Try.prog 33 := Try.call33
set_option maxRecDepth 20000 in
set_option maxHeartbeats 4000000 in
theorem foldOthers_ok (w : World) (a : Option Addr) (c : Nat) (l : List Opn) (hl : ∀ o ∈ l, OpnOk o) (hr : Rd w (.slice a l.length c) 23 (l.map oc)) (hsortU : SortI Try.prog 76 .u16 57) (cart : Int) : Calls Try.prog 9 #[.slice a l.length c, .int .u16 cart] w (fun e w' => e = .returned (.bool true) ∧ Own w no w' []) := by
  refine calls_of_Wn (n := 35) Try.func9 rfl Try.ntmps9 rfl ?_
  have hs := Own.start w
  have hn := hr.sml
  refine W_seq ?_
  refine W_region ?_
  refine RW_op (L_assign (V := .bool false) rfl ?_)
  refine RW_nil ?_
  refine W_seq ?_
  refine W_seq ?_
  refine W_region ?_
  refine RW_op (L_callP (vs := []) (V := .bool true) EN_32 rfl rfl ?hc hs fun w1 hs => ?_)
  case hc => exact (alive7_ok _ hsortU)
  refine RW_op (L_not rfl ?_)
  refine RW_nil ?_
  refine W_condF rfl ?_
  refine W_skip ?_
  refine W_seq ?_
  refine W_seq ?_
  refine W_region ?_
  refine RW_op (L_move (V := .slice a l.length c) rfl ?_)
  refine RW_op (L_lenR (n := l.length) UD_56 (Rd.own' hr hs) (by simp) rfl ?_)
  refine RW_op (L_gtr rfl rfl ?_)
  refine RW_nil ?_
  refine W_cond (t := decide (40 < ((l.length : Nat) : Int))) rfl (fun c2 => ?_) (fun c2 => ?_)
  ·
    replace c2 := of_decide_eq_true c2
    refine W_seq ?_
    refine W_region ?_
    refine RW_op (L_assign (V := .bool true) rfl ?_)
    refine RW_nil ?_
    refine W_ret ?_
    refine ⟨_, res_one (V := .bool true) Try.results9 rfl, ?_⟩
    refine ⟨congrArg Ending.returned ?_, hs.take 0⟩
    rfl
  ·
    replace c2 := of_decide_eq_false c2
    refine W_skip ?_
    refine W_seq ?_
    have hlen : l.length ≤ 1000 := by omega
    refine W_region ?_
    refine RW_op (L_assign (V := .slice none 0 0) rfl ?_)
    refine RW_nil ?_
    refine W_seq ?_
    refine W_seq ?_
    refine W_region ?_
    refine RW_op (L_move (V := .slice a l.length c) rfl ?_)
    refine RW_op (L_lenR (n := l.length) UD_56 (Rd.own' hr hs) (by simp) rfl ?_)
    refine RW_op (L_move (V := .int .i64 0) rfl ?_)
    refine RW_nil ?_
    refine W_block ?_
    replace hs := hs.more (row (.slice none 0 0) (List.map oc []) 59 23) (row_nil _ _ _ _)
    refine W_loopI (fun ρ m ρ' w' => ∃ (ρo : Env) (k : Nat) (a1 : Option Addr) (c1 : Nat) (out : List Opn), ρ' = upd (upd (mix [5, 7, 15, 16, 17, 18, 19, 20, 21, 22, 23, 24, 25, 26, 27] ρo ρ) 15 (.int .i64 (k : Int))) 5 (.slice a1 out.length c1) ∧ (k ≤ l.length) ∧ (out.length ≤ k) ∧ (out = (l.take k).filter fun o : Opn => decide (o.cart = cart)) ∧ m = l.length - k ∧ Own w no w' [row (.slice a1 out.length c1) (out.map oc) 59 23]) ?_ ?_
    · exact ⟨_, _, 0, none, 0, [], upd_of (upd_of (mix_of (ds := [5, 7, 15, 16, 17, 18, 19, 20, 21, 22, 23, 24, 25, 26, 27]) (Agr.refl _ _)) rfl) rfl, (by omega), (Nat.le_refl _), rfl, rfl, hs⟩
    · rintro m ρ' w3 ⟨ρo, k, a1, c1, out, rfl, hk, hol, hout, rfl, hs⟩
      refine W_seq ?_
      refine W_region ?_
      refine RW_op (L_lss rfl rfl ?_)
      refine RW_nil ?_
      refine W_seq ?_
      refine W_cond (t := decide ((k : Int) < ((l.length : Nat) : Int))) rfl (fun c4 => ?_) (fun c4 => ?_)
      ·
        replace c4 := of_decide_eq_true c4
        refine W_skip ?_
        refine W_seq ?_
        refine W_block ?_
        refine W_seq ?_
        refine W_region ?_
        refine RW_op (L_ixR UD_56 SA_59.1 (Rd.own' hr hs) rfl rfl (by omega) (by rw [List.length_map]; omega) ?_)
        refine RW_op (L_ldRA (j := 0) (vs := oc (gd l k)) k SA_59 (Rd.own' hr hs) (gd_at (by omega)) rfl rfl rfl (by omega) ?_)
        refine RW_op (L_alloc (cs := oc (⟨(⟨0, 0⟩ : Dot), 0, 0, 0, 0, 0, vzero⟩ : Opn)) ZV_59 rfl hs fun b5 w6 hs => ?_)
        refine RW_op (L_st (V := .agg (oc (gd l k)).toArray) (vs := oc (gd l k)) (cs' := oc (gd l k)) SA_59.1 hs 1 rfl rfl rfl rfl rfl (Nat.le_of_ble_eq_true rfl) (oc_one _) (spl_whole rfl) fun w7 hs => ?_)
        refine RW_nil ?_
        refine W_seq ?_
        refine W_region ?_
        refine RW_op (L_fieldAddr FA_59_2 rfl ?_)
        refine RW_op (L_ld (V := .int .u16 ((gd l k).cart)) S1_57 hs 1 rfl rfl rfl ?_)
        refine RW_op (L_move (V := .int .u16 cart) rfl ?_)
        refine RW_op (L_eql rfl rfl ?_)
        refine RW_nil ?_
        refine W_cond (t := decide ((gd l k).cart = cart)) rfl (fun c8 => ?_) (fun c8 => ?_)
        ·
          replace c8 := of_decide_eq_true c8
          refine W_region ?_
          refine RW_op (L_move (V := .slice a1 out.length c1) rfl ?_)
          refine RW_op (L_ldW (cs := oc (gd l k)) SA_59 hs 1 rfl rfl rfl ?_)
          refine RW_op (L_bs (vals := [.agg (oc (gd l k)).toArray]) (ls := List.map oc ([gd l k] : List Opn)) EL_56 rfl rfl rfl (len_map (enc := oc) (fun _ => rfl) _) (one_map oc_one _) (Nat.le_of_ble_eq_true rfl) hs fun b9 w10 hs => ?_)
          refine RW_op (L_appN (ls' := (out ++ [gd l k]).map oc) (n := (out ++ [gd l k]).length) EL_56 hs 0 rfl rfl rfl (hs.rd 2 rfl) (one_map oc_one _) (by simp only [List.length_map, List.length_append, List.length_cons, List.length_nil]; omega) (by simp) (by simp) fun a11 c11 w12 hs => ?_)
          replace hs : Own w no w12 [row (.slice a11 ((out ++ [gd l k]).length) c11) ((out ++ [gd l k]).map oc) 59 23, blk b5 (oc (gd l k)) 59, row (.slice (some ⟨b9, 0, none⟩) 1 1) ([gd l k].map oc) 59 23] := hs
          refine RW_op (L_assign (V := .slice a11 ((out ++ [gd l k]).length) c11) rfl ?_)
          refine RW_nil ?_
          refine W_region ?_
          refine RW_op (L_add (a := (k : Int)) (b := 1) (c := (k : Int) + 1) rfl rfl (wr_i64 (by omega) (by omega)) ?_)
          refine RW_op (L_move (V := .int .i64 ((k : Int) + 1)) rfl ?_)
          refine RW_nil ?_
          refine ⟨_, ?_, _, k + 1, a11, c11, out ++ [gd l k], upd_of (upd_of (mix_of (ds := [5, 7, 15, 16, 17, 18, 19, 20, 21, 22, 23, 24, 25, 26, 27]) (by repeat (first | exact Agr.refl _ _ | refine Agr.upd ?_ rfl | refine Agr.mix ?_ rfl))) rfl) rfl, (by omega), (by first | omega | (simp only [List.length_append, List.length_cons, List.length_nil]; omega)), (filt_next_yes (p := fun o : Opn => decide (o.cart = cart)) hout (by omega) (decide_eq_true c8)), rfl, hs.take 1⟩
          omega
        ·
          replace c8 := of_decide_eq_false c8
          refine W_skip ?_
          refine W_region ?_
          refine RW_op (L_add (a := (k : Int)) (b := 1) (c := (k : Int) + 1) rfl rfl (wr_i64 (by omega) (by omega)) ?_)
          refine RW_op (L_move (V := .int .i64 ((k : Int) + 1)) rfl ?_)
          refine RW_nil ?_
          refine ⟨_, ?_, _, k + 1, a1, c1, out, upd_of (upd_of (mix_of (ds := [5, 7, 15, 16, 17, 18, 19, 20, 21, 22, 23, 24, 25, 26, 27]) (by repeat (first | exact Agr.refl _ _ | refine Agr.upd ?_ rfl | refine Agr.mix ?_ rfl))) rfl) rfl, (by omega), (by first | omega | (simp only [List.length_append, List.length_cons, List.length_nil]; omega)), (filt_next_no (p := fun o : Opn => decide (o.cart = cart)) hout (by omega) (decide_eq_false c8)), rfl, hs.take 1⟩
          omega
      ·
        replace c4 := of_decide_eq_false c4
        refine W_exit ?_
        refine W_seq ?_
        have hX : out = l.filter fun o : Opn => decide (o.cart = cart) := by rw [hout, take_all (by omega)]
        have hVE : viewP out cart = viewP l cart := by rw [hX]; exact viewP_eq (vfold_own l cart l)
        refine W_region ?_
        refine RW_op (L_move (V := .slice a l.length c) rfl ?_)
        refine RW_op (L_move (V := .int .u16 cart) rfl ?_)
        refine RW_op (L_callX (α := Option Addr × Nat) (vs := [.slice a l.length c, .int .u16 cart]) (V := fun x => .agg ([.int .u16 ((viewP l cart).cart), .slice x.1 (((viewP l cart).lines).length) x.2, .bool ((viewP l cart).out), .int .u32 ((viewP l cart).tick)]).toArray) (Lo := fun x => [row (.slice x.1 ((viewP l cart).lines).length x.2) (((viewP l cart).lines).map lc) 67 2]) (F := fun _ _ => True) EN_34 rfl rfl ?hc hs fun x14 w13 hs _ => ?_)
        case hc => exact (fViewE_ok _ a c l cart (viewP l cart) (rfl) hl (by omega) (Rd.own' hr hs) hsortU)
        refine RW_op (L_move (V := .slice a1 out.length c1) rfl ?_)
        refine RW_op (L_move (V := .int .u16 cart) rfl ?_)
        refine RW_op (L_callX (α := Option Addr × Nat) (vs := [.slice a1 out.length c1, .int .u16 cart]) (V := fun x => .agg ([.int .u16 ((viewP out cart).cart), .slice x.1 (((viewP out cart).lines).length) x.2, .bool ((viewP out cart).out), .int .u32 ((viewP out cart).tick)]).toArray) (Lo := fun x => [row (.slice x.1 ((viewP out cart).lines).length x.2) (((viewP out cart).lines).map lc) 67 2]) (F := fun _ _ => True) EN_34 rfl rfl ?hc hs fun x16 w15 hs _ => ?_)
        case hc => exact (fViewE_ok _ a1 c1 out cart (viewP out cart) (rfl) (fun o ho => hl o (filt_sub hout ho)) (by omega) (hs.rd 0 rfl) hsortU)
        refine RW_op (L_callPV (V' := .bool true) (congrArg Value.bool (by rw [hVE]; exact same_self (viewP l cart))) (vs := [.agg ([.int .u16 ((viewP l cart).cart), .slice x14.1 (((viewP l cart).lines).length) x14.2, .bool ((viewP l cart).out), .int .u32 ((viewP l cart).tick)]).toArray, .agg ([.int .u16 ((viewP out cart).cart), .slice x16.1 (((viewP out cart).lines).length) x16.2, .bool ((viewP out cart).out), .int .u32 ((viewP out cart).tick)]).toArray]) (V := .bool (decide ((viewP l cart).cart = (viewP out cart).cart) && (((viewP l cart).out) == ((viewP out cart).out)) && decide ((viewP l cart).tick = (viewP out cart).tick) && decide ((viewP l cart).lines = (viewP out cart).lines))) EN_33 rfl rfl ?hc hs fun w17 hs => ?_)
        case hc => exact (same7_ok _ ((viewP l cart).cart) ((viewP out cart).cart) ((viewP l cart).tick) ((viewP out cart).tick) ((viewP l cart).out) ((viewP out cart).out) x14.1 x16.1 x14.2 x16.2 ((viewP l cart).lines) ((viewP out cart).lines) (hs.rd 1 rfl) (hs.rd 2 rfl))
        refine RW_op (L_assign (V := .bool true) rfl ?_)
        refine RW_nil ?_
        refine W_ret ?_
        refine ⟨_, res_one (V := .bool true) Try.results9 rfl, ?_⟩
        refine ⟨congrArg Ending.returned ?_, hs.take 0⟩
        rfl
end Tf
end Go.Proofs
namespace Go.Proofs
open Go.Shelf
def Try.sortD_ren : Go.Shelf.Ren := ⟨fun | 6 => 64 | 15 => 81 | 14 => 80 | 28 => 98 | 29 => 99 | 20 => 90 | 21 => 91 | 22 => 92 | 23 => 93 | 24 => 94 | 25 => 95 | 26 => 96 | 27 => 97 | 46 => 111 | 47 => 112 | 48 => 113 | 49 => 114 | 50 => 115 | 57 => 120 | n => n, fun | 22 => 25 | 24 => 34 | 25 => 88 | 3 => 3 | 39 => 119 | 0 => 0 | 53 => 22 | 55 => 54 | 4 => 4 | 46 => 130 | 45 => 129 | 50 => 134 | 5 => 5 | 9 => 9 | 66 => 145 | 70 => 149 | 76 => 153 | 77 => 154 | n => n, fun | n => n⟩
theorem Try.sortD : Go.Proofs.SlLaysF0.n6 Try.prog Try.sortD_ren := {
  mixed := by kernel_rfl
  f6 := ⟨Try.f64.name, by decide, Try.func64.trans (congrArg some (by kernel_rfl))⟩
  f14 := ⟨Try.f80.name, by decide, Try.func80.trans (congrArg some (by kernel_rfl))⟩
  f15 := Try.func81.trans (congrArg some (by kernel_rfl))
  f20 := ⟨Try.f90.name, by decide, Try.func90.trans (congrArg some (by kernel_rfl))⟩
  f21 := ⟨Try.f91.name, by decide, Try.func91.trans (congrArg some (by kernel_rfl))⟩
  f22 := ⟨Try.f92.name, by decide, Try.func92.trans (congrArg some (by kernel_rfl))⟩
  f23 := ⟨Try.f93.name, by decide, Try.func93.trans (congrArg some (by kernel_rfl))⟩
  f24 := ⟨Try.f94.name, by decide, Try.func94.trans (congrArg some (by kernel_rfl))⟩
  f25 := ⟨Try.f95.name, by decide, Try.func95.trans (congrArg some (by kernel_rfl))⟩
  f26 := ⟨Try.f96.name, by decide, Try.func96.trans (congrArg some (by kernel_rfl))⟩
  f27 := ⟨Try.f97.name, by decide, Try.func97.trans (congrArg some (by kernel_rfl))⟩
  f28 := Try.func98.trans (congrArg some (by kernel_rfl))
  f29 := Try.func99.trans (congrArg some (by kernel_rfl))
  f46 := ⟨Try.f111.name, by decide, Try.func111.trans (congrArg some (by kernel_rfl))⟩
  f47 := Try.func112.trans (congrArg some (by kernel_rfl))
  f48 := Try.func113.trans (congrArg some (by kernel_rfl))
  f49 := ⟨Try.f114.name, by decide, Try.func114.trans (congrArg some (by kernel_rfl))⟩
  f50 := ⟨Try.f115.name, by decide, Try.func115.trans (congrArg some (by kernel_rfl))⟩
  f57 := ⟨Try.f120.name, by decide, Try.func120.trans (congrArg some (by kernel_rfl))⟩
  t0 := Try.underlying0
  a0 := Try.isAgg0
  z0 := Try.sizeOf0
  v0 := Try.zeroValue0
  t3 := Try.underlying3
  a3 := Try.isAgg3
  z3 := Try.sizeOf3
  v3 := Try.zeroValue3
  t4 := Try.underlying4
  a4 := Try.isAgg4
  z4 := Try.sizeOf4
  v4 := Try.zeroValue4
  t5 := Try.underlying5
  a5 := Try.isAgg5
  z5 := Try.sizeOf5
  v5 := Try.zeroValue5
  t9 := Try.underlying9
  a9 := Try.isAgg9
  z9 := Try.sizeOf9
  v9 := Try.zeroValue9
  t22 := Try.underlying25
  a22 := Try.isAgg25
  z22 := Try.sizeOf25
  v22 := Try.zeroValue25
  t25 := Try.underlying88
  a25 := Try.isAgg88
  z25 := Try.sizeOf88
  v25 := Try.zeroValue88
  t39 := Try.underlying119
  a39 := Try.isAgg119
  z39 := Try.sizeOf119
  v39 := Try.zeroValue119
  t45 := Try.underlying129
  a45 := Try.isAgg129
  z45 := Try.sizeOf129
  v45 := Try.zeroValue129
  t46 := Try.underlying130
  a46 := Try.isAgg130
  z46 := Try.sizeOf130
  v46 := Try.zeroValue130
  t50 := Try.underlying134
  a50 := Try.isAgg134
  z50 := Try.sizeOf134
  v50 := Try.zeroValue134
  t53 := Try.underlying22
  a53 := Try.isAgg22
  z53 := Try.sizeOf22
  v53 := Try.zeroValue22
  t55 := Try.underlying54
  a55 := Try.isAgg54
  z55 := Try.sizeOf54
  v55 := Try.zeroValue54
  t66 := Try.underlying145
  a66 := Try.isAgg145
  z66 := Try.sizeOf145
  v66 := Try.zeroValue145
  t70 := Try.underlying149
  a70 := Try.isAgg149
  z70 := Try.sizeOf149
  v70 := Try.zeroValue149
  t76 := Try.underlying153
  a76 := Try.isAgg153
  z76 := Try.sizeOf153
  v76 := Try.zeroValue153
  t77 := Try.underlying154
  a77 := Try.isAgg154
  z77 := Try.sizeOf154
  v77 := Try.zeroValue154 }
end Go.Proofs
namespace Go.Proofs.Ytnanhhiofnohbaa
open Go.Vx Go.Sort Go.Proofs
theorem lenU : LenC Try.prog 81 := fun w n hn => by
  have h := Any.bits_Len (SlLaysF0.n15.bits (P := Try.prog) (ρ := Try.sortD_ren) { Try.sortD with }) (n : Int) w (by omega) (by omega)
  rw [Int.toNat_natCast, bitLen_eq _ (by omega)] at h
  exact h.mono fun e w' ⟨he, hw⟩ => by subst hw; exact ⟨he, Own.start _⟩
theorem xorU : XorC Try.prog 113 145 := fun w S rb X hX hR hlt => xor_ok (P := Try.prog) (ρ := Try.sortD_ren) { Try.sortD with } 145 w S rb X hX hR hlt
theorem powU : PowC Try.prog 112 := fun w n hn => pow_ok (P := Try.prog) (ρ := Try.sortD_ren) { Try.sortD with } w n hn
theorem sortsU : SortI Try.prog 76 .u16 57 := Ts.sort_ok xorU powU lenU
end Go.Proofs.Ytnanhhiofnohbaa
namespace Go.Proofs.Ytnanhhiofnohbaa
open Go.RowKit Go.Vx
theorem Try.own : ownKnob Try.prog.godebug = none := by kernel_rfl
theorem Try.laidOut : laidOutB Try.prog = true := by kernel_rfl
theorem O24 : OpenT Try.prog 24 vc VecOk := O_vec Try.underlying24 Try.underlying22 (by kernel_rfl) (by kernel_rfl)
theorem O34 : OpenT Try.prog 34 dc DotOk := O_dot Try.underlying34 rfl rfl Try.underlying5 Try.underlying22 (by kernel_rfl) (by kernel_rfl) (by kernel_rfl)
end Go.Proofs.Ytnanhhiofnohbaa
namespace Go.Proofs.Ytnanhhiofnohbaa
open Go.RowKit Go.Vx
theorem O59 : OpenT Try.prog 59 oc OpnOk := O_opn Try.underlying59 rfl rfl O34 O24 Try.underlying5 Try.underlying57 Try.underlying57 Try.underlying57 Try.underlying22 (by kernel_rfl) (by kernel_rfl)
end Go.Proofs.Ytnanhhiofnohbaa
