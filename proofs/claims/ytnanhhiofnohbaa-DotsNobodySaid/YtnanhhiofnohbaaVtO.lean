/- A part of a proof: what functions of the program compute, and plain facts on that. -/
import Derived.Test.YtnanhhiofnohbaaVtN
namespace Go.Proofs
open Go Go.Vx Go.RowKit
namespace Tt

set_option maxRecDepth 20000 in
set_option maxHeartbeats 4000000 in
theorem gGood_nil (w : World)  : Calls Try.prog 44 #[.pointer none] w (fun e w' => e = .returned (.bool false) ∧ Own w no w' []) := by
  refine calls_of_Wn (n := 12) Try.func44 rfl Try.ntmps44 rfl ?_
  have hs := Own.start w
  refine W_seq ?_
  refine W_region ?_
  refine RW_op (L_assign (V := .bool false) rfl ?_)
  refine RW_nil ?_
  refine W_seq ?_
  refine W_region ?_
  refine RW_op (L_move (V := .pointer none) rfl ?_)
  refine RW_op (L_ptrnn UD_27 rfl rfl ?_)
  refine RW_op (L_move (V := .bool false) rfl ?_)
  refine RW_gn (T := false) rfl rfl ?_
  refine RW_gn (T := false) rfl rfl ?_
  refine RW_gn (T := false) rfl rfl ?_
  refine RW_gn (T := false) rfl rfl ?_
  refine RW_gn (T := false) rfl rfl ?_
  refine RW_op (L_pick (V := .bool false) rfl rfl ?_)
  refine RW_op (L_assign (V := .bool false) rfl ?_)
  refine RW_nil ?_
  refine W_ret ?_
  refine ⟨_, res_one (V := .bool false) Try.results44 rfl, ?_⟩
  refine ⟨congrArg Ending.returned ?_, hs.take 0⟩
  rfl
set_option maxRecDepth 20000 in
set_option maxHeartbeats 4000000 in
theorem gHas_nil (w : World) (d : Dot)  : Calls Try.prog 18 #[.pointer none, .agg (dc d).toArray] w (fun e w' => e = .returned (.bool false) ∧ Own w no w' []) := by
  refine calls_of_Wn (n := 28) Try.func18 rfl Try.ntmps18 rfl ?_
  have hs := Own.start w
  refine W_seq ?_
  refine W_region ?_
  refine RW_op (L_box (V := .agg (dc d).toArray) (cs := dc d) rfl rfl hs fun b1 w2 hs => ?_)
  refine RW_op (L_assign (V := .bool false) rfl ?_)
  refine RW_nil ?_
  refine W_seq ?_
  refine W_seq ?_
  refine W_region ?_
  refine RW_op (L_move (V := .pointer none) rfl ?_)
  refine RW_op (L_callP (vs := [.pointer none]) (V := .bool false) EN_44 rfl rfl (gGood_nil _) hs fun w3 hs => ?_)
  refine RW_op (L_not rfl ?_)
  refine RW_nil ?_
  refine W_condT rfl ?_
  refine W_seq ?_
  refine W_region ?_
  refine RW_op (L_assign (V := .bool false) rfl ?_)
  refine RW_nil ?_
  refine W_ret ?_
  refine ⟨_, res_one (V := .bool false) Try.results18 rfl, ?_⟩
  refine ⟨congrArg Ending.returned ?_, hs.take 0⟩
  rfl
set_option maxRecDepth 20000 in
set_option maxHeartbeats 4000000 in
theorem gAdd_nil (w : World) (d : Dot)  : Calls Try.prog 21 #[.pointer none, .agg (dc d).toArray] w (fun e w' => e = .returned (.int .i64 1) ∧ Own w no w' []) := by
  refine calls_of_Wn (n := 54) Try.func21 rfl Try.ntmps21 rfl ?_
  have hs := Own.start w
  refine W_seq ?_
  refine W_region ?_
  refine RW_op (L_box (V := .agg (dc d).toArray) (cs := dc d) rfl rfl hs fun b1 w2 hs => ?_)
  refine RW_op (L_assign (V := .int .i64 0) rfl ?_)
  refine RW_nil ?_
  refine W_seq ?_
  refine W_seq ?_
  refine W_region ?_
  refine RW_op (L_move (V := .pointer none) rfl ?_)
  refine RW_op (L_callP (vs := [.pointer none]) (V := .bool false) EN_44 rfl rfl (gGood_nil _) hs fun w3 hs => ?_)
  refine RW_op (L_not rfl ?_)
  refine RW_nil ?_
  refine W_condT rfl ?_
  refine W_seq ?_
  refine W_region ?_
  refine RW_op (L_assign (V := .int .i64 1) rfl ?_)
  refine RW_nil ?_
  refine W_ret ?_
  refine ⟨_, res_one (V := .int .i64 1) Try.results21 rfl, ?_⟩
  refine ⟨congrArg Ending.returned ?_, hs.take 0⟩
  rfl
set_option maxRecDepth 20000 in
set_option maxHeartbeats 4000000 in
theorem gClosed_nil (w : World)  : Calls Try.prog 22 #[.pointer none] w (fun e w' => e = .returned (.agg (vc vzero).toArray) ∧ Own w no w' []) := by
  refine calls_of_Wn (n := 11) Try.func22 rfl Try.ntmps22 rfl ?_
  have hs := Own.start w
  refine W_seq ?_
  refine W_region ?_
  refine RW_op (L_alloc (cs := vc vzero) ZV_24 rfl hs fun b1 w2 hs => ?_)
  refine RW_nil ?_
  refine W_seq ?_
  refine W_seq ?_
  refine W_region ?_
  refine RW_op (L_move (V := .pointer none) rfl ?_)
  refine RW_op (L_callP (vs := [.pointer none]) (V := .bool false) EN_44 rfl rfl (gGood_nil _) hs fun w3 hs => ?_)
  refine RW_op (L_not rfl ?_)
  refine RW_nil ?_
  refine W_condT rfl ?_
  refine W_seq ?_
  refine W_region ?_
  refine RW_op (L_build (vs := []) (cs := vc vzero) BT_24 (rfl) rfl ?_)
  refine RW_op (L_st (V := .agg (vc vzero).toArray) (vs := vc vzero) (cs' := vc vzero) SA_24.1 hs 0 rfl rfl rfl rfl rfl (Nat.le_of_ble_eq_true rfl) (vc_one _) (spl_whole rfl) fun w4 hs => ?_)
  refine RW_nil ?_
  refine W_ret ?_
  refine ⟨_, res_cell (cs := vc vzero) Try.results22 SA_24 hs 0 rfl rfl rfl, ?_⟩
  refine ⟨congrArg Ending.returned ?_, hs.take 0⟩
  rfl
set_option maxRecDepth 20000 in
set_option maxHeartbeats 4000000 in
theorem gLoose_nil (w : World)  : Calls Try.prog 25 #[.pointer none] w (fun e w' => e = .returned (.slice none 0 0) ∧ Own w no w' []) := by
  refine calls_of_Wn (n := 12) Try.func25 rfl Try.ntmps25 rfl ?_
  have hs := Own.start w
  refine W_seq ?_
  refine W_region ?_
  refine RW_op (L_assign (V := .slice none 0 0) rfl ?_)
  refine RW_nil ?_
  refine W_seq ?_
  refine W_seq ?_
  refine W_region ?_
  refine RW_op (L_move (V := .pointer none) rfl ?_)
  refine RW_op (L_callP (vs := [.pointer none]) (V := .bool false) EN_44 rfl rfl (gGood_nil _) hs fun w1 hs => ?_)
  refine RW_op (L_not rfl ?_)
  refine RW_nil ?_
  refine W_condT rfl ?_
  refine W_seq ?_
  refine W_region ?_
  refine RW_op (L_assign (V := .slice none 0 0) rfl ?_)
  refine RW_nil ?_
  refine W_ret ?_
  refine ⟨_, res_one (V := .slice none 0 0) Try.results25 rfl, ?_⟩
  refine ⟨congrArg Ending.returned ?_, hs.take 0⟩
  rfl
set_option maxRecDepth 20000 in
set_option maxHeartbeats 4000000 in
theorem gMissing_nil (w : World)  : Calls Try.prog 27 #[.pointer none] w (fun e w' => e = .returned (.slice none 0 0) ∧ Own w no w' []) := by
  refine calls_of_Wn (n := 52) Try.func27 rfl Try.ntmps27 rfl ?_
  have hs := Own.start w
  refine W_seq ?_
  refine W_region ?_
  refine RW_op (L_assign (V := .slice none 0 0) rfl ?_)
  refine RW_nil ?_
  refine W_seq ?_
  refine W_region ?_
  refine RW_op (L_assign (V := .slice none 0 0) rfl ?_)
  refine RW_nil ?_
  refine W_seq ?_
  refine W_seq ?_
  refine W_region ?_
  refine RW_op (L_move (V := .pointer none) rfl ?_)
  refine RW_op (L_callP (vs := [.pointer none]) (V := .bool false) EN_44 rfl rfl (gGood_nil _) hs fun w1 hs => ?_)
  refine RW_op (L_not rfl ?_)
  refine RW_nil ?_
  refine W_condT rfl ?_
  refine W_seq ?_
  refine W_region ?_
  refine RW_op (L_assign (V := .slice none 0 0) rfl ?_)
  refine RW_nil ?_
  refine W_ret ?_
  refine ⟨_, res_one (V := .slice none 0 0) Try.results27 rfl, ?_⟩
  refine ⟨congrArg Ending.returned ?_, hs.take 0⟩
  rfl
set_option maxRecDepth 20000 in
set_option maxHeartbeats 4000000 in
theorem gGood_zero (w : World) (b : Nat) (hc : CellsF w b (vc vzero ++ [(.map none : Value)])) : Calls Try.prog 44 #[.pointer (some ⟨b, 0, none⟩)] w (fun e w' => e = .returned (.bool false) ∧ Own w no w' []) := by
  refine calls_of_Wn (n := 12) Try.func44 rfl Try.ntmps44 rfl ?_
  have hs := Own.start w
  refine W_seq ?_
  refine W_region ?_
  refine RW_op (L_assign (V := .bool false) rfl ?_)
  refine RW_nil ?_
  refine W_seq ?_
  refine W_region ?_
  refine RW_op (L_move (V := .pointer (some ⟨b, 0, none⟩)) rfl ?_)
  refine RW_op (L_ptrnn UD_27 rfl rfl ?_)
  refine RW_op (L_move (V := .bool true) rfl ?_)
  refine RW_gy rfl (L_move (V := .pointer (some ⟨b, 0, none⟩)) rfl ?_)
  refine RW_gy rfl (L_nilCheck rfl ?_)
  refine RW_gy rfl (L_fieldAddr FA_52_1 rfl ?_)
  refine RW_gy rfl (L_ldF (V := .map none) S1_50 (hc.own' hs) rfl rfl ?_)
  refine RW_gy rfl (L_mapnn UD_50 rfl rfl ?_)
  refine RW_op (L_pick (V := .bool false) rfl rfl ?_)
  refine RW_op (L_assign (V := .bool false) rfl ?_)
  refine RW_nil ?_
  refine W_ret ?_
  refine ⟨_, res_one (V := .bool false) Try.results44 rfl, ?_⟩
  refine ⟨congrArg Ending.returned ?_, hs.take 0⟩
  rfl
set_option maxRecDepth 20000 in
set_option maxHeartbeats 4000000 in
theorem gHas_zero (w : World) (d : Dot) (b : Nat) (hc : CellsF w b (vc vzero ++ [(.map none : Value)])) : Calls Try.prog 18 #[.pointer (some ⟨b, 0, none⟩), .agg (dc d).toArray] w (fun e w' => e = .returned (.bool false) ∧ Own w no w' []) := by
  refine calls_of_Wn (n := 28) Try.func18 rfl Try.ntmps18 rfl ?_
  have hs := Own.start w
  refine W_seq ?_
  refine W_region ?_
  refine RW_op (L_box (V := .agg (dc d).toArray) (cs := dc d) rfl rfl hs fun b1 w2 hs => ?_)
  refine RW_op (L_assign (V := .bool false) rfl ?_)
  refine RW_nil ?_
  refine W_seq ?_
  refine W_seq ?_
  refine W_region ?_
  refine RW_op (L_move (V := .pointer (some ⟨b, 0, none⟩)) rfl ?_)
  refine RW_op (L_callP (vs := [.pointer (some ⟨b, 0, none⟩)]) (V := .bool false) EN_44 rfl rfl (gGood_zero _ b (hc.own' hs)) hs fun w3 hs => ?_)
  refine RW_op (L_not rfl ?_)
  refine RW_nil ?_
  refine W_condT rfl ?_
  refine W_seq ?_
  refine W_region ?_
  refine RW_op (L_assign (V := .bool false) rfl ?_)
  refine RW_nil ?_
  refine W_ret ?_
  refine ⟨_, res_one (V := .bool false) Try.results18 rfl, ?_⟩
  refine ⟨congrArg Ending.returned ?_, hs.take 0⟩
  rfl
set_option maxRecDepth 20000 in
set_option maxHeartbeats 4000000 in
theorem gAdd_zero (w : World) (d : Dot) (b : Nat) (hc : CellsF w b (vc vzero ++ [(.map none : Value)])) : Calls Try.prog 21 #[.pointer (some ⟨b, 0, none⟩), .agg (dc d).toArray] w (fun e w' => e = .returned (.int .i64 1) ∧ Own w no w' []) := by
  refine calls_of_Wn (n := 54) Try.func21 rfl Try.ntmps21 rfl ?_
  have hs := Own.start w
  refine W_seq ?_
  refine W_region ?_
  refine RW_op (L_box (V := .agg (dc d).toArray) (cs := dc d) rfl rfl hs fun b1 w2 hs => ?_)
  refine RW_op (L_assign (V := .int .i64 0) rfl ?_)
  refine RW_nil ?_
  refine W_seq ?_
  refine W_seq ?_
  refine W_region ?_
  refine RW_op (L_move (V := .pointer (some ⟨b, 0, none⟩)) rfl ?_)
  refine RW_op (L_callP (vs := [.pointer (some ⟨b, 0, none⟩)]) (V := .bool false) EN_44 rfl rfl (gGood_zero _ b (hc.own' hs)) hs fun w3 hs => ?_)
  refine RW_op (L_not rfl ?_)
  refine RW_nil ?_
  refine W_condT rfl ?_
  refine W_seq ?_
  refine W_region ?_
  refine RW_op (L_assign (V := .int .i64 1) rfl ?_)
  refine RW_nil ?_
  refine W_ret ?_
  refine ⟨_, res_one (V := .int .i64 1) Try.results21 rfl, ?_⟩
  refine ⟨congrArg Ending.returned ?_, hs.take 0⟩
  rfl
set_option maxRecDepth 20000 in
set_option maxHeartbeats 4000000 in
theorem gClosed_zero (w : World) (b : Nat) (hc : CellsF w b (vc vzero ++ [(.map none : Value)])) : Calls Try.prog 22 #[.pointer (some ⟨b, 0, none⟩)] w (fun e w' => e = .returned (.agg (vc vzero).toArray) ∧ Own w no w' []) := by
  refine calls_of_Wn (n := 11) Try.func22 rfl Try.ntmps22 rfl ?_
  have hs := Own.start w
  refine W_seq ?_
  refine W_region ?_
  refine RW_op (L_alloc (cs := vc vzero) ZV_24 rfl hs fun b1 w2 hs => ?_)
  refine RW_nil ?_
  refine W_seq ?_
  refine W_seq ?_
  refine W_region ?_
  refine RW_op (L_move (V := .pointer (some ⟨b, 0, none⟩)) rfl ?_)
  refine RW_op (L_callP (vs := [.pointer (some ⟨b, 0, none⟩)]) (V := .bool false) EN_44 rfl rfl (gGood_zero _ b (hc.own' hs)) hs fun w3 hs => ?_)
  refine RW_op (L_not rfl ?_)
  refine RW_nil ?_
  refine W_condT rfl ?_
  refine W_seq ?_
  refine W_region ?_
  refine RW_op (L_build (vs := []) (cs := vc vzero) BT_24 (rfl) rfl ?_)
  refine RW_op (L_st (V := .agg (vc vzero).toArray) (vs := vc vzero) (cs' := vc vzero) SA_24.1 hs 0 rfl rfl rfl rfl rfl (Nat.le_of_ble_eq_true rfl) (vc_one _) (spl_whole rfl) fun w4 hs => ?_)
  refine RW_nil ?_
  refine W_ret ?_
  refine ⟨_, res_cell (cs := vc vzero) Try.results22 SA_24 hs 0 rfl rfl rfl, ?_⟩
  refine ⟨congrArg Ending.returned ?_, hs.take 0⟩
  rfl
set_option maxRecDepth 20000 in
set_option maxHeartbeats 4000000 in
theorem gLoose_zero (w : World) (b : Nat) (hc : CellsF w b (vc vzero ++ [(.map none : Value)])) : Calls Try.prog 25 #[.pointer (some ⟨b, 0, none⟩)] w (fun e w' => e = .returned (.slice none 0 0) ∧ Own w no w' []) := by
  refine calls_of_Wn (n := 12) Try.func25 rfl Try.ntmps25 rfl ?_
  have hs := Own.start w
  refine W_seq ?_
  refine W_region ?_
  refine RW_op (L_assign (V := .slice none 0 0) rfl ?_)
  refine RW_nil ?_
  refine W_seq ?_
  refine W_seq ?_
  refine W_region ?_
  refine RW_op (L_move (V := .pointer (some ⟨b, 0, none⟩)) rfl ?_)
  refine RW_op (L_callP (vs := [.pointer (some ⟨b, 0, none⟩)]) (V := .bool false) EN_44 rfl rfl (gGood_zero _ b (hc.own' hs)) hs fun w1 hs => ?_)
  refine RW_op (L_not rfl ?_)
  refine RW_nil ?_
  refine W_condT rfl ?_
  refine W_seq ?_
  refine W_region ?_
  refine RW_op (L_assign (V := .slice none 0 0) rfl ?_)
  refine RW_nil ?_
  refine W_ret ?_
  refine ⟨_, res_one (V := .slice none 0 0) Try.results25 rfl, ?_⟩
  refine ⟨congrArg Ending.returned ?_, hs.take 0⟩
  rfl
set_option maxRecDepth 20000 in
set_option maxHeartbeats 4000000 in
theorem gMissing_zero (w : World) (b : Nat) (hc : CellsF w b (vc vzero ++ [(.map none : Value)])) : Calls Try.prog 27 #[.pointer (some ⟨b, 0, none⟩)] w (fun e w' => e = .returned (.slice none 0 0) ∧ Own w no w' []) := by
  refine calls_of_Wn (n := 52) Try.func27 rfl Try.ntmps27 rfl ?_
  have hs := Own.start w
  refine W_seq ?_
  refine W_region ?_
  refine RW_op (L_assign (V := .slice none 0 0) rfl ?_)
  refine RW_nil ?_
  refine W_seq ?_
  refine W_region ?_
  refine RW_op (L_assign (V := .slice none 0 0) rfl ?_)
  refine RW_nil ?_
  refine W_seq ?_
  refine W_seq ?_
  refine W_region ?_
  refine RW_op (L_move (V := .pointer (some ⟨b, 0, none⟩)) rfl ?_)
  refine RW_op (L_callP (vs := [.pointer (some ⟨b, 0, none⟩)]) (V := .bool false) EN_44 rfl rfl (gGood_zero _ b (hc.own' hs)) hs fun w1 hs => ?_)
  refine RW_op (L_not rfl ?_)
  refine RW_nil ?_
  refine W_condT rfl ?_
  refine W_seq ?_
  refine W_region ?_
  refine RW_op (L_assign (V := .slice none 0 0) rfl ?_)
  refine RW_nil ?_
  refine W_ret ?_
  refine ⟨_, res_one (V := .slice none 0 0) Try.results27 rfl, ?_⟩
  refine ⟨congrArg Ending.returned ?_, hs.take 0⟩
  rfl
end Tt
end Go.Proofs
