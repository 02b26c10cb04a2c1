/- A part of a proof: what functions of the program compute, and plain facts on that. -/
import Derived.Test.YthbbcjimiemdgaaGreatCartAppliesP2
set_option linter.unusedVariables false
set_option linter.unusedSimpArgs false
namespace Go.Proofs
open Go Go.Vx Go.RowKit
namespace Tt
set_option maxRecDepth 20000 in
set_option maxHeartbeats 4000000 in
theorem isNaN_uint8_ok (w : World) (x : Int) : Calls Tryz.prog 104 #[.int .u8 x] w (fun e w' => e = .returned (.bool false) ∧ Own w no w' []) := by
  refine calls_of_Wn (n := 6) Tryz.func104 rfl Tryz.ntmps104 rfl ?_
  have hs := Own.start w
  refine W_seq ?_
  refine W_region ?_
  refine RW_op (L_assign (V := .bool false) rfl ?_)
  refine RW_nil ?_
  refine W_seq ?_
  refine W_region ?_
  refine RW_op (L_move (V := .int .u8 x) rfl ?_)
  refine RW_op (L_move (V := .int .u8 x) rfl ?_)
  refine RW_op (L_neq rfl rfl ?_)
  refine RW_op (L_assign (V := .bool (!decide (x = x))) rfl ?_)
  refine RW_nil ?_
  refine W_ret ?_
  refine ⟨_, res_one (V := .bool (!decide (x = x))) Tryz.results104 rfl, ?_⟩
  refine ⟨congrArg Ending.returned ?_, hs.take 0⟩
  simp
set_option maxRecDepth 20000 in
set_option maxHeartbeats 4000000 in
theorem cmp_uint8_ok (w : World) (x y : Int) : Calls Tryz.prog 76 #[.int .u8 x, .int .u8 y] w (fun e w' => e = .returned (.int .i64 (cmpI x y)) ∧ Own w no w' []) := by
  refine calls_of_Wn (n := 20) Tryz.func76 rfl Tryz.ntmps76 rfl ?_
  have hs := Own.start w
  refine W_seq ?_
  refine W_region ?_
  refine RW_op (L_assign (V := .int .i64 0) rfl ?_)
  refine RW_nil ?_
  refine W_seq ?_
  refine W_region ?_
  refine RW_op (L_move (V := .int .u8 x) rfl ?_)
  refine RW_op (L_callP (vs := [.int .u8 x]) (V := .bool false) EN_104 rfl rfl ?hc hs fun w1 hs => ?_)
  case hc => exact (isNaN_uint8_ok _ x)
  refine RW_op (L_assign (V := .bool false) rfl ?_)
  refine RW_nil ?_
  refine W_seq ?_
  refine W_region ?_
  refine RW_op (L_move (V := .int .u8 y) rfl ?_)
  refine RW_op (L_callP (vs := [.int .u8 y]) (V := .bool false) EN_104 rfl rfl ?hc hs fun w2 hs => ?_)
  case hc => exact (isNaN_uint8_ok _ y)
  refine RW_op (L_assign (V := .bool false) rfl ?_)
  refine RW_nil ?_
  refine W_seq ?_
  refine W_seq ?_
  refine W_region ?_
  refine RW_op (L_move (V := .bool false) rfl ?_)
  refine RW_nil ?_
  refine W_condF rfl ?_
  refine W_skip ?_
  refine W_seq ?_
  refine W_seq ?_
  refine W_region ?_
  refine RW_op (L_move (V := .bool false) rfl ?_)
  refine RW_nil ?_
  refine W_condF rfl ?_
  refine W_skip ?_
  refine W_seq ?_
  refine W_seq ?_
  refine W_region ?_
  refine RW_op (L_move (V := .int .u8 x) rfl ?_)
  refine RW_op (L_move (V := .int .u8 y) rfl ?_)
  refine RW_op (L_lss rfl rfl ?_)
  refine RW_nil ?_
  refine W_cond (t := decide (x < y)) rfl (fun c3 => ?_) (fun c3 => ?_)
  ·
    replace c3 := of_decide_eq_true c3
    refine W_seq ?_
    refine W_region ?_
    refine RW_op (L_assign (V := .int .i64 (-1)) rfl ?_)
    refine RW_nil ?_
    refine W_ret ?_
    refine ⟨_, res_one (V := .int .i64 (-1)) Tryz.results76 rfl, ?_⟩
    refine ⟨congrArg Ending.returned ?_, hs.take 0⟩
    rw [cmpI_eq, if_pos c3]
  ·
    replace c3 := of_decide_eq_false c3
    refine W_skip ?_
    refine W_seq ?_
    refine W_seq ?_
    refine W_region ?_
    refine RW_op (L_move (V := .int .u8 x) rfl ?_)
    refine RW_op (L_move (V := .int .u8 y) rfl ?_)
    refine RW_op (L_gtr rfl rfl ?_)
    refine RW_nil ?_
    refine W_cond (t := decide (y < x)) rfl (fun c4 => ?_) (fun c4 => ?_)
    ·
      replace c4 := of_decide_eq_true c4
      refine W_seq ?_
      refine W_region ?_
      refine RW_op (L_assign (V := .int .i64 1) rfl ?_)
      refine RW_nil ?_
      refine W_ret ?_
      refine ⟨_, res_one (V := .int .i64 1) Tryz.results76 rfl, ?_⟩
      refine ⟨congrArg Ending.returned ?_, hs.take 0⟩
      rw [cmpI_eq, if_neg c3, if_pos c4]
    ·
      replace c4 := of_decide_eq_false c4
      refine W_skip ?_
      refine W_seq ?_
      refine W_region ?_
      refine RW_op (L_assign (V := .int .i64 0) rfl ?_)
      refine RW_nil ?_
      refine W_ret ?_
      refine ⟨_, res_one (V := .int .i64 0) Tryz.results76 rfl, ?_⟩
      refine ⟨congrArg Ending.returned ?_, hs.take 0⟩
      rw [cmpI_eq, if_neg c3, if_neg c4]
set_option maxRecDepth 20000 in
set_option maxHeartbeats 4000000 in
theorem isNaN_uint16_ok (w : World) (x : Int) : Calls Tryz.prog 91 #[.int .u16 x] w (fun e w' => e = .returned (.bool false) ∧ Own w no w' []) := by
  refine calls_of_Wn (n := 6) Tryz.func91 rfl Tryz.ntmps91 rfl ?_
  have hs := Own.start w
  refine W_seq ?_
  refine W_region ?_
  refine RW_op (L_assign (V := .bool false) rfl ?_)
  refine RW_nil ?_
  refine W_seq ?_
  refine W_region ?_
  refine RW_op (L_move (V := .int .u16 x) rfl ?_)
  refine RW_op (L_move (V := .int .u16 x) rfl ?_)
  refine RW_op (L_neq rfl rfl ?_)
  refine RW_op (L_assign (V := .bool (!decide (x = x))) rfl ?_)
  refine RW_nil ?_
  refine W_ret ?_
  refine ⟨_, res_one (V := .bool (!decide (x = x))) Tryz.results91 rfl, ?_⟩
  refine ⟨congrArg Ending.returned ?_, hs.take 0⟩
  simp
set_option maxRecDepth 20000 in
set_option maxHeartbeats 4000000 in
theorem cmp_uint16_ok (w : World) (x y : Int) : Calls Tryz.prog 57 #[.int .u16 x, .int .u16 y] w (fun e w' => e = .returned (.int .i64 (cmpI x y)) ∧ Own w no w' []) := by
  refine calls_of_Wn (n := 20) Tryz.func57 rfl Tryz.ntmps57 rfl ?_
  have hs := Own.start w
  refine W_seq ?_
  refine W_region ?_
  refine RW_op (L_assign (V := .int .i64 0) rfl ?_)
  refine RW_nil ?_
  refine W_seq ?_
  refine W_region ?_
  refine RW_op (L_move (V := .int .u16 x) rfl ?_)
  refine RW_op (L_callP (vs := [.int .u16 x]) (V := .bool false) EN_91 rfl rfl ?hc hs fun w1 hs => ?_)
  case hc => exact (isNaN_uint16_ok _ x)
  refine RW_op (L_assign (V := .bool false) rfl ?_)
  refine RW_nil ?_
  refine W_seq ?_
  refine W_region ?_
  refine RW_op (L_move (V := .int .u16 y) rfl ?_)
  refine RW_op (L_callP (vs := [.int .u16 y]) (V := .bool false) EN_91 rfl rfl ?hc hs fun w2 hs => ?_)
  case hc => exact (isNaN_uint16_ok _ y)
  refine RW_op (L_assign (V := .bool false) rfl ?_)
  refine RW_nil ?_
  refine W_seq ?_
  refine W_seq ?_
  refine W_region ?_
  refine RW_op (L_move (V := .bool false) rfl ?_)
  refine RW_nil ?_
  refine W_condF rfl ?_
  refine W_skip ?_
  refine W_seq ?_
  refine W_seq ?_
  refine W_region ?_
  refine RW_op (L_move (V := .bool false) rfl ?_)
  refine RW_nil ?_
  refine W_condF rfl ?_
  refine W_skip ?_
  refine W_seq ?_
  refine W_seq ?_
  refine W_region ?_
  refine RW_op (L_move (V := .int .u16 x) rfl ?_)
  refine RW_op (L_move (V := .int .u16 y) rfl ?_)
  refine RW_op (L_lss rfl rfl ?_)
  refine RW_nil ?_
  refine W_cond (t := decide (x < y)) rfl (fun c3 => ?_) (fun c3 => ?_)
  ·
    replace c3 := of_decide_eq_true c3
    refine W_seq ?_
    refine W_region ?_
    refine RW_op (L_assign (V := .int .i64 (-1)) rfl ?_)
    refine RW_nil ?_
    refine W_ret ?_
    refine ⟨_, res_one (V := .int .i64 (-1)) Tryz.results57 rfl, ?_⟩
    refine ⟨congrArg Ending.returned ?_, hs.take 0⟩
    rw [cmpI_eq, if_pos c3]
  ·
    replace c3 := of_decide_eq_false c3
    refine W_skip ?_
    refine W_seq ?_
    refine W_seq ?_
    refine W_region ?_
    refine RW_op (L_move (V := .int .u16 x) rfl ?_)
    refine RW_op (L_move (V := .int .u16 y) rfl ?_)
    refine RW_op (L_gtr rfl rfl ?_)
    refine RW_nil ?_
    refine W_cond (t := decide (y < x)) rfl (fun c4 => ?_) (fun c4 => ?_)
    ·
      replace c4 := of_decide_eq_true c4
      refine W_seq ?_
      refine W_region ?_
      refine RW_op (L_assign (V := .int .i64 1) rfl ?_)
      refine RW_nil ?_
      refine W_ret ?_
      refine ⟨_, res_one (V := .int .i64 1) Tryz.results57 rfl, ?_⟩
      refine ⟨congrArg Ending.returned ?_, hs.take 0⟩
      rw [cmpI_eq, if_neg c3, if_pos c4]
    ·
      replace c4 := of_decide_eq_false c4
      refine W_skip ?_
      refine W_seq ?_
      refine W_region ?_
      refine RW_op (L_assign (V := .int .i64 0) rfl ?_)
      refine RW_nil ?_
      refine W_ret ?_
      refine ⟨_, res_one (V := .int .i64 0) Tryz.results57 rfl, ?_⟩
      refine ⟨congrArg Ending.returned ?_, hs.take 0⟩
      rw [cmpI_eq, if_neg c3, if_neg c4]
set_option maxRecDepth 20000 in
set_option maxHeartbeats 4000000 in
theorem isNaN_uint32_ok (w : World) (x : Int) : Calls Tryz.prog 105 #[.int .u32 x] w (fun e w' => e = .returned (.bool false) ∧ Own w no w' []) := by
  refine calls_of_Wn (n := 6) Tryz.func105 rfl Tryz.ntmps105 rfl ?_
  have hs := Own.start w
  refine W_seq ?_
  refine W_region ?_
  refine RW_op (L_assign (V := .bool false) rfl ?_)
  refine RW_nil ?_
  refine W_seq ?_
  refine W_region ?_
  refine RW_op (L_move (V := .int .u32 x) rfl ?_)
  refine RW_op (L_move (V := .int .u32 x) rfl ?_)
  refine RW_op (L_neq rfl rfl ?_)
  refine RW_op (L_assign (V := .bool (!decide (x = x))) rfl ?_)
  refine RW_nil ?_
  refine W_ret ?_
  refine ⟨_, res_one (V := .bool (!decide (x = x))) Tryz.results105 rfl, ?_⟩
  refine ⟨congrArg Ending.returned ?_, hs.take 0⟩
  simp
set_option maxRecDepth 20000 in
set_option maxHeartbeats 4000000 in
theorem cmp_uint32_ok (w : World) (x y : Int) : Calls Tryz.prog 77 #[.int .u32 x, .int .u32 y] w (fun e w' => e = .returned (.int .i64 (cmpI x y)) ∧ Own w no w' []) := by
  refine calls_of_Wn (n := 20) Tryz.func77 rfl Tryz.ntmps77 rfl ?_
  have hs := Own.start w
  refine W_seq ?_
  refine W_region ?_
  refine RW_op (L_assign (V := .int .i64 0) rfl ?_)
  refine RW_nil ?_
  refine W_seq ?_
  refine W_region ?_
  refine RW_op (L_move (V := .int .u32 x) rfl ?_)
  refine RW_op (L_callP (vs := [.int .u32 x]) (V := .bool false) EN_105 rfl rfl ?hc hs fun w1 hs => ?_)
  case hc => exact (isNaN_uint32_ok _ x)
  refine RW_op (L_assign (V := .bool false) rfl ?_)
  refine RW_nil ?_
  refine W_seq ?_
  refine W_region ?_
  refine RW_op (L_move (V := .int .u32 y) rfl ?_)
  refine RW_op (L_callP (vs := [.int .u32 y]) (V := .bool false) EN_105 rfl rfl ?hc hs fun w2 hs => ?_)
  case hc => exact (isNaN_uint32_ok _ y)
  refine RW_op (L_assign (V := .bool false) rfl ?_)
  refine RW_nil ?_
  refine W_seq ?_
  refine W_seq ?_
  refine W_region ?_
  refine RW_op (L_move (V := .bool false) rfl ?_)
  refine RW_nil ?_
  refine W_condF rfl ?_
  refine W_skip ?_
  refine W_seq ?_
  refine W_seq ?_
  refine W_region ?_
  refine RW_op (L_move (V := .bool false) rfl ?_)
  refine RW_nil ?_
  refine W_condF rfl ?_
  refine W_skip ?_
  refine W_seq ?_
  refine W_seq ?_
  refine W_region ?_
  refine RW_op (L_move (V := .int .u32 x) rfl ?_)
  refine RW_op (L_move (V := .int .u32 y) rfl ?_)
  refine RW_op (L_lss rfl rfl ?_)
  refine RW_nil ?_
  refine W_cond (t := decide (x < y)) rfl (fun c3 => ?_) (fun c3 => ?_)
  ·
    replace c3 := of_decide_eq_true c3
    refine W_seq ?_
    refine W_region ?_
    refine RW_op (L_assign (V := .int .i64 (-1)) rfl ?_)
    refine RW_nil ?_
    refine W_ret ?_
    refine ⟨_, res_one (V := .int .i64 (-1)) Tryz.results77 rfl, ?_⟩
    refine ⟨congrArg Ending.returned ?_, hs.take 0⟩
    rw [cmpI_eq, if_pos c3]
  ·
    replace c3 := of_decide_eq_false c3
    refine W_skip ?_
    refine W_seq ?_
    refine W_seq ?_
    refine W_region ?_
    refine RW_op (L_move (V := .int .u32 x) rfl ?_)
    refine RW_op (L_move (V := .int .u32 y) rfl ?_)
    refine RW_op (L_gtr rfl rfl ?_)
    refine RW_nil ?_
    refine W_cond (t := decide (y < x)) rfl (fun c4 => ?_) (fun c4 => ?_)
    ·
      replace c4 := of_decide_eq_true c4
      refine W_seq ?_
      refine W_region ?_
      refine RW_op (L_assign (V := .int .i64 1) rfl ?_)
      refine RW_nil ?_
      refine W_ret ?_
      refine ⟨_, res_one (V := .int .i64 1) Tryz.results77 rfl, ?_⟩
      refine ⟨congrArg Ending.returned ?_, hs.take 0⟩
      rw [cmpI_eq, if_neg c3, if_pos c4]
    ·
      replace c4 := of_decide_eq_false c4
      refine W_skip ?_
      refine W_seq ?_
      refine W_region ?_
      refine RW_op (L_assign (V := .int .i64 0) rfl ?_)
      refine RW_nil ?_
      refine W_ret ?_
      refine ⟨_, res_one (V := .int .i64 0) Tryz.results77 rfl, ?_⟩
      refine ⟨congrArg Ending.returned ?_, hs.take 0⟩
      rw [cmpI_eq, if_neg c3, if_neg c4]
set_option maxRecDepth 20000 in
set_option maxHeartbeats 4000000 in
theorem isNaN_uint64_ok (w : World) (x : Int) : Calls Tryz.prog 128 #[.int .u64 x] w (fun e w' => e = .returned (.bool false) ∧ Own w no w' []) := by
  refine calls_of_Wn (n := 6) Tryz.func128 rfl Tryz.ntmps128 rfl ?_
  have hs := Own.start w
  refine W_seq ?_
  refine W_region ?_
  refine RW_op (L_assign (V := .bool false) rfl ?_)
  refine RW_nil ?_
  refine W_seq ?_
  refine W_region ?_
  refine RW_op (L_move (V := .int .u64 x) rfl ?_)
  refine RW_op (L_move (V := .int .u64 x) rfl ?_)
  refine RW_op (L_neq rfl rfl ?_)
  refine RW_op (L_assign (V := .bool (!decide (x = x))) rfl ?_)
  refine RW_nil ?_
  refine W_ret ?_
  refine ⟨_, res_one (V := .bool (!decide (x = x))) Tryz.results128 rfl, ?_⟩
  refine ⟨congrArg Ending.returned ?_, hs.take 0⟩
  simp
set_option maxRecDepth 20000 in
set_option maxHeartbeats 4000000 in
theorem cmp_uint64_ok (w : World) (x y : Int) : Calls Tryz.prog 112 #[.int .u64 x, .int .u64 y] w (fun e w' => e = .returned (.int .i64 (cmpI x y)) ∧ Own w no w' []) := by
  refine calls_of_Wn (n := 20) Tryz.func112 rfl Tryz.ntmps112 rfl ?_
  have hs := Own.start w
  refine W_seq ?_
  refine W_region ?_
  refine RW_op (L_assign (V := .int .i64 0) rfl ?_)
  refine RW_nil ?_
  refine W_seq ?_
  refine W_region ?_
  refine RW_op (L_move (V := .int .u64 x) rfl ?_)
  refine RW_op (L_callP (vs := [.int .u64 x]) (V := .bool false) EN_128 rfl rfl ?hc hs fun w1 hs => ?_)
  case hc => exact (isNaN_uint64_ok _ x)
  refine RW_op (L_assign (V := .bool false) rfl ?_)
  refine RW_nil ?_
  refine W_seq ?_
  refine W_region ?_
  refine RW_op (L_move (V := .int .u64 y) rfl ?_)
  refine RW_op (L_callP (vs := [.int .u64 y]) (V := .bool false) EN_128 rfl rfl ?hc hs fun w2 hs => ?_)
  case hc => exact (isNaN_uint64_ok _ y)
  refine RW_op (L_assign (V := .bool false) rfl ?_)
  refine RW_nil ?_
  refine W_seq ?_
  refine W_seq ?_
  refine W_region ?_
  refine RW_op (L_move (V := .bool false) rfl ?_)
  refine RW_nil ?_
  refine W_condF rfl ?_
  refine W_skip ?_
  refine W_seq ?_
  refine W_seq ?_
  refine W_region ?_
  refine RW_op (L_move (V := .bool false) rfl ?_)
  refine RW_nil ?_
  refine W_condF rfl ?_
  refine W_skip ?_
  refine W_seq ?_
  refine W_seq ?_
  refine W_region ?_
  refine RW_op (L_move (V := .int .u64 x) rfl ?_)
  refine RW_op (L_move (V := .int .u64 y) rfl ?_)
  refine RW_op (L_lss rfl rfl ?_)
  refine RW_nil ?_
  refine W_cond (t := decide (x < y)) rfl (fun c3 => ?_) (fun c3 => ?_)
  ·
    replace c3 := of_decide_eq_true c3
    refine W_seq ?_
    refine W_region ?_
    refine RW_op (L_assign (V := .int .i64 (-1)) rfl ?_)
    refine RW_nil ?_
    refine W_ret ?_
    refine ⟨_, res_one (V := .int .i64 (-1)) Tryz.results112 rfl, ?_⟩
    refine ⟨congrArg Ending.returned ?_, hs.take 0⟩
    rw [cmpI_eq, if_pos c3]
  ·
    replace c3 := of_decide_eq_false c3
    refine W_skip ?_
    refine W_seq ?_
    refine W_seq ?_
    refine W_region ?_
    refine RW_op (L_move (V := .int .u64 x) rfl ?_)
    refine RW_op (L_move (V := .int .u64 y) rfl ?_)
    refine RW_op (L_gtr rfl rfl ?_)
    refine RW_nil ?_
    refine W_cond (t := decide (y < x)) rfl (fun c4 => ?_) (fun c4 => ?_)
    ·
      replace c4 := of_decide_eq_true c4
      refine W_seq ?_
      refine W_region ?_
      refine RW_op (L_assign (V := .int .i64 1) rfl ?_)
      refine RW_nil ?_
      refine W_ret ?_
      refine ⟨_, res_one (V := .int .i64 1) Tryz.results112 rfl, ?_⟩
      refine ⟨congrArg Ending.returned ?_, hs.take 0⟩
      rw [cmpI_eq, if_neg c3, if_pos c4]
    ·
      replace c4 := of_decide_eq_false c4
      refine W_skip ?_
      refine W_seq ?_
      refine W_region ?_
      refine RW_op (L_assign (V := .int .i64 0) rfl ?_)
      refine RW_nil ?_
      refine W_ret ?_
      refine ⟨_, res_one (V := .int .i64 0) Tryz.results112 rfl, ?_⟩
      refine ⟨congrArg Ending.returned ?_, hs.take 0⟩
      rw [cmpI_eq, if_neg c3, if_neg c4]
set_option maxRecDepth 20000 in
set_option maxHeartbeats 4000000 in
theorem or_ok (w : World) (a : Option Addr) (c : Nat) (l : List Int) (hr : Rd w (.slice a l.length c) 1 (l.map (ic .i64))) : Calls Tryz.prog 75 #[.slice a l.length c] w (fun e w' => e = .returned (.int .i64 (orI l)) ∧ Own w no w' []) := by
  refine calls_of_Wn (n := 18) Tryz.func75 rfl Tryz.ntmps75 rfl ?_
  have hs := Own.start w
  have hn := hr.sml
  refine W_seq ?_
  refine W_region ?_
  refine RW_op (L_assign (V := .int .i64 0) rfl ?_)
  refine RW_nil ?_
  refine W_seq ?_
  refine W_region ?_
  refine RW_op (L_assign (V := .int .i64 0) rfl ?_)
  refine RW_nil ?_
  refine W_seq ?_
  refine W_seq ?_
  refine W_region ?_
  refine RW_op (L_move (V := .slice a l.length c) rfl ?_)
  refine RW_op (L_lenR (n := l.length) UD_149 (Rd.own' hr hs) (by simp) rfl ?_)
  refine RW_op (L_move (V := .int .i64 0) rfl ?_)
  refine RW_nil ?_
  refine W_block ?_
  refine W_loopI (fun ρ μ ρ' w' => ∃ (ρo : Env) (k : Nat), ρ' = upd (mix [2, 5, 8, 9, 10, 11, 12, 13, 14, 15, 16] ρo ρ) 8 (.int .i64 (k : Int)) ∧ (k ≤ l.length) ∧ (∀ j : Nat, j < k → gd l j = 0) ∧ μ = l.length - k ∧ Own w no w' []) ?_ ?_
  · exact ⟨_, _, 0, upd_of (mix_of (ds := [2, 5, 8, 9, 10, 11, 12, 13, 14, 15, 16]) (Agr.refl _ _)) rfl, (by omega), (fun j hj => absurd hj (Nat.not_lt_zero j)), rfl, hs⟩
  · rintro μ ρ' w1 ⟨ρo, k, rfl, hk, h0, rfl, hs⟩
    refine W_seq ?_
    refine W_region ?_
    refine RW_op (L_lss rfl rfl ?_)
    refine RW_nil ?_
    refine W_seq ?_
    refine W_cond (t := decide ((k : Int) < ((l.length : Nat) : Int))) rfl (fun c2 => ?_) (fun c2 => ?_)
    ·
      replace c2 := of_decide_eq_true c2
      refine W_skip ?_
      refine W_seq ?_
      refine W_block ?_
      refine W_seq ?_
      refine W_region ?_
      refine RW_op (L_ixR UD_149 S1_3.1 (Rd.own' hr hs) rfl rfl (by omega) (by rw [List.length_map]; omega) ?_)
      refine RW_op (L_ldR (j := 0) (V := .int .i64 (gd l k)) k S1_3 (Rd.own' hr hs) (gd_at (by omega)) rfl rfl (by omega) ?_)
      refine RW_op (L_assign (V := .int .i64 (gd l k)) rfl ?_)
      refine RW_nil ?_
      refine W_seq ?_
      refine W_region ?_
      refine RW_op (L_move (V := .int .i64 (gd l k)) rfl ?_)
      refine RW_op (L_move (V := .int .i64 0) rfl ?_)
      refine RW_op (L_neq rfl rfl ?_)
      refine RW_nil ?_
      refine W_cond (t := !decide (gd l k = 0)) rfl (fun c3 => ?_) (fun c3 => ?_)
      ·
        replace c3 := not_t c3
        replace c3 := of_decide_eq_false c3
        refine W_seq ?_
        refine W_region ?_
        refine RW_op (L_move (V := .int .i64 (gd l k)) rfl ?_)
        refine RW_op (L_assign (V := .int .i64 (gd l k)) rfl ?_)
        refine RW_nil ?_
        refine W_ret ?_
        refine ⟨_, res_one (V := .int .i64 (gd l k)) Tryz.results75 rfl, ?_⟩
        refine ⟨congrArg Ending.returned ?_, hs.take 0⟩
        exact congrArg (Value.int IntKind.i64) (orI_yes (by omega) h0 c3).symm
      ·
        replace c3 := not_f c3
        replace c3 := of_decide_eq_true c3
        refine W_skip ?_
        refine W_region ?_
        refine RW_op (L_add (a := (k : Int)) (b := 1) (c := (k : Int) + 1) rfl rfl (wr_i64 (by omega) (by omega)) ?_)
        refine RW_op (L_move (V := .int .i64 ((k : Int) + 1)) rfl ?_)
        refine RW_nil ?_
        refine ⟨_, ?_, _, k + 1, upd_of (mix_of (ds := [2, 5, 8, 9, 10, 11, 12, 13, 14, 15, 16]) (by repeat (first | exact Agr.refl _ _ | refine Agr.upd ?_ rfl | refine Agr.mix ?_ rfl))) rfl, (by omega), (or_step h0 c3), rfl, hs.take 0⟩
        omega
    ·
      replace c2 := of_decide_eq_false c2
      refine W_exit ?_
      refine W_seq ?_
      refine W_region ?_
      refine RW_op (L_move (V := .int .i64 0) rfl ?_)
      refine RW_op (L_assign (V := .int .i64 0) rfl ?_)
      refine RW_nil ?_
      refine W_ret ?_
      refine ⟨_, res_one (V := .int .i64 0) Tryz.results75 rfl, ?_⟩
      refine ⟨congrArg Ending.returned ?_, hs.take 0⟩
      exact congrArg (Value.int IntKind.i64) (orI_no fun j hj => h0 j (by omega)).symm
end Tt
end Go.Proofs
namespace Go.Proofs
open Go Go.Vx Go.RowKit
namespace Tt
set_option maxRecDepth 20000 in
set_option maxHeartbeats 4000000 in
theorem cln59_ok (w : World) (a : Option Addr) (c : Nat) (l : List Cen) (hN : l.length * 25 ≤ 140737488355328) (hr : Rd w (.slice a l.length c) 7 (l.map cec)) : Calls Tryz.prog 71 #[.slice a l.length c] w (fun e w' => ∃ x : Option Addr × Nat, e = .returned (.slice x.1 (l).length x.2) ∧ Own w no w' [row (.slice x.1 (l).length x.2) ((l).map cec) 59 7] ∧ True) := by
  refine calls_of_Wn (n := 8) Tryz.func71 rfl Tryz.ntmps71 rfl ?_
  have hs := Own.start w
  have hn := hr.sml
  refine W_seq ?_
  refine W_region ?_
  refine RW_op (L_assign (V := .slice none 0 0) rfl ?_)
  refine RW_nil ?_
  refine W_seq ?_
  refine W_seq ?_
  refine W_region ?_
  refine RW_op (L_move (V := .slice a l.length c) rfl ?_)
  refine RW_op (L_slN UDR_36 rfl rfl ?_)
  refine RW_nil ?_
  refine W_cond (t := a.isNone) rfl (fun c1 => ?_) (fun c1 => ?_)
  ·
    refine W_seq ?_
    refine W_region ?_
    refine RW_op (L_assign (V := .slice none 0 0) rfl ?_)
    refine RW_nil ?_
    refine W_ret ?_
    refine ⟨_, res_one (V := .slice none 0 0) Tryz.results71 rfl, ?_⟩
    have hl0 := hr.isN c1
    subst hl0
    exact ⟨(none, 0), rfl, (hs.take 0).more _ (row_nil _ _ _ _), trivial⟩
  ·
    refine W_skip ?_
    refine W_seq ?_
    refine W_region ?_
    refine RW_op (L_bs (vals := []) (ls := List.map cec ([] : List Cen)) EL_36 rfl rfl rfl (len_map (enc := cec) (fun _ => rfl) _) (one_map cec_one _) (Nat.le_of_ble_eq_true rfl) hs fun b2 w3 hs => ?_)
    refine RW_op (L_move (V := .slice a l.length c) rfl ?_)
    refine RW_op (L_appN (ls' := l.map cec) (n := l.length) EL_36 hs 0 rfl rfl rfl (Rd.own' hr hs) (one_map cec_one _) (by simp only [List.length_map, List.length_append, List.length_cons, List.length_nil]; omega) (by simp) (by simp) fun a4 c4 w5 hs => ?_)
    refine RW_op (L_assign (V := .slice a4 l.length c4) rfl ?_)
    refine RW_nil ?_
    refine W_ret ?_
    refine ⟨_, res_one (V := .slice a4 l.length c4) Tryz.results71 rfl, ?_⟩
    exact ⟨(a4, c4), rfl, hs.only 0 rfl, trivial⟩
set_option maxRecDepth 20000 in
set_option maxHeartbeats 4000000 in
theorem cln87_ok (w : World) (a : Option Addr) (c : Nat) (l : List Lst) (hN : l.length * 9 ≤ 140737488355328) (hr : Rd w (.slice a l.length c) 2 (l.map lsc)) : Calls Tryz.prog 67 #[.slice a l.length c] w (fun e w' => ∃ x : Option Addr × Nat, e = .returned (.slice x.1 (l).length x.2) ∧ Own w no w' [row (.slice x.1 (l).length x.2) ((l).map lsc) 87 2] ∧ True) := by
  refine calls_of_Wn (n := 8) Tryz.func67 rfl Tryz.ntmps67 rfl ?_
  have hs := Own.start w
  have hn := hr.sml
  refine W_seq ?_
  refine W_region ?_
  refine RW_op (L_assign (V := .slice none 0 0) rfl ?_)
  refine RW_nil ?_
  refine W_seq ?_
  refine W_seq ?_
  refine W_region ?_
  refine RW_op (L_move (V := .slice a l.length c) rfl ?_)
  refine RW_op (L_slN UDR_37 rfl rfl ?_)
  refine RW_nil ?_
  refine W_cond (t := a.isNone) rfl (fun c1 => ?_) (fun c1 => ?_)
  ·
    refine W_seq ?_
    refine W_region ?_
    refine RW_op (L_assign (V := .slice none 0 0) rfl ?_)
    refine RW_nil ?_
    refine W_ret ?_
    refine ⟨_, res_one (V := .slice none 0 0) Tryz.results67 rfl, ?_⟩
    have hl0 := hr.isN c1
    subst hl0
    exact ⟨(none, 0), rfl, (hs.take 0).more _ (row_nil _ _ _ _), trivial⟩
  ·
    refine W_skip ?_
    refine W_seq ?_
    refine W_region ?_
    refine RW_op (L_bs (vals := []) (ls := List.map lsc ([] : List Lst)) EL_37 rfl rfl rfl (len_map (enc := lsc) (fun _ => rfl) _) (one_map lsc_one _) (Nat.le_of_ble_eq_true rfl) hs fun b2 w3 hs => ?_)
    refine RW_op (L_move (V := .slice a l.length c) rfl ?_)
    refine RW_op (L_appN (ls' := l.map lsc) (n := l.length) EL_37 hs 0 rfl rfl rfl (Rd.own' hr hs) (one_map lsc_one _) (by simp only [List.length_map, List.length_append, List.length_cons, List.length_nil]; omega) (by simp) (by simp) fun a4 c4 w5 hs => ?_)
    refine RW_op (L_assign (V := .slice a4 l.length c4) rfl ?_)
    refine RW_nil ?_
    refine W_ret ?_
    refine ⟨_, res_one (V := .slice a4 l.length c4) Tryz.results67 rfl, ?_⟩
    exact ⟨(a4, c4), rfl, hs.only 0 rfl, trivial⟩
set_option maxRecDepth 20000 in
set_option maxHeartbeats 4000000 in
theorem bsf59_ok (w : World) (a : Option Addr) (c : Nat) (l : List Cen) (t : Cen) (hsmall : l.length ≤ 4611686018427387904) (g : Nat) (hg : En Tryz.prog g) (cf : Cen → Int) (hcmp : ∀ (w : World) (x : Cen), Calls Tryz.prog g #[.agg (cec x).toArray, .agg (cec t).toArray] w (fun e w' => e = .returned (.int .i64 (cf x)) ∧ Own w no w' [])) (hm : MonoB (fun x => decide (cf x < 0)) l) (hr : Rd w (.slice a l.length c) 7 (l.map cec)) : Calls Tryz.prog 34 #[.slice a l.length c, .agg (cec t).toArray, .func (.func g) #[] #[]] w (fun e w' => e = .returned (.tuple #[.int .i64 ((posB (fun x => decide (cf x < 0)) l : Nat) : Int), .bool (decide (posB (fun x => decide (cf x < 0)) l < l.length) && decide (cf (gd l (posB (fun x => decide (cf x < 0)) l)) = 0))]) ∧ Own w no w' []) := by
  refine calls_of_Wn (n := 49) Tryz.func34 rfl Tryz.ntmps34 rfl ?_
  have hs := Own.start w
  have hn := hr.sml
  have hn2 : l.length ≤ 4611686018427387904 := hsmall
  refine W_seq ?_
  refine W_region ?_
  refine RW_op (L_box (V := .agg (cec t).toArray) (cs := cec t) rfl rfl hs fun b1 w2 hs => ?_)
  refine RW_op (L_assign (V := .int .i64 0) rfl ?_)
  refine RW_op (L_assign (V := .bool false) rfl ?_)
  refine RW_nil ?_
  refine W_seq ?_
  refine W_region ?_
  refine RW_op (L_move (V := .slice a l.length c) rfl ?_)
  refine RW_op (L_lenR (n := l.length) UD_36 (Rd.own' hr hs) (by simp) rfl ?_)
  refine RW_op (L_assign (V := .int .i64 ((l.length : Nat) : Int)) rfl ?_)
  refine RW_nil ?_
  refine W_seq ?_
  refine W_region ?_
  refine RW_op (L_move (V := .int .i64 ((l.length : Nat) : Int)) rfl ?_)
  refine RW_op (L_assign (V := .int .i64 0) rfl ?_)
  refine RW_op (L_assign (V := .int .i64 ((l.length : Nat) : Int)) rfl ?_)
  refine RW_nil ?_
  refine W_seq ?_
  refine W_block ?_
  refine W_loopI (fun ρ μ ρ' w' => ∃ (ρo : Env) (i : Nat) (j : Nat), ρ' = upd (upd (mix [9, 10, 11, 15, 16, 17, 18, 19, 20, 21, 22, 23, 24, 25, 26, 27, 28, 29, 30, 31, 32, 33, 34] ρo ρ) 9 (.int .i64 ((i : Nat) : Int))) 10 (.int .i64 ((j : Nat) : Int)) ∧ (i ≤ posB (fun x => decide (cf x < 0)) l) ∧ (posB (fun x => decide (cf x < 0)) l ≤ j) ∧ (j ≤ l.length) ∧ μ = j - i ∧ Own w no w' [blk b1 (cec t) 59]) ?_ ?_
  · exact ⟨_, _, 0, l.length, upd_of (upd_of (mix_of (ds := [9, 10, 11, 15, 16, 17, 18, 19, 20, 21, 22, 23, 24, 25, 26, 27, 28, 29, 30, 31, 32, 33, 34]) (Agr.refl _ _)) rfl) rfl, (Nat.zero_le _), posB_len, (Nat.le_refl _), rfl, hs⟩
  · rintro μ ρ' w3 ⟨ρo, i, j, rfl, hip, hpj, hjl, rfl, hs⟩
    refine W_seq ?_
    refine W_seq ?_
    refine W_region ?_
    refine RW_op (L_move (V := .int .i64 ((i : Nat) : Int)) rfl ?_)
    refine RW_op (L_move (V := .int .i64 ((j : Nat) : Int)) rfl ?_)
    refine RW_op (L_lss rfl rfl ?_)
    refine RW_nil ?_
    refine W_cond (t := decide (((i : Nat) : Int) < ((j : Nat) : Int))) rfl (fun c4 => ?_) (fun c4 => ?_)
    ·
      replace c4 := of_decide_eq_true c4
      refine W_skip ?_
      refine W_block ?_
      refine W_seq ?_
      refine W_region ?_
      refine RW_op (L_move (V := .int .i64 ((i : Nat) : Int)) rfl ?_)
      refine RW_op (L_move (V := .int .i64 ((j : Nat) : Int)) rfl ?_)
      refine RW_op (L_add (a := ((i : Nat) : Int)) (b := ((j : Nat) : Int)) (c := ((i + j : Nat) : Int)) rfl rfl (nat_i64 (by omega) (by omega)) ?_)
      refine RW_op (L_conv UD_3 UD_127 rfl (wr_u64 (by omega) (by omega)) ?_)
      refine RW_op (L_shrN rfl rfl ?_)
      refine RW_op (L_conv UD_127 UD_3 rfl (wr_i64 (by omega) (by omega)) ?_)
      refine RW_op (L_assign (V := .int .i64 (((i + j) / 2 : Nat) : Int)) rfl ?_)
      refine RW_nil ?_
      refine W_seq ?_
      refine W_regD HM [some 24, some 25, some 26, some 27, some 28, some 29, some 30, some 31] [] [0, 0, 0, 6, 14, 0, 63, 127] [pv (.func (.func g) #[] #[]), pv (.slice a l.length c), pv (.int .i64 (((i + j) / 2 : Nat) : Int)), pv (.pointer (some ⟨bkS (.slice a l.length c), ofS (.slice a l.length c) + (((i + j) / 2 : Nat) : Int).toNat * 7, none⟩)), pv (.agg (cec (gd l ((i + j) / 2))).toArray), pv (.agg (cec t).toArray), pv (.int .i64 (cf (gd l ((i + j) / 2)))), pv (.bool (decide (cf (gd l ((i + j) / 2)) < 0)))] (fun _ _ => _) [7] (by kernel_rfl) hs ⟨?_, ?_, ?_, ?_, ?_, ?_, ?_, ?_, trivial⟩ ?_
      · exact ob [] [] rfl rfl fun D ρ w hs => L_move (V := .func (.func g) #[] #[]) rfl ⟨rfl, hs⟩
      · exact ob [] [] rfl rfl fun D ρ w hs => L_move (V := .slice a l.length c) rfl ⟨rfl, hs⟩
      · exact ob [] [] rfl rfl fun D ρ w hs => L_move (V := .int .i64 (((i + j) / 2 : Nat) : Int)) rfl ⟨rfl, hs⟩
      · exact ob [1, 2] [] rfl rfl fun D ρ w hs => L_ixR UD_36 SA_59.1 (Rd.own' hr hs) rfl rfl (by omega) (by rw [List.length_map]; omega) ⟨rfl, hs⟩
      · exact ob [3] [] rfl rfl fun D ρ w hs => L_ldRA (j := 0) (vs := cec (gd l ((i + j) / 2))) ((i + j) / 2) SA_59 (Rd.own' hr hs) (gd_at (by omega)) rfl rfl rfl (by omega) ⟨rfl, hs⟩
      · exact ob [] [] rfl rfl fun D ρ w hs => L_ldW (cs := cec t) SA_59 hs 0 rfl rfl rfl ⟨rfl, hs⟩
      · exact ob [0, 4, 5] [] rfl rfl fun D ρ w hs => L_fnP (vs := [.agg (cec (gd l ((i + j) / 2))).toArray, .agg (cec t).toArray]) (cs := []) (V := .int .i64 (cf (gd l ((i + j) / 2)))) hg rfl rfl (hcmp _ (gd l ((i + j) / 2))) hs fun _ hs => ⟨rfl, hs⟩
      · exact ob [6] [] rfl rfl fun D ρ w hs => L_lss rfl rfl ⟨rfl, hs⟩
      rintro ρ1 w6 ρ2 hρ hs
      replace hρ : ρ2 = upd (mix [24, 25, 26, 27, 28, 29, 30, 31] ρ1 _) 31 (.bool (decide (cf (gd l ((i + j) / 2)) < 0))) := hρ
      subst hρ
      refine W_cond (t := decide (cf (gd l ((i + j) / 2)) < 0)) rfl (fun c7 => ?_) (fun c7 => ?_)
      ·
        replace c7 := of_decide_eq_true c7
        refine W_region ?_
        refine RW_op (L_move (V := .int .i64 (((i + j) / 2 : Nat) : Int)) rfl ?_)
        refine RW_op (L_add (a := (((i + j) / 2 : Nat) : Int)) (b := 1) (c := ((((i + j) / 2) + 1 : Nat) : Int)) rfl rfl (nat_i64 (by omega) (by omega)) ?_)
        refine RW_op (L_assign (V := .int .i64 ((((i + j) / 2) + 1 : Nat) : Int)) rfl ?_)
        refine RW_nil ?_
        refine ⟨_, ?_, _, ((i + j) / 2) + 1, j, upd_of (upd_of (mix_of (ds := [9, 10, 11, 15, 16, 17, 18, 19, 20, 21, 22, 23, 24, 25, 26, 27, 28, 29, 30, 31, 32, 33, 34]) (by repeat (first | exact Agr.refl _ _ | refine Agr.upd ?_ rfl | refine Agr.mix ?_ rfl))) rfl) rfl, (by have := posB_lt (f := (fun x => decide (cf x < 0))) hm (by omega) (decide_eq_true c7); omega), (by omega), (by omega), rfl, hs.take 1⟩
        omega
      ·
        replace c7 := of_decide_eq_false c7
        refine W_region ?_
        refine RW_op (L_move (V := .int .i64 (((i + j) / 2 : Nat) : Int)) rfl ?_)
        refine RW_op (L_assign (V := .int .i64 (((i + j) / 2 : Nat) : Int)) rfl ?_)
        refine RW_nil ?_
        refine ⟨_, ?_, _, i, (i + j) / 2, upd_of (upd_of (mix_of (ds := [9, 10, 11, 15, 16, 17, 18, 19, 20, 21, 22, 23, 24, 25, 26, 27, 28, 29, 30, 31, 32, 33, 34]) (by repeat (first | exact Agr.refl _ _ | refine Agr.upd ?_ rfl | refine Agr.mix ?_ rfl))) rfl) rfl, (by omega), (by have := posB_ge (f := (fun x => decide (cf x < 0))) (l := l) (decide_eq_false c7); omega), (by omega), rfl, hs.take 1⟩
        omega
    ·
      replace c4 := of_decide_eq_false c4
      refine W_exit ?_
      refine W_seq ?_
      have hij : i = j := by omega
      refine W_regD HM [some 35, some 36, some 37, some 38, some 39, some 40, some 41, some 42, some 43, some 44, some 45, some 46, some 47, some 48, some 6, some 7] [] [0, 0, 0, 6, 14, 30, 30, 30, 222, 478, 30, 2046, 4094, 8190, 4095, 32767] [pv (.int .i64 ((i : Nat) : Int)), pv (.int .i64 ((i : Nat) : Int)), pv (.int .i64 ((l.length : Nat) : Int)), pv (.bool (decide (((i : Nat) : Int) < ((l.length : Nat) : Int)))), pv (.bool (decide (((i : Nat) : Int) < ((l.length : Nat) : Int)))), pg ((decide (((i : Nat) : Int) < ((l.length : Nat) : Int))) == true) (.func (.func g) #[] #[]), pg ((decide (((i : Nat) : Int) < ((l.length : Nat) : Int))) == true) (.slice a l.length c), pg ((decide (((i : Nat) : Int) < ((l.length : Nat) : Int))) == true) (.int .i64 ((i : Nat) : Int)), pg ((decide (((i : Nat) : Int) < ((l.length : Nat) : Int))) == true) (.pointer (some ⟨bkS (.slice a l.length c), ofS (.slice a l.length c) + ((i : Nat) : Int).toNat * 7, none⟩)), pg ((decide (((i : Nat) : Int) < ((l.length : Nat) : Int))) == true) (.agg (cec (gd l i)).toArray), pg ((decide (((i : Nat) : Int) < ((l.length : Nat) : Int))) == true) (.agg (cec t).toArray), pg ((decide (((i : Nat) : Int) < ((l.length : Nat) : Int))) == true) (.int .i64 (cf (gd l i))), pg ((decide (((i : Nat) : Int) < ((l.length : Nat) : Int))) == true) (.bool (decide (cf (gd l i) = 0))), pv (.bool ((decide (((i : Nat) : Int) < ((l.length : Nat) : Int))) && (decide (cf (gd l i) = 0)))), pv (.int .i64 ((i : Nat) : Int)), pv (.bool ((decide (((i : Nat) : Int) < ((l.length : Nat) : Int))) && (decide (cf (gd l i) = 0))))] (fun _ _ => _) [15, 14] (by kernel_rfl) hs ⟨?_, ?_, ?_, ?_, ?_, ?_, ?_, ?_, ?_, ?_, ?_, ?_, ?_, ?_, ?_, ?_, trivial⟩ ?_
      · exact ob [] [] rfl rfl fun D ρ w hs => L_move (V := .int .i64 ((i : Nat) : Int)) rfl ⟨rfl, hs⟩
      · exact ob [] [] rfl rfl fun D ρ w hs => L_move (V := .int .i64 ((i : Nat) : Int)) rfl ⟨rfl, hs⟩
      · exact ob [] [] rfl rfl fun D ρ w hs => L_move (V := .int .i64 ((l.length : Nat) : Int)) rfl ⟨rfl, hs⟩
      · exact ob [1, 2] [] rfl rfl fun D ρ w hs => L_lss rfl rfl ⟨rfl, hs⟩
      · exact ob [3] [] rfl rfl fun D ρ w hs => L_move (V := .bool (decide (((i : Nat) : Int) < ((l.length : Nat) : Int)))) rfl ⟨rfl, hs⟩
      · exact obg [4] [] (decide (((i : Nat) : Int) < ((l.length : Nat) : Int))) rfl (fun _ => rfl) rfl (fun _ _ _ _ h => h) fun D ρ w hG hs => L_move (V := .func (.func g) #[] #[]) rfl ⟨rfl, hs⟩
      · exact obg [4] [] (decide (((i : Nat) : Int) < ((l.length : Nat) : Int))) rfl (fun _ => rfl) rfl (fun _ _ _ _ h => h) fun D ρ w hG hs => L_move (V := .slice a l.length c) rfl ⟨rfl, hs⟩
      · exact obg [4] [] (decide (((i : Nat) : Int) < ((l.length : Nat) : Int))) rfl (fun _ => rfl) rfl (fun _ _ _ _ h => h) fun D ρ w hG hs => L_move (V := .int .i64 ((i : Nat) : Int)) rfl ⟨rfl, hs⟩
      · refine obgy [4, 6, 7] [] [6, 7] (decide (((i : Nat) : Int) < ((l.length : Nat) : Int))) rfl (fun _ => rfl) rfl (fun _ _ _ _ h => h) (fun hG => ⟨hG, hG, trivial⟩) fun D ρ w hG hs => ?_
        have hgd := of_decide_eq_true (eq_of_beq (hG))
        exact L_ixR UD_36 SA_59.1 (Rd.own' hr hs) rfl rfl (by omega) (by rw [List.length_map]; omega) ⟨rfl, hs⟩
      · refine obgy [4, 8] [] [8] (decide (((i : Nat) : Int) < ((l.length : Nat) : Int))) rfl (fun _ => rfl) rfl (fun _ _ _ _ h => h) (fun hG => ⟨hG, trivial⟩) fun D ρ w hG hs => ?_
        have hgd := of_decide_eq_true (eq_of_beq (hG))
        exact L_ldRA (j := 0) (vs := cec (gd l i)) i SA_59 (Rd.own' hr hs) (gd_at (by omega)) rfl rfl rfl (by omega) ⟨rfl, hs⟩
      · exact obg [4] [] (decide (((i : Nat) : Int) < ((l.length : Nat) : Int))) rfl (fun _ => rfl) rfl (fun _ _ _ _ h => h) fun D ρ w hG hs => L_ldW (cs := cec t) SA_59 hs 0 rfl rfl rfl ⟨rfl, hs⟩
      · exact obgy [4, 5, 9, 10] [] [5, 9, 10] (decide (((i : Nat) : Int) < ((l.length : Nat) : Int))) rfl (fun _ => rfl) rfl (fun _ _ _ _ h => h) (fun hG => ⟨hG, hG, hG, trivial⟩) fun D ρ w hG hs => L_fnP (vs := [.agg (cec (gd l i)).toArray, .agg (cec t).toArray]) (cs := []) (V := .int .i64 (cf (gd l i))) hg rfl rfl (hcmp _ (gd l i)) hs fun _ hs => ⟨rfl, hs⟩
      · exact obgy [4, 11] [] [11] (decide (((i : Nat) : Int) < ((l.length : Nat) : Int))) rfl (fun _ => rfl) rfl (fun _ _ _ _ h => h) (fun hG => ⟨hG, trivial⟩) fun D ρ w hG hs => L_eql rfl rfl ⟨rfl, hs⟩
      · exact ob [4, 12] [] rfl rfl fun D ρ w hs => L_andC (h' := decide (cf (gd l i) = 0)) rfl rfl rfl ⟨rfl, hs⟩
      · exact ob [0] [] rfl rfl fun D ρ w hs => L_assign (V := .int .i64 ((i : Nat) : Int)) rfl ⟨rfl, hs⟩
      · exact ob [13] [] rfl rfl fun D ρ w hs => L_assign (V := .bool ((decide (((i : Nat) : Int) < ((l.length : Nat) : Int))) && (decide (cf (gd l i) = 0)))) rfl ⟨rfl, hs⟩
      rintro ρ1 w9 ρ2 hρ hs
      replace hρ : ρ2 = upd (upd (mix [35, 36, 37, 38, 39, 40, 41, 42, 43, 44, 45, 46, 47, 48, 6, 7] ρ1 _) 6 (.int .i64 ((i : Nat) : Int))) 7 (.bool ((decide (((i : Nat) : Int) < ((l.length : Nat) : Int))) && (decide (cf (gd l i) = 0)))) := hρ
      subst hρ
      refine W_ret ?_
      refine ⟨_, res_two (U := .int .i64 ((i : Nat) : Int)) (V := .bool ((decide (((i : Nat) : Int) < ((l.length : Nat) : Int))) && (decide (cf (gd l i) = 0)))) Tryz.results34 rfl rfl, ?_⟩
      refine ⟨congrArg Ending.returned ?_, hs.take 0⟩
      have hip2 : i = posB (fun x => decide (cf x < 0)) l := by omega
      rw [← hip2]
      congr 3
      by_cases h : i < l.length <;> simp [h]
set_option maxRecDepth 20000 in
set_option maxHeartbeats 4000000 in
theorem bsf87_ok (w : World) (a : Option Addr) (c : Nat) (l : List Lst) (t : Int) (hsmall : l.length ≤ 4611686018427387904) (g : Nat) (hg : En Tryz.prog g) (cf : Lst → Int) (hcmp : ∀ (w : World) (x : Lst), Calls Tryz.prog g #[.agg (lsc x).toArray, .int .u16 t] w (fun e w' => e = .returned (.int .i64 (cf x)) ∧ Own w no w' [])) (hm : MonoB (fun x => decide (cf x < 0)) l) (hr : Rd w (.slice a l.length c) 2 (l.map lsc)) : Calls Tryz.prog 82 #[.slice a l.length c, .int .u16 t, .func (.func g) #[] #[]] w (fun e w' => e = .returned (.tuple #[.int .i64 ((posB (fun x => decide (cf x < 0)) l : Nat) : Int), .bool (decide (posB (fun x => decide (cf x < 0)) l < l.length) && decide (cf (gd l (posB (fun x => decide (cf x < 0)) l)) = 0))]) ∧ Own w no w' []) := by
  refine calls_of_Wn (n := 49) Tryz.func82 rfl Tryz.ntmps82 rfl ?_
  have hs := Own.start w
  have hn := hr.sml
  have hn2 : l.length ≤ 4611686018427387904 := hsmall
  refine W_seq ?_
  refine W_region ?_
  refine RW_op (L_assign (V := .int .i64 0) rfl ?_)
  refine RW_op (L_assign (V := .bool false) rfl ?_)
  refine RW_nil ?_
  refine W_seq ?_
  refine W_region ?_
  refine RW_op (L_move (V := .slice a l.length c) rfl ?_)
  refine RW_op (L_lenR (n := l.length) UD_37 (Rd.own' hr hs) (by simp) rfl ?_)
  refine RW_op (L_assign (V := .int .i64 ((l.length : Nat) : Int)) rfl ?_)
  refine RW_nil ?_
  refine W_seq ?_
  refine W_region ?_
  refine RW_op (L_move (V := .int .i64 ((l.length : Nat) : Int)) rfl ?_)
  refine RW_op (L_assign (V := .int .i64 0) rfl ?_)
  refine RW_op (L_assign (V := .int .i64 ((l.length : Nat) : Int)) rfl ?_)
  refine RW_nil ?_
  refine W_seq ?_
  refine W_block ?_
  refine W_loopI (fun ρ μ ρ' w' => ∃ (ρo : Env) (i : Nat) (j : Nat), ρ' = upd (upd (mix [9, 10, 11, 15, 16, 17, 18, 19, 20, 21, 22, 23, 24, 25, 26, 27, 28, 29, 30, 31, 32, 33, 34] ρo ρ) 9 (.int .i64 ((i : Nat) : Int))) 10 (.int .i64 ((j : Nat) : Int)) ∧ (i ≤ posB (fun x => decide (cf x < 0)) l) ∧ (posB (fun x => decide (cf x < 0)) l ≤ j) ∧ (j ≤ l.length) ∧ μ = j - i ∧ Own w no w' []) ?_ ?_
  · exact ⟨_, _, 0, l.length, upd_of (upd_of (mix_of (ds := [9, 10, 11, 15, 16, 17, 18, 19, 20, 21, 22, 23, 24, 25, 26, 27, 28, 29, 30, 31, 32, 33, 34]) (Agr.refl _ _)) rfl) rfl, (Nat.zero_le _), posB_len, (Nat.le_refl _), rfl, hs⟩
  · rintro μ ρ' w1 ⟨ρo, i, j, rfl, hip, hpj, hjl, rfl, hs⟩
    refine W_seq ?_
    refine W_seq ?_
    refine W_region ?_
    refine RW_op (L_move (V := .int .i64 ((i : Nat) : Int)) rfl ?_)
    refine RW_op (L_move (V := .int .i64 ((j : Nat) : Int)) rfl ?_)
    refine RW_op (L_lss rfl rfl ?_)
    refine RW_nil ?_
    refine W_cond (t := decide (((i : Nat) : Int) < ((j : Nat) : Int))) rfl (fun c2 => ?_) (fun c2 => ?_)
    ·
      replace c2 := of_decide_eq_true c2
      refine W_skip ?_
      refine W_block ?_
      refine W_seq ?_
      refine W_region ?_
      refine RW_op (L_move (V := .int .i64 ((i : Nat) : Int)) rfl ?_)
      refine RW_op (L_move (V := .int .i64 ((j : Nat) : Int)) rfl ?_)
      refine RW_op (L_add (a := ((i : Nat) : Int)) (b := ((j : Nat) : Int)) (c := ((i + j : Nat) : Int)) rfl rfl (nat_i64 (by omega) (by omega)) ?_)
      refine RW_op (L_conv UD_3 UD_127 rfl (wr_u64 (by omega) (by omega)) ?_)
      refine RW_op (L_shrN rfl rfl ?_)
      refine RW_op (L_conv UD_127 UD_3 rfl (wr_i64 (by omega) (by omega)) ?_)
      refine RW_op (L_assign (V := .int .i64 (((i + j) / 2 : Nat) : Int)) rfl ?_)
      refine RW_nil ?_
      refine W_seq ?_
      refine W_region ?_
      refine RW_op (L_move (V := .func (.func g) #[] #[]) rfl ?_)
      refine RW_op (L_move (V := .slice a l.length c) rfl ?_)
      refine RW_op (L_move (V := .int .i64 (((i + j) / 2 : Nat) : Int)) rfl ?_)
      refine RW_op (L_ixR UD_37 SA_87.1 (Rd.own' hr hs) rfl rfl (by omega) (by rw [List.length_map]; omega) ?_)
      refine RW_op (L_ldRA (j := 0) (vs := lsc (gd l ((i + j) / 2))) ((i + j) / 2) SA_87 (Rd.own' hr hs) (gd_at (by omega)) rfl rfl rfl (by omega) ?_)
      refine RW_op (L_move (V := .int .u16 t) rfl ?_)
      refine RW_op (L_fnP (vs := [.agg (lsc (gd l ((i + j) / 2))).toArray, .int .u16 t]) (cs := []) (V := .int .i64 (cf (gd l ((i + j) / 2)))) hg rfl rfl (hcmp _ (gd l ((i + j) / 2))) hs fun w3 hs => ?_)
      refine RW_op (L_lss rfl rfl ?_)
      refine RW_nil ?_
      refine W_cond (t := decide (cf (gd l ((i + j) / 2)) < 0)) rfl (fun c4 => ?_) (fun c4 => ?_)
      ·
        replace c4 := of_decide_eq_true c4
        refine W_region ?_
        refine RW_op (L_move (V := .int .i64 (((i + j) / 2 : Nat) : Int)) rfl ?_)
        refine RW_op (L_add (a := (((i + j) / 2 : Nat) : Int)) (b := 1) (c := ((((i + j) / 2) + 1 : Nat) : Int)) rfl rfl (nat_i64 (by omega) (by omega)) ?_)
        refine RW_op (L_assign (V := .int .i64 ((((i + j) / 2) + 1 : Nat) : Int)) rfl ?_)
        refine RW_nil ?_
        refine ⟨_, ?_, _, ((i + j) / 2) + 1, j, upd_of (upd_of (mix_of (ds := [9, 10, 11, 15, 16, 17, 18, 19, 20, 21, 22, 23, 24, 25, 26, 27, 28, 29, 30, 31, 32, 33, 34]) (by repeat (first | exact Agr.refl _ _ | refine Agr.upd ?_ rfl | refine Agr.mix ?_ rfl))) rfl) rfl, (by have := posB_lt (f := (fun x => decide (cf x < 0))) hm (by omega) (decide_eq_true c4); omega), (by omega), (by omega), rfl, hs.take 0⟩
        omega
      ·
        replace c4 := of_decide_eq_false c4
        refine W_region ?_
        refine RW_op (L_move (V := .int .i64 (((i + j) / 2 : Nat) : Int)) rfl ?_)
        refine RW_op (L_assign (V := .int .i64 (((i + j) / 2 : Nat) : Int)) rfl ?_)
        refine RW_nil ?_
        refine ⟨_, ?_, _, i, (i + j) / 2, upd_of (upd_of (mix_of (ds := [9, 10, 11, 15, 16, 17, 18, 19, 20, 21, 22, 23, 24, 25, 26, 27, 28, 29, 30, 31, 32, 33, 34]) (by repeat (first | exact Agr.refl _ _ | refine Agr.upd ?_ rfl | refine Agr.mix ?_ rfl))) rfl) rfl, (by omega), (by have := posB_ge (f := (fun x => decide (cf x < 0))) (l := l) (decide_eq_false c4); omega), (by omega), rfl, hs.take 0⟩
        omega
    ·
      replace c2 := of_decide_eq_false c2
      refine W_exit ?_
      refine W_seq ?_
      have hij : i = j := by omega
      refine W_regO [some 35, some 36, some 37, some 38, some 39, some 40, some 41, some 42, some 43, some 44, some 45, some 46, some 47, some 48, some 6, some 7] [] [0, 0, 0, 6, 14, 30, 30, 30, 222, 478, 30, 2046, 4094, 8190, 4095, 32767] [pv (.int .i64 ((i : Nat) : Int)), pv (.int .i64 ((i : Nat) : Int)), pv (.int .i64 ((l.length : Nat) : Int)), pv (.bool (decide (((i : Nat) : Int) < ((l.length : Nat) : Int)))), pv (.bool (decide (((i : Nat) : Int) < ((l.length : Nat) : Int)))), pg ((decide (((i : Nat) : Int) < ((l.length : Nat) : Int))) == true) (.func (.func g) #[] #[]), pg ((decide (((i : Nat) : Int) < ((l.length : Nat) : Int))) == true) (.slice a l.length c), pg ((decide (((i : Nat) : Int) < ((l.length : Nat) : Int))) == true) (.int .i64 ((i : Nat) : Int)), pg ((decide (((i : Nat) : Int) < ((l.length : Nat) : Int))) == true) (.pointer (some ⟨bkS (.slice a l.length c), ofS (.slice a l.length c) + ((i : Nat) : Int).toNat * 2, none⟩)), pg ((decide (((i : Nat) : Int) < ((l.length : Nat) : Int))) == true) (.agg (lsc (gd l i)).toArray), pg ((decide (((i : Nat) : Int) < ((l.length : Nat) : Int))) == true) (.int .u16 t), pg ((decide (((i : Nat) : Int) < ((l.length : Nat) : Int))) == true) (.int .i64 (cf (gd l i))), pg ((decide (((i : Nat) : Int) < ((l.length : Nat) : Int))) == true) (.bool (decide (cf (gd l i) = 0))), pv (.bool ((decide (((i : Nat) : Int) < ((l.length : Nat) : Int))) && (decide (cf (gd l i) = 0)))), pv (.int .i64 ((i : Nat) : Int)), pv (.bool ((decide (((i : Nat) : Int) < ((l.length : Nat) : Int))) && (decide (cf (gd l i) = 0))))] (fun _ _ => _) [15, 14] (by kernel_rfl) hs ⟨?_, ?_, ?_, ?_, ?_, ?_, ?_, ?_, ?_, ?_, ?_, ?_, ?_, ?_, ?_, ?_, trivial⟩ ?_
      · exact ob [] [] rfl rfl fun D ρ w hs => L_move (V := .int .i64 ((i : Nat) : Int)) rfl ⟨rfl, hs⟩
      · exact ob [] [] rfl rfl fun D ρ w hs => L_move (V := .int .i64 ((i : Nat) : Int)) rfl ⟨rfl, hs⟩
      · exact ob [] [] rfl rfl fun D ρ w hs => L_move (V := .int .i64 ((l.length : Nat) : Int)) rfl ⟨rfl, hs⟩
      · exact ob [1, 2] [] rfl rfl fun D ρ w hs => L_lss rfl rfl ⟨rfl, hs⟩
      · exact ob [3] [] rfl rfl fun D ρ w hs => L_move (V := .bool (decide (((i : Nat) : Int) < ((l.length : Nat) : Int)))) rfl ⟨rfl, hs⟩
      · exact obg [4] [] (decide (((i : Nat) : Int) < ((l.length : Nat) : Int))) rfl (fun _ => rfl) rfl (fun _ _ _ _ h => h) fun D ρ w hG hs => L_move (V := .func (.func g) #[] #[]) rfl ⟨rfl, hs⟩
      · exact obg [4] [] (decide (((i : Nat) : Int) < ((l.length : Nat) : Int))) rfl (fun _ => rfl) rfl (fun _ _ _ _ h => h) fun D ρ w hG hs => L_move (V := .slice a l.length c) rfl ⟨rfl, hs⟩
      · exact obg [4] [] (decide (((i : Nat) : Int) < ((l.length : Nat) : Int))) rfl (fun _ => rfl) rfl (fun _ _ _ _ h => h) fun D ρ w hG hs => L_move (V := .int .i64 ((i : Nat) : Int)) rfl ⟨rfl, hs⟩
      · refine obgy [4, 6, 7] [] [6, 7] (decide (((i : Nat) : Int) < ((l.length : Nat) : Int))) rfl (fun _ => rfl) rfl (fun _ _ _ _ h => h) (fun hG => ⟨hG, hG, trivial⟩) fun D ρ w hG hs => ?_
        have hgd := of_decide_eq_true (eq_of_beq (hG))
        exact L_ixR UD_37 SA_87.1 (Rd.own' hr hs) rfl rfl (by omega) (by rw [List.length_map]; omega) ⟨rfl, hs⟩
      · refine obgy [4, 8] [] [8] (decide (((i : Nat) : Int) < ((l.length : Nat) : Int))) rfl (fun _ => rfl) rfl (fun _ _ _ _ h => h) (fun hG => ⟨hG, trivial⟩) fun D ρ w hG hs => ?_
        have hgd := of_decide_eq_true (eq_of_beq (hG))
        exact L_ldRA (j := 0) (vs := lsc (gd l i)) i SA_87 (Rd.own' hr hs) (gd_at (by omega)) rfl rfl rfl (by omega) ⟨rfl, hs⟩
      · exact obg [4] [] (decide (((i : Nat) : Int) < ((l.length : Nat) : Int))) rfl (fun _ => rfl) rfl (fun _ _ _ _ h => h) fun D ρ w hG hs => L_move (V := .int .u16 t) rfl ⟨rfl, hs⟩
      · exact obgy [4, 5, 9, 10] [] [5, 9, 10] (decide (((i : Nat) : Int) < ((l.length : Nat) : Int))) rfl (fun _ => rfl) rfl (fun _ _ _ _ h => h) (fun hG => ⟨hG, hG, hG, trivial⟩) fun D ρ w hG hs => L_fnP (vs := [.agg (lsc (gd l i)).toArray, .int .u16 t]) (cs := []) (V := .int .i64 (cf (gd l i))) hg rfl rfl (hcmp _ (gd l i)) hs fun _ hs => ⟨rfl, hs⟩
      · exact obgy [4, 11] [] [11] (decide (((i : Nat) : Int) < ((l.length : Nat) : Int))) rfl (fun _ => rfl) rfl (fun _ _ _ _ h => h) (fun hG => ⟨hG, trivial⟩) fun D ρ w hG hs => L_eql rfl rfl ⟨rfl, hs⟩
      · exact ob [4, 12] [] rfl rfl fun D ρ w hs => L_andC (h' := decide (cf (gd l i) = 0)) rfl rfl rfl ⟨rfl, hs⟩
      · exact ob [0] [] rfl rfl fun D ρ w hs => L_assign (V := .int .i64 ((i : Nat) : Int)) rfl ⟨rfl, hs⟩
      · exact ob [13] [] rfl rfl fun D ρ w hs => L_assign (V := .bool ((decide (((i : Nat) : Int) < ((l.length : Nat) : Int))) && (decide (cf (gd l i) = 0)))) rfl ⟨rfl, hs⟩
      rintro ρ1 w6 ρ2 hρ hs
      replace hρ : ρ2 = upd (upd (mix [35, 36, 37, 38, 39, 40, 41, 42, 43, 44, 45, 46, 47, 48, 6, 7] ρ1 _) 6 (.int .i64 ((i : Nat) : Int))) 7 (.bool ((decide (((i : Nat) : Int) < ((l.length : Nat) : Int))) && (decide (cf (gd l i) = 0)))) := hρ
      subst hρ
      refine W_ret ?_
      refine ⟨_, res_two (U := .int .i64 ((i : Nat) : Int)) (V := .bool ((decide (((i : Nat) : Int) < ((l.length : Nat) : Int))) && (decide (cf (gd l i) = 0)))) Tryz.results82 rfl rfl, ?_⟩
      refine ⟨congrArg Ending.returned ?_, hs.take 0⟩
      have hip2 : i = posB (fun x => decide (cf x < 0)) l := by omega
      rw [← hip2]
      congr 3
      by_cases h : i < l.length <;> simp [h]
end Tt
end Go.Proofs
namespace Go.Proofs
open Go Go.Vx Go.RowKit
namespace Tt
set_option maxRecDepth 20000 in
set_option maxHeartbeats 4000000 in
theorem place_ok (w : World) (x y : Cen) : Calls Tryz.prog 35 #[.agg (cec x).toArray, .agg (cec y).toArray] w (fun e w' => e = .returned (.int .i64 (placeI x y)) ∧ Own w no w' []) := by
  refine calls_of_Wn (n := 26) Tryz.func35 rfl Tryz.ntmps35 rfl ?_
  have hs := Own.start w
  refine W_seq ?_
  refine W_region ?_
  refine RW_op (L_box (V := .agg (cec x).toArray) (cs := cec x) rfl rfl hs fun b1 w2 hs => ?_)
  refine RW_op (L_box (V := .agg (cec y).toArray) (cs := cec y) rfl rfl hs fun b3 w4 hs => ?_)
  refine RW_op (L_assign (V := .int .i64 0) rfl ?_)
  refine RW_nil ?_
  refine W_seq ?_
  replace hs := hs.more emp trivial
  refine W_regD HM [some 5, some 6, some 7, some 8, some 9, some 10, some 11, some 12, some 13, some 14, some 15, some 16, some 17, some 18, some 19, some 20, some 21, some 22, some 23, some 24, some 25, some 4] [[], [], [], [], [], [], [], [], [], [], [], [], [], [], [], [], [], [], [], [24]] [0, 1, 0, 4, 15, 0, 32, 96, 0, 256, 768, 2047, 0, 4096, 12288, 0, 32768, 98304, 262143, 524287, 1048575, 2097151] [pv (.pointer (some ⟨b1, 0 + 0, none⟩)), pv (.int .u16 x.cart), pv (.pointer (some ⟨b3, 0 + 0, none⟩)), pv (.int .u16 y.cart), pv (.int .i64 (cmpI x.cart y.cart)), pv (.pointer (some ⟨b1, 0 + 4, none⟩)), pv (.pointer (some ⟨b1, 0 + 4 + 0, none⟩)), pv (.int .u8 x.dot.rep), pv (.pointer (some ⟨b3, 0 + 4, none⟩)), pv (.pointer (some ⟨b3, 0 + 4 + 0, none⟩)), pv (.int .u8 y.dot.rep), pv (.int .i64 (cmpI x.dot.rep y.dot.rep)), pv (.pointer (some ⟨b1, 0 + 4, none⟩)), pv (.pointer (some ⟨b1, 0 + 4 + 1, none⟩)), pv (.int .u32 x.dot.seq), pv (.pointer (some ⟨b3, 0 + 4, none⟩)), pv (.pointer (some ⟨b3, 0 + 4 + 1, none⟩)), pv (.int .u32 y.dot.seq), pv (.int .i64 (cmpI x.dot.seq y.dot.seq)), (true, fun ρ => .slice (some ⟨(bOf (ρ 24)), 0, none⟩) 3 3), pv (.int .i64 (orI [cmpI x.cart y.cart, cmpI x.dot.rep y.dot.rep, cmpI x.dot.seq y.dot.seq])), pv (.int .i64 (orI [cmpI x.cart y.cart, cmpI x.dot.rep y.dot.rep, cmpI x.dot.seq y.dot.seq]))] (fun D ρ => [blk b1 (cec x) 59, blk b3 (cec y) 59, cond (D 19) (row (.slice (some ⟨(bOf (ρ 24)), 0, none⟩) 3 3) ([cmpI x.cart y.cart, cmpI x.dot.rep y.dot.rep, cmpI x.dot.seq y.dot.seq].map (ic .i64)) 3 1) (emp)]) [21] (by kernel_rfl) hs ⟨?_, ?_, ?_, ?_, ?_, ?_, ?_, ?_, ?_, ?_, ?_, ?_, ?_, ?_, ?_, ?_, ?_, ?_, ?_, ?_, ?_, ?_, trivial⟩ ?_
  · exact ob [] [] rfl rfl fun D ρ w hs => L_fieldAddr FA_59_0 rfl ⟨rfl, hs⟩
  · exact ob [0] [] rfl rfl fun D ρ w hs => L_ld (V := .int .u16 x.cart) S1_31 hs 0 rfl rfl rfl ⟨rfl, hs⟩
  · exact ob [] [] rfl rfl fun D ρ w hs => L_fieldAddr FA_59_0 rfl ⟨rfl, hs⟩
  · exact ob [2] [] rfl rfl fun D ρ w hs => L_ld (V := .int .u16 y.cart) S1_31 hs 1 rfl rfl rfl ⟨rfl, hs⟩
  · exact ob [1, 3] [] rfl rfl fun D ρ w hs => L_callP (vs := [.int .u16 x.cart, .int .u16 y.cart]) (V := .int .i64 (cmpI x.cart y.cart)) EN_57 rfl rfl (cmp_uint16_ok _ x.cart y.cart) hs fun _ hs => ⟨rfl, hs⟩
  · exact ob [] [] rfl rfl fun D ρ w hs => L_fieldAddr FA_59_4 rfl ⟨rfl, hs⟩
  · exact ob [5] [] rfl rfl fun D ρ w hs => L_fieldAddr FA_30_0 rfl ⟨rfl, hs⟩
  · exact ob [6] [] rfl rfl fun D ρ w hs => L_ld (V := .int .u8 x.dot.rep) S1_5 hs 0 rfl rfl rfl ⟨rfl, hs⟩
  · exact ob [] [] rfl rfl fun D ρ w hs => L_fieldAddr FA_59_4 rfl ⟨rfl, hs⟩
  · exact ob [8] [] rfl rfl fun D ρ w hs => L_fieldAddr FA_30_0 rfl ⟨rfl, hs⟩
  · exact ob [9] [] rfl rfl fun D ρ w hs => L_ld (V := .int .u8 y.dot.rep) S1_5 hs 1 rfl rfl rfl ⟨rfl, hs⟩
  · exact ob [7, 10] [] rfl rfl fun D ρ w hs => L_callP (vs := [.int .u8 x.dot.rep, .int .u8 y.dot.rep]) (V := .int .i64 (cmpI x.dot.rep y.dot.rep)) EN_76 rfl rfl (cmp_uint8_ok _ x.dot.rep y.dot.rep) hs fun _ hs => ⟨rfl, hs⟩
  · exact ob [] [] rfl rfl fun D ρ w hs => L_fieldAddr FA_59_4 rfl ⟨rfl, hs⟩
  · exact ob [12] [] rfl rfl fun D ρ w hs => L_fieldAddr FA_30_1 rfl ⟨rfl, hs⟩
  · exact ob [13] [] rfl rfl fun D ρ w hs => L_ld (V := .int .u32 x.dot.seq) S1_22 hs 0 rfl rfl rfl ⟨rfl, hs⟩
  · exact ob [] [] rfl rfl fun D ρ w hs => L_fieldAddr FA_59_4 rfl ⟨rfl, hs⟩
  · exact ob [15] [] rfl rfl fun D ρ w hs => L_fieldAddr FA_30_1 rfl ⟨rfl, hs⟩
  · exact ob [16] [] rfl rfl fun D ρ w hs => L_ld (V := .int .u32 y.dot.seq) S1_22 hs 1 rfl rfl rfl ⟨rfl, hs⟩
  · exact ob [14, 17] [] rfl rfl fun D ρ w hs => L_callP (vs := [.int .u32 x.dot.seq, .int .u32 y.dot.seq]) (V := .int .i64 (cmpI x.dot.seq y.dot.seq)) EN_77 rfl rfl (cmp_uint32_ok _ x.dot.seq y.dot.seq) hs fun _ hs => ⟨rfl, hs⟩
  · exact ob [4, 11, 18] [] rfl rfl fun D ρ w hs => L_bs (vals := [.int .i64 (cmpI x.cart y.cart), .int .i64 (cmpI x.dot.rep y.dot.rep), .int .i64 (cmpI x.dot.seq y.dot.seq)]) (ls := List.map (ic .i64) ([cmpI x.cart y.cart, cmpI x.dot.rep y.dot.rep, cmpI x.dot.seq y.dot.seq] : List Int)) EL_149 rfl rfl rfl (len_map (enc := (ic .i64)) (fun _ => rfl) _) (one_map (ic_one .i64) _) (Nat.le_of_ble_eq_true rfl) hs fun _ _ hs => ⟨rfl, hs.put 2 (Nat.le_of_ble_eq_true rfl)⟩
  · exact ob [19] [] rfl rfl fun D ρ w hs => L_callP (vs := [.slice (some ⟨(bOf (ρ 24)), 0, none⟩) 3 3]) (V := .int .i64 (orI [cmpI x.cart y.cart, cmpI x.dot.rep y.dot.rep, cmpI x.dot.seq y.dot.seq])) EN_75 rfl rfl (or_ok _ (some ⟨(bOf (ρ 24)), 0, none⟩) 3 [cmpI x.cart y.cart, cmpI x.dot.rep y.dot.rep, cmpI x.dot.seq y.dot.seq] (hs.rd 2 rfl)) hs fun _ hs => ⟨rfl, hs⟩
  · exact ob [20] [] rfl rfl fun D ρ w hs => L_assign (V := .int .i64 (orI [cmpI x.cart y.cart, cmpI x.dot.rep y.dot.rep, cmpI x.dot.seq y.dot.seq])) rfl ⟨rfl, hs⟩
  rintro ρ1 w10 ρ2 hρ hs
  replace hρ : ρ2 = upd (mix [5, 6, 7, 8, 9, 10, 11, 12, 13, 14, 15, 16, 17, 18, 19, 20, 21, 22, 23, 24, 25, 4] ρ1 _) 4 (.int .i64 (orI [cmpI x.cart y.cart, cmpI x.dot.rep y.dot.rep, cmpI x.dot.seq y.dot.seq])) := hρ
  replace hs : Own w no w10 [blk b1 (cec x) 59, blk b3 (cec y) 59, row (.slice (some ⟨(bOf (ρ1 24)), 0, none⟩) 3 3) ([cmpI x.cart y.cart, cmpI x.dot.rep y.dot.rep, cmpI x.dot.seq y.dot.seq].map (ic .i64)) 3 1] := hs
  generalize (bOf (ρ1 24)) = b11 at hs
  subst hρ
  refine W_ret ?_
  refine ⟨_, res_one (V := .int .i64 (orI [cmpI x.cart y.cart, cmpI x.dot.rep y.dot.rep, cmpI x.dot.seq y.dot.seq])) Tryz.results35 rfl, ?_⟩
  refine ⟨congrArg Ending.returned ?_, hs.take 0⟩
  rfl
set_option maxRecDepth 20000 in
set_option maxHeartbeats 4000000 in
theorem eShaped_ok (w : World) (x : Cen) (hx : CenOk x) : Calls Tryz.prog 46 #[.agg (cec x).toArray] w (fun e w' => e = .returned (.bool (shapedB x)) ∧ Own w no w' []) := by
  refine calls_of_Wn (n := 25) Tryz.func46 rfl Tryz.ntmps46 rfl ?_
  have hs := Own.start w
  refine W_seq ?_
  refine W_region ?_
  refine RW_op (L_box (V := .agg (cec x).toArray) (cs := cec x) rfl rfl hs fun b1 w2 hs => ?_)
  refine RW_op (L_assign (V := .bool false) rfl ?_)
  refine RW_nil ?_
  refine W_seq ?_
  refine W_seq ?_
  refine W_region ?_
  refine RW_op (L_fieldAddr FA_59_3 rfl ?_)
  refine RW_op (L_ld (V := .int .u8 x.kind) S1_5 hs 0 rfl rfl rfl ?_)
  refine RW_nil ?_
  refine W_block ?_
  refine W_seq ?_
  refine W_region ?_
  refine RW_op (L_eql rfl rfl ?_)
  refine RW_op (L_assign (V := .bool (decide (x.kind = 1))) rfl ?_)
  refine RW_nil ?_
  refine W_cond (t := decide (x.kind = 1)) rfl (fun c3 => ?_) (fun c3 => ?_)
  ·
    replace c3 := of_decide_eq_true c3
    refine W_seq ?_
    refine W_region ?_
    refine RW_op (L_fieldAddr FA_59_2 rfl ?_)
    refine RW_op (L_ld (V := .int .u16 x.qty) S1_31 hs 0 rfl rfl rfl ?_)
    refine RW_op (L_gtr rfl rfl ?_)
    refine RW_op (L_assign (V := .bool (decide (0 < x.qty))) rfl ?_)
    refine RW_nil ?_
    refine W_ret ?_
    refine ⟨_, res_one (V := .bool (decide (0 < x.qty))) Tryz.results46 rfl, ?_⟩
    refine ⟨congrArg Ending.returned ?_, hs.take 0⟩
    refine congrArg Value.bool ?_
    unfold shapedB
    have ⟨_, _, ⟨hq1, hq2⟩, _, _, _⟩ := hx
    simp_all [Bool.and_assoc]
    try omega
  ·
    replace c3 := of_decide_eq_false c3
    refine W_seq ?_
    refine W_region ?_
    refine RW_op (L_eql rfl rfl ?_)
    refine RW_op (L_assign (V := .bool (decide (x.kind = 2))) rfl ?_)
    refine RW_nil ?_
    refine W_cond (t := decide (x.kind = 2)) rfl (fun c4 => ?_) (fun c4 => ?_)
    ·
      replace c4 := of_decide_eq_true c4
      refine W_seq ?_
      refine W_region ?_
      refine RW_op (L_assign (V := .bool true) rfl ?_)
      refine RW_nil ?_
      refine W_ret ?_
      refine ⟨_, res_one (V := .bool true) Tryz.results46 rfl, ?_⟩
      refine ⟨congrArg Ending.returned ?_, hs.take 0⟩
      refine congrArg Value.bool ?_
      unfold shapedB
      have ⟨_, _, ⟨hq1, hq2⟩, _, _, _⟩ := hx
      simp_all [Bool.and_assoc]
      try omega
    ·
      replace c4 := of_decide_eq_false c4
      refine W_skip ?_
      refine W_seq ?_
      refine W_regO [some 12, some 13, some 14, some 15, some 16, some 17, some 18, some 19, some 20, some 21, some 22, some 23, some 24, some 2] [] [0, 1, 3, 7, 15, 31, 63, 127, 255, 511, 1023, 2047, 4095, 8191] [pv (.pointer (some ⟨b1, 0 + 3, none⟩)), pv (.int .u8 x.kind), pv (.bool (decide (x.kind = 4))), pv (.bool (decide (x.kind = 4))), pg ((decide (x.kind = 4)) == true) (.pointer (some ⟨b1, 0 + 1, none⟩)), pg ((decide (x.kind = 4)) == true) (.int .u16 x.item), pg ((decide (x.kind = 4)) == true) (.bool (decide (x.item = 0))), pv (.bool ((decide (x.kind = 4)) && (decide (x.item = 0)))), pv (.bool ((decide (x.kind = 4)) && (decide (x.item = 0)))), pg (((decide (x.kind = 4)) && (decide (x.item = 0))) == true) (.pointer (some ⟨b1, 0 + 2, none⟩)), pg (((decide (x.kind = 4)) && (decide (x.item = 0))) == true) (.int .u16 x.qty), pg (((decide (x.kind = 4)) && (decide (x.item = 0))) == true) (.bool (decide (x.qty = 0))), pv (.bool (((decide (x.kind = 4)) && (decide (x.item = 0))) && (decide (x.qty = 0)))), pv (.bool (((decide (x.kind = 4)) && (decide (x.item = 0))) && (decide (x.qty = 0))))] (fun _ _ => _) [13] (by kernel_rfl) hs ⟨?_, ?_, ?_, ?_, ?_, ?_, ?_, ?_, ?_, ?_, ?_, ?_, ?_, ?_, trivial⟩ ?_
      · exact ob [] [] rfl rfl fun D ρ w hs => L_fieldAddr FA_59_3 rfl ⟨rfl, hs⟩
      · exact ob [0] [] rfl rfl fun D ρ w hs => L_ld (V := .int .u8 x.kind) S1_5 hs 0 rfl rfl rfl ⟨rfl, hs⟩
      · exact ob [1] [] rfl rfl fun D ρ w hs => L_eql rfl rfl ⟨rfl, hs⟩
      · exact ob [2] [] rfl rfl fun D ρ w hs => L_move (V := .bool (decide (x.kind = 4))) rfl ⟨rfl, hs⟩
      · exact obg [3] [] (decide (x.kind = 4)) rfl (fun _ => rfl) rfl (fun _ _ _ _ h => h) fun D ρ w hG hs => L_fieldAddr FA_59_1 rfl ⟨rfl, hs⟩
      · exact obgy [3, 4] [] [4] (decide (x.kind = 4)) rfl (fun _ => rfl) rfl (fun _ _ _ _ h => h) (fun hG => ⟨hG, trivial⟩) fun D ρ w hG hs => L_ld (V := .int .u16 x.item) S1_31 hs 0 rfl rfl rfl ⟨rfl, hs⟩
      · exact obgy [3, 5] [] [5] (decide (x.kind = 4)) rfl (fun _ => rfl) rfl (fun _ _ _ _ h => h) (fun hG => ⟨hG, trivial⟩) fun D ρ w hG hs => L_eql rfl rfl ⟨rfl, hs⟩
      · exact ob [3, 6] [] rfl rfl fun D ρ w hs => L_andC (h' := decide (x.item = 0)) rfl rfl rfl ⟨rfl, hs⟩
      · exact ob [7] [] rfl rfl fun D ρ w hs => L_move (V := .bool ((decide (x.kind = 4)) && (decide (x.item = 0)))) rfl ⟨rfl, hs⟩
      · exact obg [8] [] ((decide (x.kind = 4)) && (decide (x.item = 0))) rfl (fun _ => rfl) rfl (fun _ _ _ _ h => h) fun D ρ w hG hs => L_fieldAddr FA_59_2 rfl ⟨rfl, hs⟩
      · exact obgy [8, 9] [] [9] ((decide (x.kind = 4)) && (decide (x.item = 0))) rfl (fun _ => rfl) rfl (fun _ _ _ _ h => h) (fun hG => ⟨hG, trivial⟩) fun D ρ w hG hs => L_ld (V := .int .u16 x.qty) S1_31 hs 0 rfl rfl rfl ⟨rfl, hs⟩
      · exact obgy [8, 10] [] [10] ((decide (x.kind = 4)) && (decide (x.item = 0))) rfl (fun _ => rfl) rfl (fun _ _ _ _ h => h) (fun hG => ⟨hG, trivial⟩) fun D ρ w hG hs => L_eql rfl rfl ⟨rfl, hs⟩
      · exact ob [8, 11] [] rfl rfl fun D ρ w hs => L_andC (h' := decide (x.qty = 0)) rfl rfl rfl ⟨rfl, hs⟩
      · exact ob [12] [] rfl rfl fun D ρ w hs => L_assign (V := .bool (((decide (x.kind = 4)) && (decide (x.item = 0))) && (decide (x.qty = 0)))) rfl ⟨rfl, hs⟩
      rintro ρ1 w5 ρ2 hρ hs
      replace hρ : ρ2 = upd (mix [12, 13, 14, 15, 16, 17, 18, 19, 20, 21, 22, 23, 24, 2] ρ1 _) 2 (.bool (((decide (x.kind = 4)) && (decide (x.item = 0))) && (decide (x.qty = 0)))) := hρ
      subst hρ
      refine W_ret ?_
      refine ⟨_, res_one (V := .bool (((decide (x.kind = 4)) && (decide (x.item = 0))) && (decide (x.qty = 0)))) Tryz.results46 rfl, ?_⟩
      refine ⟨congrArg Ending.returned ?_, hs.take 0⟩
      refine congrArg Value.bool ?_
      unfold shapedB
      have ⟨_, _, ⟨hq1, hq2⟩, _, _, _⟩ := hx
      simp_all [Bool.and_assoc]
      try omega
set_option maxRecDepth 20000 in
set_option maxHeartbeats 4000000 in
theorem rShaped_ok (w : World) (x : Cen) (hx : CenOk x) : Calls Tryz.prog 86 #[.agg (cec x).toArray] w (fun e w' => e = .returned (.bool (shapedB x)) ∧ Own w no w' []) := by
  refine calls_of_Wn (n := 25) Tryz.func86 rfl Tryz.ntmps86 rfl ?_
  have hs := Own.start w
  refine W_seq ?_
  refine W_region ?_
  refine RW_op (L_box (V := .agg (cec x).toArray) (cs := cec x) rfl rfl hs fun b1 w2 hs => ?_)
  refine RW_op (L_assign (V := .bool false) rfl ?_)
  refine RW_nil ?_
  refine W_seq ?_
  refine W_seq ?_
  refine W_region ?_
  refine RW_op (L_fieldAddr FA_88_3 rfl ?_)
  refine RW_op (L_ld (V := .int .u8 x.kind) S1_5 hs 0 rfl rfl rfl ?_)
  refine RW_nil ?_
  refine W_block ?_
  refine W_seq ?_
  refine W_region ?_
  refine RW_op (L_eql rfl rfl ?_)
  refine RW_op (L_assign (V := .bool (decide (x.kind = 1))) rfl ?_)
  refine RW_nil ?_
  refine W_cond (t := decide (x.kind = 1)) rfl (fun c3 => ?_) (fun c3 => ?_)
  ·
    replace c3 := of_decide_eq_true c3
    refine W_seq ?_
    refine W_region ?_
    refine RW_op (L_fieldAddr FA_88_2 rfl ?_)
    refine RW_op (L_ld (V := .int .u16 x.qty) S1_31 hs 0 rfl rfl rfl ?_)
    refine RW_op (L_geq rfl rfl ?_)
    refine RW_op (L_assign (V := .bool (decide (1 ≤ x.qty))) rfl ?_)
    refine RW_nil ?_
    refine W_ret ?_
    refine ⟨_, res_one (V := .bool (decide (1 ≤ x.qty))) Tryz.results86 rfl, ?_⟩
    refine ⟨congrArg Ending.returned ?_, hs.take 0⟩
    refine congrArg Value.bool ?_
    unfold shapedB
    have ⟨_, _, ⟨hq1, hq2⟩, _, _, _⟩ := hx
    simp_all [Bool.and_assoc]
    try omega
  ·
    replace c3 := of_decide_eq_false c3
    refine W_seq ?_
    refine W_region ?_
    refine RW_op (L_eql rfl rfl ?_)
    refine RW_op (L_assign (V := .bool (decide (x.kind = 2))) rfl ?_)
    refine RW_nil ?_
    refine W_cond (t := decide (x.kind = 2)) rfl (fun c4 => ?_) (fun c4 => ?_)
    ·
      replace c4 := of_decide_eq_true c4
      refine W_seq ?_
      refine W_region ?_
      refine RW_op (L_assign (V := .bool true) rfl ?_)
      refine RW_nil ?_
      refine W_ret ?_
      refine ⟨_, res_one (V := .bool true) Tryz.results86 rfl, ?_⟩
      refine ⟨congrArg Ending.returned ?_, hs.take 0⟩
      refine congrArg Value.bool ?_
      unfold shapedB
      have ⟨_, _, ⟨hq1, hq2⟩, _, _, _⟩ := hx
      simp_all [Bool.and_assoc]
      try omega
    ·
      replace c4 := of_decide_eq_false c4
      refine W_skip ?_
      refine W_seq ?_
      refine W_regO [some 12, some 13, some 14, some 15, some 16, some 17, some 18, some 19, some 20, some 21, some 22, some 23, some 24, some 2] [] [0, 1, 3, 7, 15, 31, 63, 127, 255, 511, 1023, 2047, 4095, 8191] [pv (.pointer (some ⟨b1, 0 + 3, none⟩)), pv (.int .u8 x.kind), pv (.bool (decide (x.kind = 4))), pv (.bool (decide (x.kind = 4))), pg ((decide (x.kind = 4)) == true) (.pointer (some ⟨b1, 0 + 1, none⟩)), pg ((decide (x.kind = 4)) == true) (.int .u16 x.item), pg ((decide (x.kind = 4)) == true) (.bool (decide (x.item = 0))), pv (.bool ((decide (x.kind = 4)) && (decide (x.item = 0)))), pv (.bool ((decide (x.kind = 4)) && (decide (x.item = 0)))), pg (((decide (x.kind = 4)) && (decide (x.item = 0))) == true) (.pointer (some ⟨b1, 0 + 2, none⟩)), pg (((decide (x.kind = 4)) && (decide (x.item = 0))) == true) (.int .u16 x.qty), pg (((decide (x.kind = 4)) && (decide (x.item = 0))) == true) (.bool (decide (x.qty = 0))), pv (.bool (((decide (x.kind = 4)) && (decide (x.item = 0))) && (decide (x.qty = 0)))), pv (.bool (((decide (x.kind = 4)) && (decide (x.item = 0))) && (decide (x.qty = 0))))] (fun _ _ => _) [13] (by kernel_rfl) hs ⟨?_, ?_, ?_, ?_, ?_, ?_, ?_, ?_, ?_, ?_, ?_, ?_, ?_, ?_, trivial⟩ ?_
      · exact ob [] [] rfl rfl fun D ρ w hs => L_fieldAddr FA_88_3 rfl ⟨rfl, hs⟩
      · exact ob [0] [] rfl rfl fun D ρ w hs => L_ld (V := .int .u8 x.kind) S1_5 hs 0 rfl rfl rfl ⟨rfl, hs⟩
      · exact ob [1] [] rfl rfl fun D ρ w hs => L_eql rfl rfl ⟨rfl, hs⟩
      · exact ob [2] [] rfl rfl fun D ρ w hs => L_move (V := .bool (decide (x.kind = 4))) rfl ⟨rfl, hs⟩
      · exact obg [3] [] (decide (x.kind = 4)) rfl (fun _ => rfl) rfl (fun _ _ _ _ h => h) fun D ρ w hG hs => L_fieldAddr FA_88_1 rfl ⟨rfl, hs⟩
      · exact obgy [3, 4] [] [4] (decide (x.kind = 4)) rfl (fun _ => rfl) rfl (fun _ _ _ _ h => h) (fun hG => ⟨hG, trivial⟩) fun D ρ w hG hs => L_ld (V := .int .u16 x.item) S1_31 hs 0 rfl rfl rfl ⟨rfl, hs⟩
      · exact obgy [3, 5] [] [5] (decide (x.kind = 4)) rfl (fun _ => rfl) rfl (fun _ _ _ _ h => h) (fun hG => ⟨hG, trivial⟩) fun D ρ w hG hs => L_eql rfl rfl ⟨rfl, hs⟩
      · exact ob [3, 6] [] rfl rfl fun D ρ w hs => L_andC (h' := decide (x.item = 0)) rfl rfl rfl ⟨rfl, hs⟩
      · exact ob [7] [] rfl rfl fun D ρ w hs => L_move (V := .bool ((decide (x.kind = 4)) && (decide (x.item = 0)))) rfl ⟨rfl, hs⟩
      · exact obg [8] [] ((decide (x.kind = 4)) && (decide (x.item = 0))) rfl (fun _ => rfl) rfl (fun _ _ _ _ h => h) fun D ρ w hG hs => L_fieldAddr FA_88_2 rfl ⟨rfl, hs⟩
      · exact obgy [8, 9] [] [9] ((decide (x.kind = 4)) && (decide (x.item = 0))) rfl (fun _ => rfl) rfl (fun _ _ _ _ h => h) (fun hG => ⟨hG, trivial⟩) fun D ρ w hG hs => L_ld (V := .int .u16 x.qty) S1_31 hs 0 rfl rfl rfl ⟨rfl, hs⟩
      · exact obgy [8, 10] [] [10] ((decide (x.kind = 4)) && (decide (x.item = 0))) rfl (fun _ => rfl) rfl (fun _ _ _ _ h => h) (fun hG => ⟨hG, trivial⟩) fun D ρ w hG hs => L_eql rfl rfl ⟨rfl, hs⟩
      · exact ob [8, 11] [] rfl rfl fun D ρ w hs => L_andC (h' := decide (x.qty = 0)) rfl rfl rfl ⟨rfl, hs⟩
      · exact ob [12] [] rfl rfl fun D ρ w hs => L_assign (V := .bool (((decide (x.kind = 4)) && (decide (x.item = 0))) && (decide (x.qty = 0)))) rfl ⟨rfl, hs⟩
      rintro ρ1 w5 ρ2 hρ hs
      replace hρ : ρ2 = upd (mix [12, 13, 14, 15, 16, 17, 18, 19, 20, 21, 22, 23, 24, 2] ρ1 _) 2 (.bool (((decide (x.kind = 4)) && (decide (x.item = 0))) && (decide (x.qty = 0)))) := hρ
      subst hρ
      refine W_ret ?_
      refine ⟨_, res_one (V := .bool (((decide (x.kind = 4)) && (decide (x.item = 0))) && (decide (x.qty = 0)))) Tryz.results86 rfl, ?_⟩
      refine ⟨congrArg Ending.returned ?_, hs.take 0⟩
      refine congrArg Value.bool ?_
      unfold shapedB
      have ⟨_, _, ⟨hq1, hq2⟩, _, _, _⟩ := hx
      simp_all [Bool.and_assoc]
      try omega
set_option maxRecDepth 20000 in
set_option maxHeartbeats 4000000 in
theorem find1_ok (w : World) (x : Lst) (c : Int) : Calls Tryz.prog 83 #[.agg (lsc x).toArray, .int .u16 c] w (fun e w' => e = .returned (.int .i64 (cmpI x.cart c)) ∧ Own w no w' []) := by
  refine calls_of_Wn (n := 9) Tryz.func83 rfl Tryz.ntmps83 rfl ?_
  have hs := Own.start w
  refine W_seq ?_
  refine W_region ?_
  refine RW_op (L_box (V := .agg (lsc x).toArray) (cs := lsc x) rfl rfl hs fun b1 w2 hs => ?_)
  refine RW_op (L_assign (V := .int .i64 0) rfl ?_)
  refine RW_nil ?_
  refine W_seq ?_
  refine W_region ?_
  refine RW_op (L_fieldAddr FA_87_0 rfl ?_)
  refine RW_op (L_ld (V := .int .u16 x.cart) S1_31 hs 0 rfl rfl rfl ?_)
  refine RW_op (L_move (V := .int .u16 c) rfl ?_)
  refine RW_op (L_callP (vs := [.int .u16 x.cart, .int .u16 c]) (V := .int .i64 (cmpI x.cart c)) EN_57 rfl rfl ?hc hs fun w3 hs => ?_)
  case hc => exact (cmp_uint16_ok _ x.cart c)
  refine RW_op (L_assign (V := .int .i64 (cmpI x.cart c)) rfl ?_)
  refine RW_nil ?_
  refine W_ret ?_
  refine ⟨_, res_one (V := .int .i64 (cmpI x.cart c)) Tryz.results83 rfl, ?_⟩
  refine ⟨congrArg Ending.returned ?_, hs.take 0⟩
  rfl
set_option maxRecDepth 20000 in
set_option maxHeartbeats 4000000 in
theorem sFind_ok (w : World) (kn : Vec) (v1 : Value) (a2 : Option Addr) (c2 : Nat) (ts : List Lst) (c : Int) (hlt : ts.length ≤ 100000) (hT : RisT ts) (hr2 : Rd w (.slice a2 ts.length c2) 2 (ts.map lsc)) : Calls Tryz.prog 45 #[.agg ((vc kn) ++ [(v1 : Value), (.slice a2 ts.length c2 : Value) ]).toArray, .int .u16 c] w (fun e w' => e = .returned (.tuple #[.int .i64 ((posT ts c : Nat) : Int), .bool (tickP ts c).isSome]) ∧ Own w no w' []) := by
  refine calls_of_Wn (n := 12) Tryz.func45 rfl Tryz.ntmps45 rfl ?_
  have hs := Own.start w
  refine W_seq ?_
  refine W_region ?_
  refine RW_op (L_box (V := .agg ((vc kn) ++ [(v1 : Value), (.slice a2 ts.length c2 : Value) ]).toArray) (cs := (vc kn) ++ [(v1 : Value), (.slice a2 ts.length c2 : Value) ]) rfl rfl hs fun b1 w2 hs => ?_)
  refine RW_op (L_assign (V := .int .i64 0) rfl ?_)
  refine RW_op (L_assign (V := .bool false) rfl ?_)
  refine RW_nil ?_
  refine W_seq ?_
  refine W_region ?_
  refine RW_op (L_fieldAddr FA_39_2 rfl ?_)
  refine RW_op (L_ld (V := .slice a2 ts.length c2) S1_37 hs 0 rfl rfl rfl ?_)
  refine RW_op (L_move (V := .int .u16 c) rfl ?_)
  refine RW_op (L_callPV (vs := [.slice a2 ts.length c2, .int .u16 c, .func (.func 83) #[] #[]]) (V := .tuple #[.int .i64 ((posB (fun x => decide ((fun x : Lst => cmpI x.cart c) x < 0)) ts : Nat) : Int), .bool (decide (posB (fun x => decide ((fun x : Lst => cmpI x.cart c) x < 0)) ts < ts.length) && decide ((fun x : Lst => cmpI x.cart c) (gd ts (posB (fun x => decide ((fun x : Lst => cmpI x.cart c) x < 0)) ts)) = 0))]) (V' := .tuple #[.int .i64 ((posT ts c : Nat) : Int), .bool ((tickP ts c).isSome)]) (by rw [← find_found hT c]; rfl) EN_82 rfl rfl (bsf87_ok _ a2 c2 ts c (by omega) 83 EN_83 (fun x : Lst => cmpI x.cart c) (fun w x => find1_ok w x c) (posT_mono hT c) (Rd.own' hr2 hs)) hs fun w3 hs => ?_)
  refine RW_op (L_extract (V := .int .i64 ((posT ts c : Nat) : Int)) rfl rfl ?_)
  refine RW_op (L_extract (V := .bool ((tickP ts c).isSome)) rfl rfl ?_)
  refine RW_op (L_assign (V := .int .i64 ((posT ts c : Nat) : Int)) rfl ?_)
  refine RW_op (L_assign (V := .bool ((tickP ts c).isSome)) rfl ?_)
  refine RW_nil ?_
  refine W_ret ?_
  refine ⟨_, res_two (U := .int .i64 ((posT ts c : Nat) : Int)) (V := .bool ((tickP ts c).isSome)) Tryz.results45 rfl rfl, ?_⟩
  refine ⟨congrArg Ending.returned ?_, hs.take 0⟩
  rfl
end Tt
end Go.Proofs
namespace Go.Proofs
open Go Go.Vx Go.RowKit
namespace Tt
set_option maxRecDepth 20000 in
set_option maxHeartbeats 4000000 in
theorem vdot_ok (w : World) (d : Dot) : Calls Tryz.prog 84 #[.agg (dc d).toArray] w (fun e w' => e = .returned (.bool (dotB d)) ∧ Own w no w' []) := by
  refine calls_of_Wn (n := 16) Tryz.func84 rfl Tryz.ntmps84 rfl ?_
  have hs := Own.start w
  refine W_seq ?_
  refine W_region ?_
  refine RW_op (L_box (V := .agg (dc d).toArray) (cs := dc d) rfl rfl hs fun b1 w2 hs => ?_)
  refine RW_op (L_assign (V := .bool false) rfl ?_)
  refine RW_nil ?_
  refine W_seq ?_
  refine W_regO [some 3, some 4, some 5, some 6, some 7, some 8, some 9, some 10, some 11, some 12, some 13, some 14, some 15, some 2] [] [0, 1, 3, 7, 15, 31, 63, 127, 255, 511, 1023, 2047, 4095, 8191] [pv (.pointer (some ⟨b1, 0 + 0, none⟩)), pv (.int .u8 d.rep), pv (.bool (decide (d.rep < 16))), pv (.bool (decide (d.rep < 16))), pg ((decide (d.rep < 16)) == true) (.pointer (some ⟨b1, 0 + 1, none⟩)), pg ((decide (d.rep < 16)) == true) (.int .u32 d.seq), pg ((decide (d.rep < 16)) == true) (.bool (decide (1 ≤ d.seq))), pv (.bool ((decide (d.rep < 16)) && (decide (1 ≤ d.seq)))), pv (.bool ((decide (d.rep < 16)) && (decide (1 ≤ d.seq)))), pg (((decide (d.rep < 16)) && (decide (1 ≤ d.seq))) == true) (.pointer (some ⟨b1, 0 + 1, none⟩)), pg (((decide (d.rep < 16)) && (decide (1 ≤ d.seq))) == true) (.int .u32 d.seq), pg (((decide (d.rep < 16)) && (decide (1 ≤ d.seq))) == true) (.bool (decide (d.seq ≤ 1048576))), pv (.bool (((decide (d.rep < 16)) && (decide (1 ≤ d.seq))) && (decide (d.seq ≤ 1048576)))), pv (.bool (((decide (d.rep < 16)) && (decide (1 ≤ d.seq))) && (decide (d.seq ≤ 1048576))))] (fun _ _ => _) [13] (by kernel_rfl) hs ⟨?_, ?_, ?_, ?_, ?_, ?_, ?_, ?_, ?_, ?_, ?_, ?_, ?_, ?_, trivial⟩ ?_
  · exact ob [] [] rfl rfl fun D ρ w hs => L_fieldAddr FA_30_0 rfl ⟨rfl, hs⟩
  · exact ob [0] [] rfl rfl fun D ρ w hs => L_ld (V := .int .u8 d.rep) S1_5 hs 0 rfl rfl rfl ⟨rfl, hs⟩
  · exact ob [1] [] rfl rfl fun D ρ w hs => L_lss rfl rfl ⟨rfl, hs⟩
  · exact ob [2] [] rfl rfl fun D ρ w hs => L_move (V := .bool (decide (d.rep < 16))) rfl ⟨rfl, hs⟩
  · exact obg [3] [] (decide (d.rep < 16)) rfl (fun _ => rfl) rfl (fun _ _ _ _ h => h) fun D ρ w hG hs => L_fieldAddr FA_30_1 rfl ⟨rfl, hs⟩
  · exact obgy [3, 4] [] [4] (decide (d.rep < 16)) rfl (fun _ => rfl) rfl (fun _ _ _ _ h => h) (fun hG => ⟨hG, trivial⟩) fun D ρ w hG hs => L_ld (V := .int .u32 d.seq) S1_22 hs 0 rfl rfl rfl ⟨rfl, hs⟩
  · exact obgy [3, 5] [] [5] (decide (d.rep < 16)) rfl (fun _ => rfl) rfl (fun _ _ _ _ h => h) (fun hG => ⟨hG, trivial⟩) fun D ρ w hG hs => L_geq rfl rfl ⟨rfl, hs⟩
  · exact ob [3, 6] [] rfl rfl fun D ρ w hs => L_andC (h' := decide (1 ≤ d.seq)) rfl rfl rfl ⟨rfl, hs⟩
  · exact ob [7] [] rfl rfl fun D ρ w hs => L_move (V := .bool ((decide (d.rep < 16)) && (decide (1 ≤ d.seq)))) rfl ⟨rfl, hs⟩
  · exact obg [8] [] ((decide (d.rep < 16)) && (decide (1 ≤ d.seq))) rfl (fun _ => rfl) rfl (fun _ _ _ _ h => h) fun D ρ w hG hs => L_fieldAddr FA_30_1 rfl ⟨rfl, hs⟩
  · exact obgy [8, 9] [] [9] ((decide (d.rep < 16)) && (decide (1 ≤ d.seq))) rfl (fun _ => rfl) rfl (fun _ _ _ _ h => h) (fun hG => ⟨hG, trivial⟩) fun D ρ w hG hs => L_ld (V := .int .u32 d.seq) S1_22 hs 0 rfl rfl rfl ⟨rfl, hs⟩
  · exact obgy [8, 10] [] [10] ((decide (d.rep < 16)) && (decide (1 ≤ d.seq))) rfl (fun _ => rfl) rfl (fun _ _ _ _ h => h) (fun hG => ⟨hG, trivial⟩) fun D ρ w hG hs => L_leq rfl rfl ⟨rfl, hs⟩
  · exact ob [8, 11] [] rfl rfl fun D ρ w hs => L_andC (h' := decide (d.seq ≤ 1048576)) rfl rfl rfl ⟨rfl, hs⟩
  · exact ob [12] [] rfl rfl fun D ρ w hs => L_assign (V := .bool (((decide (d.rep < 16)) && (decide (1 ≤ d.seq))) && (decide (d.seq ≤ 1048576)))) rfl ⟨rfl, hs⟩
  rintro ρ1 w3 ρ2 hρ hs
  replace hρ : ρ2 = upd (mix [3, 4, 5, 6, 7, 8, 9, 10, 11, 12, 13, 14, 15, 2] ρ1 _) 2 (.bool (((decide (d.rep < 16)) && (decide (1 ≤ d.seq))) && (decide (d.seq ≤ 1048576)))) := hρ
  subst hρ
  refine W_ret ?_
  refine ⟨_, res_one (V := .bool (((decide (d.rep < 16)) && (decide (1 ≤ d.seq))) && (decide (d.seq ≤ 1048576)))) Tryz.results84 rfl, ?_⟩
  refine ⟨congrArg Ending.returned ?_, hs.take 0⟩
  rfl
set_option maxRecDepth 20000 in
set_option maxHeartbeats 4000000 in
theorem rDot_ok (w : World) (d : Dot) : Calls Tryz.prog 87 #[.agg (dc d).toArray] w (fun e w' => e = .returned (.bool (dotB d)) ∧ Own w no w' []) := by
  refine calls_of_Wn (n := 16) Tryz.func87 rfl Tryz.ntmps87 rfl ?_
  have hs := Own.start w
  refine W_seq ?_
  refine W_region ?_
  refine RW_op (L_box (V := .agg (dc d).toArray) (cs := dc d) rfl rfl hs fun b1 w2 hs => ?_)
  refine RW_op (L_assign (V := .bool false) rfl ?_)
  refine RW_nil ?_
  refine W_seq ?_
  refine W_regO [some 3, some 4, some 5, some 6, some 7, some 8, some 9, some 10, some 11, some 12, some 13, some 14, some 15, some 2] [] [0, 1, 3, 7, 15, 31, 63, 127, 255, 511, 1023, 2047, 4095, 8191] [pv (.pointer (some ⟨b1, 0 + 0, none⟩)), pv (.int .u8 d.rep), pv (.bool (decide (d.rep < 16))), pv (.bool (decide (d.rep < 16))), pg ((decide (d.rep < 16)) == true) (.pointer (some ⟨b1, 0 + 1, none⟩)), pg ((decide (d.rep < 16)) == true) (.int .u32 d.seq), pg ((decide (d.rep < 16)) == true) (.bool (decide (1 ≤ d.seq))), pv (.bool ((decide (d.rep < 16)) && (decide (1 ≤ d.seq)))), pv (.bool ((decide (d.rep < 16)) && (decide (1 ≤ d.seq)))), pg (((decide (d.rep < 16)) && (decide (1 ≤ d.seq))) == true) (.pointer (some ⟨b1, 0 + 1, none⟩)), pg (((decide (d.rep < 16)) && (decide (1 ≤ d.seq))) == true) (.int .u32 d.seq), pg (((decide (d.rep < 16)) && (decide (1 ≤ d.seq))) == true) (.bool (decide (d.seq ≤ 1048576))), pv (.bool (((decide (d.rep < 16)) && (decide (1 ≤ d.seq))) && (decide (d.seq ≤ 1048576)))), pv (.bool (((decide (d.rep < 16)) && (decide (1 ≤ d.seq))) && (decide (d.seq ≤ 1048576))))] (fun _ _ => _) [13] (by kernel_rfl) hs ⟨?_, ?_, ?_, ?_, ?_, ?_, ?_, ?_, ?_, ?_, ?_, ?_, ?_, ?_, trivial⟩ ?_
  · exact ob [] [] rfl rfl fun D ρ w hs => L_fieldAddr FA_30_0 rfl ⟨rfl, hs⟩
  · exact ob [0] [] rfl rfl fun D ρ w hs => L_ld (V := .int .u8 d.rep) S1_5 hs 0 rfl rfl rfl ⟨rfl, hs⟩
  · exact ob [1] [] rfl rfl fun D ρ w hs => L_lss rfl rfl ⟨rfl, hs⟩
  · exact ob [2] [] rfl rfl fun D ρ w hs => L_move (V := .bool (decide (d.rep < 16))) rfl ⟨rfl, hs⟩
  · exact obg [3] [] (decide (d.rep < 16)) rfl (fun _ => rfl) rfl (fun _ _ _ _ h => h) fun D ρ w hG hs => L_fieldAddr FA_30_1 rfl ⟨rfl, hs⟩
  · exact obgy [3, 4] [] [4] (decide (d.rep < 16)) rfl (fun _ => rfl) rfl (fun _ _ _ _ h => h) (fun hG => ⟨hG, trivial⟩) fun D ρ w hG hs => L_ld (V := .int .u32 d.seq) S1_22 hs 0 rfl rfl rfl ⟨rfl, hs⟩
  · exact obgy [3, 5] [] [5] (decide (d.rep < 16)) rfl (fun _ => rfl) rfl (fun _ _ _ _ h => h) (fun hG => ⟨hG, trivial⟩) fun D ρ w hG hs => L_geq rfl rfl ⟨rfl, hs⟩
  · exact ob [3, 6] [] rfl rfl fun D ρ w hs => L_andC (h' := decide (1 ≤ d.seq)) rfl rfl rfl ⟨rfl, hs⟩
  · exact ob [7] [] rfl rfl fun D ρ w hs => L_move (V := .bool ((decide (d.rep < 16)) && (decide (1 ≤ d.seq)))) rfl ⟨rfl, hs⟩
  · exact obg [8] [] ((decide (d.rep < 16)) && (decide (1 ≤ d.seq))) rfl (fun _ => rfl) rfl (fun _ _ _ _ h => h) fun D ρ w hG hs => L_fieldAddr FA_30_1 rfl ⟨rfl, hs⟩
  · exact obgy [8, 9] [] [9] ((decide (d.rep < 16)) && (decide (1 ≤ d.seq))) rfl (fun _ => rfl) rfl (fun _ _ _ _ h => h) (fun hG => ⟨hG, trivial⟩) fun D ρ w hG hs => L_ld (V := .int .u32 d.seq) S1_22 hs 0 rfl rfl rfl ⟨rfl, hs⟩
  · exact obgy [8, 10] [] [10] ((decide (d.rep < 16)) && (decide (1 ≤ d.seq))) rfl (fun _ => rfl) rfl (fun _ _ _ _ h => h) (fun hG => ⟨hG, trivial⟩) fun D ρ w hG hs => L_leq rfl rfl ⟨rfl, hs⟩
  · exact ob [8, 11] [] rfl rfl fun D ρ w hs => L_andC (h' := decide (d.seq ≤ 1048576)) rfl rfl rfl ⟨rfl, hs⟩
  · exact ob [12] [] rfl rfl fun D ρ w hs => L_assign (V := .bool (((decide (d.rep < 16)) && (decide (1 ≤ d.seq))) && (decide (d.seq ≤ 1048576)))) rfl ⟨rfl, hs⟩
  rintro ρ1 w3 ρ2 hρ hs
  replace hρ : ρ2 = upd (mix [3, 4, 5, 6, 7, 8, 9, 10, 11, 12, 13, 14, 15, 2] ρ1 _) 2 (.bool (((decide (d.rep < 16)) && (decide (1 ≤ d.seq))) && (decide (d.seq ≤ 1048576)))) := hρ
  subst hρ
  refine W_ret ?_
  refine ⟨_, res_one (V := .bool (((decide (d.rep < 16)) && (decide (1 ≤ d.seq))) && (decide (d.seq ≤ 1048576)))) Tryz.results87 rfl, ?_⟩
  refine ⟨congrArg Ending.returned ?_, hs.take 0⟩
  rfl
set_option maxRecDepth 20000 in
set_option maxHeartbeats 4000000 in
theorem vHas_ok (w : World) (v : Vec) (d : Dot) (hd : DotOk d) : Calls Tryz.prog 47 #[.agg (vc v).toArray, .agg (dc d).toArray] w (fun e w' => e = .returned (.bool (hasB v d)) ∧ Own w no w' []) := by
  refine calls_of_Wn (n := 16) Tryz.func47 rfl Tryz.ntmps47 rfl ?_
  have hs := Own.start w
  have ⟨⟨hd1, hd2⟩, hd3, hd4⟩ := hd
  refine W_seq ?_
  refine W_region ?_
  refine RW_op (L_box (V := .agg (vc v).toArray) (cs := vc v) rfl rfl hs fun b1 w2 hs => ?_)
  refine RW_op (L_box (V := .agg (dc d).toArray) (cs := dc d) rfl rfl hs fun b3 w4 hs => ?_)
  refine RW_op (L_assign (V := .bool false) rfl ?_)
  refine RW_nil ?_
  refine W_seq ?_
  refine W_regD HM [some 5, some 6, some 7, some 8, some 9, some 10, some 11, some 12, some 13, some 14, some 15, some 4] [] [0, 1, 3, 7, 15, 7, 39, 103, 231, 511, 1023, 2047] [pv (.agg (dc d).toArray), pv (.bool (dotB d)), pv (.bool (dotB d)), pg ((dotB d) == true) (.pointer (some ⟨b3, 0 + 1, none⟩)), pg ((dotB d) == true) (.int .u32 d.seq), pg ((dotB d) == true) (.pointer (some ⟨b3, 0 + 0, none⟩)), pg ((dotB d) == true) (.int .u8 d.rep), pg ((dotB d) == true) (.pointer (some ⟨b1, 0 + d.rep.toNat, none⟩)), pg ((dotB d) == true) (.int .u32 (vat v d.rep.toNat)), pg ((dotB d) == true) (.bool (decide (d.seq ≤ vat v d.rep.toNat))), pv (.bool ((dotB d) && (decide (d.seq ≤ vat v d.rep.toNat)))), pv (.bool ((dotB d) && (decide (d.seq ≤ vat v d.rep.toNat))))] (fun _ _ => _) [11] (by kernel_rfl) hs ⟨?_, ?_, ?_, ?_, ?_, ?_, ?_, ?_, ?_, ?_, ?_, ?_, trivial⟩ ?_
  · exact ob [] [] rfl rfl fun D ρ w hs => L_ldW (cs := dc d) SA_30 hs 1 rfl rfl rfl ⟨rfl, hs⟩
  · exact ob [0] [] rfl rfl fun D ρ w hs => L_callP (vs := [.agg (dc d).toArray]) (V := .bool (dotB d)) EN_84 rfl rfl (vdot_ok _ d) hs fun _ hs => ⟨rfl, hs⟩
  · exact ob [1] [] rfl rfl fun D ρ w hs => L_move (V := .bool (dotB d)) rfl ⟨rfl, hs⟩
  · refine obg [2] [] (dotB d) rfl (fun _ => rfl) rfl (fun _ _ _ _ h => h) fun D ρ w hG hs => ?_
    have hb := dotB_spec (eq_of_beq hG)
    exact L_fieldAddr FA_30_1 rfl ⟨rfl, hs⟩
  · refine obgy [2, 3] [] [3] (dotB d) rfl (fun _ => rfl) rfl (fun _ _ _ _ h => h) (fun hG => ⟨hG, trivial⟩) fun D ρ w hG hs => ?_
    have hb := dotB_spec (eq_of_beq hG)
    exact L_ld (V := .int .u32 d.seq) S1_22 hs 1 rfl rfl rfl ⟨rfl, hs⟩
  · refine obg [2] [] (dotB d) rfl (fun _ => rfl) rfl (fun _ _ _ _ h => h) fun D ρ w hG hs => ?_
    have hb := dotB_spec (eq_of_beq hG)
    exact L_fieldAddr FA_30_0 rfl ⟨rfl, hs⟩
  · refine obgy [2, 5] [] [5] (dotB d) rfl (fun _ => rfl) rfl (fun _ _ _ _ h => h) (fun hG => ⟨hG, trivial⟩) fun D ρ w hG hs => ?_
    have hb := dotB_spec (eq_of_beq hG)
    exact L_ld (V := .int .u8 d.rep) S1_5 hs 1 rfl rfl rfl ⟨rfl, hs⟩
  · refine obgy [2, 6] [] [6] (dotB d) rfl (fun _ => rfl) rfl (fun _ _ _ _ h => h) (fun hG => ⟨hG, trivial⟩) fun D ρ w hG hs => ?_
    have hb := dotB_spec (eq_of_beq hG)
    exact L_ixArr1 UD_24 S1_22.1 rfl rfl (by omega) (by omega) ⟨rfl, hs⟩
  · refine obgy [2, 7] [] [7] (dotB d) rfl (fun _ => rfl) rfl (fun _ _ _ _ h => h) (fun hG => ⟨hG, trivial⟩) fun D ρ w hG hs => ?_
    have hb := dotB_spec (eq_of_beq hG)
    exact L_ld (V := .int .u32 (vat v d.rep.toNat)) S1_22 hs 0 rfl rfl (vc_atO (by omega) (by omega)) ⟨rfl, hs⟩
  · refine obgy [2, 4, 8] [] [4, 8] (dotB d) rfl (fun _ => rfl) rfl (fun _ _ _ _ h => h) (fun hG => ⟨hG, hG, trivial⟩) fun D ρ w hG hs => ?_
    have hb := dotB_spec (eq_of_beq hG)
    exact L_leq rfl rfl ⟨rfl, hs⟩
  · exact ob [2, 9] [] rfl rfl fun D ρ w hs => L_andC (h' := decide (d.seq ≤ vat v d.rep.toNat)) rfl rfl rfl ⟨rfl, hs⟩
  · exact ob [10] [] rfl rfl fun D ρ w hs => L_assign (V := .bool ((dotB d) && (decide (d.seq ≤ vat v d.rep.toNat)))) rfl ⟨rfl, hs⟩
  rintro ρ1 w6 ρ2 hρ hs
  replace hρ : ρ2 = upd (mix [5, 6, 7, 8, 9, 10, 11, 12, 13, 14, 15, 4] ρ1 _) 4 (.bool ((dotB d) && (decide (d.seq ≤ vat v d.rep.toNat)))) := hρ
  subst hρ
  refine W_ret ?_
  refine ⟨_, res_one (V := .bool ((dotB d) && (decide (d.seq ≤ vat v d.rep.toNat)))) Tryz.results47 rfl, ?_⟩
  refine ⟨congrArg Ending.returned ?_, hs.take 0⟩
  rfl
set_option maxRecDepth 20000 in
set_option maxHeartbeats 4000000 in
theorem rHas_ok (w : World) (v : Vec) (d : Dot) (hd : DotOk d) : Calls Tryz.prog 52 #[.agg (vc v).toArray, .agg (dc d).toArray] w (fun e w' => e = .returned (.bool (hasB v d)) ∧ Own w no w' []) := by
  refine calls_of_Wn (n := 16) Tryz.func52 rfl Tryz.ntmps52 rfl ?_
  have hs := Own.start w
  have ⟨⟨hd1, hd2⟩, hd3, hd4⟩ := hd
  refine W_seq ?_
  refine W_region ?_
  refine RW_op (L_box (V := .agg (vc v).toArray) (cs := vc v) rfl rfl hs fun b1 w2 hs => ?_)
  refine RW_op (L_box (V := .agg (dc d).toArray) (cs := dc d) rfl rfl hs fun b3 w4 hs => ?_)
  refine RW_op (L_assign (V := .bool false) rfl ?_)
  refine RW_nil ?_
  refine W_seq ?_
  refine W_regD HM [some 5, some 6, some 7, some 8, some 9, some 10, some 11, some 12, some 13, some 14, some 15, some 4] [] [0, 1, 3, 7, 15, 7, 39, 103, 231, 511, 1023, 2047] [pv (.agg (dc d).toArray), pv (.bool (dotB d)), pv (.bool (dotB d)), pg ((dotB d) == true) (.pointer (some ⟨b3, 0 + 1, none⟩)), pg ((dotB d) == true) (.int .u32 d.seq), pg ((dotB d) == true) (.pointer (some ⟨b3, 0 + 0, none⟩)), pg ((dotB d) == true) (.int .u8 d.rep), pg ((dotB d) == true) (.pointer (some ⟨b1, 0 + d.rep.toNat, none⟩)), pg ((dotB d) == true) (.int .u32 (vat v d.rep.toNat)), pg ((dotB d) == true) (.bool (decide (d.seq ≤ vat v d.rep.toNat))), pv (.bool ((dotB d) && (decide (d.seq ≤ vat v d.rep.toNat)))), pv (.bool ((dotB d) && (decide (d.seq ≤ vat v d.rep.toNat))))] (fun _ _ => _) [11] (by kernel_rfl) hs ⟨?_, ?_, ?_, ?_, ?_, ?_, ?_, ?_, ?_, ?_, ?_, ?_, trivial⟩ ?_
  · exact ob [] [] rfl rfl fun D ρ w hs => L_ldW (cs := dc d) SA_30 hs 1 rfl rfl rfl ⟨rfl, hs⟩
  · exact ob [0] [] rfl rfl fun D ρ w hs => L_callP (vs := [.agg (dc d).toArray]) (V := .bool (dotB d)) EN_87 rfl rfl (rDot_ok _ d) hs fun _ hs => ⟨rfl, hs⟩
  · exact ob [1] [] rfl rfl fun D ρ w hs => L_move (V := .bool (dotB d)) rfl ⟨rfl, hs⟩
  · refine obg [2] [] (dotB d) rfl (fun _ => rfl) rfl (fun _ _ _ _ h => h) fun D ρ w hG hs => ?_
    have hb := dotB_spec (eq_of_beq hG)
    exact L_fieldAddr FA_30_1 rfl ⟨rfl, hs⟩
  · refine obgy [2, 3] [] [3] (dotB d) rfl (fun _ => rfl) rfl (fun _ _ _ _ h => h) (fun hG => ⟨hG, trivial⟩) fun D ρ w hG hs => ?_
    have hb := dotB_spec (eq_of_beq hG)
    exact L_ld (V := .int .u32 d.seq) S1_22 hs 1 rfl rfl rfl ⟨rfl, hs⟩
  · refine obg [2] [] (dotB d) rfl (fun _ => rfl) rfl (fun _ _ _ _ h => h) fun D ρ w hG hs => ?_
    have hb := dotB_spec (eq_of_beq hG)
    exact L_fieldAddr FA_30_0 rfl ⟨rfl, hs⟩
  · refine obgy [2, 5] [] [5] (dotB d) rfl (fun _ => rfl) rfl (fun _ _ _ _ h => h) (fun hG => ⟨hG, trivial⟩) fun D ρ w hG hs => ?_
    have hb := dotB_spec (eq_of_beq hG)
    exact L_ld (V := .int .u8 d.rep) S1_5 hs 1 rfl rfl rfl ⟨rfl, hs⟩
  · refine obgy [2, 6] [] [6] (dotB d) rfl (fun _ => rfl) rfl (fun _ _ _ _ h => h) (fun hG => ⟨hG, trivial⟩) fun D ρ w hG hs => ?_
    have hb := dotB_spec (eq_of_beq hG)
    exact L_ixArr1 UD_24 S1_22.1 rfl rfl (by omega) (by omega) ⟨rfl, hs⟩
  · refine obgy [2, 7] [] [7] (dotB d) rfl (fun _ => rfl) rfl (fun _ _ _ _ h => h) (fun hG => ⟨hG, trivial⟩) fun D ρ w hG hs => ?_
    have hb := dotB_spec (eq_of_beq hG)
    exact L_ld (V := .int .u32 (vat v d.rep.toNat)) S1_22 hs 0 rfl rfl (vc_atO (by omega) (by omega)) ⟨rfl, hs⟩
  · refine obgy [2, 4, 8] [] [4, 8] (dotB d) rfl (fun _ => rfl) rfl (fun _ _ _ _ h => h) (fun hG => ⟨hG, hG, trivial⟩) fun D ρ w hG hs => ?_
    have hb := dotB_spec (eq_of_beq hG)
    exact L_leq rfl rfl ⟨rfl, hs⟩
  · exact ob [2, 9] [] rfl rfl fun D ρ w hs => L_andC (h' := decide (d.seq ≤ vat v d.rep.toNat)) rfl rfl rfl ⟨rfl, hs⟩
  · exact ob [10] [] rfl rfl fun D ρ w hs => L_assign (V := .bool ((dotB d) && (decide (d.seq ≤ vat v d.rep.toNat)))) rfl ⟨rfl, hs⟩
  rintro ρ1 w6 ρ2 hρ hs
  replace hρ : ρ2 = upd (mix [5, 6, 7, 8, 9, 10, 11, 12, 13, 14, 15, 4] ρ1 _) 4 (.bool ((dotB d) && (decide (d.seq ≤ vat v d.rep.toNat)))) := hρ
  subst hρ
  refine W_ret ?_
  refine ⟨_, res_one (V := .bool ((dotB d) && (decide (d.seq ≤ vat v d.rep.toNat)))) Tryz.results52 rfl, ?_⟩
  refine ⟨congrArg Ending.returned ?_, hs.take 0⟩
  rfl
set_option maxRecDepth 20000 in
set_option maxHeartbeats 4000000 in
theorem vRight_ok (w : World) (v : Vec) (n : Int) (hv : VecOk v) : Calls Tryz.prog 44 #[.agg (vc v).toArray, .int .i64 n] w (fun e w' => e = .returned (.bool (rightB v n)) ∧ Own w no w' []) := by
  refine calls_of_Wn (n := 30) Tryz.func44 rfl Tryz.ntmps44 rfl ?_
  have hs := Own.start w
  refine W_seq ?_
  refine W_region ?_
  refine RW_op (L_box (V := .agg (vc v).toArray) (cs := vc v) rfl rfl hs fun b1 w2 hs => ?_)
  refine RW_op (L_assign (V := .bool false) rfl ?_)
  refine RW_nil ?_
  refine W_seq ?_
  refine W_seq ?_
  refine W_regO [some 7, some 8, some 9, some 10, some 11, some 12] [] [0, 1, 3, 7, 15, 31] [pv (.int .i64 n), pv (.bool (decide (n < 1))), pv (.bool (decide (n < 1))), pg ((decide (n < 1)) == false) (.int .i64 n), pg ((decide (n < 1)) == false) (.bool (decide (16 < n))), pv (.bool ((decide (n < 1)) || (decide (16 < n))))] (fun _ _ => _) [5] (by kernel_rfl) hs ⟨?_, ?_, ?_, ?_, ?_, ?_, trivial⟩ ?_
  · exact ob [] [] rfl rfl fun D ρ w hs => L_move (V := .int .i64 n) rfl ⟨rfl, hs⟩
  · exact ob [0] [] rfl rfl fun D ρ w hs => L_lss rfl rfl ⟨rfl, hs⟩
  · exact ob [1] [] rfl rfl fun D ρ w hs => L_move (V := .bool (decide (n < 1))) rfl ⟨rfl, hs⟩
  · exact obg [2] [] (decide (n < 1)) rfl (fun _ => rfl) rfl (fun _ _ _ _ h => h) fun D ρ w hG hs => L_move (V := .int .i64 n) rfl ⟨rfl, hs⟩
  · exact obgy [2, 3] [] [3] (decide (n < 1)) rfl (fun _ => rfl) rfl (fun _ _ _ _ h => h) (fun hG => ⟨hG, trivial⟩) fun D ρ w hG hs => L_gtr rfl rfl ⟨rfl, hs⟩
  · exact ob [2, 4] [] rfl rfl fun D ρ w hs => L_orC (h' := decide (16 < n)) rfl rfl rfl ⟨rfl, hs⟩
  rintro ρ1 w3 ρ2 hρ hs
  replace hρ : ρ2 = upd (mix [7, 8, 9, 10, 11, 12] ρ1 _) 12 (.bool ((decide (n < 1)) || (decide (16 < n)))) := hρ
  subst hρ
  refine W_cond (t := (decide (n < 1)) || (decide (16 < n))) rfl (fun c4 => ?_) (fun c4 => ?_)
  ·
    refine W_seq ?_
    refine W_region ?_
    refine RW_op (L_assign (V := .bool false) rfl ?_)
    refine RW_nil ?_
    refine W_ret ?_
    refine ⟨_, res_one (V := .bool false) Tryz.results44 rfl, ?_⟩
    refine ⟨congrArg Ending.returned ?_, hs.take 0⟩
    exact congrArg Value.bool (rightB_out c4).symm
  ·
    have c4r := or_r c4
    replace c4 := or_l c4
    replace c4 := of_decide_eq_false c4
    replace c4r := of_decide_eq_false c4r
    refine W_skip ?_
    refine W_seq ?_
    refine W_seq ?_
    refine W_region ?_
    refine RW_op (L_ldW (cs := vc v) SA_24 hs 0 rfl rfl rfl ?_)
    refine RW_op (L_move (V := .int .i64 0) rfl ?_)
    refine RW_nil ?_
    refine W_block ?_
    refine W_loopI (fun ρ μ ρ' w' => ∃ (ρo : Env) (k : Nat), ρ' = upd (mix [4, 5, 6, 14, 15, 16, 17, 18, 19, 20, 21, 22, 23, 24, 25, 26, 27, 28, 29] ρo ρ) 14 (.int .i64 (k : Int)) ∧ (k ≤ 16) ∧ (∀ j : Nat, j < k → okAt v n j = true) ∧ μ = 16 - k ∧ Own w no w' [blk b1 (vc v) 24]) ?_ ?_
    · exact ⟨_, _, 0, upd_of (mix_of (ds := [4, 5, 6, 14, 15, 16, 17, 18, 19, 20, 21, 22, 23, 24, 25, 26, 27, 28, 29]) (Agr.refl _ _)) rfl, (by omega), (fun j hj => absurd hj (Nat.not_lt_zero j)), rfl, hs⟩
    · rintro μ ρ' w5 ⟨ρo, k, rfl, hk, hok, rfl, hs⟩
      have hv1 := vat_ok hv ((k : Int).toNat)
      have hkk : ((k : Int)).toNat = k := rfl
      refine W_seq ?_
      refine W_region ?_
      refine RW_op (L_lss rfl rfl ?_)
      refine RW_nil ?_
      refine W_seq ?_
      refine W_cond (t := decide ((k : Int) < 16)) rfl (fun c6 => ?_) (fun c6 => ?_)
      ·
        replace c6 := of_decide_eq_true c6
        refine W_skip ?_
        refine W_seq ?_
        refine W_block ?_
        refine W_seq ?_
        refine W_region ?_
        refine RW_op (L_move (V := .int .i64 (k : Int)) rfl ?_)
        refine RW_op (L_index (V := .int .u32 (vat v k)) UD_24 S1_22 rfl rfl (by omega) (by omega) (by rw [List.getElem?_toArray]; exact vc_at _ _ (by omega)) ?_)
        refine RW_op (L_assign (V := .int .i64 (k : Int)) rfl ?_)
        refine RW_op (L_assign (V := .int .u32 (vat v k)) rfl ?_)
        refine RW_nil ?_
        refine W_seq ?_
        refine W_regO [some 18, some 19, some 20, some 21, some 22, some 23, some 24, some 25, some 26, some 27, some 28] [] [0, 1, 3, 7, 7, 31, 63, 127, 255, 511, 1023] [pv (.int .u32 (vat v k)), pv (.bool (decide (1048576 < vat v k))), pv (.bool (decide (1048576 < vat v k))), pg ((decide (1048576 < vat v k)) == false) (.int .i64 (k : Int)), pg ((decide (1048576 < vat v k)) == false) (.int .i64 n), pg ((decide (1048576 < vat v k)) == false) (.bool (decide (n ≤ (k : Int)))), pg ((decide (1048576 < vat v k)) == false) (.bool (decide (n ≤ (k : Int)))), pg (((decide (1048576 < vat v k)) == false) && ((decide (n ≤ (k : Int))) == true)) (.int .u32 (vat v k)), pg (((decide (1048576 < vat v k)) == false) && ((decide (n ≤ (k : Int))) == true)) (.bool (decide (0 < vat v k))), pg ((decide (1048576 < vat v k)) == false) (.bool ((decide (n ≤ (k : Int))) && (decide (0 < vat v k)))), pv (.bool ((decide (1048576 < vat v k)) || ((decide (n ≤ (k : Int))) && (decide (0 < vat v k)))))] (fun _ _ => _) [10] (by kernel_rfl) hs ⟨?_, ?_, ?_, ?_, ?_, ?_, ?_, ?_, ?_, ?_, ?_, trivial⟩ ?_
        · exact ob [] [] rfl rfl fun D ρ w hs => L_move (V := .int .u32 (vat v k)) rfl ⟨rfl, hs⟩
        · exact ob [0] [] rfl rfl fun D ρ w hs => L_gtr rfl rfl ⟨rfl, hs⟩
        · exact ob [1] [] rfl rfl fun D ρ w hs => L_move (V := .bool (decide (1048576 < vat v k))) rfl ⟨rfl, hs⟩
        · exact obg [2] [] (decide (1048576 < vat v k)) rfl (fun _ => rfl) rfl (fun _ _ _ _ h => h) fun D ρ w hG hs => L_move (V := .int .i64 (k : Int)) rfl ⟨rfl, hs⟩
        · exact obg [2] [] (decide (1048576 < vat v k)) rfl (fun _ => rfl) rfl (fun _ _ _ _ h => h) fun D ρ w hG hs => L_move (V := .int .i64 n) rfl ⟨rfl, hs⟩
        · exact obgy [2, 3, 4] [] [3, 4] (decide (1048576 < vat v k)) rfl (fun _ => rfl) rfl (fun _ _ _ _ h => h) (fun hG => ⟨hG, hG, trivial⟩) fun D ρ w hG hs => L_geq rfl rfl ⟨rfl, hs⟩
        · exact obgy [2, 5] [] [5] (decide (1048576 < vat v k)) rfl (fun _ => rfl) rfl (fun _ _ _ _ h => h) (fun hG => ⟨hG, trivial⟩) fun D ρ w hG hs => L_move (V := .bool (decide (n ≤ (k : Int)))) rfl ⟨rfl, hs⟩
        · exact obg [6] [] (decide (n ≤ (k : Int))) rfl (fun _ => rfl) rfl (fun _ _ _ _ h => h) fun D ρ w hG hs => L_move (V := .int .u32 (vat v k)) rfl ⟨rfl, hs⟩
        · exact obgy [6, 7] [] [7] (decide (n ≤ (k : Int))) rfl (fun _ => rfl) rfl (fun _ _ _ _ h => h) (fun hG => ⟨hG, trivial⟩) fun D ρ w hG hs => L_gtr rfl rfl ⟨rfl, hs⟩
        · exact obgy [2, 6, 8] [] [6] (decide (1048576 < vat v k)) rfl (fun _ => rfl) rfl (fun _ _ _ _ h => h) (fun hG => ⟨hG, trivial⟩) fun D ρ w hG hs => L_andN (h' := decide (0 < vat v k)) (G := ((decide (1048576 < vat v k)) == false)) hG rfl rfl rfl ⟨rfl, hs⟩
        · exact ob [2, 9] [] rfl rfl fun D ρ w hs => L_orC (h' := (decide (n ≤ (k : Int))) && (decide (0 < vat v k))) rfl rfl rfl ⟨rfl, hs⟩
        rintro ρ1 w7 ρ2 hρ hs
        replace hρ : ρ2 = upd (mix [18, 19, 20, 21, 22, 23, 24, 25, 26, 27, 28] ρ1 _) 28 (.bool ((decide (1048576 < vat v k)) || ((decide (n ≤ (k : Int))) && (decide (0 < vat v k))))) := hρ
        subst hρ
        refine W_cond (t := (decide (1048576 < vat v k)) || ((decide (n ≤ (k : Int))) && (decide (0 < vat v k)))) rfl (fun c8 => ?_) (fun c8 => ?_)
        ·
          refine W_seq ?_
          refine W_region ?_
          refine RW_op (L_assign (V := .bool false) rfl ?_)
          refine RW_nil ?_
          refine W_ret ?_
          refine ⟨_, res_one (V := .bool false) Tryz.results44 rfl, ?_⟩
          refine ⟨congrArg Ending.returned ?_, hs.take 0⟩
          exact congrArg Value.bool (rightB_no (k := k) (by omega) (okAt_no c8)).symm
        ·
          have c8r := or_r c8
          replace c8 := or_l c8
          replace c8 := of_decide_eq_false c8
          refine W_skip ?_
          refine W_region ?_
          refine RW_op (L_add (a := (k : Int)) (b := 1) (c := (k : Int) + 1) rfl rfl (wr_i64 (by omega) (by omega)) ?_)
          refine RW_op (L_move (V := .int .i64 ((k : Int) + 1)) rfl ?_)
          refine RW_nil ?_
          refine ⟨_, ?_, _, k + 1, upd_of (mix_of (ds := [4, 5, 6, 14, 15, 16, 17, 18, 19, 20, 21, 22, 23, 24, 25, 26, 27, 28, 29]) (by repeat (first | exact Agr.refl _ _ | refine Agr.upd ?_ rfl | refine Agr.mix ?_ rfl))) rfl, (by omega), (okAt_step hok (okAt_yes c8 c8r)), rfl, hs.take 1⟩
          omega
      ·
        replace c6 := of_decide_eq_false c6
        refine W_exit ?_
        refine W_seq ?_
        refine W_region ?_
        refine RW_op (L_assign (V := .bool true) rfl ?_)
        refine RW_nil ?_
        refine W_ret ?_
        refine ⟨_, res_one (V := .bool true) Tryz.results44 rfl, ?_⟩
        refine ⟨congrArg Ending.returned ?_, hs.take 0⟩
        exact congrArg Value.bool ((rightB_yes fun j hj => hok j (by omega)).trans (by simp; omega)).symm
set_option maxRecDepth 20000 in
set_option maxHeartbeats 4000000 in
theorem rRight_ok (w : World) (v : Vec) (n : Int) (hv : VecOk v) : Calls Tryz.prog 50 #[.agg (vc v).toArray, .int .i64 n] w (fun e w' => e = .returned (.bool (rightB v n)) ∧ Own w no w' []) := by
  refine calls_of_Wn (n := 31) Tryz.func50 rfl Tryz.ntmps50 rfl ?_
  have hs := Own.start w
  refine W_seq ?_
  refine W_region ?_
  refine RW_op (L_box (V := .agg (vc v).toArray) (cs := vc v) rfl rfl hs fun b1 w2 hs => ?_)
  refine RW_op (L_assign (V := .bool false) rfl ?_)
  refine RW_nil ?_
  refine W_seq ?_
  refine W_seq ?_
  refine W_region ?_
  refine RW_op (L_assign (V := .int .i64 0) rfl ?_)
  refine RW_nil ?_
  refine W_block ?_
  refine W_loopI (fun ρ μ ρ' w' => ∃ (ρo : Env) (k : Nat), ρ' = upd (mix [4, 5, 6, 7, 8, 9, 10, 11, 12, 13, 14, 15, 16, 17, 18, 19, 20, 21, 22, 23, 24] ρo ρ) 5 (.int .i64 (k : Int)) ∧ (k ≤ 16) ∧ (∀ j : Nat, j < k → okAt v n j = true) ∧ μ = 16 - k ∧ Own w no w' [blk b1 (vc v) 24]) ?_ ?_
  · exact ⟨_, _, 0, upd_of (mix_of (ds := [4, 5, 6, 7, 8, 9, 10, 11, 12, 13, 14, 15, 16, 17, 18, 19, 20, 21, 22, 23, 24]) (Agr.refl _ _)) rfl, (by omega), (fun j hj => absurd hj (Nat.not_lt_zero j)), rfl, hs⟩
  · rintro μ ρ' w3 ⟨ρo, k, rfl, hk, hok, rfl, hs⟩
    have hv1 := vat_ok hv ((k : Int).toNat)
    have hkk : ((k : Int)).toNat = k := rfl
    refine W_seq ?_
    refine W_seq ?_
    refine W_region ?_
    refine RW_op (L_move (V := .int .i64 (k : Int)) rfl ?_)
    refine RW_op (L_lss rfl rfl ?_)
    refine RW_nil ?_
    refine W_cond (t := decide ((k : Int) < 16)) rfl (fun c4 => ?_) (fun c4 => ?_)
    ·
      replace c4 := of_decide_eq_true c4
      refine W_skip ?_
      refine W_seq ?_
      refine W_block ?_
      refine W_seq ?_
      refine W_regO [some 10, some 11, some 12, some 13, some 14, some 15, some 16, some 17, some 18, some 19, some 20, some 21, some 22, some 23, some 24] [] [0, 1, 3, 7, 15, 31, 31, 127, 255, 511, 1023, 2047, 4095, 8191, 16383] [pv (.int .i64 (k : Int)), pv (.pointer (some ⟨b1, 0 + (k : Int).toNat, none⟩)), pv (.int .u32 (vat v k)), pv (.bool (decide (1048576 < vat v k))), pv (.bool (decide (1048576 < vat v k))), pg ((decide (1048576 < vat v k)) == false) (.int .i64 (k : Int)), pg ((decide (1048576 < vat v k)) == false) (.int .i64 n), pg ((decide (1048576 < vat v k)) == false) (.bool (decide (n ≤ (k : Int)))), pg ((decide (1048576 < vat v k)) == false) (.bool (decide (n ≤ (k : Int)))), pg (((decide (1048576 < vat v k)) == false) && ((decide (n ≤ (k : Int))) == true)) (.int .i64 (k : Int)), pg (((decide (1048576 < vat v k)) == false) && ((decide (n ≤ (k : Int))) == true)) (.pointer (some ⟨b1, 0 + (k : Int).toNat, none⟩)), pg (((decide (1048576 < vat v k)) == false) && ((decide (n ≤ (k : Int))) == true)) (.int .u32 (vat v k)), pg (((decide (1048576 < vat v k)) == false) && ((decide (n ≤ (k : Int))) == true)) (.bool (!decide (vat v k = 0))), pg ((decide (1048576 < vat v k)) == false) (.bool ((decide (n ≤ (k : Int))) && (!decide (vat v k = 0)))), pv (.bool ((decide (1048576 < vat v k)) || ((decide (n ≤ (k : Int))) && (!decide (vat v k = 0)))))] (fun _ _ => _) [14] (by kernel_rfl) hs ⟨?_, ?_, ?_, ?_, ?_, ?_, ?_, ?_, ?_, ?_, ?_, ?_, ?_, ?_, ?_, trivial⟩ ?_
      · exact ob [] [] rfl rfl fun D ρ w hs => L_move (V := .int .i64 (k : Int)) rfl ⟨rfl, hs⟩
      · exact ob [0] [] rfl rfl fun D ρ w hs => L_ixArr1 UD_24 S1_22.1 rfl rfl (by omega) (by omega) ⟨rfl, hs⟩
      · exact ob [1] [] rfl rfl fun D ρ w hs => L_ld (V := .int .u32 (vat v k)) S1_22 hs 0 rfl rfl (vc_atO (by omega) (by omega)) ⟨rfl, hs⟩
      · exact ob [2] [] rfl rfl fun D ρ w hs => L_gtr rfl rfl ⟨rfl, hs⟩
      · exact ob [3] [] rfl rfl fun D ρ w hs => L_move (V := .bool (decide (1048576 < vat v k))) rfl ⟨rfl, hs⟩
      · exact obg [4] [] (decide (1048576 < vat v k)) rfl (fun _ => rfl) rfl (fun _ _ _ _ h => h) fun D ρ w hG hs => L_move (V := .int .i64 (k : Int)) rfl ⟨rfl, hs⟩
      · exact obg [4] [] (decide (1048576 < vat v k)) rfl (fun _ => rfl) rfl (fun _ _ _ _ h => h) fun D ρ w hG hs => L_move (V := .int .i64 n) rfl ⟨rfl, hs⟩
      · exact obgy [4, 5, 6] [] [5, 6] (decide (1048576 < vat v k)) rfl (fun _ => rfl) rfl (fun _ _ _ _ h => h) (fun hG => ⟨hG, hG, trivial⟩) fun D ρ w hG hs => L_geq rfl rfl ⟨rfl, hs⟩
      · exact obgy [4, 7] [] [7] (decide (1048576 < vat v k)) rfl (fun _ => rfl) rfl (fun _ _ _ _ h => h) (fun hG => ⟨hG, trivial⟩) fun D ρ w hG hs => L_move (V := .bool (decide (n ≤ (k : Int)))) rfl ⟨rfl, hs⟩
      · exact obg [8] [] (decide (n ≤ (k : Int))) rfl (fun _ => rfl) rfl (fun _ _ _ _ h => h) fun D ρ w hG hs => L_move (V := .int .i64 (k : Int)) rfl ⟨rfl, hs⟩
      · refine obgy [8, 9] [] [9] (decide (n ≤ (k : Int))) rfl (fun _ => rfl) rfl (fun _ _ _ _ h => h) (fun hG => ⟨hG, trivial⟩) fun D ρ w hG hs => ?_
        have hgd0 := of_decide_eq_false (eq_of_beq (and_l (hG)))
        have hgd1 := of_decide_eq_true (eq_of_beq (and_r (hG)))
        exact L_ixArr1 UD_24 S1_22.1 rfl rfl (by omega) (by omega) ⟨rfl, hs⟩
      · refine obgy [8, 10] [] [10] (decide (n ≤ (k : Int))) rfl (fun _ => rfl) rfl (fun _ _ _ _ h => h) (fun hG => ⟨hG, trivial⟩) fun D ρ w hG hs => ?_
        have hgd0 := of_decide_eq_false (eq_of_beq (and_l (hG)))
        have hgd1 := of_decide_eq_true (eq_of_beq (and_r (hG)))
        exact L_ld (V := .int .u32 (vat v k)) S1_22 hs 0 rfl rfl (vc_atO (by omega) (by omega)) ⟨rfl, hs⟩
      · exact obgy [8, 11] [] [11] (decide (n ≤ (k : Int))) rfl (fun _ => rfl) rfl (fun _ _ _ _ h => h) (fun hG => ⟨hG, trivial⟩) fun D ρ w hG hs => L_neq rfl rfl ⟨rfl, hs⟩
      · exact obgy [4, 8, 12] [] [8] (decide (1048576 < vat v k)) rfl (fun _ => rfl) rfl (fun _ _ _ _ h => h) (fun hG => ⟨hG, trivial⟩) fun D ρ w hG hs => L_andN (h' := !decide (vat v k = 0)) (G := ((decide (1048576 < vat v k)) == false)) hG rfl rfl rfl ⟨rfl, hs⟩
      · exact ob [4, 13] [] rfl rfl fun D ρ w hs => L_orC (h' := (decide (n ≤ (k : Int))) && (!decide (vat v k = 0))) rfl rfl rfl ⟨rfl, hs⟩
      rintro ρ1 w5 ρ2 hρ hs
      replace hρ : ρ2 = upd (mix [10, 11, 12, 13, 14, 15, 16, 17, 18, 19, 20, 21, 22, 23, 24] ρ1 _) 24 (.bool ((decide (1048576 < vat v k)) || ((decide (n ≤ (k : Int))) && (!decide (vat v k = 0))))) := hρ
      subst hρ
      refine W_cond (t := (decide (1048576 < vat v k)) || ((decide (n ≤ (k : Int))) && (!decide (vat v k = 0)))) rfl (fun c6 => ?_) (fun c6 => ?_)
      ·
        refine W_seq ?_
        refine W_region ?_
        refine RW_op (L_assign (V := .bool false) rfl ?_)
        refine RW_nil ?_
        refine W_ret ?_
        refine ⟨_, res_one (V := .bool false) Tryz.results50 rfl, ?_⟩
        refine ⟨congrArg Ending.returned ?_, hs.take 0⟩
        exact congrArg Value.bool (rightB_no (k := k) (by omega) (okAt_no' hv c6)).symm
      ·
        have c6r := or_r c6
        replace c6 := or_l c6
        replace c6 := of_decide_eq_false c6
        refine W_skip ?_
        refine W_region ?_
        refine RW_op (L_move (V := .int .i64 (k : Int)) rfl ?_)
        refine RW_op (L_add (a := (k : Int)) (b := 1) (c := (k : Int) + 1) rfl rfl (wr_i64 (by omega) (by omega)) ?_)
        refine RW_op (L_assign (V := .int .i64 ((k : Int) + 1)) rfl ?_)
        refine RW_nil ?_
        refine ⟨_, ?_, _, k + 1, upd_of (mix_of (ds := [4, 5, 6, 7, 8, 9, 10, 11, 12, 13, 14, 15, 16, 17, 18, 19, 20, 21, 22, 23, 24]) (by repeat (first | exact Agr.refl _ _ | refine Agr.upd ?_ rfl | refine Agr.mix ?_ rfl))) rfl, (by omega), (okAt_step hok (okAt_yes' hv c6 c6r)), rfl, hs.take 1⟩
        omega
    ·
      replace c4 := of_decide_eq_false c4
      refine W_exit ?_
      refine W_seq ?_
      refine W_regO [some 25, some 26, some 27, some 28, some 29, some 30, some 4] [] [0, 1, 3, 7, 15, 31, 63] [pv (.int .i64 n), pv (.bool (decide (1 ≤ n))), pv (.bool (decide (1 ≤ n))), pg ((decide (1 ≤ n)) == true) (.int .i64 n), pg ((decide (1 ≤ n)) == true) (.bool (decide (n ≤ 16))), pv (.bool ((decide (1 ≤ n)) && (decide (n ≤ 16)))), pv (.bool ((decide (1 ≤ n)) && (decide (n ≤ 16))))] (fun _ _ => _) [6] (by kernel_rfl) hs ⟨?_, ?_, ?_, ?_, ?_, ?_, ?_, trivial⟩ ?_
      · exact ob [] [] rfl rfl fun D ρ w hs => L_move (V := .int .i64 n) rfl ⟨rfl, hs⟩
      · exact ob [0] [] rfl rfl fun D ρ w hs => L_geq rfl rfl ⟨rfl, hs⟩
      · exact ob [1] [] rfl rfl fun D ρ w hs => L_move (V := .bool (decide (1 ≤ n))) rfl ⟨rfl, hs⟩
      · exact obg [2] [] (decide (1 ≤ n)) rfl (fun _ => rfl) rfl (fun _ _ _ _ h => h) fun D ρ w hG hs => L_move (V := .int .i64 n) rfl ⟨rfl, hs⟩
      · exact obgy [2, 3] [] [3] (decide (1 ≤ n)) rfl (fun _ => rfl) rfl (fun _ _ _ _ h => h) (fun hG => ⟨hG, trivial⟩) fun D ρ w hG hs => L_leq rfl rfl ⟨rfl, hs⟩
      · exact ob [2, 4] [] rfl rfl fun D ρ w hs => L_andC (h' := decide (n ≤ 16)) rfl rfl rfl ⟨rfl, hs⟩
      · exact ob [5] [] rfl rfl fun D ρ w hs => L_assign (V := .bool ((decide (1 ≤ n)) && (decide (n ≤ 16)))) rfl ⟨rfl, hs⟩
      rintro ρ1 w7 ρ2 hρ hs
      replace hρ : ρ2 = upd (mix [25, 26, 27, 28, 29, 30, 4] ρ1 _) 4 (.bool ((decide (1 ≤ n)) && (decide (n ≤ 16)))) := hρ
      subst hρ
      refine W_ret ?_
      refine ⟨_, res_one (V := .bool ((decide (1 ≤ n)) && (decide (n ≤ 16)))) Tryz.results50 rfl, ?_⟩
      refine ⟨congrArg Ending.returned ?_, hs.take 0⟩
      exact congrArg Value.bool (rightB_yes fun j hj => hok j (by omega)).symm
set_option maxRecDepth 20000 in
set_option maxHeartbeats 4000000 in
theorem rBelow_ok (w : World) (a b : Vec) : Calls Tryz.prog 53 #[.agg (vc a).toArray, .agg (vc b).toArray] w (fun e w' => e = .returned (.bool (vle a b)) ∧ Own w no w' []) := by
  refine calls_of_Wn (n := 17) Tryz.func53 rfl Tryz.ntmps53 rfl ?_
  have hs := Own.start w
  refine W_seq ?_
  refine W_region ?_
  refine RW_op (L_box (V := .agg (vc a).toArray) (cs := vc a) rfl rfl hs fun b1 w2 hs => ?_)
  refine RW_op (L_box (V := .agg (vc b).toArray) (cs := vc b) rfl rfl hs fun b3 w4 hs => ?_)
  refine RW_op (L_assign (V := .bool false) rfl ?_)
  refine RW_nil ?_
  refine W_seq ?_
  refine W_seq ?_
  refine W_region ?_
  refine RW_op (L_assign (V := .int .i64 0) rfl ?_)
  refine RW_nil ?_
  refine W_block ?_
  refine W_loopI (fun ρ μ ρ' w' => ∃ (ρo : Env) (k : Nat), ρ' = upd (mix [4, 5, 6, 7, 8, 9, 10, 11, 12, 13, 14, 15, 16] ρo ρ) 5 (.int .i64 (k : Int)) ∧ (k ≤ 16) ∧ (∀ j : Nat, j < k → vat a j ≤ vat b j) ∧ μ = 16 - k ∧ Own w no w' [blk b1 (vc a) 24, blk b3 (vc b) 24]) ?_ ?_
  · exact ⟨_, _, 0, upd_of (mix_of (ds := [4, 5, 6, 7, 8, 9, 10, 11, 12, 13, 14, 15, 16]) (Agr.refl _ _)) rfl, (by omega), (fun j hj => absurd hj (Nat.not_lt_zero j)), rfl, hs⟩
  · rintro μ ρ' w5 ⟨ρo, k, rfl, hk, hle, rfl, hs⟩
    refine W_seq ?_
    refine W_seq ?_
    refine W_region ?_
    refine RW_op (L_move (V := .int .i64 (k : Int)) rfl ?_)
    refine RW_op (L_lss rfl rfl ?_)
    refine RW_nil ?_
    refine W_cond (t := decide ((k : Int) < 16)) rfl (fun c6 => ?_) (fun c6 => ?_)
    ·
      replace c6 := of_decide_eq_true c6
      refine W_skip ?_
      refine W_seq ?_
      refine W_block ?_
      refine W_seq ?_
      refine W_regD HM [some 10, some 11, some 12, some 13, some 14, some 15, some 16] [] [0, 1, 3, 0, 8, 24, 63] [pv (.int .i64 (k : Int)), pv (.pointer (some ⟨b1, 0 + (k : Int).toNat, none⟩)), pv (.int .u32 (vat a k)), pv (.int .i64 (k : Int)), pv (.pointer (some ⟨b3, 0 + (k : Int).toNat, none⟩)), pv (.int .u32 (vat b k)), pv (.bool (decide (vat b k < vat a k)))] (fun _ _ => _) [6] (by kernel_rfl) hs ⟨?_, ?_, ?_, ?_, ?_, ?_, ?_, trivial⟩ ?_
      · exact ob [] [] rfl rfl fun D ρ w hs => L_move (V := .int .i64 (k : Int)) rfl ⟨rfl, hs⟩
      · exact ob [0] [] rfl rfl fun D ρ w hs => L_ixArr1 UD_24 S1_22.1 rfl rfl (by omega) (by omega) ⟨rfl, hs⟩
      · exact ob [1] [] rfl rfl fun D ρ w hs => L_ld (V := .int .u32 (vat a k)) S1_22 hs 0 rfl rfl (vc_atO (by omega) (by omega)) ⟨rfl, hs⟩
      · exact ob [] [] rfl rfl fun D ρ w hs => L_move (V := .int .i64 (k : Int)) rfl ⟨rfl, hs⟩
      · exact ob [3] [] rfl rfl fun D ρ w hs => L_ixArr1 UD_24 S1_22.1 rfl rfl (by omega) (by omega) ⟨rfl, hs⟩
      · exact ob [4] [] rfl rfl fun D ρ w hs => L_ld (V := .int .u32 (vat b k)) S1_22 hs 1 rfl rfl (vc_atO (by omega) (by omega)) ⟨rfl, hs⟩
      · exact ob [2, 5] [] rfl rfl fun D ρ w hs => L_gtr rfl rfl ⟨rfl, hs⟩
      rintro ρ1 w7 ρ2 hρ hs
      replace hρ : ρ2 = upd (mix [10, 11, 12, 13, 14, 15, 16] ρ1 _) 16 (.bool (decide (vat b k < vat a k))) := hρ
      subst hρ
      refine W_cond (t := decide (vat b k < vat a k)) rfl (fun c8 => ?_) (fun c8 => ?_)
      ·
        replace c8 := of_decide_eq_true c8
        refine W_seq ?_
        refine W_region ?_
        refine RW_op (L_assign (V := .bool false) rfl ?_)
        refine RW_nil ?_
        refine W_ret ?_
        refine ⟨_, res_one (V := .bool false) Tryz.results53 rfl, ?_⟩
        refine ⟨congrArg Ending.returned ?_, hs.take 0⟩
        exact congrArg Value.bool (vle_no (k := k) (by omega) c8).symm
      ·
        replace c8 := of_decide_eq_false c8
        refine W_skip ?_
        refine W_region ?_
        refine RW_op (L_move (V := .int .i64 (k : Int)) rfl ?_)
        refine RW_op (L_add (a := (k : Int)) (b := 1) (c := (k : Int) + 1) rfl rfl (wr_i64 (by omega) (by omega)) ?_)
        refine RW_op (L_assign (V := .int .i64 ((k : Int) + 1)) rfl ?_)
        refine RW_nil ?_
        refine ⟨_, ?_, _, k + 1, upd_of (mix_of (ds := [4, 5, 6, 7, 8, 9, 10, 11, 12, 13, 14, 15, 16]) (by repeat (first | exact Agr.refl _ _ | refine Agr.upd ?_ rfl | refine Agr.mix ?_ rfl))) rfl, (by omega), (vle_step hle c8), rfl, hs.take 2⟩
        omega
    ·
      replace c6 := of_decide_eq_false c6
      refine W_exit ?_
      refine W_seq ?_
      refine W_region ?_
      refine RW_op (L_assign (V := .bool true) rfl ?_)
      refine RW_nil ?_
      refine W_ret ?_
      refine ⟨_, res_one (V := .bool true) Tryz.results53 rfl, ?_⟩
      refine ⟨congrArg Ending.returned ?_, hs.take 0⟩
      exact congrArg Value.bool (vle_yes fun j hj => hle j (by omega)).symm
set_option maxRecDepth 20000 in
set_option maxHeartbeats 4000000 in
theorem vJoin_ok (w : World) (a b : Vec) : Calls Tryz.prog 66 #[.agg (vc a).toArray, .agg (vc b).toArray] w (fun e w' => e = .returned (.agg (vc (vjoin a b)).toArray) ∧ Own w no w' []) := by
  refine calls_of_Wn (n := 21) Tryz.func66 rfl Tryz.ntmps66 rfl ?_
  have hs := Own.start w
  refine W_seq ?_
  refine W_region ?_
  refine RW_op (L_box (V := .agg (vc a).toArray) (cs := vc a) rfl rfl hs fun b1 w2 hs => ?_)
  refine RW_op (L_box (V := .agg (vc b).toArray) (cs := vc b) rfl rfl hs fun b3 w4 hs => ?_)
  refine RW_op (L_alloc (cs := vc vzero) ZV_24 rfl hs fun b5 w6 hs => ?_)
  refine RW_nil ?_
  refine W_seq ?_
  refine W_seq ?_
  refine W_region ?_
  refine RW_op (L_ldW (cs := vc b) SA_24 hs 1 rfl rfl rfl ?_)
  refine RW_op (L_move (V := .int .i64 0) rfl ?_)
  refine RW_nil ?_
  refine W_block ?_
  refine W_loopI (fun ρ μ ρ' w' => ∃ (ρo : Env) (k : Nat) (u : Vec), ρ' = upd (mix [5, 6, 8, 9, 10, 11, 12, 13, 14, 15, 16, 17, 18, 19] ρo ρ) 8 (.int .i64 (k : Int)) ∧ (k ≤ 16) ∧ (u = joinK a b k) ∧ μ = 16 - k ∧ Own w no w' [blk b1 (vc u) 24, blk b3 (vc b) 24, blk b5 (vc vzero) 24]) ?_ ?_
  · exact ⟨_, _, 0, a, upd_of (mix_of (ds := [5, 6, 8, 9, 10, 11, 12, 13, 14, 15, 16, 17, 18, 19]) (Agr.refl _ _)) rfl, (by omega), ((joinK_0 a b).symm), rfl, hs⟩
  · rintro μ ρ' w7 ⟨ρo, k, u, rfl, hk, hu, rfl, hs⟩
    refine W_seq ?_
    refine W_region ?_
    refine RW_op (L_lss rfl rfl ?_)
    refine RW_nil ?_
    refine W_seq ?_
    refine W_cond (t := decide ((k : Int) < 16)) rfl (fun c8 => ?_) (fun c8 => ?_)
    ·
      replace c8 := of_decide_eq_true c8
      refine W_skip ?_
      refine W_seq ?_
      refine W_block ?_
      refine W_seq ?_
      refine W_region ?_
      refine RW_op (L_move (V := .int .i64 (k : Int)) rfl ?_)
      refine RW_op (L_index (V := .int .u32 (vat b k)) UD_24 S1_22 rfl rfl (by omega) (by omega) (by rw [List.getElem?_toArray]; exact vc_at _ _ (by omega)) ?_)
      refine RW_op (L_assign (V := .int .i64 (k : Int)) rfl ?_)
      refine RW_op (L_assign (V := .int .u32 (vat b k)) rfl ?_)
      refine RW_nil ?_
      refine W_region ?_
      refine RW_op (L_move (V := .int .i64 (k : Int)) rfl ?_)
      refine RW_op (L_move (V := .int .i64 (k : Int)) rfl ?_)
      refine RW_op (L_ixArr1 UD_24 S1_22.1 rfl rfl (by omega) (by omega) ?_)
      refine RW_op (L_ld (V := .int .u32 (vat u k)) S1_22 hs 0 rfl rfl (vc_atO (by omega) (by omega)) ?_)
      refine RW_op (L_move (V := .int .u32 (vat b k)) rfl ?_)
      refine RW_op (L_max rfl rfl ?_)
      refine RW_op (L_ixArr1 UD_24 S1_22.1 rfl rfl (by omega) (by omega) ?_)
      refine RW_op (L_st1 (V := .int .u32 (max (vat u k) (vat b k))) (cs' := vc (vset u k (max (vat u k) (vat b k)))) S1_22 hs 0 rfl rfl rfl rfl (vc_lt (by omega)) (vc_setO (by omega) (by omega)) fun w9 hs => ?_)
      replace hs : Own w no w9 [blk b1 (vc (vset u k (max (vat u k) (vat b k)))) 24, blk b3 (vc b) 24, blk b5 (vc vzero) 24] := hs
      refine RW_nil ?_
      refine W_region ?_
      refine RW_op (L_add (a := (k : Int)) (b := 1) (c := (k : Int) + 1) rfl rfl (wr_i64 (by omega) (by omega)) ?_)
      refine RW_op (L_move (V := .int .i64 ((k : Int) + 1)) rfl ?_)
      refine RW_nil ?_
      refine ⟨_, ?_, _, k + 1, vset u k (max (vat u k) (vat b k)), upd_of (mix_of (ds := [5, 6, 8, 9, 10, 11, 12, 13, 14, 15, 16, 17, 18, 19]) (by repeat (first | exact Agr.refl _ _ | refine Agr.upd ?_ rfl | refine Agr.mix ?_ rfl))) rfl, (by omega), (by subst hu; exact joinK_step (by omega)), rfl, hs.take 3⟩
      omega
    ·
      replace c8 := of_decide_eq_false c8
      refine W_exit ?_
      refine W_seq ?_
      refine W_region ?_
      refine RW_op (L_ldW (cs := vc u) SA_24 hs 0 rfl rfl rfl ?_)
      refine RW_op (L_st (V := .agg (vc u).toArray) (vs := vc u) (cs' := vc u) SA_24.1 hs 2 rfl rfl rfl rfl rfl (Nat.le_of_ble_eq_true rfl) (vc_one _) (spl_whole rfl) fun w10 hs => ?_)
      replace hs : Own w no w10 [blk b1 (vc u) 24, blk b3 (vc b) 24, blk b5 (vc u) 24] := hs
      refine RW_nil ?_
      refine W_ret ?_
      refine ⟨_, res_cell (cs := vc u) Tryz.results66 SA_24 hs 2 rfl rfl rfl, ?_⟩
      refine ⟨congrArg Ending.returned ?_, hs.take 0⟩
      rw [hu, show k = 16 by omega, joinK_16]
set_option maxRecDepth 20000 in
set_option maxHeartbeats 4000000 in
theorem vBelow_ok (w : World) (a b : Vec) : Calls Tryz.prog 70 #[.agg (vc a).toArray, .agg (vc b).toArray] w (fun e w' => e = .returned (.bool (vle a b)) ∧ Own w no w' []) := by
  refine calls_of_Wn (n := 10) Tryz.func70 rfl Tryz.ntmps70 rfl ?_
  have hs := Own.start w
  refine W_seq ?_
  refine W_region ?_
  refine RW_op (L_box (V := .agg (vc a).toArray) (cs := vc a) rfl rfl hs fun b1 w2 hs => ?_)
  refine RW_op (L_box (V := .agg (vc b).toArray) (cs := vc b) rfl rfl hs fun b3 w4 hs => ?_)
  refine RW_op (L_assign (V := .bool false) rfl ?_)
  refine RW_nil ?_
  refine W_seq ?_
  refine W_regD HM [some 5, some 6, some 7, some 8, some 9, some 4] [] [0, 0, 3, 0, 15, 31] [pv (.agg (vc a).toArray), pv (.agg (vc b).toArray), pv (.agg (vc (vjoin a b)).toArray), pv (.agg (vc b).toArray), pv (.bool (decide (vjoin a b = b))), pv (.bool (decide (vjoin a b = b)))] (fun _ _ => _) [5] (by kernel_rfl) hs ⟨?_, ?_, ?_, ?_, ?_, ?_, trivial⟩ ?_
  · exact ob [] [] rfl rfl fun D ρ w hs => L_ldW (cs := vc a) SA_24 hs 0 rfl rfl rfl ⟨rfl, hs⟩
  · exact ob [] [] rfl rfl fun D ρ w hs => L_ldW (cs := vc b) SA_24 hs 1 rfl rfl rfl ⟨rfl, hs⟩
  · exact ob [0, 1] [] rfl rfl fun D ρ w hs => L_callP (vs := [.agg (vc a).toArray, .agg (vc b).toArray]) (V := .agg (vc (vjoin a b)).toArray) EN_66 rfl rfl (vJoin_ok _ a b) hs fun _ hs => ⟨rfl, hs⟩
  · exact ob [] [] rfl rfl fun D ρ w hs => L_ldW (cs := vc b) SA_24 hs 1 rfl rfl rfl ⟨rfl, hs⟩
  · exact ob [2, 3] [] rfl rfl fun D ρ w hs => L_eqA (xs := vc (vjoin a b)) (ys := vc b) Tryz.eqGuardType24 (EQ_24 (vjoin a b) b) rfl rfl rfl ⟨rfl, hs⟩
  · exact ob [4] [] rfl rfl fun D ρ w hs => L_assign (V := .bool (decide (vjoin a b = b))) rfl ⟨rfl, hs⟩
  rintro ρ1 w6 ρ2 hρ hs
  replace hρ : ρ2 = upd (mix [5, 6, 7, 8, 9, 4] ρ1 _) 4 (.bool (decide (vjoin a b = b))) := hρ
  subst hρ
  refine W_ret ?_
  refine ⟨_, res_one (V := .bool (decide (vjoin a b = b))) Tryz.results70 rfl, ?_⟩
  refine ⟨congrArg Ending.returned ?_, hs.take 0⟩
  exact congrArg Value.bool (join_le a b)
set_option maxRecDepth 20000 in
set_option maxHeartbeats 4000000 in
theorem vSum_ok (w : World) (v : Vec) (hv : VecOk v) : Calls Tryz.prog 74 #[.agg (vc v).toArray] w (fun e w' => e = .returned (.int .u64 (vsum v)) ∧ Own w no w' []) := by
  refine calls_of_Wn (n := 16) Tryz.func74 rfl Tryz.ntmps74 rfl ?_
  have hs := Own.start w
  refine W_seq ?_
  refine W_region ?_
  refine RW_op (L_box (V := .agg (vc v).toArray) (cs := vc v) rfl rfl hs fun b1 w2 hs => ?_)
  refine RW_op (L_assign (V := .int .u64 0) rfl ?_)
  refine RW_nil ?_
  refine W_seq ?_
  refine W_region ?_
  refine RW_op (L_assign (V := .int .u64 0) rfl ?_)
  refine RW_nil ?_
  refine W_seq ?_
  refine W_seq ?_
  refine W_region ?_
  refine RW_op (L_ldW (cs := vc v) SA_24 hs 0 rfl rfl rfl ?_)
  refine RW_op (L_move (V := .int .i64 0) rfl ?_)
  refine RW_nil ?_
  refine W_block ?_
  refine W_loopI (fun ρ μ ρ' w' => ∃ (ρo : Env) (k : Nat) (n : Int), ρ' = upd (upd (mix [3, 5, 7, 8, 9, 10, 11, 12, 13, 14] ρo ρ) 7 (.int .i64 (k : Int))) 3 (.int .u64 n) ∧ (k ≤ 16) ∧ (n = vsumK v k) ∧ (0 ≤ n ∧ n ≤ (k : Int) * 4294967296) ∧ μ = 16 - k ∧ Own w no w' [blk b1 (vc v) 24]) ?_ ?_
  · exact ⟨_, _, 0, 0, upd_of (upd_of (mix_of (ds := [3, 5, 7, 8, 9, 10, 11, 12, 13, 14]) (Agr.refl _ _)) rfl) rfl, (by omega), rfl, (⟨by omega, by omega⟩), rfl, hs⟩
  · rintro μ ρ' w3 ⟨ρo, k, n, rfl, hk, hn, hnb, rfl, hs⟩
    refine W_seq ?_
    refine W_region ?_
    refine RW_op (L_lss rfl rfl ?_)
    refine RW_nil ?_
    refine W_seq ?_
    refine W_cond (t := decide ((k : Int) < 16)) rfl (fun c4 => ?_) (fun c4 => ?_)
    ·
      replace c4 := of_decide_eq_true c4
      refine W_skip ?_
      refine W_seq ?_
      refine W_block ?_
      refine W_seq ?_
      have hv1 := vat_ok hv k
      refine W_region ?_
      refine RW_op (L_index (V := .int .u32 (vat v k)) UD_24 S1_22 rfl rfl (by omega) (by omega) (by rw [List.getElem?_toArray]; exact vc_at _ _ (by omega)) ?_)
      refine RW_op (L_assign (V := .int .u32 (vat v k)) rfl ?_)
      refine RW_nil ?_
      refine W_region ?_
      refine RW_op (L_move (V := .int .u64 n) rfl ?_)
      refine RW_op (L_move (V := .int .u32 (vat v k)) rfl ?_)
      refine RW_op (L_conv UD_22 UD_54 rfl (wr_u64 (by omega) (by omega)) ?_)
      refine RW_op (L_add (a := n) (b := vat v k) (c := n + (vat v k)) rfl rfl (wr_u64 (by omega) (by omega)) ?_)
      refine RW_op (L_assign (V := .int .u64 (n + (vat v k))) rfl ?_)
      refine RW_nil ?_
      refine W_region ?_
      refine RW_op (L_add (a := (k : Int)) (b := 1) (c := (k : Int) + 1) rfl rfl (wr_i64 (by omega) (by omega)) ?_)
      refine RW_op (L_move (V := .int .i64 ((k : Int) + 1)) rfl ?_)
      refine RW_nil ?_
      refine ⟨_, ?_, _, k + 1, n + (vat v k), upd_of (upd_of (mix_of (ds := [3, 5, 7, 8, 9, 10, 11, 12, 13, 14]) (by repeat (first | exact Agr.refl _ _ | refine Agr.upd ?_ rfl | refine Agr.mix ?_ rfl))) rfl) rfl, (by omega), (vsumK_step hn), (⟨by omega, by omega⟩), rfl, hs.take 1⟩
      omega
    ·
      replace c4 := of_decide_eq_false c4
      refine W_exit ?_
      refine W_seq ?_
      refine W_region ?_
      refine RW_op (L_move (V := .int .u64 n) rfl ?_)
      refine RW_op (L_assign (V := .int .u64 n) rfl ?_)
      refine RW_nil ?_
      refine W_ret ?_
      refine ⟨_, res_one (V := .int .u64 n) Tryz.results74 rfl, ?_⟩
      refine ⟨congrArg Ending.returned ?_, hs.take 0⟩
      rw [hn, show k = 16 by omega, vsum_K]
set_option maxRecDepth 20000 in
set_option maxHeartbeats 4000000 in
theorem rSum_ok (w : World) (v : Vec) (hv : VecOk v) : Calls Tryz.prog 16 #[.agg (vc v).toArray] w (fun e w' => e = .returned (.int .u64 (vsum v)) ∧ Own w no w' []) := by
  refine calls_of_Wn (n := 16) Tryz.func16 rfl Tryz.ntmps16 rfl ?_
  have hs := Own.start w
  refine W_seq ?_
  refine W_region ?_
  refine RW_op (L_box (V := .agg (vc v).toArray) (cs := vc v) rfl rfl hs fun b1 w2 hs => ?_)
  refine RW_op (L_assign (V := .int .u64 0) rfl ?_)
  refine RW_nil ?_
  refine W_seq ?_
  refine W_region ?_
  refine RW_op (L_assign (V := .int .u64 0) rfl ?_)
  refine RW_nil ?_
  refine W_seq ?_
  refine W_seq ?_
  refine W_region ?_
  refine RW_op (L_assign (V := .int .i64 0) rfl ?_)
  refine RW_nil ?_
  refine W_block ?_
  refine W_loopI (fun ρ μ ρ' w' => ∃ (ρo : Env) (k : Nat) (n : Int), ρ' = upd (upd (mix [3, 4, 5, 6, 7, 8, 9, 10, 11, 12, 13, 14] ρo ρ) 4 (.int .i64 (k : Int))) 3 (.int .u64 n) ∧ (k ≤ 16) ∧ (n = vsumK v k) ∧ (0 ≤ n ∧ n ≤ (k : Int) * 4294967296) ∧ μ = 16 - k ∧ Own w no w' [blk b1 (vc v) 24]) ?_ ?_
  · exact ⟨_, _, 0, 0, upd_of (upd_of (mix_of (ds := [3, 4, 5, 6, 7, 8, 9, 10, 11, 12, 13, 14]) (Agr.refl _ _)) rfl) rfl, (by omega), rfl, (⟨by omega, by omega⟩), rfl, hs⟩
  · rintro μ ρ' w3 ⟨ρo, k, n, rfl, hk, hn, hnb, rfl, hs⟩
    refine W_seq ?_
    refine W_seq ?_
    refine W_region ?_
    refine RW_op (L_move (V := .int .i64 (k : Int)) rfl ?_)
    refine RW_op (L_lss rfl rfl ?_)
    refine RW_nil ?_
    refine W_cond (t := decide ((k : Int) < 16)) rfl (fun c4 => ?_) (fun c4 => ?_)
    ·
      replace c4 := of_decide_eq_true c4
      refine W_skip ?_
      refine W_seq ?_
      refine W_block ?_
      have hv1 := vat_ok hv k
      refine W_region ?_
      refine RW_op (L_move (V := .int .u64 n) rfl ?_)
      refine RW_op (L_move (V := .int .i64 (k : Int)) rfl ?_)
      refine RW_op (L_ixArr1 UD_24 S1_22.1 rfl rfl (by omega) (by omega) ?_)
      refine RW_op (L_ld (V := .int .u32 (vat v k)) S1_22 hs 0 rfl rfl (vc_atO (by omega) (by omega)) ?_)
      refine RW_op (L_conv UD_22 UD_54 rfl (wr_u64 (by omega) (by omega)) ?_)
      refine RW_op (L_add (a := n) (b := vat v k) (c := n + (vat v k)) rfl rfl (wr_u64 (by omega) (by omega)) ?_)
      refine RW_op (L_assign (V := .int .u64 (n + (vat v k))) rfl ?_)
      refine RW_nil ?_
      refine W_region ?_
      refine RW_op (L_move (V := .int .i64 (k : Int)) rfl ?_)
      refine RW_op (L_add (a := (k : Int)) (b := 1) (c := (k : Int) + 1) rfl rfl (wr_i64 (by omega) (by omega)) ?_)
      refine RW_op (L_assign (V := .int .i64 ((k : Int) + 1)) rfl ?_)
      refine RW_nil ?_
      refine ⟨_, ?_, _, k + 1, n + (vat v k), upd_of (upd_of (mix_of (ds := [3, 4, 5, 6, 7, 8, 9, 10, 11, 12, 13, 14]) (by repeat (first | exact Agr.refl _ _ | refine Agr.upd ?_ rfl | refine Agr.mix ?_ rfl))) rfl) rfl, (by omega), (vsumK_step hn), (⟨by omega, by omega⟩), rfl, hs.take 1⟩
      omega
    ·
      replace c4 := of_decide_eq_false c4
      refine W_exit ?_
      refine W_seq ?_
      refine W_region ?_
      refine RW_op (L_move (V := .int .u64 n) rfl ?_)
      refine RW_op (L_assign (V := .int .u64 n) rfl ?_)
      refine RW_nil ?_
      refine W_ret ?_
      refine ⟨_, res_one (V := .int .u64 n) Tryz.results16 rfl, ?_⟩
      refine ⟨congrArg Ending.returned ?_, hs.take 0⟩
      rw [hn, show k = 16 by omega, vsum_K]
end Tt
end Go.Proofs
namespace Go.Proofs
open Go Go.Vx Go.RowKit
namespace Tt
set_option maxRecDepth 20000 in
set_option maxHeartbeats 4000000 in
theorem cRight_ok (w : World) (s : Sta) (a1 : Option Addr) (c1 : Nat) (a2 : Option Addr) (c2 : Nat) (hok : StaOk s) (hle : s.ents.length ≤ 1000) (hlt : s.ticks.length ≤ 1000) (hr1 : Rd w (.slice a1 s.ents.length c1) 7 (s.ents.map cec)) (hr2 : Rd w (.slice a2 s.ticks.length c2) 2 (s.ticks.map lsc)) : Calls Tryz.prog 10 #[.agg ((vc s.known) ++ [(.slice a1 s.ents.length c1 : Value), (.slice a2 s.ticks.length c2 : Value) ]).toArray] w (fun e w' => e = .returned (.bool (rightS s)) ∧ Own w no w' []) := by
  refine calls_of_Wn (n := 107) Tryz.func10 rfl Tryz.ntmps10 rfl ?_
  have hs := Own.start w
  have ⟨hv0, hE0, hT0⟩ := hok
  have hn1 := hr1.sml
  have hn2 := hr2.sml
  refine W_seq ?_
  refine W_region ?_
  refine RW_op (L_box (V := .agg ((vc s.known) ++ [(.slice a1 s.ents.length c1 : Value), (.slice a2 s.ticks.length c2 : Value) ]).toArray) (cs := (vc s.known) ++ [(.slice a1 s.ents.length c1 : Value), (.slice a2 s.ticks.length c2 : Value) ]) rfl rfl hs fun b1 w2 hs => ?_)
  refine RW_op (L_assign (V := .bool false) rfl ?_)
  refine RW_nil ?_
  refine W_seq ?_
  refine W_seq ?_
  refine W_region ?_
  refine RW_op (L_fieldAddr FA_39_0 rfl ?_)
  refine RW_op (L_ldA (vs := vc s.known) SA_24 hs 0 rfl rfl rfl rfl ?_)
  refine RW_op (L_callP (vs := [.agg (vc s.known).toArray, .int .i64 16]) (V := .bool (rightB s.known 16)) EN_44 rfl rfl ?hc hs fun w3 hs => ?_)
  case hc => exact (vRight_ok _ s.known 16 (by first | assumption | exact vzero_ok))
  refine RW_op (L_not rfl ?_)
  refine RW_nil ?_
  refine W_cond (t := !(rightB s.known 16)) rfl (fun c4 => ?_) (fun c4 => ?_)
  ·
    replace c4 := not_t c4
    refine W_seq ?_
    refine W_region ?_
    refine RW_op (L_assign (V := .bool false) rfl ?_)
    refine RW_nil ?_
    refine W_ret ?_
    refine ⟨_, res_one (V := .bool false) Tryz.results10 rfl, ?_⟩
    refine ⟨congrArg Ending.returned ?_, hs.take 0⟩
    exact congrArg Value.bool (right_badK c4).symm
  ·
    replace c4 := not_f c4
    refine W_skip ?_
    refine W_seq ?_
    refine W_seq ?_
    refine W_region ?_
    refine RW_op (L_fieldAddr FA_39_2 rfl ?_)
    refine RW_op (L_ld (V := .slice a2 s.ticks.length c2) S1_37 hs 0 rfl rfl rfl ?_)
    refine RW_op (L_lenR (n := s.ticks.length) UD_37 (Rd.own' hr2 hs) (by simp) rfl ?_)
    refine RW_op (L_move (V := .int .i64 0) rfl ?_)
    refine RW_nil ?_
    refine W_block ?_
    refine W_loopI (fun ρ μ ρ' w' => ∃ (ρo : Env) (k : Nat), ρ' = upd (mix [2, 3, 4, 19, 20, 21, 22, 23, 24, 25, 26, 27, 28, 29, 30, 31, 32, 33, 34, 35, 36, 37, 38, 39, 40, 41, 42, 43] ρo ρ) 19 (.int .i64 ((k : Nat) : Int)) ∧ (k ≤ s.ticks.length) ∧ (∀ j : Nat, j < k → badT s.ticks j = false) ∧ μ = s.ticks.length - k ∧ Own w no w' [blk b1 ((vc s.known) ++ [(.slice a1 s.ents.length c1 : Value), (.slice a2 s.ticks.length c2 : Value) ]) 39]) ?_ ?_
    · exact ⟨_, _, 0, upd_of (mix_of (ds := [2, 3, 4, 19, 20, 21, 22, 23, 24, 25, 26, 27, 28, 29, 30, 31, 32, 33, 34, 35, 36, 37, 38, 39, 40, 41, 42, 43]) (Agr.refl _ _)) rfl, (by omega), (fun j hj => absurd hj (Nat.not_lt_zero j)), rfl, hs⟩
    · rintro μ ρ' w5 ⟨ρo, k, rfl, hk, hbt, rfl, hs⟩
      refine W_seq ?_
      refine W_region ?_
      refine RW_op (L_lss rfl rfl ?_)
      refine RW_nil ?_
      refine W_seq ?_
      refine W_cond (t := decide (((k : Nat) : Int) < ((s.ticks.length : Nat) : Int))) rfl (fun c6 => ?_) (fun c6 => ?_)
      ·
        replace c6 := of_decide_eq_true c6
        refine W_skip ?_
        refine W_seq ?_
        refine W_block ?_
        refine W_seq ?_
        refine W_region ?_
        refine RW_op (L_move (V := .int .i64 ((k : Nat) : Int)) rfl ?_)
        refine RW_op (L_ixR UD_37 SA_87.1 (Rd.own' hr2 hs) rfl rfl (by omega) (by rw [List.length_map]; omega) ?_)
        refine RW_op (L_ldRA (j := 0) (vs := lsc (gd s.ticks k)) k SA_87 (Rd.own' hr2 hs) (gd_at (by omega)) rfl rfl rfl (by omega) ?_)
        refine RW_op (L_alloc (cs := lsc (⟨0, 0⟩ : Lst)) ZV_87 rfl hs fun b7 w8 hs => ?_)
        refine RW_op (L_assign (V := .int .i64 ((k : Nat) : Int)) rfl ?_)
        refine RW_op (L_st (V := .agg (lsc (gd s.ticks k)).toArray) (vs := lsc (gd s.ticks k)) (cs' := lsc (gd s.ticks k)) SA_87.1 hs 1 rfl rfl rfl rfl rfl (Nat.le_of_ble_eq_true rfl) (lsc_one _) (spl_whole rfl) fun w9 hs => ?_)
        refine RW_nil ?_
        refine W_seq ?_
        refine W_regD HM [some 24, some 25, some 26, some 27, some 28, some 29, some 30, some 31, some 32, some 33, some 34, some 35, some 36, some 37, some 38, some 39, some 40, some 41, some 42] [] [0, 1, 3, 7, 15, 31, 63, 127, 255, 127, 639, 2047, 4095, 8191, 127, 16511, 65535, 131071, 262143] [pv (.pointer (some ⟨b7, 0 + 1, none⟩)), pv (.int .u32 ((gd s.ticks k).tick)), pv (.bool (decide (1073741824 < (gd s.ticks k).tick))), pv (.bool (decide (1073741824 < (gd s.ticks k).tick))), pg ((decide (1073741824 < (gd s.ticks k).tick)) == false) (.int .i64 ((k : Nat) : Int)), pg ((decide (1073741824 < (gd s.ticks k).tick)) == false) (.bool (decide (0 < ((k : Nat) : Int)))), pg ((decide (1073741824 < (gd s.ticks k).tick)) == false) (.bool (decide (0 < ((k : Nat) : Int)))), pg (((decide (1073741824 < (gd s.ticks k).tick)) == false) && ((decide (0 < ((k : Nat) : Int))) == true)) (.pointer (some ⟨b1, 0 + 17, none⟩)), pg (((decide (1073741824 < (gd s.ticks k).tick)) == false) && ((decide (0 < ((k : Nat) : Int))) == true)) (.slice a2 s.ticks.length c2), pg (((decide (1073741824 < (gd s.ticks k).tick)) == false) && ((decide (0 < ((k : Nat) : Int))) == true)) (.int .i64 ((k : Nat) : Int)), pg (((decide (1073741824 < (gd s.ticks k).tick)) == false) && ((decide (0 < ((k : Nat) : Int))) == true)) (.int .i64 ((k - 1 : Nat) : Int)), pg (((decide (1073741824 < (gd s.ticks k).tick)) == false) && ((decide (0 < ((k : Nat) : Int))) == true)) (.pointer (some ⟨bkS (.slice a2 s.ticks.length c2), ofS (.slice a2 s.ticks.length c2) + ((k - 1 : Nat) : Int).toNat * 2, none⟩)), pg (((decide (1073741824 < (gd s.ticks k).tick)) == false) && ((decide (0 < ((k : Nat) : Int))) == true)) (.pointer (some ⟨bkS (.slice a2 s.ticks.length c2), ofS (.slice a2 s.ticks.length c2) + ((k - 1 : Nat) : Int).toNat * 2 + 0, none⟩)), pg (((decide (1073741824 < (gd s.ticks k).tick)) == false) && ((decide (0 < ((k : Nat) : Int))) == true)) (.int .u16 ((gd s.ticks (k - 1)).cart)), pg (((decide (1073741824 < (gd s.ticks k).tick)) == false) && ((decide (0 < ((k : Nat) : Int))) == true)) (.pointer (some ⟨b7, 0 + 0, none⟩)), pg (((decide (1073741824 < (gd s.ticks k).tick)) == false) && ((decide (0 < ((k : Nat) : Int))) == true)) (.int .u16 ((gd s.ticks k).cart)), pg (((decide (1073741824 < (gd s.ticks k).tick)) == false) && ((decide (0 < ((k : Nat) : Int))) == true)) (.bool (decide ((gd s.ticks k).cart ≤ (gd s.ticks (k - 1)).cart))), pg ((decide (1073741824 < (gd s.ticks k).tick)) == false) (.bool ((decide (0 < ((k : Nat) : Int))) && (decide ((gd s.ticks k).cart ≤ (gd s.ticks (k - 1)).cart)))), pv (.bool ((decide (1073741824 < (gd s.ticks k).tick)) || ((decide (0 < ((k : Nat) : Int))) && (decide ((gd s.ticks k).cart ≤ (gd s.ticks (k - 1)).cart)))))] (fun _ _ => _) [18] (by kernel_rfl) hs ⟨?_, ?_, ?_, ?_, ?_, ?_, ?_, ?_, ?_, ?_, ?_, ?_, ?_, ?_, ?_, ?_, ?_, ?_, ?_, trivial⟩ ?_
        · exact ob [] [] rfl rfl fun D ρ w hs => L_fieldAddr FA_87_1 rfl ⟨rfl, hs⟩
        · exact ob [0] [] rfl rfl fun D ρ w hs => L_ld (V := .int .u32 ((gd s.ticks k).tick)) S1_22 hs 1 rfl rfl rfl ⟨rfl, hs⟩
        · exact ob [1] [] rfl rfl fun D ρ w hs => L_gtr rfl rfl ⟨rfl, hs⟩
        · exact ob [2] [] rfl rfl fun D ρ w hs => L_move (V := .bool (decide (1073741824 < (gd s.ticks k).tick))) rfl ⟨rfl, hs⟩
        · exact obg [3] [] (decide (1073741824 < (gd s.ticks k).tick)) rfl (fun _ => rfl) rfl (fun _ _ _ _ h => h) fun D ρ w hG hs => L_move (V := .int .i64 ((k : Nat) : Int)) rfl ⟨rfl, hs⟩
        · exact obgy [3, 4] [] [4] (decide (1073741824 < (gd s.ticks k).tick)) rfl (fun _ => rfl) rfl (fun _ _ _ _ h => h) (fun hG => ⟨hG, trivial⟩) fun D ρ w hG hs => L_gtr rfl rfl ⟨rfl, hs⟩
        · exact obgy [3, 5] [] [5] (decide (1073741824 < (gd s.ticks k).tick)) rfl (fun _ => rfl) rfl (fun _ _ _ _ h => h) (fun hG => ⟨hG, trivial⟩) fun D ρ w hG hs => L_move (V := .bool (decide (0 < ((k : Nat) : Int)))) rfl ⟨rfl, hs⟩
        · exact obg [6] [] (decide (0 < ((k : Nat) : Int))) rfl (fun _ => rfl) rfl (fun _ _ _ _ h => h) fun D ρ w hG hs => L_fieldAddr FA_39_2 rfl ⟨rfl, hs⟩
        · exact obgy [6, 7] [] [7] (decide (0 < ((k : Nat) : Int))) rfl (fun _ => rfl) rfl (fun _ _ _ _ h => h) (fun hG => ⟨hG, trivial⟩) fun D ρ w hG hs => L_ld (V := .slice a2 s.ticks.length c2) S1_37 hs 0 rfl rfl rfl ⟨rfl, hs⟩
        · exact obg [6] [] (decide (0 < ((k : Nat) : Int))) rfl (fun _ => rfl) rfl (fun _ _ _ _ h => h) fun D ρ w hG hs => L_move (V := .int .i64 ((k : Nat) : Int)) rfl ⟨rfl, hs⟩
        · refine obgy [6, 9] [] [9] (decide (0 < ((k : Nat) : Int))) rfl (fun _ => rfl) rfl (fun _ _ _ _ h => h) (fun hG => ⟨hG, trivial⟩) fun D ρ w hG hs => ?_
          have hgd0 := of_decide_eq_false (eq_of_beq (and_l (hG)))
          have hgd1 := of_decide_eq_true (eq_of_beq (and_r (hG)))
          exact L_sub (a := ((k : Nat) : Int)) (b := 1) (c := ((k - 1 : Nat) : Int)) rfl rfl (nat_i64 (by omega) (by omega)) ⟨rfl, hs⟩
        · refine obgy [6, 8, 10] [] [8, 10] (decide (0 < ((k : Nat) : Int))) rfl (fun _ => rfl) rfl (fun _ _ _ _ h => h) (fun hG => ⟨hG, hG, trivial⟩) fun D ρ w hG hs => ?_
          have hgd0 := of_decide_eq_false (eq_of_beq (and_l (hG)))
          have hgd1 := of_decide_eq_true (eq_of_beq (and_r (hG)))
          exact L_ixR UD_37 SA_87.1 (Rd.own' hr2 hs) rfl rfl (by omega) (by rw [List.length_map]; omega) ⟨rfl, hs⟩
        · exact obgy [6, 11] [] [11] (decide (0 < ((k : Nat) : Int))) rfl (fun _ => rfl) rfl (fun _ _ _ _ h => h) (fun hG => ⟨hG, trivial⟩) fun D ρ w hG hs => L_fieldAddr FA_87_0 rfl ⟨rfl, hs⟩
        · refine obgy [6, 12] [] [12] (decide (0 < ((k : Nat) : Int))) rfl (fun _ => rfl) rfl (fun _ _ _ _ h => h) (fun hG => ⟨hG, trivial⟩) fun D ρ w hG hs => ?_
          have hgd0 := of_decide_eq_false (eq_of_beq (and_l (hG)))
          have hgd1 := of_decide_eq_true (eq_of_beq (and_r (hG)))
          exact L_ldR (j := 0) (V := .int .u16 ((gd s.ticks (k - 1)).cart)) (k - 1) S1_31 (Rd.own' hr2 hs) (gd_at (by omega)) rfl rfl (by omega) ⟨rfl, hs⟩
        · exact obg [6] [] (decide (0 < ((k : Nat) : Int))) rfl (fun _ => rfl) rfl (fun _ _ _ _ h => h) fun D ρ w hG hs => L_fieldAddr FA_87_0 rfl ⟨rfl, hs⟩
        · exact obgy [6, 14] [] [14] (decide (0 < ((k : Nat) : Int))) rfl (fun _ => rfl) rfl (fun _ _ _ _ h => h) (fun hG => ⟨hG, trivial⟩) fun D ρ w hG hs => L_ld (V := .int .u16 ((gd s.ticks k).cart)) S1_31 hs 1 rfl rfl rfl ⟨rfl, hs⟩
        · exact obgy [6, 13, 15] [] [13, 15] (decide (0 < ((k : Nat) : Int))) rfl (fun _ => rfl) rfl (fun _ _ _ _ h => h) (fun hG => ⟨hG, hG, trivial⟩) fun D ρ w hG hs => L_geq rfl rfl ⟨rfl, hs⟩
        · exact obgy [3, 6, 16] [] [6] (decide (1073741824 < (gd s.ticks k).tick)) rfl (fun _ => rfl) rfl (fun _ _ _ _ h => h) (fun hG => ⟨hG, trivial⟩) fun D ρ w hG hs => L_andN (h' := decide ((gd s.ticks k).cart ≤ (gd s.ticks (k - 1)).cart)) (G := ((decide (1073741824 < (gd s.ticks k).tick)) == false)) hG rfl rfl rfl ⟨rfl, hs⟩
        · exact ob [3, 17] [] rfl rfl fun D ρ w hs => L_orC (h' := (decide (0 < ((k : Nat) : Int))) && (decide ((gd s.ticks k).cart ≤ (gd s.ticks (k - 1)).cart))) rfl rfl rfl ⟨rfl, hs⟩
        rintro ρ1 w10 ρ2 hρ hs
        replace hρ : ρ2 = upd (mix [24, 25, 26, 27, 28, 29, 30, 31, 32, 33, 34, 35, 36, 37, 38, 39, 40, 41, 42] ρ1 _) 42 (.bool ((decide (1073741824 < (gd s.ticks k).tick)) || ((decide (0 < ((k : Nat) : Int))) && (decide ((gd s.ticks k).cart ≤ (gd s.ticks (k - 1)).cart))))) := hρ
        subst hρ
        refine W_cond (t := (decide (1073741824 < (gd s.ticks k).tick)) || ((decide (0 < ((k : Nat) : Int))) && (decide ((gd s.ticks k).cart ≤ (gd s.ticks (k - 1)).cart)))) rfl (fun c11 => ?_) (fun c11 => ?_)
        ·
          refine W_seq ?_
          refine W_region ?_
          refine RW_op (L_assign (V := .bool false) rfl ?_)
          refine RW_nil ?_
          refine W_ret ?_
          refine ⟨_, res_one (V := .bool false) Tryz.results10 rfl, ?_⟩
          refine ⟨congrArg Ending.returned ?_, hs.take 0⟩
          exact congrArg Value.bool (right_badT (i := k) (by omega) (by unfold badT; have hq := c11; simpa using hq)).symm
        ·
          have c11r := or_r c11
          replace c11 := or_l c11
          replace c11 := of_decide_eq_false c11
          refine W_skip ?_
          refine W_region ?_
          refine RW_op (L_add (a := ((k : Nat) : Int)) (b := 1) (c := ((k + 1 : Nat) : Int)) rfl rfl (nat_i64 (by omega) (by omega)) ?_)
          refine RW_op (L_move (V := .int .i64 ((k + 1 : Nat) : Int)) rfl ?_)
          refine RW_nil ?_
          refine ⟨_, ?_, _, k + 1, upd_of (mix_of (ds := [2, 3, 4, 19, 20, 21, 22, 23, 24, 25, 26, 27, 28, 29, 30, 31, 32, 33, 34, 35, 36, 37, 38, 39, 40, 41, 42, 43]) (by repeat (first | exact Agr.refl _ _ | refine Agr.upd ?_ rfl | refine Agr.mix ?_ rfl))) rfl, (by omega), (no_step2 hbt (by unfold badT; rw [decide_eq_false c11, Bool.false_or]; have hq := c11r; simpa using hq)), rfl, hs.take 1⟩
          omega
      ·
        replace c6 := of_decide_eq_false c6
        refine W_exit ?_
        refine W_seq ?_
        refine W_region ?_
        refine RW_op (L_makeMap rfl hs dv uv fun mr12 w13 hs => ?_)
        refine RW_op (L_assign (V := .map (some mr12)) rfl ?_)
        refine RW_nil ?_
        refine W_seq ?_
        refine W_seq ?_
        refine W_region ?_
        refine RW_op (L_fieldAddr FA_39_1 rfl ?_)
        refine RW_op (L_ld (V := .slice a1 s.ents.length c1) S1_36 hs 0 rfl rfl rfl ?_)
        refine RW_op (L_lenR (n := s.ents.length) UD_36 (Rd.own' hr1 hs) (by simp) rfl ?_)
        refine RW_op (L_move (V := .int .i64 0) rfl ?_)
        refine RW_nil ?_
        refine W_block ?_
        have hbt2 := fun j (hj : j < s.ticks.length) => hbt j (by omega)
        have hT : RisT s.ticks := by have := ris_of (Nat.le_refl _) hbt2; rwa [List.take_length] at this
        refine W_loopI (fun ρ μ ρ' w' => ∃ (ρo : Env) (k2 : Nat) (sm : List (Dot × Unit)), ρ' = upd (mix [2, 6, 7, 8, 9, 10, 11, 48, 49, 50, 51, 52, 53, 54, 55, 56, 57, 58, 59, 60, 61, 62, 63, 64, 65, 66, 67, 68, 69, 70, 71, 72, 73, 74, 75, 76, 77, 78, 79, 80, 81, 82, 83, 84, 85, 86, 87, 88, 89, 90, 91, 92, 93, 94, 95, 96, 97, 98, 99, 100, 101, 102, 103, 104, 105, 106] ρo ρ) 48 (.int .i64 ((k2 : Nat) : Int)) ∧ (k2 ≤ s.ents.length) ∧ (∀ j : Nat, j < k2 → badE s j = false) ∧ (sm = seenE (s.ents.take k2)) ∧ μ = s.ents.length - k2 ∧ Own w no w' [blk b1 ((vc s.known) ++ [(.slice a1 s.ents.length c1 : Value), (.slice a2 s.ticks.length c2 : Value) ]) 39, mapR mr12 dv uv sm]) ?_ ?_
        · exact ⟨_, _, 0, [], upd_of (mix_of (ds := [2, 6, 7, 8, 9, 10, 11, 48, 49, 50, 51, 52, 53, 54, 55, 56, 57, 58, 59, 60, 61, 62, 63, 64, 65, 66, 67, 68, 69, 70, 71, 72, 73, 74, 75, 76, 77, 78, 79, 80, 81, 82, 83, 84, 85, 86, 87, 88, 89, 90, 91, 92, 93, 94, 95, 96, 97, 98, 99, 100, 101, 102, 103, 104, 105, 106]) (Agr.refl _ _)) rfl, (by omega), (fun j hj => absurd hj (Nat.not_lt_zero j)), rfl, rfl, hs⟩
        · rintro μ ρ' w14 ⟨ρo, k2, sm, rfl, hk2, hbe, hsm, rfl, hs⟩
          refine W_seq ?_
          refine W_region ?_
          refine RW_op (L_lss rfl rfl ?_)
          refine RW_nil ?_
          refine W_seq ?_
          refine W_cond (t := decide (((k2 : Nat) : Int) < ((s.ents.length : Nat) : Int))) rfl (fun c15 => ?_) (fun c15 => ?_)
          ·
            replace c15 := of_decide_eq_true c15
            refine W_skip ?_
            refine W_seq ?_
            refine W_block ?_
            refine W_seq ?_
            refine W_region ?_
            refine RW_op (L_move (V := .int .i64 ((k2 : Nat) : Int)) rfl ?_)
            refine RW_op (L_ixR UD_36 SA_59.1 (Rd.own' hr1 hs) rfl rfl (by omega) (by rw [List.length_map]; omega) ?_)
            refine RW_op (L_ldRA (j := 0) (vs := cec (gd s.ents k2)) k2 SA_59 (Rd.own' hr1 hs) (gd_at (by omega)) rfl rfl rfl (by omega) ?_)
            refine RW_op (L_alloc (cs := cec (⟨0, 0, 0, 0, (⟨0, 0⟩ : Dot), 0⟩ : Cen)) ZV_59 rfl hs fun b16 w17 hs => ?_)
            refine RW_op (L_assign (V := .int .i64 ((k2 : Nat) : Int)) rfl ?_)
            refine RW_op (L_st (V := .agg (cec (gd s.ents k2)).toArray) (vs := cec (gd s.ents k2)) (cs' := cec (gd s.ents k2)) SA_59.1 hs 2 rfl rfl rfl rfl rfl (Nat.le_of_ble_eq_true rfl) (cec_one _) (spl_whole rfl) fun w18 hs => ?_)
            replace hs : Own w no w18 [blk b1 ((vc s.known) ++ [(.slice a1 s.ents.length c1 : Value), (.slice a2 s.ticks.length c2 : Value) ]) 39, mapR mr12 dv uv sm, blk b16 (cec (gd s.ents k2)) 59] := hs
            refine RW_nil ?_
            refine W_seq ?_
            have hce := hE0 _ (gd_mem (l := s.ents) (i := k2) (by omega))
            have ⟨_, _, _, _, hdk, _⟩ := hce
            refine W_region ?_
            refine RW_op (L_ldW (cs := (vc s.known) ++ [(.slice a1 s.ents.length c1 : Value), (.slice a2 s.ticks.length c2 : Value) ]) SA_39 hs 0 rfl rfl rfl ?_)
            refine RW_op (L_fieldAddr FA_59_0 rfl ?_)
            refine RW_op (L_ld (V := .int .u16 ((gd s.ents k2).cart)) S1_31 hs 2 rfl rfl rfl ?_)
            refine RW_op (L_callP (vs := [.agg ((vc s.known) ++ [(.slice a1 s.ents.length c1 : Value), (.slice a2 s.ticks.length c2 : Value) ]).toArray, .int .u16 ((gd s.ents k2).cart)]) (V := .tuple #[.int .i64 ((posT s.ticks ((gd s.ents k2).cart) : Nat) : Int), .bool ((tickP s.ticks ((gd s.ents k2).cart)).isSome)]) EN_45 rfl rfl ?hc hs fun w19 hs => ?_)
            case hc => exact (sFind_ok _ s.known (.slice a1 s.ents.length c1) a2 c2 s.ticks ((gd s.ents k2).cart) (by omega) hT (Rd.own' hr2 hs))
            refine RW_op (L_move (V := .tuple #[.int .i64 ((posT s.ticks ((gd s.ents k2).cart) : Nat) : Int), .bool ((tickP s.ticks ((gd s.ents k2).cart)).isSome)]) rfl ?_)
            refine RW_op (L_extract (V := .int .i64 ((posT s.ticks ((gd s.ents k2).cart) : Nat) : Int)) rfl rfl ?_)
            refine RW_op (L_extract (V := .bool ((tickP s.ticks ((gd s.ents k2).cart)).isSome)) rfl rfl ?_)
            refine RW_op (L_assign (V := .int .i64 ((posT s.ticks ((gd s.ents k2).cart) : Nat) : Int)) rfl ?_)
            refine RW_op (L_assign (V := .bool ((tickP s.ticks ((gd s.ents k2).cart)).isSome)) rfl ?_)
            refine RW_nil ?_
            refine W_seq ?_
            refine W_region ?_
            refine RW_op (L_move (V := .map (some mr12)) rfl ?_)
            refine RW_op (L_fieldAddr FA_59_4 rfl ?_)
            refine RW_op (L_ldA (vs := dc ((gd s.ents k2).dot)) SA_30 hs 2 rfl rfl rfl rfl ?_)
            refine RW_op (L_lookupOkU (k := (gd s.ents k2).dot) UD_96 KO_30 ZV_98 (hs.mapf 1 rfl) rfl rfl ?_)
            refine RW_op (L_move (V := .tuple #[.agg #[], .bool ((mget ((gd s.ents k2).dot) sm).isSome)]) rfl ?_)
            refine RW_op (L_extract (V := .agg #[]) rfl rfl ?_)
            refine RW_op (L_extract (V := .bool ((mget ((gd s.ents k2).dot) sm).isSome)) rfl rfl ?_)
            refine RW_op (L_alloc (cs := []) ZV_98 rfl hs fun b20 w21 hs => ?_)
            refine RW_op (L_st (V := .agg #[]) (vs := []) (cs' := []) SA_98.1 hs 3 rfl rfl rfl rfl rfl (Nat.le_of_ble_eq_true rfl) one_nil (spl_whole rfl) fun w22 hs => ?_)
            refine RW_op (L_assign (V := .bool ((mget ((gd s.ents k2).dot) sm).isSome)) rfl ?_)
            refine RW_nil ?_
            refine W_seq ?_
            refine W_block ?_
            refine W_seq ?_
            refine W_seq ?_
            refine W_region ?_
            refine RW_op (L_move (V := .bool ((tickP s.ticks ((gd s.ents k2).cart)).isSome)) rfl ?_)
            refine RW_op (L_not rfl ?_)
            refine RW_op (L_assign (V := .bool (!((tickP s.ticks ((gd s.ents k2).cart)).isSome))) rfl ?_)
            refine RW_nil ?_
            refine W_cond (t := !((tickP s.ticks ((gd s.ents k2).cart)).isSome)) rfl (fun c23 => ?_) (fun c23 => ?_)
            ·
              replace c23 := not_t c23
              refine W_skip ?_
              refine W_condT (congrArg Value.bool (by rw [c23]; rfl)) ?_
              refine W_seq ?_
              refine W_region ?_
              refine RW_op (L_assign (V := .bool false) rfl ?_)
              refine RW_nil ?_
              refine W_ret ?_
              refine ⟨_, res_one (V := .bool false) Tryz.results10 rfl, ?_⟩
              refine ⟨congrArg Ending.returned ?_, hs.take 0⟩
              refine congrArg Value.bool (right_badE (i := k2) (by omega) ?_).symm
              unfold badE entB; rw [c23]; simp
            ·
              replace c23 := not_f c23
              refine W_seq ?_
              refine W_region ?_
              refine RW_op (L_move (V := .bool ((mget ((gd s.ents k2).dot) sm).isSome)) rfl ?_)
              refine RW_op (L_assign (V := .bool ((mget ((gd s.ents k2).dot) sm).isSome)) rfl ?_)
              refine RW_nil ?_
              refine W_cond (t := (mget ((gd s.ents k2).dot) sm).isSome) rfl (fun c24 => ?_) (fun c24 => ?_)
              ·
                refine W_skip ?_
                refine W_condT (congrArg Value.bool c24) ?_
                refine W_seq ?_
                refine W_region ?_
                refine RW_op (L_assign (V := .bool false) rfl ?_)
                refine RW_nil ?_
                refine W_ret ?_
                refine ⟨_, res_one (V := .bool false) Tryz.results10 rfl, ?_⟩
                refine ⟨congrArg Ending.returned ?_, hs.take 0⟩
                refine congrArg Value.bool (right_badE (i := k2) (by omega) ?_).symm
                unfold badE; rw [← seenE_get, ← hsm, c24]; simp
              ·
                refine W_seq ?_
                refine W_region ?_
                refine RW_op (L_ldW (cs := cec (gd s.ents k2)) SA_59 hs 2 rfl rfl rfl ?_)
                refine RW_op (L_callP (vs := [.agg (cec (gd s.ents k2)).toArray]) (V := .bool (shapedB (gd s.ents k2))) EN_46 rfl rfl ?hc hs fun w25 hs => ?_)
                case hc => exact (eShaped_ok _ (gd s.ents k2) (by assumption))
                refine RW_op (L_not rfl ?_)
                refine RW_op (L_assign (V := .bool (!(shapedB (gd s.ents k2)))) rfl ?_)
                refine RW_nil ?_
                refine W_cond (t := !(shapedB (gd s.ents k2))) rfl (fun c26 => ?_) (fun c26 => ?_)
                ·
                  replace c26 := not_t c26
                  refine W_skip ?_
                  refine W_condT (congrArg Value.bool (by rw [c26]; rfl)) ?_
                  refine W_seq ?_
                  refine W_region ?_
                  refine RW_op (L_assign (V := .bool false) rfl ?_)
                  refine RW_nil ?_
                  refine W_ret ?_
                  refine ⟨_, res_one (V := .bool false) Tryz.results10 rfl, ?_⟩
                  refine ⟨congrArg Ending.returned ?_, hs.take 0⟩
                  refine congrArg Value.bool (right_badE (i := k2) (by omega) ?_).symm
                  unfold badE entB; rw [c26]; simp
                ·
                  replace c26 := not_f c26
                  refine W_seq ?_
                  refine W_region ?_
                  refine RW_op (L_fieldAddr FA_39_0 rfl ?_)
                  refine RW_op (L_ldA (vs := vc s.known) SA_24 hs 0 rfl rfl rfl rfl ?_)
                  refine RW_op (L_fieldAddr FA_59_4 rfl ?_)
                  refine RW_op (L_ldA (vs := dc ((gd s.ents k2).dot)) SA_30 hs 2 rfl rfl rfl rfl ?_)
                  refine RW_op (L_callP (vs := [.agg (vc s.known).toArray, .agg (dc ((gd s.ents k2).dot)).toArray]) (V := .bool (hasB s.known ((gd s.ents k2).dot))) EN_47 rfl rfl ?hc hs fun w27 hs => ?_)
                  case hc => exact (vHas_ok _ s.known ((gd s.ents k2).dot) (by first | assumption | exact dotOk_mk (by omega) (by omega) (by omega) (by omega)))
                  refine RW_op (L_not rfl ?_)
                  refine RW_op (L_assign (V := .bool (!(hasB s.known ((gd s.ents k2).dot)))) rfl ?_)
                  refine RW_nil ?_
                  refine W_cond (t := !(hasB s.known ((gd s.ents k2).dot))) rfl (fun c28 => ?_) (fun c28 => ?_)
                  ·
                    replace c28 := not_t c28
                    refine W_skip ?_
                    refine W_condT (congrArg Value.bool (by rw [c28]; rfl)) ?_
                    refine W_seq ?_
                    refine W_region ?_
                    refine RW_op (L_assign (V := .bool false) rfl ?_)
                    refine RW_nil ?_
                    refine W_ret ?_
                    refine ⟨_, res_one (V := .bool false) Tryz.results10 rfl, ?_⟩
                    refine ⟨congrArg Ending.returned ?_, hs.take 0⟩
                    refine congrArg Value.bool (right_badE (i := k2) (by omega) ?_).symm
                    unfold badE entB; rw [c28]; simp
                  ·
                    replace c28 := not_f c28
                    refine W_regO [some 80, some 81, some 82, some 83, some 84, some 85, some 86, some 87, some 67] [] [0, 1, 3, 7, 15, 31, 63, 127, 255] [pv (.pointer (some ⟨b16, 0 + 6, none⟩)), pv (.int .u64 ((gd s.ents k2).count)), pv (.bool (decide ((gd s.ents k2).count < 1))), pv (.bool (decide ((gd s.ents k2).count < 1))), pg ((decide ((gd s.ents k2).count < 1)) == false) (.pointer (some ⟨b16, 0 + 6, none⟩)), pg ((decide ((gd s.ents k2).count < 1)) == false) (.int .u64 ((gd s.ents k2).count)), pg ((decide ((gd s.ents k2).count < 1)) == false) (.bool (decide (16777217 < (gd s.ents k2).count))), pv (.bool ((decide ((gd s.ents k2).count < 1)) || (decide (16777217 < (gd s.ents k2).count)))), pv (.bool ((decide ((gd s.ents k2).count < 1)) || (decide (16777217 < (gd s.ents k2).count))))] (fun _ _ => _) [8] (by kernel_rfl) hs ⟨?_, ?_, ?_, ?_, ?_, ?_, ?_, ?_, ?_, trivial⟩ ?_
                    · exact ob [] [] rfl rfl fun D ρ w hs => L_fieldAddr FA_59_5 rfl ⟨rfl, hs⟩
                    · exact ob [0] [] rfl rfl fun D ρ w hs => L_ld (V := .int .u64 ((gd s.ents k2).count)) S1_54 hs 2 rfl rfl rfl ⟨rfl, hs⟩
                    · exact ob [1] [] rfl rfl fun D ρ w hs => L_lss rfl rfl ⟨rfl, hs⟩
                    · exact ob [2] [] rfl rfl fun D ρ w hs => L_move (V := .bool (decide ((gd s.ents k2).count < 1))) rfl ⟨rfl, hs⟩
                    · exact obg [3] [] (decide ((gd s.ents k2).count < 1)) rfl (fun _ => rfl) rfl (fun _ _ _ _ h => h) fun D ρ w hG hs => L_fieldAddr FA_59_5 rfl ⟨rfl, hs⟩
                    · exact obgy [3, 4] [] [4] (decide ((gd s.ents k2).count < 1)) rfl (fun _ => rfl) rfl (fun _ _ _ _ h => h) (fun hG => ⟨hG, trivial⟩) fun D ρ w hG hs => L_ld (V := .int .u64 ((gd s.ents k2).count)) S1_54 hs 2 rfl rfl rfl ⟨rfl, hs⟩
                    · exact obgy [3, 5] [] [5] (decide ((gd s.ents k2).count < 1)) rfl (fun _ => rfl) rfl (fun _ _ _ _ h => h) (fun hG => ⟨hG, trivial⟩) fun D ρ w hG hs => L_gtr rfl rfl ⟨rfl, hs⟩
                    · exact ob [3, 6] [] rfl rfl fun D ρ w hs => L_orC (h' := decide (16777217 < (gd s.ents k2).count)) rfl rfl rfl ⟨rfl, hs⟩
                    · exact ob [7] [] rfl rfl fun D ρ w hs => L_assign (V := .bool ((decide ((gd s.ents k2).count < 1)) || (decide (16777217 < (gd s.ents k2).count)))) rfl ⟨rfl, hs⟩
                    rintro ρ1 w29 ρ2 hρ hs
                    replace hρ : ρ2 = upd (mix [80, 81, 82, 83, 84, 85, 86, 87, 67] ρ1 _) 67 (.bool ((decide ((gd s.ents k2).count < 1)) || (decide (16777217 < (gd s.ents k2).count)))) := hρ
                    subst hρ
                    refine W_cond (t := (decide ((gd s.ents k2).count < 1)) || (decide (16777217 < (gd s.ents k2).count))) rfl (fun c30 => ?_) (fun c30 => ?_)
                    ·
                      refine W_seq ?_
                      refine W_region ?_
                      refine RW_op (L_assign (V := .bool false) rfl ?_)
                      refine RW_nil ?_
                      refine W_ret ?_
                      refine ⟨_, res_one (V := .bool false) Tryz.results10 rfl, ?_⟩
                      refine ⟨congrArg Ending.returned ?_, hs.take 0⟩
                      refine congrArg Value.bool (right_badE (i := k2) (by omega) ?_).symm
                      have hq := c30
                      unfold badE entB
                      rcases Int.lt_or_le (gd s.ents k2).count 1 with q | q
                      · rw [decide_eq_false (p := 1 ≤ _) (by omega)]; simp
                      · rw [decide_eq_false (p := _ ≤ 16777217) (by simp at hq; omega)]; simp
                    ·
                      have c30r := or_r c30
                      replace c30 := or_l c30
                      replace c30 := of_decide_eq_false c30
                      replace c30r := of_decide_eq_false c30r
                      refine W_seq ?_
                      refine W_regD HM [some 89, some 90, some 91, some 92, some 93, some 94, some 95, some 96, some 97, some 98, some 99, some 100, some 101, some 88] [] [0, 1, 3, 7, 15, 7, 39, 127, 255, 7, 1023, 2047, 4095, 8191] [pv (.int .i64 ((k2 : Nat) : Int)), pv (.bool (decide (0 < ((k2 : Nat) : Int)))), pv (.bool (decide (0 < ((k2 : Nat) : Int)))), pg ((decide (0 < ((k2 : Nat) : Int))) == true) (.pointer (some ⟨b1, 0 + 16, none⟩)), pg ((decide (0 < ((k2 : Nat) : Int))) == true) (.slice a1 s.ents.length c1), pg ((decide (0 < ((k2 : Nat) : Int))) == true) (.int .i64 ((k2 : Nat) : Int)), pg ((decide (0 < ((k2 : Nat) : Int))) == true) (.int .i64 ((k2 - 1 : Nat) : Int)), pg ((decide (0 < ((k2 : Nat) : Int))) == true) (.pointer (some ⟨bkS (.slice a1 s.ents.length c1), ofS (.slice a1 s.ents.length c1) + ((k2 - 1 : Nat) : Int).toNat * 7, none⟩)), pg ((decide (0 < ((k2 : Nat) : Int))) == true) (.agg (cec (gd s.ents (k2 - 1))).toArray), pg ((decide (0 < ((k2 : Nat) : Int))) == true) (.agg (cec (gd s.ents k2)).toArray), pg ((decide (0 < ((k2 : Nat) : Int))) == true) (.int .i64 (placeI (gd s.ents (k2 - 1)) (gd s.ents k2))), pg ((decide (0 < ((k2 : Nat) : Int))) == true) (.bool (decide (0 ≤ placeI (gd s.ents (k2 - 1)) (gd s.ents k2)))), pv (.bool ((decide (0 < ((k2 : Nat) : Int))) && (decide (0 ≤ placeI (gd s.ents (k2 - 1)) (gd s.ents k2))))), pv (.bool ((decide (0 < ((k2 : Nat) : Int))) && (decide (0 ≤ placeI (gd s.ents (k2 - 1)) (gd s.ents k2)))))] (fun _ _ => _) [13] (by kernel_rfl) hs ⟨?_, ?_, ?_, ?_, ?_, ?_, ?_, ?_, ?_, ?_, ?_, ?_, ?_, ?_, trivial⟩ ?_
                      · exact ob [] [] rfl rfl fun D ρ w hs => L_move (V := .int .i64 ((k2 : Nat) : Int)) rfl ⟨rfl, hs⟩
                      · exact ob [0] [] rfl rfl fun D ρ w hs => L_gtr rfl rfl ⟨rfl, hs⟩
                      · exact ob [1] [] rfl rfl fun D ρ w hs => L_move (V := .bool (decide (0 < ((k2 : Nat) : Int)))) rfl ⟨rfl, hs⟩
                      · exact obg [2] [] (decide (0 < ((k2 : Nat) : Int))) rfl (fun _ => rfl) rfl (fun _ _ _ _ h => h) fun D ρ w hG hs => L_fieldAddr FA_39_1 rfl ⟨rfl, hs⟩
                      · exact obgy [2, 3] [] [3] (decide (0 < ((k2 : Nat) : Int))) rfl (fun _ => rfl) rfl (fun _ _ _ _ h => h) (fun hG => ⟨hG, trivial⟩) fun D ρ w hG hs => L_ld (V := .slice a1 s.ents.length c1) S1_36 hs 0 rfl rfl rfl ⟨rfl, hs⟩
                      · exact obg [2] [] (decide (0 < ((k2 : Nat) : Int))) rfl (fun _ => rfl) rfl (fun _ _ _ _ h => h) fun D ρ w hG hs => L_move (V := .int .i64 ((k2 : Nat) : Int)) rfl ⟨rfl, hs⟩
                      · refine obgy [2, 5] [] [5] (decide (0 < ((k2 : Nat) : Int))) rfl (fun _ => rfl) rfl (fun _ _ _ _ h => h) (fun hG => ⟨hG, trivial⟩) fun D ρ w hG hs => ?_
                        have hgd := of_decide_eq_true (eq_of_beq (hG))
                        exact L_sub (a := ((k2 : Nat) : Int)) (b := 1) (c := ((k2 - 1 : Nat) : Int)) rfl rfl (nat_i64 (by omega) (by omega)) ⟨rfl, hs⟩
                      · refine obgy [2, 4, 6] [] [4, 6] (decide (0 < ((k2 : Nat) : Int))) rfl (fun _ => rfl) rfl (fun _ _ _ _ h => h) (fun hG => ⟨hG, hG, trivial⟩) fun D ρ w hG hs => ?_
                        have hgd := of_decide_eq_true (eq_of_beq (hG))
                        exact L_ixR UD_36 SA_59.1 (Rd.own' hr1 hs) rfl rfl (by omega) (by rw [List.length_map]; omega) ⟨rfl, hs⟩
                      · refine obgy [2, 7] [] [7] (decide (0 < ((k2 : Nat) : Int))) rfl (fun _ => rfl) rfl (fun _ _ _ _ h => h) (fun hG => ⟨hG, trivial⟩) fun D ρ w hG hs => ?_
                        have hgd := of_decide_eq_true (eq_of_beq (hG))
                        exact L_ldRA (j := 0) (vs := cec (gd s.ents (k2 - 1))) (k2 - 1) SA_59 (Rd.own' hr1 hs) (gd_at (by omega)) rfl rfl rfl (by omega) ⟨rfl, hs⟩
                      · exact obg [2] [] (decide (0 < ((k2 : Nat) : Int))) rfl (fun _ => rfl) rfl (fun _ _ _ _ h => h) fun D ρ w hG hs => L_ldW (cs := cec (gd s.ents k2)) SA_59 hs 2 rfl rfl rfl ⟨rfl, hs⟩
                      · exact obgy [2, 8, 9] [] [8, 9] (decide (0 < ((k2 : Nat) : Int))) rfl (fun _ => rfl) rfl (fun _ _ _ _ h => h) (fun hG => ⟨hG, hG, trivial⟩) fun D ρ w hG hs => L_callP (vs := [.agg (cec (gd s.ents (k2 - 1))).toArray, .agg (cec (gd s.ents k2)).toArray]) (V := .int .i64 (placeI (gd s.ents (k2 - 1)) (gd s.ents k2))) EN_35 rfl rfl (place_ok _ (gd s.ents (k2 - 1)) (gd s.ents k2)) hs fun _ hs => ⟨rfl, hs⟩
                      · exact obgy [2, 10] [] [10] (decide (0 < ((k2 : Nat) : Int))) rfl (fun _ => rfl) rfl (fun _ _ _ _ h => h) (fun hG => ⟨hG, trivial⟩) fun D ρ w hG hs => L_geq rfl rfl ⟨rfl, hs⟩
                      · exact ob [2, 11] [] rfl rfl fun D ρ w hs => L_andC (h' := decide (0 ≤ placeI (gd s.ents (k2 - 1)) (gd s.ents k2))) rfl rfl rfl ⟨rfl, hs⟩
                      · exact ob [12] [] rfl rfl fun D ρ w hs => L_assign (V := .bool ((decide (0 < ((k2 : Nat) : Int))) && (decide (0 ≤ placeI (gd s.ents (k2 - 1)) (gd s.ents k2))))) rfl ⟨rfl, hs⟩
                      rintro ρ1 w32 ρ2 hρ hs
                      replace hρ : ρ2 = upd (mix [89, 90, 91, 92, 93, 94, 95, 96, 97, 98, 99, 100, 101, 88] ρ1 _) 88 (.bool ((decide (0 < ((k2 : Nat) : Int))) && (decide (0 ≤ placeI (gd s.ents (k2 - 1)) (gd s.ents k2))))) := hρ
                      subst hρ
                      refine W_cond (t := (decide (0 < ((k2 : Nat) : Int))) && (decide (0 ≤ placeI (gd s.ents (k2 - 1)) (gd s.ents k2)))) rfl (fun c33 => ?_) (fun c33 => ?_)
                      ·
                        have c33r := and_r c33
                        replace c33 := and_l c33
                        replace c33 := of_decide_eq_true c33
                        replace c33r := of_decide_eq_true c33r
                        refine W_seq ?_
                        refine W_region ?_
                        refine RW_op (L_assign (V := .bool false) rfl ?_)
                        refine RW_nil ?_
                        refine W_ret ?_
                        refine ⟨_, res_one (V := .bool false) Tryz.results10 rfl, ?_⟩
                        refine ⟨congrArg Ending.returned ?_, hs.take 0⟩
                        refine congrArg Value.bool (right_badE (i := k2) (by omega) ?_).symm
                        have hq := decide_eq_true c33r
                        rw [place_ge] at hq
                        unfold badE
                        rw [hq, decide_eq_true (by omega : 0 < k2)]
                        simp
                      ·
                        refine W_skip ?_
                        refine W_region ?_
                        refine RW_op (L_move (V := .map (some mr12)) rfl ?_)
                        refine RW_op (L_fieldAddr FA_59_4 rfl ?_)
                        refine RW_op (L_ldA (vs := dc ((gd s.ents k2).dot)) SA_30 hs 2 rfl rfl rfl rfl ?_)
                        refine RW_op (L_build (vs := []) (cs := []) BT_98 (rfl) rfl ?_)
                        refine RW_op (L_mapSet (k := (gd s.ents k2).dot) (v := ()) UD_96 KO_30 hs 1 rfl rfl rfl rfl fun w34 hs => ?_)
                        refine RW_nil ?_
                        refine W_region ?_
                        refine RW_op (L_add (a := ((k2 : Nat) : Int)) (b := 1) (c := ((k2 + 1 : Nat) : Int)) rfl rfl (nat_i64 (by omega) (by omega)) ?_)
                        refine RW_op (L_move (V := .int .i64 ((k2 + 1 : Nat) : Int)) rfl ?_)
                        refine RW_nil ?_
                        have hbk : badE s k2 = false := by
                          unfold badE entB
                          rw [c23, c26, c28, decide_eq_true (p := 1 ≤ _) (by omega), decide_eq_true (p := _ ≤ 16777217) (by omega), ← seenE_get, ← hsm, c24]
                          have hq := c33
                          rw [place_ge] at hq
                          simpa using hq
                        refine ⟨_, ?_, _, k2 + 1, mput ((gd s.ents k2).dot) () sm, upd_of (mix_of (ds := [2, 6, 7, 8, 9, 10, 11, 48, 49, 50, 51, 52, 53, 54, 55, 56, 57, 58, 59, 60, 61, 62, 63, 64, 65, 66, 67, 68, 69, 70, 71, 72, 73, 74, 75, 76, 77, 78, 79, 80, 81, 82, 83, 84, 85, 86, 87, 88, 89, 90, 91, 92, 93, 94, 95, 96, 97, 98, 99, 100, 101, 102, 103, 104, 105, 106]) (by repeat (first | exact Agr.refl _ _ | refine Agr.upd ?_ rfl | refine Agr.mix ?_ rfl))) rfl, (by omega), (no_step2 hbe hbk), (by rw [seenE_next (by omega), ← hsm]), rfl, hs.take 2⟩
                        omega
          ·
            replace c15 := of_decide_eq_false c15
            refine W_exit ?_
            refine W_seq ?_
            refine W_region ?_
            refine RW_op (L_assign (V := .bool true) rfl ?_)
            refine RW_nil ?_
            refine W_ret ?_
            refine ⟨_, res_one (V := .bool true) Tryz.results10 rfl, ?_⟩
            refine ⟨congrArg Ending.returned ?_, hs.take 0⟩
            exact congrArg Value.bool (rightS_iff.2 (rightS_of c4 hbt2 fun j hj => hbe j (by omega))).symm
end Tt
end Go.Proofs
namespace Go.Proofs
open Go Go.Vx Go.RowKit
namespace Tt
set_option maxRecDepth 20000 in
set_option maxHeartbeats 4000000 in
theorem ins87_ok (w : World) (S : Nat → Prop) (a : Option Addr) (c : Nat) (l : List Lst) (i : Nat) (hi : i ≤ l.length) (x : Lst) (b : Option Addr) (c2 : Nat) (hv : Rd w (.slice b 1 c2) 2 (List.map lsc [x])) (hpl : PlainR w (.slice b 1 c2)) (hnS : ¬ S (bkS (.slice b 1 c2))) (hvb : bkS (.slice b 1 c2) < w.heap.size) (hN : (l.length + 1) * 9 ≤ 140737488355328) (hR : (row (.slice a l.length c) (l.map lsc) 87 2).holds w S) (hlt : ∀ b, S b → b < w.heap.size) : Calls Tryz.prog 80 #[.slice a l.length c, .int .i64 ((i : Nat) : Int), .slice b 1 c2] w (fun e w' => ∃ x' : Option Addr × Nat, e = .returned (.slice x'.1 (insL l i x).length x'.2) ∧ Own w S w' [row (.slice x'.1 (insL l i x).length x'.2) ((insL l i x).map lsc) 87 2] ∧ True) := by
  refine calls_of_Wn (n := 95) Tryz.func80 rfl Tryz.ntmps80 rfl ?_
  have hs := Own.lent hR hlt
  have hn := (hs.rd 0 rfl).sml
  have hlc := (hs.rd 0 rfl).roomM
  have hvo : ∀ (w1 : World) (L1 : List Res), Own w S w1 L1 → Rd w1 (.slice b 1 c2) 2 (List.map lsc [x]) := fun w1 L1 h => hv.own h hnS
  refine W_seq ?_
  refine W_region ?_
  refine RW_op (L_assign (V := .slice none 0 0) rfl ?_)
  refine RW_nil ?_
  refine W_seq ?_
  refine W_region ?_
  refine RW_op (L_move (V := .slice a l.length c) rfl ?_)
  refine RW_op (L_move (V := .int .i64 ((i : Nat) : Int)) rfl ?_)
  refine RW_op (L_sl (l := i) (h := l.length) (m := c) (n' := (l.drop i).length) UDR_37 SA_87.1 (hs.rd 0 rfl) rfl (.inr ⟨_, _, rfl, rfl⟩) (.inl ⟨rfl, rfl⟩) (.inl ⟨rfl, rfl⟩) (by omega) (by omega) (Nat.le_trans (show l.length ≤ l.length by omega) (Rd.roomM (hs.rd 0 rfl))) (Nat.le_refl _) (by simp only [List.length_take, List.length_drop] <;> omega) ?_)
  refine RW_nil ?_
  refine W_seq ?_
  refine W_region ?_
  refine RW_op (L_move (V := .slice b 1 c2) rfl ?_)
  refine RW_op (opW_to (V := .int .i64 ((1 : Nat) : Int)) (V' := .int .i64 1) (L_lenR (n := 1) UD_37 (hvo _ _ hs) (by simp) rfl ⟨rfl, rfl⟩) rfl ?_)
  refine RW_op (L_assign (V := .int .i64 1) rfl ?_)
  refine RW_nil ?_
  refine W_seq ?_
  refine W_seq ?_
  refine W_region ?_
  refine RW_op (L_move (V := .int .i64 1) rfl ?_)
  refine RW_op (opW_to (V := .bool (decide ((1 : Int) = 0))) (V' := .bool false) (L_eql rfl rfl ⟨rfl, rfl⟩) (congrArg Value.bool (by decide)) ?_)
  refine RW_nil ?_
  refine W_condF rfl ?_
  refine W_skip ?_
  refine W_seq ?_
  refine W_region ?_
  refine RW_op (L_move (V := .slice a l.length c) rfl ?_)
  refine RW_op (L_lenR (n := l.length) UD_37 (hs.rd 0 rfl) (by simp) rfl ?_)
  refine RW_op (L_assign (V := .int .i64 ((l.length : Nat) : Int)) rfl ?_)
  refine RW_nil ?_
  refine W_seq ?_
  refine W_seq ?_
  refine W_region ?_
  refine RW_op (L_move (V := .int .i64 ((i : Nat) : Int)) rfl ?_)
  refine RW_op (L_move (V := .int .i64 ((l.length : Nat) : Int)) rfl ?_)
  refine RW_op (L_eql rfl rfl ?_)
  refine RW_nil ?_
  refine W_cond (t := decide (((i : Nat) : Int) = ((l.length : Nat) : Int))) rfl (fun c1 => ?_) (fun c1 => ?_)
  ·
    replace c1 := of_decide_eq_true c1
    refine W_seq ?_
    refine W_region ?_
    refine RW_op (L_move (V := .slice a l.length c) rfl ?_)
    refine RW_op (L_move (V := .slice b 1 c2) rfl ?_)
    refine RW_op (L_appN (ls' := (l ++ [x]).map lsc) (n := (l ++ [x]).length) EL_37 hs 0 rfl rfl rfl (hvo _ _ hs) (one_map lsc_one _) (by simp only [List.length_map, List.length_append, List.length_cons, List.length_nil]; omega) (by simp) (by simp) fun a2 c2 w3 hs => ?_)
    refine RW_op (L_assign (V := .slice a2 ((l ++ [x]).length) c2) rfl ?_)
    refine RW_nil ?_
    refine W_ret ?_
    refine ⟨_, res_one (V := .slice a2 ((l ++ [x]).length) c2) Tryz.results80 rfl, ?_⟩
    have hX : l ++ [x] = insL l i x := ins_end' (by omega)
    rw [hX] at hs
    exact ⟨(a2, c2), by rw [← hX], hs.only 0 rfl, trivial⟩
  ·
    replace c1 := of_decide_eq_false c1
    refine W_skip ?_
    refine W_seq ?_
    refine W_seq ?_
    refine W_region ?_
    refine RW_op (L_move (V := .int .i64 ((l.length : Nat) : Int)) rfl ?_)
    refine RW_op (L_move (V := .int .i64 1) rfl ?_)
    refine RW_op (L_add (a := ((l.length : Nat) : Int)) (b := 1) (c := ((l.length + 1 : Nat) : Int)) rfl rfl (nat_i64 (by omega) (by omega)) ?_)
    refine RW_op (L_move (V := .slice a l.length c) rfl ?_)
    refine RW_op (L_capS UD_37 rfl ?_)
    refine RW_op (L_gtr rfl rfl ?_)
    refine RW_nil ?_
    refine W_cond (t := decide (((c : Nat) : Int) < ((l.length + 1 : Nat) : Int))) rfl (fun c4 => ?_) (fun c4 => ?_)
    ·
      replace c4 := of_decide_eq_true c4
      refine W_seq ?_
      refine W_region ?_
      refine RW_op (L_move (V := .slice a l.length c) rfl ?_)
      refine RW_op (L_move (V := .int .i64 ((i : Nat) : Int)) rfl ?_)
      refine RW_op (L_slV (l := 0) (h := i) (n' := i) UDR_37 SA_87.1 (by omega) rfl (.inl ⟨rfl, rfl⟩) (.inr ⟨_, _, rfl, rfl⟩) (by omega) (by omega) (by omega) ?_)
      refine RW_op (L_move (V := .int .i64 ((l.length : Nat) : Int)) rfl ?_)
      refine RW_op (L_move (V := .int .i64 1) rfl ?_)
      refine RW_op (L_add (a := ((l.length : Nat) : Int)) (b := 1) (c := ((l.length + 1 : Nat) : Int)) rfl rfl (nat_i64 (by omega) (by omega)) ?_)
      refine RW_op (L_move (V := .int .i64 ((i : Nat) : Int)) rfl ?_)
      refine RW_op (L_sub (a := ((l.length + 1 : Nat) : Int)) (b := ((i : Nat) : Int)) (c := (((l.length + 1) - i : Nat) : Int)) rfl rfl (nat_i64 (by omega) (by omega)) ?_)
      refine RW_op (L_appZ (zl := lsc (⟨0, 0⟩ : Lst)) (ls' := (l.take i ++ List.replicate ((l.length + 1) - i) (⟨0, 0⟩ : Lst)).map lsc) EL_37 UDR_3 (.inl ZV_87) hs (hs.rd 0 rfl) rfl rfl (by rw [List.length_map]; omega) (by rw [List.length_map]; omega) (by omega) (by omega) (one_map lsc_one _) (lsc_one _) rfl (by omega) (by simp only [List.map_append, List.map_take, List.map_replicate]) (l.take i ++ List.replicate ((l.length + 1) - i) (⟨0, 0⟩ : Lst)).length (by rw [List.length_map]) fun a5 c5 w6 hs => ?_)
      refine RW_op (L_assign (V := .slice a5 ((l.take i ++ List.replicate ((l.length + 1) - i) (⟨0, 0⟩ : Lst)).length) c5) rfl ?_)
      refine RW_nil ?_
      refine W_seq ?_
      have hq9 : (l.take i ++ List.replicate ((l.length + 1) - i) (⟨0, 0⟩ : Lst)).length = l.length + 1 := by simp only [List.length_append, List.length_take, List.length_replicate]; omega
      have hr9 := (hs.rd 1 rfl).roomM
      refine W_region ?_
      refine RW_op (L_move (V := .slice a5 ((l.take i ++ List.replicate ((l.length + 1) - i) (⟨0, 0⟩ : Lst)).length) c5) rfl ?_)
      refine RW_op (L_move (V := .int .i64 ((i : Nat) : Int)) rfl ?_)
      refine RW_op (L_slV (l := i) (h := (l.take i ++ List.replicate ((l.length + 1) - i) (⟨0, 0⟩ : Lst)).length) (n' := ((l.take i ++ List.replicate ((l.length + 1) - i) (⟨0, 0⟩ : Lst)).length) - i) UDR_37 SA_87.1 (by omega) rfl (.inr ⟨_, _, rfl, rfl⟩) (.inl ⟨rfl, rfl⟩) (by omega) (by omega) (by omega) ?_)
      refine RW_op (L_move (V := .slice b 1 c2) rfl ?_)
      refine RW_op (L_copyTo (lo := i) (ms := [x].map lsc) (ls' := ((l.take i ++ List.replicate ((l.length + 1) - i) (⟨0, 0⟩ : Lst)).take i ++ [x] ++ (l.take i ++ List.replicate ((l.length + 1) - i) (⟨0, 0⟩ : Lst)).drop (i + [x].length)).map lsc) (n' := ((l.take i ++ List.replicate ((l.length + 1) - i) (⟨0, 0⟩ : Lst)).take i ++ [x] ++ (l.take i ++ List.replicate ((l.length + 1) - i) (⟨0, 0⟩ : Lst)).drop (i + [x].length)).length) EL_37 hs 1 rfl rfl rfl (by simp only [List.length_map, List.length_drop, List.length_take, List.length_cons, List.length_nil, List.length_append, List.length_replicate]; omega) (Rd.srcs (hvo _ _ hs)) (len_map (enc := lsc) (fun _ => rfl) _) (one_map lsc_one _) (by simp only [List.length_map, List.length_drop, List.length_take, List.length_cons, List.length_nil, List.length_append, List.length_replicate]; omega) (by simp only [List.length_map, List.length_drop, List.length_take, List.length_cons, List.length_nil, List.length_append, List.length_replicate]; omega) (by simp only [List.map_append, List.map_take, List.map_drop, List.map_cons, List.map_nil, List.length_map, List.length_drop, List.length_take, List.length_cons, List.length_nil]) (by rw [List.length_map]) fun w7 hs => ?_)
      refine RW_nil ?_
      refine W_seq ?_
      refine W_regD HM [some 46, some 47, some 48, some 49, some 50, some 51, some 52, some 53, some 54] [] [0, 0, 0, 6, 15, 0, 0, 96, 255] [pv (.slice a5 ((l.take i ++ List.replicate ((l.length + 1) - i) (⟨0, 0⟩ : Lst)).length) c5), pv (.int .i64 ((i : Nat) : Int)), pv (.int .i64 1), pv (.int .i64 ((i + 1 : Nat) : Int)), pv (.slice (sla a5 (i + 1) c5 2) (((l.take i ++ List.replicate ((l.length + 1) - i) (⟨0, 0⟩ : Lst)).length) - (i + 1)) (c5 - (i + 1))), pv (.slice a l.length c), pv (.int .i64 ((i : Nat) : Int)), pv (.slice (sla a i c 2) ((l.drop i).length) (c - i)), pv (.int .i64 (((List.map lsc (l.drop i)).length : Nat) : Int))] (fun D ρ => [row (.slice a l.length c) (l.map lsc) 87 2, cond (D 8) (row (.slice a5 ((((l.take i ++ List.replicate ((l.length + 1) - i) (⟨0, 0⟩ : Lst)).take i ++ [x] ++ (l.take i ++ List.replicate ((l.length + 1) - i) (⟨0, 0⟩ : Lst)).drop (i + [x].length)).take (i + 1) ++ l.drop i ++ ((l.take i ++ List.replicate ((l.length + 1) - i) (⟨0, 0⟩ : Lst)).take i ++ [x] ++ (l.take i ++ List.replicate ((l.length + 1) - i) (⟨0, 0⟩ : Lst)).drop (i + [x].length)).drop (i + 1 + (l.drop i).length)).length) c5) ((((l.take i ++ List.replicate ((l.length + 1) - i) (⟨0, 0⟩ : Lst)).take i ++ [x] ++ (l.take i ++ List.replicate ((l.length + 1) - i) (⟨0, 0⟩ : Lst)).drop (i + [x].length)).take (i + 1) ++ l.drop i ++ ((l.take i ++ List.replicate ((l.length + 1) - i) (⟨0, 0⟩ : Lst)).take i ++ [x] ++ (l.take i ++ List.replicate ((l.length + 1) - i) (⟨0, 0⟩ : Lst)).drop (i + [x].length)).drop (i + 1 + (l.drop i).length)).map lsc) 87 2) (row (.slice a5 (((l.take i ++ List.replicate ((l.length + 1) - i) (⟨0, 0⟩ : Lst)).take i ++ [x] ++ (l.take i ++ List.replicate ((l.length + 1) - i) (⟨0, 0⟩ : Lst)).drop (i + [x].length)).length) c5) (((l.take i ++ List.replicate ((l.length + 1) - i) (⟨0, 0⟩ : Lst)).take i ++ [x] ++ (l.take i ++ List.replicate ((l.length + 1) - i) (⟨0, 0⟩ : Lst)).drop (i + [x].length)).map lsc) 87 2)]) [] (by kernel_rfl) hs ⟨?_, ?_, ?_, ?_, ?_, ?_, ?_, ?_, ?_, trivial⟩ ?_
      · exact ob [] [] rfl rfl fun D ρ w hs => L_move (V := .slice a5 ((l.take i ++ List.replicate ((l.length + 1) - i) (⟨0, 0⟩ : Lst)).length) c5) rfl ⟨rfl, hs⟩
      · exact ob [] [] rfl rfl fun D ρ w hs => L_move (V := .int .i64 ((i : Nat) : Int)) rfl ⟨rfl, hs⟩
      · exact ob [] [] rfl rfl fun D ρ w hs => L_move (V := .int .i64 1) rfl ⟨rfl, hs⟩
      · exact ob [1, 2] [] rfl rfl fun D ρ w hs => L_add (a := ((i : Nat) : Int)) (b := 1) (c := ((i + 1 : Nat) : Int)) rfl rfl (nat_i64 (by omega) (by omega)) ⟨rfl, hs⟩
      · exact ob [0, 3] [] rfl rfl fun D ρ w hs => L_slV (l := i + 1) (h := (l.take i ++ List.replicate ((l.length + 1) - i) (⟨0, 0⟩ : Lst)).length) (n' := ((l.take i ++ List.replicate ((l.length + 1) - i) (⟨0, 0⟩ : Lst)).length) - (i + 1)) UDR_37 SA_87.1 (by omega) rfl (.inr ⟨_, _, rfl, rfl⟩) (.inl ⟨rfl, rfl⟩) (by omega) (by omega) (by omega) ⟨rfl, hs⟩
      · exact ob [] [] rfl rfl fun D ρ w hs => L_move (V := .slice a l.length c) rfl ⟨rfl, hs⟩
      · exact ob [] [] rfl rfl fun D ρ w hs => L_move (V := .int .i64 ((i : Nat) : Int)) rfl ⟨rfl, hs⟩
      · exact ob [5, 6] [] rfl rfl fun D ρ w hs => L_sl (l := i) (h := l.length) (m := c) (n' := (l.drop i).length) UDR_37 SA_87.1 (hs.rd 0 rfl) rfl (.inr ⟨_, _, rfl, rfl⟩) (.inl ⟨rfl, rfl⟩) (.inl ⟨rfl, rfl⟩) (by omega) (by omega) (Nat.le_trans (show l.length ≤ l.length by omega) (Rd.roomM (hs.rd 0 rfl))) (Nat.le_refl _) (by simp only [List.length_take, List.length_drop] <;> omega) ⟨rfl, hs⟩
      · exact ob [4, 7] [] rfl rfl fun D ρ w hs => L_copyTo (lo := i + 1) (ms := (l.drop i).map lsc) (ls' := (((l.take i ++ List.replicate ((l.length + 1) - i) (⟨0, 0⟩ : Lst)).take i ++ [x] ++ (l.take i ++ List.replicate ((l.length + 1) - i) (⟨0, 0⟩ : Lst)).drop (i + [x].length)).take (i + 1) ++ l.drop i ++ ((l.take i ++ List.replicate ((l.length + 1) - i) (⟨0, 0⟩ : Lst)).take i ++ [x] ++ (l.take i ++ List.replicate ((l.length + 1) - i) (⟨0, 0⟩ : Lst)).drop (i + [x].length)).drop (i + 1 + (l.drop i).length)).map lsc) (n' := (((l.take i ++ List.replicate ((l.length + 1) - i) (⟨0, 0⟩ : Lst)).take i ++ [x] ++ (l.take i ++ List.replicate ((l.length + 1) - i) (⟨0, 0⟩ : Lst)).drop (i + [x].length)).take (i + 1) ++ l.drop i ++ ((l.take i ++ List.replicate ((l.length + 1) - i) (⟨0, 0⟩ : Lst)).take i ++ [x] ++ (l.take i ++ List.replicate ((l.length + 1) - i) (⟨0, 0⟩ : Lst)).drop (i + [x].length)).drop (i + 1 + (l.drop i).length)).length) EL_37 hs 1 rfl rfl rfl (by simp only [List.length_map, List.length_drop, List.length_take, List.length_cons, List.length_nil, List.length_append, List.length_replicate]; omega) (Rd.srcs (Rd.dropM (hs.rd 0 rfl) i hi _ rfl)) (len_map (enc := lsc) (fun _ => rfl) _) (one_map lsc_one _) (by simp only [List.length_map, List.length_drop, List.length_take, List.length_cons, List.length_nil, List.length_append, List.length_replicate]; omega) (by simp only [List.length_map, List.length_drop, List.length_take, List.length_cons, List.length_nil, List.length_append, List.length_replicate]; omega) (by simp only [List.map_append, List.map_take, List.map_drop, List.map_cons, List.map_nil, List.length_map, List.length_drop, List.length_take, List.length_cons, List.length_nil]) (by rw [List.length_map]) fun _ hs => ⟨rfl, hs⟩
      rintro ρ1 w9 ρ2 hρ hs
      replace hρ : ρ2 = mix [46, 47, 48, 49, 50, 51, 52, 53, 54] ρ1 _ := hρ
      replace hs : Own w S w9 [row (.slice a l.length c) (l.map lsc) 87 2, row (.slice a5 ((((l.take i ++ List.replicate ((l.length + 1) - i) (⟨0, 0⟩ : Lst)).take i ++ [x] ++ (l.take i ++ List.replicate ((l.length + 1) - i) (⟨0, 0⟩ : Lst)).drop (i + [x].length)).take (i + 1) ++ l.drop i ++ ((l.take i ++ List.replicate ((l.length + 1) - i) (⟨0, 0⟩ : Lst)).take i ++ [x] ++ (l.take i ++ List.replicate ((l.length + 1) - i) (⟨0, 0⟩ : Lst)).drop (i + [x].length)).drop (i + 1 + (l.drop i).length)).length) c5) ((((l.take i ++ List.replicate ((l.length + 1) - i) (⟨0, 0⟩ : Lst)).take i ++ [x] ++ (l.take i ++ List.replicate ((l.length + 1) - i) (⟨0, 0⟩ : Lst)).drop (i + [x].length)).take (i + 1) ++ l.drop i ++ ((l.take i ++ List.replicate ((l.length + 1) - i) (⟨0, 0⟩ : Lst)).take i ++ [x] ++ (l.take i ++ List.replicate ((l.length + 1) - i) (⟨0, 0⟩ : Lst)).drop (i + [x].length)).drop (i + 1 + (l.drop i).length)).map lsc) 87 2] := hs
      subst hρ
      refine W_seq ?_
      refine W_region ?_
      refine RW_op (L_move (V := .slice a5 ((l.take i ++ List.replicate ((l.length + 1) - i) (⟨0, 0⟩ : Lst)).length) c5) rfl ?_)
      refine RW_op (L_assign (V := .slice a5 ((l.take i ++ List.replicate ((l.length + 1) - i) (⟨0, 0⟩ : Lst)).length) c5) rfl ?_)
      refine RW_nil ?_
      refine W_ret ?_
      refine ⟨_, res_one (V := .slice a5 ((l.take i ++ List.replicate ((l.length + 1) - i) (⟨0, 0⟩ : Lst)).length) c5) Tryz.results80 rfl, ?_⟩
      have hX : ((l.take i ++ List.replicate ((l.length + 1) - i) (⟨0, 0⟩ : Lst)).take i ++ [x] ++ (l.take i ++ List.replicate ((l.length + 1) - i) (⟨0, 0⟩ : Lst)).drop (i + [x].length)).take (i + 1) ++ l.drop i ++ ((l.take i ++ List.replicate ((l.length + 1) - i) (⟨0, 0⟩ : Lst)).take i ++ [x] ++ (l.take i ++ List.replicate ((l.length + 1) - i) (⟨0, 0⟩ : Lst)).drop (i + [x].length)).drop (i + 1 + (l.drop i).length) = insL l i x := ins_grow hi
      rw [hX] at hs
      exact ⟨(a5, c5), by rw [hq9, insL_len hi], hs.only 1 rfl, trivial⟩
    ·
      replace c4 := of_decide_eq_false c4
      refine W_skip ?_
      refine W_seq ?_
      refine W_region ?_
      refine RW_op (L_move (V := .slice a l.length c) rfl ?_)
      refine RW_op (L_move (V := .int .i64 ((l.length : Nat) : Int)) rfl ?_)
      refine RW_op (L_move (V := .int .i64 1) rfl ?_)
      refine RW_op (L_add (a := ((l.length : Nat) : Int)) (b := 1) (c := ((l.length + 1 : Nat) : Int)) rfl rfl (nat_i64 (by omega) (by omega)) ?_)
      refine RW_op (opW_to (V := .slice (sla a 0 c 2) (l.length + 1) (c - 0)) (V' := .slice a (l.length + 1) c) (L_slV (l := 0) (h := l.length + 1) (n' := l.length + 1) UDR_37 SA_87.1 (by omega) rfl (.inl ⟨rfl, rfl⟩) (.inr ⟨_, _, rfl, rfl⟩) (by omega) (by omega) (by omega) ⟨rfl, rfl⟩) (by rw [sla_zero]; rfl) ?_)
      refine RW_op (L_assign (V := .slice a (l.length + 1) c) rfl ?_)
      refine RW_nil ?_
      refine W_seq ?_
      refine W_seq ?_
      refine W_region ?_
      refine RW_op (L_move (V := .slice b 1 c2) rfl ?_)
      refine RW_op (L_move (V := .slice a (l.length + 1) c) rfl ?_)
      refine RW_op (L_move (V := .int .i64 ((i : Nat) : Int)) rfl ?_)
      refine RW_op (L_move (V := .int .i64 1) rfl ?_)
      refine RW_op (L_add (a := ((i : Nat) : Int)) (b := 1) (c := ((i + 1 : Nat) : Int)) rfl rfl (nat_i64 (by omega) (by omega)) ?_)
      refine RW_op (L_slV (l := i + 1) (h := l.length + 1) (n' := (l.length + 1) - (i + 1)) UDR_37 SA_87.1 (by omega) rfl (.inr ⟨_, _, rfl, rfl⟩) (.inl ⟨rfl, rfl⟩) (by omega) (by omega) (by omega) ?_)
      refine RW_op (L_overA (f := 107) (tR := 4) (lo := i + 1) Tryz.func107 (by kernel_rfl) (by kernel_rfl) (by kernel_rfl) (by kernel_rfl) UDR_37 SA_87.1 rfl hs 0 rfl (by rw [List.length_map]; omega) (by decide) rfl (hpl.own hs hnS) hnS hvb (by omega) rfl ?_)
      refine RW_op (L_not rfl ?_)
      refine RW_nil ?_
      refine W_condT rfl ?_
      refine W_seq ?_
      refine W_regD HM [some 69, some 70, some 71, some 72, some 73, some 74, some 75, some 76, some 77] [] [0, 0, 0, 6, 15, 0, 0, 96, 255] [pv (.slice a (l.length + 1) c), pv (.int .i64 ((i : Nat) : Int)), pv (.int .i64 1), pv (.int .i64 ((i + 1 : Nat) : Int)), pv (.slice (sla a (i + 1) c 2) ((l.length + 1) - (i + 1)) (c - (i + 1))), pv (.slice a (l.length + 1) c), pv (.int .i64 ((i : Nat) : Int)), pv (.slice (sla a i c 2) ((l.length + 1) - i) (c - i)), pv (.int .i64 (((List.map lsc (l.drop i)).length : Nat) : Int))] (fun D ρ => [cond (D 8) (row (.slice a ((l.take (i + 1) ++ l.drop i ++ l.drop (i + 1 + (l.drop i).length)).length) c) ((l.take (i + 1) ++ l.drop i ++ l.drop (i + 1 + (l.drop i).length)).map lsc) 87 2) (row (.slice a l.length c) (l.map lsc) 87 2)]) [] (by kernel_rfl) hs ⟨?_, ?_, ?_, ?_, ?_, ?_, ?_, ?_, ?_, trivial⟩ ?_
      · exact ob [] [] rfl rfl fun D ρ w hs => L_move (V := .slice a (l.length + 1) c) rfl ⟨rfl, hs⟩
      · exact ob [] [] rfl rfl fun D ρ w hs => L_move (V := .int .i64 ((i : Nat) : Int)) rfl ⟨rfl, hs⟩
      · exact ob [] [] rfl rfl fun D ρ w hs => L_move (V := .int .i64 1) rfl ⟨rfl, hs⟩
      · exact ob [1, 2] [] rfl rfl fun D ρ w hs => L_add (a := ((i : Nat) : Int)) (b := 1) (c := ((i + 1 : Nat) : Int)) rfl rfl (nat_i64 (by omega) (by omega)) ⟨rfl, hs⟩
      · exact ob [0, 3] [] rfl rfl fun D ρ w hs => L_slV (l := i + 1) (h := l.length + 1) (n' := (l.length + 1) - (i + 1)) UDR_37 SA_87.1 (by omega) rfl (.inr ⟨_, _, rfl, rfl⟩) (.inl ⟨rfl, rfl⟩) (by omega) (by omega) (by omega) ⟨rfl, hs⟩
      · exact ob [] [] rfl rfl fun D ρ w hs => L_move (V := .slice a (l.length + 1) c) rfl ⟨rfl, hs⟩
      · exact ob [] [] rfl rfl fun D ρ w hs => L_move (V := .int .i64 ((i : Nat) : Int)) rfl ⟨rfl, hs⟩
      · exact ob [5, 6] [] rfl rfl fun D ρ w hs => L_slV (l := i) (h := l.length + 1) (n' := (l.length + 1) - i) UDR_37 SA_87.1 (by omega) rfl (.inr ⟨_, _, rfl, rfl⟩) (.inl ⟨rfl, rfl⟩) (by omega) (by omega) (by omega) ⟨rfl, hs⟩
      · exact ob [4, 7] [] rfl rfl fun D ρ w hs => L_copyTo (lo := i + 1) (ms := (l.drop i).map lsc) (ls' := (l.take (i + 1) ++ l.drop i ++ l.drop (i + 1 + (l.drop i).length)).map lsc) (n' := (l.take (i + 1) ++ l.drop i ++ l.drop (i + 1 + (l.drop i).length)).length) EL_37 hs 0 rfl rfl rfl (by simp only [List.length_map, List.length_drop, List.length_take, List.length_cons, List.length_nil, List.length_append, List.length_replicate]; omega) (Rd.srcs (Rd.dropM (hs.rd 0 rfl) i hi _ rfl)) (len_map (enc := lsc) (fun _ => rfl) _) (one_map lsc_one _) (by simp only [List.length_map, List.length_drop, List.length_take, List.length_cons, List.length_nil, List.length_append, List.length_replicate]; omega) (by simp only [List.length_map, List.length_drop, List.length_take, List.length_cons, List.length_nil, List.length_append, List.length_replicate]; omega) (by simp only [List.map_append, List.map_take, List.map_drop, List.map_cons, List.map_nil, List.length_map, List.length_drop, List.length_take, List.length_cons, List.length_nil]) (by rw [List.length_map]) fun _ hs => ⟨rfl, hs⟩
      rintro ρ1 w11 ρ2 hρ hs
      replace hρ : ρ2 = mix [69, 70, 71, 72, 73, 74, 75, 76, 77] ρ1 _ := hρ
      replace hs : Own w S w11 [row (.slice a ((l.take (i + 1) ++ l.drop i ++ l.drop (i + 1 + (l.drop i).length)).length) c) ((l.take (i + 1) ++ l.drop i ++ l.drop (i + 1 + (l.drop i).length)).map lsc) 87 2] := hs
      subst hρ
      refine W_seq ?_
      refine W_region ?_
      refine RW_op (L_move (V := .slice a (l.length + 1) c) rfl ?_)
      refine RW_op (L_move (V := .int .i64 ((i : Nat) : Int)) rfl ?_)
      refine RW_op (L_slV (l := i) (h := l.length + 1) (n' := (l.length + 1) - i) UDR_37 SA_87.1 (by omega) rfl (.inr ⟨_, _, rfl, rfl⟩) (.inl ⟨rfl, rfl⟩) (by omega) (by omega) (by omega) ?_)
      refine RW_op (L_move (V := .slice b 1 c2) rfl ?_)
      refine RW_op (L_copyTo (lo := i) (ms := [x].map lsc) (ls' := ((l.take (i + 1) ++ l.drop i ++ l.drop (i + 1 + (l.drop i).length)).take i ++ [x] ++ (l.take (i + 1) ++ l.drop i ++ l.drop (i + 1 + (l.drop i).length)).drop (i + [x].length)).map lsc) (n' := ((l.take (i + 1) ++ l.drop i ++ l.drop (i + 1 + (l.drop i).length)).take i ++ [x] ++ (l.take (i + 1) ++ l.drop i ++ l.drop (i + 1 + (l.drop i).length)).drop (i + [x].length)).length) EL_37 hs 0 rfl rfl rfl (by simp only [List.length_map, List.length_drop, List.length_take, List.length_cons, List.length_nil, List.length_append, List.length_replicate]; omega) (Rd.srcs (hvo _ _ hs)) (len_map (enc := lsc) (fun _ => rfl) _) (one_map lsc_one _) (by simp only [List.length_map, List.length_drop, List.length_take, List.length_cons, List.length_nil, List.length_append, List.length_replicate]; omega) (by simp only [List.length_map, List.length_drop, List.length_take, List.length_cons, List.length_nil, List.length_append, List.length_replicate]; omega) (by simp only [List.map_append, List.map_take, List.map_drop, List.map_cons, List.map_nil, List.length_map, List.length_drop, List.length_take, List.length_cons, List.length_nil]) (by rw [List.length_map]) fun w12 hs => ?_)
      refine RW_nil ?_
      refine W_seq ?_
      refine W_region ?_
      refine RW_op (L_move (V := .slice a (l.length + 1) c) rfl ?_)
      refine RW_op (L_assign (V := .slice a (l.length + 1) c) rfl ?_)
      refine RW_nil ?_
      refine W_ret ?_
      refine ⟨_, res_one (V := .slice a (l.length + 1) c) Tryz.results80 rfl, ?_⟩
      have hX : (l.take (i + 1) ++ l.drop i ++ l.drop (i + 1 + (l.drop i).length)).take i ++ [x] ++ (l.take (i + 1) ++ l.drop i ++ l.drop (i + 1 + (l.drop i).length)).drop (i + [x].length) = insL l i x := ins_room (by omega)
      rw [hX] at hs
      exact ⟨(a, c), by rw [insL_len hi], hs.only 0 rfl, trivial⟩
end Tt
end Go.Proofs
namespace Go.Proofs
open Go Go.Vx Go.RowKit
namespace Tt
set_option maxRecDepth 20000 in
set_option maxHeartbeats 4000000 in
theorem tick_ok (w : World) (S : Nat → Prop) (b : Nat) (kn : Vec) (v1 : Value) (a2 : Option Addr) (c2 : Nat) (ts : List Lst) (l : Lst) (hlt : ts.length ≤ 10000) (hT : RisT ts) (hR : (star [blk b (vc kn ++ [(v1 : Value), (.slice a2 ts.length c2 : Value)]) 39, row (.slice a2 ts.length c2) (ts.map lsc) 87 2]).holds w S) (hlS : ∀ x, S x → x < w.heap.size) : Calls Tryz.prog 37 #[.pointer (some ⟨b, 0, none⟩), .agg (lsc l).toArray] w (fun e w' => ∃ x : Option Addr × Nat, e = .returned (.tuple #[]) ∧ Own w S w' [star [blk b (vc kn ++ [(v1 : Value), (.slice x.1 (putT l.cart l.tick ts).length x.2 : Value)]) 39, row (.slice x.1 (putT l.cart l.tick ts).length x.2) ((putT l.cart l.tick ts).map lsc) 87 2]] ∧ True) := by
  refine calls_of_Wn (n := 46) Tryz.func37 rfl Tryz.ntmps37 rfl ?_
  have hs := (Own.lent hR hlS).split 0 rfl
  have hpl := posT_le ts l.cart
  refine W_seq ?_
  refine W_region ?_
  refine RW_op (L_box (V := .agg (lsc l).toArray) (cs := lsc l) rfl rfl hs fun b1 w2 hs => ?_)
  refine RW_nil ?_
  refine W_seq ?_
  refine W_regD HM [some 7, some 8, some 9, some 10, some 11, some 12, some 6, some 13, some 14, some 4, some 5] [] [0, 1, 3, 0, 8, 31, 63, 127, 127, 255, 1023] [pv (.pointer (some ⟨b, 0, none⟩)), pv (.pointer (some ⟨b, 0, none⟩)), pv (.agg ((vc kn) ++ [(v1 : Value), (.slice a2 ts.length c2 : Value) ]).toArray), pv (.pointer (some ⟨b1, 0 + 0, none⟩)), pv (.int .u16 l.cart), pv (.tuple #[.int .i64 ((posT ts l.cart : Nat) : Int), .bool ((tickP ts l.cart).isSome)]), pv (.tuple #[.int .i64 ((posT ts l.cart : Nat) : Int), .bool ((tickP ts l.cart).isSome)]), pv (.int .i64 ((posT ts l.cart : Nat) : Int)), pv (.bool ((tickP ts l.cart).isSome)), pv (.int .i64 ((posT ts l.cart : Nat) : Int)), pv (.bool ((tickP ts l.cart).isSome))] (fun _ _ => _) [10, 9] (by kernel_rfl) hs ⟨?_, ?_, ?_, ?_, ?_, ?_, ?_, ?_, ?_, ?_, ?_, trivial⟩ ?_
  · exact ob [] [] rfl rfl fun D ρ w hs => L_move (V := .pointer (some ⟨b, 0, none⟩)) rfl ⟨rfl, hs⟩
  · exact ob [0] [] rfl rfl fun D ρ w hs => L_nilCheck rfl ⟨rfl, hs⟩
  · exact ob [1] [] rfl rfl fun D ρ w hs => L_ldW (cs := (vc kn) ++ [(v1 : Value), (.slice a2 ts.length c2 : Value) ]) SA_39 hs 0 rfl rfl rfl ⟨rfl, hs⟩
  · exact ob [] [] rfl rfl fun D ρ w hs => L_fieldAddr FA_87_0 rfl ⟨rfl, hs⟩
  · exact ob [3] [] rfl rfl fun D ρ w hs => L_ld (V := .int .u16 l.cart) S1_31 hs 2 rfl rfl rfl ⟨rfl, hs⟩
  · exact ob [2, 4] [] rfl rfl fun D ρ w hs => L_callP (vs := [.agg ((vc kn) ++ [(v1 : Value), (.slice a2 ts.length c2 : Value) ]).toArray, .int .u16 l.cart]) (V := .tuple #[.int .i64 ((posT ts l.cart : Nat) : Int), .bool ((tickP ts l.cart).isSome)]) EN_45 rfl rfl (sFind_ok _ kn v1 a2 c2 ts l.cart (by omega) hT (hs.rd 1 rfl)) hs fun _ hs => ⟨rfl, hs⟩
  · exact ob [5] [] rfl rfl fun D ρ w hs => L_move (V := .tuple #[.int .i64 ((posT ts l.cart : Nat) : Int), .bool ((tickP ts l.cart).isSome)]) rfl ⟨rfl, hs⟩
  · exact ob [6] [] rfl rfl fun D ρ w hs => L_extract (V := .int .i64 ((posT ts l.cart : Nat) : Int)) rfl rfl ⟨rfl, hs⟩
  · exact ob [6] [] rfl rfl fun D ρ w hs => L_extract (V := .bool ((tickP ts l.cart).isSome)) rfl rfl ⟨rfl, hs⟩
  · exact ob [7] [] rfl rfl fun D ρ w hs => L_assign (V := .int .i64 ((posT ts l.cart : Nat) : Int)) rfl ⟨rfl, hs⟩
  · exact ob [8] [] rfl rfl fun D ρ w hs => L_assign (V := .bool ((tickP ts l.cart).isSome)) rfl ⟨rfl, hs⟩
  rintro ρ1 w4 ρ2 hρ hs
  replace hρ : ρ2 = upd (upd (mix [7, 8, 9, 10, 11, 12, 6, 13, 14, 4, 5] ρ1 _) 4 (.int .i64 ((posT ts l.cart : Nat) : Int))) 5 (.bool ((tickP ts l.cart).isSome)) := hρ
  subst hρ
  refine W_seq ?_
  refine W_seq ?_
  refine W_region ?_
  refine RW_op (L_move (V := .bool ((tickP ts l.cart).isSome)) rfl ?_)
  refine RW_op (L_not rfl ?_)
  refine RW_nil ?_
  refine W_cond (t := !((tickP ts l.cart).isSome)) rfl (fun c5 => ?_) (fun c5 => ?_)
  ·
    replace c5 := not_t c5
    refine W_seq ?_
    replace hs := hs.more emp trivial
    refine W_regD HM [some 17, some 18, some 19, some 20, some 21, some 22, some 23, some 24, some 25, some 26, some 27, none] [[], [], [], [], [], [], [], [24], [25]] [0, 0, 2, 6, 14, 0, 0, 64, 254, 511, 1023, 2047] [pv (.pointer (some ⟨b, 0, none⟩)), pv (.pointer (some ⟨b, 0, none⟩)), pv (.pointer (some ⟨b, 0, none⟩)), pv (.pointer (some ⟨b, 0 + 17, none⟩)), pv (.slice a2 ts.length c2), pv (.int .i64 ((posT ts l.cart : Nat) : Int)), pv (.agg (lsc l).toArray), (true, fun ρ => .slice (some ⟨(bOf (ρ 24)), 0, none⟩) 1 1), (true, fun ρ => .slice (aOf (ρ 25)) ((insL ts (posT ts l.cart) l).length) (cOf (ρ 25))), pv (.pointer (some ⟨b, 0, none⟩)), pv (.pointer (some ⟨b, 0 + 17, none⟩)), pn] (fun D ρ => [cond (D 11) (blk b ((vc kn) ++ [(v1 : Value), (.slice (aOf (ρ 25)) ((insL ts (posT ts l.cart) l).length) (cOf (ρ 25)) : Value) ]) 39) (blk b ((vc kn) ++ [(v1 : Value), (.slice a2 ts.length c2 : Value) ]) 39), cond (D 8) (row (.slice (aOf (ρ 25)) ((insL ts (posT ts l.cart) l).length) (cOf (ρ 25))) ((insL ts (posT ts l.cart) l).map lsc) 87 2) (row (.slice a2 ts.length c2) (ts.map lsc) 87 2), blk b1 (lsc l) 87, cond (D 7) (row (.slice (some ⟨(bOf (ρ 24)), 0, none⟩) 1 1) ([l].map lsc) 87 2) (emp)]) [] (by kernel_rfl) hs ⟨?_, ?_, ?_, ?_, ?_, ?_, ?_, ?_, ?_, ?_, ?_, ?_, trivial⟩ ?_
    · exact ob [] [] rfl rfl fun D ρ w hs => L_move (V := .pointer (some ⟨b, 0, none⟩)) rfl ⟨rfl, hs⟩
    · exact ob [] [] rfl rfl fun D ρ w hs => L_move (V := .pointer (some ⟨b, 0, none⟩)) rfl ⟨rfl, hs⟩
    · exact ob [1] [] rfl rfl fun D ρ w hs => L_nilCheck rfl ⟨rfl, hs⟩
    · exact ob [2] [] rfl rfl fun D ρ w hs => L_fieldAddr FA_39_2 rfl ⟨rfl, hs⟩
    · exact ob [3] [11] rfl rfl fun D ρ w hs => L_ld (V := .slice a2 ts.length c2) S1_37 hs 0 rfl rfl rfl ⟨rfl, hs⟩
    · exact ob [] [] rfl rfl fun D ρ w hs => L_move (V := .int .i64 ((posT ts l.cart : Nat) : Int)) rfl ⟨rfl, hs⟩
    · exact ob [] [] rfl rfl fun D ρ w hs => L_ldW (cs := lsc l) SA_87 hs 2 rfl rfl rfl ⟨rfl, hs⟩
    · exact ob [6] [] rfl rfl fun D ρ w hs => L_bs (vals := [.agg (lsc l).toArray]) (ls := List.map lsc ([l] : List Lst)) EL_37 rfl rfl rfl (len_map (enc := lsc) (fun _ => rfl) _) (one_map lsc_one _) (Nat.le_of_ble_eq_true rfl) hs fun _ _ hs => ⟨rfl, hs.put 3 (Nat.le_of_ble_eq_true rfl)⟩
    · exact ob [4, 5, 7] [11] rfl rfl fun D ρ w hs => L_callD (α := Option Addr × Nat) (vs := [.slice a2 ts.length c2, .int .i64 ((posT ts l.cart : Nat) : Int), .slice (some ⟨(bOf (ρ 24)), 0, none⟩) 1 1]) (V := fun x => .slice x.1 (insL ts (posT ts l.cart) l).length x.2) (R := row (.slice a2 ts.length c2) (ts.map lsc) 87 2) (R' := fun x => row (.slice x.1 (insL ts (posT ts l.cart) l).length x.2) ((insL ts (posT ts l.cart) l).map lsc) 87 2) (Lo := fun _ => []) (F := fun _ _ => True) EN_80 rfl rfl hs 1 3 (by decide) rfl rfl (Nat.le_of_ble_eq_true rfl) (fun S hS hlt hnS hpl9 => ins87_ok _ S a2 c2 ts (posT ts l.cart) hpl l (some ⟨(bOf (ρ 24)), 0, none⟩) 1 (hs.rd 3 rfl) hpl9 hnS hpl9.lt (by omega) hS hlt) fun _ _ hs _ => ⟨rfl, hs⟩
    · exact ob [0] [] rfl rfl fun D ρ w hs => L_nilCheck rfl ⟨rfl, hs⟩
    · exact ob [9] [] rfl rfl fun D ρ w hs => L_fieldAddr FA_39_2 rfl ⟨rfl, hs⟩
    · exact ob [8, 10] [] rfl rfl fun D ρ w hs => L_st1 (V := .slice (aOf (ρ 25)) ((insL ts (posT ts l.cart) l).length) (cOf (ρ 25))) (cs' := (vc kn) ++ [(v1 : Value), (.slice (aOf (ρ 25)) ((insL ts (posT ts l.cart) l).length) (cOf (ρ 25)) : Value) ]) S1_37 hs 0 rfl rfl rfl rfl (Nat.le_of_ble_eq_true rfl) rfl fun _ hs => ⟨trivial, hs⟩
    rintro ρ1 w9 ρ2 hρ hs
    replace hρ : ρ2 = mix [17, 18, 19, 20, 21, 22, 23, 24, 25, 26, 27] ρ1 _ := hρ
    replace hs : Own w S w9 [blk b ((vc kn) ++ [(v1 : Value), (.slice (aOf (ρ1 25)) ((insL ts (posT ts l.cart) l).length) (cOf (ρ1 25)) : Value) ]) 39, row (.slice (aOf (ρ1 25)) ((insL ts (posT ts l.cart) l).length) (cOf (ρ1 25))) ((insL ts (posT ts l.cart) l).map lsc) 87 2, blk b1 (lsc l) 87, row (.slice (some ⟨(bOf (ρ1 24)), 0, none⟩) 1 1) ([l].map lsc) 87 2] := hs
    generalize (bOf (ρ1 24)) = b10 at hs
    generalize (aOf (ρ1 25)) = a11 at hs
    generalize (cOf (ρ1 25)) = c12 at hs
    subst hρ
    refine W_ret ?_
    refine ⟨_, res_none Tryz.results37, ?_⟩
    have hX : insL ts (posT ts l.cart) l = putT l.cart l.tick ts := (putT_ins hT c5).symm
    have ho := (hs.join 0 1 (by decide) rfl rfl).only 0 rfl
    rw [hX] at ho
    exact ⟨(a11, c12), rfl, ho, trivial⟩
  ·
    replace c5 := not_f c5
    refine W_skip ?_
    have hfa := find_at hT c5
    have hfb := hfa.1
    refine W_regD HM [some 28, some 29, some 30, some 31, some 32, some 33, some 34, some 35, some 36, some 37, some 38, some 39, some 40, some 41, some 42, some 43, some 44, some 45, none] [] [0, 1, 3, 7, 0, 0, 32, 96, 224, 0, 992, 2016, 4064, 0, 8192, 32736, 65535, 131071, 262143] [pv (.pointer (some ⟨b, 0, none⟩)), pv (.pointer (some ⟨b, 0, none⟩)), pv (.pointer (some ⟨b, 0 + 17, none⟩)), pv (.slice a2 ts.length c2), pv (.int .i64 ((posT ts l.cart : Nat) : Int)), pv (.pointer (some ⟨b, 0, none⟩)), pv (.pointer (some ⟨b, 0, none⟩)), pv (.pointer (some ⟨b, 0 + 17, none⟩)), pv (.slice a2 ts.length c2), pv (.int .i64 ((posT ts l.cart : Nat) : Int)), pv (.pointer (some ⟨bkS (.slice a2 ts.length c2), ofS (.slice a2 ts.length c2) + ((posT ts l.cart : Nat) : Int).toNat * 2, none⟩)), pv (.pointer (some ⟨bkS (.slice a2 ts.length c2), ofS (.slice a2 ts.length c2) + ((posT ts l.cart : Nat) : Int).toNat * 2 + 1, none⟩)), pv (.int .u32 ((gd ts (posT ts l.cart)).tick)), pv (.pointer (some ⟨b1, 0 + 1, none⟩)), pv (.int .u32 l.tick), pv (.int .u32 (max ((gd ts (posT ts l.cart)).tick) l.tick)), pv (.pointer (some ⟨bkS (.slice a2 ts.length c2), ofS (.slice a2 ts.length c2) + ((posT ts l.cart : Nat) : Int).toNat * 2, none⟩)), pv (.pointer (some ⟨bkS (.slice a2 ts.length c2), ofS (.slice a2 ts.length c2) + ((posT ts l.cart : Nat) : Int).toNat * 2 + 1, none⟩)), pn] (fun D ρ => [blk b ((vc kn) ++ [(v1 : Value), (.slice a2 ts.length c2 : Value) ]) 39, cond (D 18) (row (.slice a2 ts.length c2) ((ts.set (posT ts l.cart) (⟨(gd ts (posT ts l.cart)).cart, max ((gd ts (posT ts l.cart)).tick) l.tick⟩ : Lst)).map lsc) 87 2) (row (.slice a2 ts.length c2) (ts.map lsc) 87 2), blk b1 (lsc l) 87]) [] (by kernel_rfl) hs ⟨?_, ?_, ?_, ?_, ?_, ?_, ?_, ?_, ?_, ?_, ?_, ?_, ?_, ?_, ?_, ?_, ?_, ?_, ?_, trivial⟩ ?_
    · exact ob [] [] rfl rfl fun D ρ w hs => L_move (V := .pointer (some ⟨b, 0, none⟩)) rfl ⟨rfl, hs⟩
    · exact ob [0] [] rfl rfl fun D ρ w hs => L_nilCheck rfl ⟨rfl, hs⟩
    · exact ob [1] [] rfl rfl fun D ρ w hs => L_fieldAddr FA_39_2 rfl ⟨rfl, hs⟩
    · exact ob [2] [] rfl rfl fun D ρ w hs => L_ld (V := .slice a2 ts.length c2) S1_37 hs 0 rfl rfl rfl ⟨rfl, hs⟩
    · exact ob [] [] rfl rfl fun D ρ w hs => L_move (V := .int .i64 ((posT ts l.cart : Nat) : Int)) rfl ⟨rfl, hs⟩
    · exact ob [] [] rfl rfl fun D ρ w hs => L_move (V := .pointer (some ⟨b, 0, none⟩)) rfl ⟨rfl, hs⟩
    · exact ob [5] [] rfl rfl fun D ρ w hs => L_nilCheck rfl ⟨rfl, hs⟩
    · exact ob [6] [] rfl rfl fun D ρ w hs => L_fieldAddr FA_39_2 rfl ⟨rfl, hs⟩
    · exact ob [7] [] rfl rfl fun D ρ w hs => L_ld (V := .slice a2 ts.length c2) S1_37 hs 0 rfl rfl rfl ⟨rfl, hs⟩
    · exact ob [] [] rfl rfl fun D ρ w hs => L_move (V := .int .i64 ((posT ts l.cart : Nat) : Int)) rfl ⟨rfl, hs⟩
    · exact ob [8, 9] [18] rfl rfl fun D ρ w hs => L_ixR UD_37 SA_87.1 (hs.rd 1 rfl) rfl rfl (by omega) (by rw [List.length_map]; omega) ⟨rfl, hs⟩
    · exact ob [10] [] rfl rfl fun D ρ w hs => L_fieldAddr FA_87_1 rfl ⟨rfl, hs⟩
    · exact ob [11] [18] rfl rfl fun D ρ w hs => L_ldR (j := 1) (V := .int .u32 ((gd ts (posT ts l.cart)).tick)) (posT ts l.cart) S1_22 (hs.rd 1 rfl) (gd_at (by omega)) rfl rfl (by omega) ⟨rfl, hs⟩
    · exact ob [] [] rfl rfl fun D ρ w hs => L_fieldAddr FA_87_1 rfl ⟨rfl, hs⟩
    · exact ob [13] [] rfl rfl fun D ρ w hs => L_ld (V := .int .u32 l.tick) S1_22 hs 2 rfl rfl rfl ⟨rfl, hs⟩
    · exact ob [12, 14] [] rfl rfl fun D ρ w hs => L_max rfl rfl ⟨rfl, hs⟩
    · exact ob [3, 4] [18] rfl rfl fun D ρ w hs => L_ixR UD_37 SA_87.1 (hs.rd 1 rfl) rfl rfl (by omega) (by rw [List.length_map]; omega) ⟨rfl, hs⟩
    · exact ob [16] [] rfl rfl fun D ρ w hs => L_fieldAddr FA_87_1 rfl ⟨rfl, hs⟩
    · exact ob [15, 17] [] rfl rfl fun D ρ w hs => L_stF (z := (⟨(gd ts (posT ts l.cart)).cart, max ((gd ts (posT ts l.cart)).tick) l.tick⟩ : Lst)) (vs := [.int .u32 (max ((gd ts (posT ts l.cart)).tick) l.tick)]) (posT ts l.cart) 1 S1_22.1 hs 1 rfl rfl (by omega) (by first | omega | (simp only [List.length_set]; omega)) rfl rfl rfl rfl (Nat.le_of_ble_eq_true rfl) (lsc_one _) (one_cons rfl one_nil) fun _ hs => ⟨trivial, hs⟩
    rintro ρ1 w14 ρ2 hρ hs
    replace hρ : ρ2 = mix [28, 29, 30, 31, 32, 33, 34, 35, 36, 37, 38, 39, 40, 41, 42, 43, 44, 45] ρ1 _ := hρ
    replace hs : Own w S w14 [blk b ((vc kn) ++ [(v1 : Value), (.slice a2 ts.length c2 : Value) ]) 39, row (.slice a2 ts.length c2) ((ts.set (posT ts l.cart) (⟨(gd ts (posT ts l.cart)).cart, max ((gd ts (posT ts l.cart)).tick) l.tick⟩ : Lst)).map lsc) 87 2, blk b1 (lsc l) 87] := hs
    subst hρ
    refine ⟨_, res_none Tryz.results37, ?_⟩
    have hX : ts.set (posT ts l.cart) (⟨(gd ts (posT ts l.cart)).cart, max ((gd ts (posT ts l.cart)).tick) l.tick⟩ : Lst) = putT l.cart l.tick ts := by rw [putT_set hT c5]; congr 1; rw [(find_at hT c5).2.1]
    have ho := (hs.join 0 1 (by decide) rfl rfl).only 0 rfl
    have hl : ts.length = (putT l.cart l.tick ts).length := by rw [← hX, List.length_set]
    rw [hX, hl] at ho
    exact ⟨(a2, c2), rfl, ho, trivial⟩
end Tt
end Go.Proofs
