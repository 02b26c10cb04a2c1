/- A part of a proof: what functions of the program compute, and plain facts on that. -/
import Derived.Test.YtnanhhiofnohbaaVtD
namespace Go.Proofs
open Go Go.Vx Go.RowKit
namespace Tt
set_option maxRecDepth 20000 in
theorem BT_52 : Bt Try.prog 52 [(0, 16), (16, 1)] ((vc vzero) ++ [(.map none : Value) ]) := Bt_struct Try.type52 rfl rfl Try.underlying52 (by kernel_rfl)
set_option maxRecDepth 20000 in
theorem EL_120 : El Try.prog 120 3 1 8 := ⟨Try.underlying120, _, _, Try.type3, rfl, rfl, rfl, rfl, by decide⟩
theorem EN_43 : En Try.prog 43 := Try.call43
theorem EN_66 : En Try.prog 66 := Try.call66
theorem EN_67 : En Try.prog 67 := Try.call67
theorem EN_68 : En Try.prog 68 := Try.call68
theorem EN_82 : En Try.prog 82 := Try.call82
theorem EN_83 : En Try.prog 83 := Try.call83
theorem S1_3 : T1 Try.prog 3 := ⟨Try.sizeOf3, Try.isAgg3⟩
theorem UD_120 : Ud Try.prog 120 (.slice 3) := Try.runUnderlying120
set_option maxRecDepth 20000 in
set_option maxHeartbeats 4000000 in
theorem gNew_ok (w : World) (v : Vec) (hv : VecOk v) : Calls Try.prog 16 #[.agg (vc v).toArray] w (fun e w' => ∃ x : Nat × Nat, e = .returned (cond (rightB v 16) (.pointer (some ⟨x.1, 0, none⟩)) (.pointer none)) ∧ Own w no w' [onlyIf (rightB v 16) (gR 52 x.1 x.2 ⟨v, []⟩)] ∧ True) := by
  refine calls_of_Wn (n := 10) Try.func16 rfl Try.ntmps16 rfl ?_
  have hs := Own.start w
  refine W_seq ?_
  refine W_region ?_
  refine RW_op (L_box (V := .agg (vc v).toArray) (cs := vc v) rfl rfl hs fun b1 w2 hs => ?_)
  refine RW_op (L_assign (V := .pointer none) rfl ?_)
  refine RW_nil ?_
  refine W_seq ?_
  refine W_seq ?_
  refine W_region ?_
  refine RW_op (L_ldW (cs := vc v) SA_24 hs 0 rfl rfl rfl ?_)
  refine RW_op (L_callP (vs := [.agg (vc v).toArray, .int .i64 16]) (V := .bool (rightB v 16)) EN_43 rfl rfl (vRight_ok _ v 16 (by first | assumption | exact vzero_ok)) hs fun w3 hs => ?_)
  refine RW_op (L_not rfl ?_)
  refine RW_nil ?_
  refine W_cond (t := !(rightB v 16)) rfl (fun c4 => ?_) (fun c4 => ?_)
  ·
    replace c4 := not_t c4
    refine W_seq ?_
    refine W_region ?_
    refine RW_op (L_assign (V := .pointer none) rfl ?_)
    refine RW_nil ?_
    refine W_ret ?_
    refine ⟨_, res_one (V := .pointer none) Try.results16 rfl, ?_⟩
    rw [show rightB v 16 = false from c4]
    exact ⟨(0, 0), rfl, (hs.take 0).more emp trivial, trivial⟩
  ·
    replace c4 := not_f c4
    refine W_skip ?_
    refine W_seq ?_
    refine W_region ?_
    refine RW_op (L_ldW (cs := vc v) SA_24 hs 0 rfl rfl rfl ?_)
    refine RW_op (L_makeMap rfl hs dv uv fun r5 w6 hs => ?_)
    refine RW_op (L_build (vs := [(0, .agg (vc v).toArray), (1, .map (some r5))]) (cs := (vc v) ++ [(.map (some r5) : Value) ]) BT_52 (rfl) rfl ?_)
    refine RW_op (L_box (V := .agg ((vc v) ++ [(.map (some r5) : Value) ]).toArray) (cs := (vc v) ++ [(.map (some r5) : Value) ]) rfl rfl hs fun b7 w8 hs => ?_)
    refine RW_op (L_assign (V := .pointer (some ⟨b7, 0, none⟩)) rfl ?_)
    refine RW_nil ?_
    refine W_ret ?_
    refine ⟨_, res_one (V := .pointer (some ⟨b7, 0, none⟩)) Try.results16 rfl, ?_⟩
    rw [show rightB v 16 = true from c4]
    exact ⟨(b7, r5), rfl, (hs.join 2 1 (by decide) rfl rfl).only 2 rfl, trivial⟩
set_option maxRecDepth 20000 in
set_option maxHeartbeats 4000000 in
theorem isNaN_uint8_ok (w : World) (x : Int) : Calls Try.prog 82 #[.int .u8 x] w (fun e w' => e = .returned (.bool false) ∧ Own w no w' []) := by
  refine calls_of_Wn (n := 6) Try.func82 rfl Try.ntmps82 rfl ?_
  have hs := Own.start w
  refine W_seq ?_
  refine W_region ?_
  refine RW_op (L_assign (V := .bool false) rfl ?_)
  refine RW_nil ?_
  refine W_seq ?_
  refine W_region ?_
  refine RW_op (L_move (V := .int .u8 x) rfl ?_)
  refine RW_op (L_move (V := .int .u8 x) rfl ?_)
  refine RW_op (L_neq rfl rfl ?_)
  refine RW_op (L_assign (V := .bool (!decide (x = x))) rfl ?_)
  refine RW_nil ?_
  refine W_ret ?_
  refine ⟨_, res_one (V := .bool (!decide (x = x))) Try.results82 rfl, ?_⟩
  refine ⟨congrArg Ending.returned ?_, hs.take 0⟩
  simp
set_option maxRecDepth 20000 in
set_option maxHeartbeats 4000000 in
theorem cmp_uint8_ok (w : World) (x y : Int) : Calls Try.prog 67 #[.int .u8 x, .int .u8 y] w (fun e w' => e = .returned (.int .i64 (cmpI x y)) ∧ Own w no w' []) := by
  refine calls_of_Wn (n := 20) Try.func67 rfl Try.ntmps67 rfl ?_
  have hs := Own.start w
  refine W_seq ?_
  refine W_region ?_
  refine RW_op (L_assign (V := .int .i64 0) rfl ?_)
  refine RW_nil ?_
  refine W_seq ?_
  refine W_region ?_
  refine RW_op (L_move (V := .int .u8 x) rfl ?_)
  refine RW_op (L_callP (vs := [.int .u8 x]) (V := .bool false) EN_82 rfl rfl (isNaN_uint8_ok _ x) hs fun w1 hs => ?_)
  refine RW_op (L_assign (V := .bool false) rfl ?_)
  refine RW_nil ?_
  refine W_seq ?_
  refine W_region ?_
  refine RW_op (L_move (V := .int .u8 y) rfl ?_)
  refine RW_op (L_callP (vs := [.int .u8 y]) (V := .bool false) EN_82 rfl rfl (isNaN_uint8_ok _ y) hs fun w2 hs => ?_)
  refine RW_op (L_assign (V := .bool false) rfl ?_)
  refine RW_nil ?_
  refine W_seq ?_
  refine W_seq ?_
  refine W_region ?_
  refine RW_op (L_move (V := .bool false) rfl ?_)
  refine RW_nil ?_
  refine W_condF rfl ?_
  refine W_skip ?_
  refine W_seq ?_
  refine W_seq ?_
  refine W_region ?_
  refine RW_op (L_move (V := .bool false) rfl ?_)
  refine RW_nil ?_
  refine W_condF rfl ?_
  refine W_skip ?_
  refine W_seq ?_
  refine W_seq ?_
  refine W_region ?_
  refine RW_op (L_move (V := .int .u8 x) rfl ?_)
  refine RW_op (L_move (V := .int .u8 y) rfl ?_)
  refine RW_op (L_lss rfl rfl ?_)
  refine RW_nil ?_
  refine W_cond (t := decide (x < y)) rfl (fun c3 => ?_) (fun c3 => ?_)
  ·
    replace c3 := of_decide_eq_true c3
    refine W_seq ?_
    refine W_region ?_
    refine RW_op (L_assign (V := .int .i64 (-1)) rfl ?_)
    refine RW_nil ?_
    refine W_ret ?_
    refine ⟨_, res_one (V := .int .i64 (-1)) Try.results67 rfl, ?_⟩
    refine ⟨congrArg Ending.returned ?_, hs.take 0⟩
    rw [cmpI_eq, if_pos c3]
  ·
    replace c3 := of_decide_eq_false c3
    refine W_skip ?_
    refine W_seq ?_
    refine W_seq ?_
    refine W_region ?_
    refine RW_op (L_move (V := .int .u8 x) rfl ?_)
    refine RW_op (L_move (V := .int .u8 y) rfl ?_)
    refine RW_op (L_gtr rfl rfl ?_)
    refine RW_nil ?_
    refine W_cond (t := decide (y < x)) rfl (fun c4 => ?_) (fun c4 => ?_)
    ·
      replace c4 := of_decide_eq_true c4
      refine W_seq ?_
      refine W_region ?_
      refine RW_op (L_assign (V := .int .i64 1) rfl ?_)
      refine RW_nil ?_
      refine W_ret ?_
      refine ⟨_, res_one (V := .int .i64 1) Try.results67 rfl, ?_⟩
      refine ⟨congrArg Ending.returned ?_, hs.take 0⟩
      rw [cmpI_eq, if_neg c3, if_pos c4]
    ·
      replace c4 := of_decide_eq_false c4
      refine W_skip ?_
      refine W_seq ?_
      refine W_region ?_
      refine RW_op (L_assign (V := .int .i64 0) rfl ?_)
      refine RW_nil ?_
      refine W_ret ?_
      refine ⟨_, res_one (V := .int .i64 0) Try.results67 rfl, ?_⟩
      refine ⟨congrArg Ending.returned ?_, hs.take 0⟩
      rw [cmpI_eq, if_neg c3, if_neg c4]
set_option maxRecDepth 20000 in
set_option maxHeartbeats 4000000 in
theorem isNaN_uint32_ok (w : World) (x : Int) : Calls Try.prog 83 #[.int .u32 x] w (fun e w' => e = .returned (.bool false) ∧ Own w no w' []) := by
  refine calls_of_Wn (n := 6) Try.func83 rfl Try.ntmps83 rfl ?_
  have hs := Own.start w
  refine W_seq ?_
  refine W_region ?_
  refine RW_op (L_assign (V := .bool false) rfl ?_)
  refine RW_nil ?_
  refine W_seq ?_
  refine W_region ?_
  refine RW_op (L_move (V := .int .u32 x) rfl ?_)
  refine RW_op (L_move (V := .int .u32 x) rfl ?_)
  refine RW_op (L_neq rfl rfl ?_)
  refine RW_op (L_assign (V := .bool (!decide (x = x))) rfl ?_)
  refine RW_nil ?_
  refine W_ret ?_
  refine ⟨_, res_one (V := .bool (!decide (x = x))) Try.results83 rfl, ?_⟩
  refine ⟨congrArg Ending.returned ?_, hs.take 0⟩
  simp
set_option maxRecDepth 20000 in
set_option maxHeartbeats 4000000 in
theorem cmp_uint32_ok (w : World) (x y : Int) : Calls Try.prog 68 #[.int .u32 x, .int .u32 y] w (fun e w' => e = .returned (.int .i64 (cmpI x y)) ∧ Own w no w' []) := by
  refine calls_of_Wn (n := 20) Try.func68 rfl Try.ntmps68 rfl ?_
  have hs := Own.start w
  refine W_seq ?_
  refine W_region ?_
  refine RW_op (L_assign (V := .int .i64 0) rfl ?_)
  refine RW_nil ?_
  refine W_seq ?_
  refine W_region ?_
  refine RW_op (L_move (V := .int .u32 x) rfl ?_)
  refine RW_op (L_callP (vs := [.int .u32 x]) (V := .bool false) EN_83 rfl rfl (isNaN_uint32_ok _ x) hs fun w1 hs => ?_)
  refine RW_op (L_assign (V := .bool false) rfl ?_)
  refine RW_nil ?_
  refine W_seq ?_
  refine W_region ?_
  refine RW_op (L_move (V := .int .u32 y) rfl ?_)
  refine RW_op (L_callP (vs := [.int .u32 y]) (V := .bool false) EN_83 rfl rfl (isNaN_uint32_ok _ y) hs fun w2 hs => ?_)
  refine RW_op (L_assign (V := .bool false) rfl ?_)
  refine RW_nil ?_
  refine W_seq ?_
  refine W_seq ?_
  refine W_region ?_
  refine RW_op (L_move (V := .bool false) rfl ?_)
  refine RW_nil ?_
  refine W_condF rfl ?_
  refine W_skip ?_
  refine W_seq ?_
  refine W_seq ?_
  refine W_region ?_
  refine RW_op (L_move (V := .bool false) rfl ?_)
  refine RW_nil ?_
  refine W_condF rfl ?_
  refine W_skip ?_
  refine W_seq ?_
  refine W_seq ?_
  refine W_region ?_
  refine RW_op (L_move (V := .int .u32 x) rfl ?_)
  refine RW_op (L_move (V := .int .u32 y) rfl ?_)
  refine RW_op (L_lss rfl rfl ?_)
  refine RW_nil ?_
  refine W_cond (t := decide (x < y)) rfl (fun c3 => ?_) (fun c3 => ?_)
  ·
    replace c3 := of_decide_eq_true c3
    refine W_seq ?_
    refine W_region ?_
    refine RW_op (L_assign (V := .int .i64 (-1)) rfl ?_)
    refine RW_nil ?_
    refine W_ret ?_
    refine ⟨_, res_one (V := .int .i64 (-1)) Try.results68 rfl, ?_⟩
    refine ⟨congrArg Ending.returned ?_, hs.take 0⟩
    rw [cmpI_eq, if_pos c3]
  ·
    replace c3 := of_decide_eq_false c3
    refine W_skip ?_
    refine W_seq ?_
    refine W_seq ?_
    refine W_region ?_
    refine RW_op (L_move (V := .int .u32 x) rfl ?_)
    refine RW_op (L_move (V := .int .u32 y) rfl ?_)
    refine RW_op (L_gtr rfl rfl ?_)
    refine RW_nil ?_
    refine W_cond (t := decide (y < x)) rfl (fun c4 => ?_) (fun c4 => ?_)
    ·
      replace c4 := of_decide_eq_true c4
      refine W_seq ?_
      refine W_region ?_
      refine RW_op (L_assign (V := .int .i64 1) rfl ?_)
      refine RW_nil ?_
      refine W_ret ?_
      refine ⟨_, res_one (V := .int .i64 1) Try.results68 rfl, ?_⟩
      refine ⟨congrArg Ending.returned ?_, hs.take 0⟩
      rw [cmpI_eq, if_neg c3, if_pos c4]
    ·
      replace c4 := of_decide_eq_false c4
      refine W_skip ?_
      refine W_seq ?_
      refine W_region ?_
      refine RW_op (L_assign (V := .int .i64 0) rfl ?_)
      refine RW_nil ?_
      refine W_ret ?_
      refine ⟨_, res_one (V := .int .i64 0) Try.results68 rfl, ?_⟩
      refine ⟨congrArg Ending.returned ?_, hs.take 0⟩
      rw [cmpI_eq, if_neg c3, if_neg c4]
set_option maxRecDepth 20000 in
set_option maxHeartbeats 4000000 in
theorem or_ok (w : World) (a : Option Addr) (c : Nat) (l : List Int) (hr : Rd w (.slice a l.length c) 1 (l.map (ic .i64))) : Calls Try.prog 66 #[.slice a l.length c] w (fun e w' => e = .returned (.int .i64 (orI l)) ∧ Own w no w' []) := by
  refine calls_of_Wn (n := 18) Try.func66 rfl Try.ntmps66 rfl ?_
  have hs := Own.start w
  have hn := hr.sml
  refine W_seq ?_
  refine W_region ?_
  refine RW_op (L_assign (V := .int .i64 0) rfl ?_)
  refine RW_nil ?_
  refine W_seq ?_
  refine W_region ?_
  refine RW_op (L_assign (V := .int .i64 0) rfl ?_)
  refine RW_nil ?_
  refine W_seq ?_
  refine W_seq ?_
  refine W_region ?_
  refine RW_op (L_move (V := .slice a l.length c) rfl ?_)
  refine RW_op (L_lenR (n := l.length) UD_120 (Rd.own' hr hs) (by simp) rfl ?_)
  refine RW_op (L_move (V := .int .i64 0) rfl ?_)
  refine RW_nil ?_
  refine W_block ?_
  refine W_loopI (fun ρ m ρ' w' => ∃ (ρo : Env) (k : Nat), ρ' = upd (mix [2, 5, 8, 9, 10, 11, 12, 13, 14, 15, 16] ρo ρ) 8 (.int .i64 (k : Int)) ∧ (k ≤ l.length) ∧ (∀ j : Nat, j < k → gd l j = 0) ∧ m = l.length - k ∧ Own w no w' []) ?_ ?_
  · exact ⟨_, _, 0, upd_of (mix_of (ds := [2, 5, 8, 9, 10, 11, 12, 13, 14, 15, 16]) (Agr.refl _ _)) rfl, (by omega), (fun j hj => absurd hj (Nat.not_lt_zero j)), rfl, hs⟩
  · rintro m ρ' w1 ⟨ρo, k, rfl, hk, h0, rfl, hs⟩
    refine W_seq ?_
    refine W_region ?_
    refine RW_op (L_lss rfl rfl ?_)
    refine RW_nil ?_
    refine W_seq ?_
    refine W_cond (t := decide ((k : Int) < ((l.length : Nat) : Int))) rfl (fun c2 => ?_) (fun c2 => ?_)
    ·
      replace c2 := of_decide_eq_true c2
      refine W_skip ?_
      refine W_seq ?_
      refine W_block ?_
      refine W_seq ?_
      refine W_region ?_
      refine RW_op (L_ixR UD_120 S1_3.1 (Rd.own' hr hs) rfl rfl (by omega) (by rw [List.length_map]; omega) ?_)
      refine RW_op (L_ldR (j := 0) (V := .int .i64 (gd l k)) k S1_3 (Rd.own' hr hs) (gd_at (by omega)) rfl rfl (by omega) ?_)
      refine RW_op (L_assign (V := .int .i64 (gd l k)) rfl ?_)
      refine RW_nil ?_
      refine W_seq ?_
      refine W_region ?_
      refine RW_op (L_move (V := .int .i64 (gd l k)) rfl ?_)
      refine RW_op (L_move (V := .int .i64 0) rfl ?_)
      refine RW_op (L_neq rfl rfl ?_)
      refine RW_nil ?_
      refine W_cond (t := !decide (gd l k = 0)) rfl (fun c3 => ?_) (fun c3 => ?_)
      ·
        replace c3 := not_t c3
        replace c3 := of_decide_eq_false c3
        refine W_seq ?_
        refine W_region ?_
        refine RW_op (L_move (V := .int .i64 (gd l k)) rfl ?_)
        refine RW_op (L_assign (V := .int .i64 (gd l k)) rfl ?_)
        refine RW_nil ?_
        refine W_ret ?_
        refine ⟨_, res_one (V := .int .i64 (gd l k)) Try.results66 rfl, ?_⟩
        refine ⟨congrArg Ending.returned ?_, hs.take 0⟩
        exact congrArg (Value.int IntKind.i64) (orI_yes (by omega) h0 c3).symm
      ·
        replace c3 := not_f c3
        replace c3 := of_decide_eq_true c3
        refine W_skip ?_
        refine W_region ?_
        refine RW_op (L_add (a := (k : Int)) (b := 1) (c := (k : Int) + 1) rfl rfl (wr_i64 (by omega) (by omega)) ?_)
        refine RW_op (L_move (V := .int .i64 ((k : Int) + 1)) rfl ?_)
        refine RW_nil ?_
        refine ⟨_, ?_, _, k + 1, upd_of (mix_of (ds := [2, 5, 8, 9, 10, 11, 12, 13, 14, 15, 16]) (by repeat (first | exact Agr.refl _ _ | refine Agr.upd ?_ rfl | refine Agr.mix ?_ rfl))) rfl, (by omega), (or_step h0 c3), rfl, hs.take 0⟩
        omega
    ·
      replace c2 := of_decide_eq_false c2
      refine W_exit ?_
      refine W_seq ?_
      refine W_region ?_
      refine RW_op (L_move (V := .int .i64 0) rfl ?_)
      refine RW_op (L_assign (V := .int .i64 0) rfl ?_)
      refine RW_nil ?_
      refine W_ret ?_
      refine ⟨_, res_one (V := .int .i64 0) Try.results66 rfl, ?_⟩
      refine ⟨congrArg Ending.returned ?_, hs.take 0⟩
      exact congrArg (Value.int IntKind.i64) (orI_no fun j hj => h0 j (by omega)).symm
set_option maxRecDepth 20000 in
set_option maxHeartbeats 4000000 in
theorem order_ok (w : World) (x y : Dot) : Calls Try.prog 51 #[.agg (dc x).toArray, .agg (dc y).toArray] w (fun e w' => e = .returned (.int .i64 (ordD x y)) ∧ Own w no w' []) := by
  refine calls_of_Wn (n := 17) Try.func51 rfl Try.ntmps51 rfl ?_
  have hs := Own.start w
  refine W_seq ?_
  refine W_region ?_
  refine RW_op (L_box (V := .agg (dc x).toArray) (cs := dc x) rfl rfl hs fun b1 w2 hs => ?_)
  refine RW_op (L_box (V := .agg (dc y).toArray) (cs := dc y) rfl rfl hs fun b3 w4 hs => ?_)
  refine RW_op (L_assign (V := .int .i64 0) rfl ?_)
  refine RW_nil ?_
  refine W_seq ?_
  replace hs := hs.more emp trivial
  replace hs := hs.drew
  refine W_draw2 HM [5, 6, 7, 8, 9, 10, 11, 12, 13, 14, 15, 16, 4] [[], [0], [], [2], [1, 3], [], [5], [], [7], [6, 8, 4], [4, 9], [10, 9], [11, 11, 0, 1, 2, 3, 4, 5, 6, 7, 8, 9, 10, 11]] (fun D ρ wx => Own w no wx [blk b1 (dc x) 34, blk b3 (dc y) 34, cond (D 10) (row (.slice (some ⟨(bOf (ρ 15)), 0, none⟩) 2 2) ([cmpI x.rep y.rep, cmpI x.seq y.seq].map (ic .i64)) 3 1) (emp)] ∧ (D 0 = true → ρ 5 = .pointer (some ⟨b1, 0 + 0, none⟩)) ∧ (D 1 = true → ρ 6 = .int .u8 x.rep) ∧ (D 2 = true → ρ 7 = .pointer (some ⟨b3, 0 + 0, none⟩)) ∧ (D 3 = true → ρ 8 = .int .u8 y.rep) ∧ (D 4 = true → ρ 9 = .int .i64 (cmpI x.rep y.rep)) ∧ (D 5 = true → ρ 10 = .pointer (some ⟨b1, 0 + 1, none⟩)) ∧ (D 6 = true → ρ 11 = .int .u32 x.seq) ∧ (D 7 = true → ρ 12 = .pointer (some ⟨b3, 0 + 1, none⟩)) ∧ (D 8 = true → ρ 13 = .int .u32 y.seq) ∧ (D 9 = true → ρ 14 = .int .i64 (cmpI x.seq y.seq)) ∧ (D 10 = true → ρ 15 = .slice (some ⟨(bOf (ρ 15)), 0, none⟩) 2 2) ∧ (D 11 = true → ρ 16 = .int .i64 (orI [cmpI x.rep y.rep, cmpI x.seq y.seq])) ∧ (D 12 = true → ρ 4 = .int .i64 (orI [cmpI x.rep y.rep, cmpI x.seq y.seq]))) rfl rfl rfl ⟨hs, fun h => absurd h Bool.false_ne_true, fun h => absurd h Bool.false_ne_true, fun h => absurd h Bool.false_ne_true, fun h => absurd h Bool.false_ne_true, fun h => absurd h Bool.false_ne_true, fun h => absurd h Bool.false_ne_true, fun h => absurd h Bool.false_ne_true, fun h => absurd h Bool.false_ne_true, fun h => absurd h Bool.false_ne_true, fun h => absurd h Bool.false_ne_true, fun h => absurd h Bool.false_ne_true, fun h => absurd h Bool.false_ne_true, fun h => absurd h Bool.false_ne_true⟩ ⟨?_, ?_, ?_, ?_, ?_, ?_, ?_, ?_, ?_, ?_, ?_, ?_, ?_, trivial⟩ ?_
  · rintro D ρ wx hD hd hdc hf ⟨hs, f0, f1, f2, f3, f4, f5, f6, f7, f8, f9, f10, f11, f12⟩
    have r2 : ρ 2 = .pointer (some ⟨b1, 0, none⟩) := outD hf 2 rfl
    exact .inl ⟨rfl, L_fieldAddr FA_34_0 r2 ⟨hs, fun _ => rfl, f1, f2, f3, f4, f5, f6, f7, f8, f9, f10, f11, f12⟩⟩
  · rintro D ρ wx hD hd hdc hf ⟨hs, f0, f1, f2, f3, f4, f5, f6, f7, f8, f9, f10, f11, f12⟩
    have g0 := f0 (doneD hd 0 rfl)
    exact .inl ⟨rfl, L_ld (V := .int .u8 x.rep) S1_5 hs 0 rfl g0 rfl ⟨hs, f0, fun _ => rfl, f2, f3, f4, f5, f6, f7, f8, f9, f10, f11, f12⟩⟩
  · rintro D ρ wx hD hd hdc hf ⟨hs, f0, f1, f2, f3, f4, f5, f6, f7, f8, f9, f10, f11, f12⟩
    have r3 : ρ 3 = .pointer (some ⟨b3, 0, none⟩) := outD hf 3 rfl
    exact .inl ⟨rfl, L_fieldAddr FA_34_0 r3 ⟨hs, f0, f1, fun _ => rfl, f3, f4, f5, f6, f7, f8, f9, f10, f11, f12⟩⟩
  · rintro D ρ wx hD hd hdc hf ⟨hs, f0, f1, f2, f3, f4, f5, f6, f7, f8, f9, f10, f11, f12⟩
    have g2 := f2 (doneD hd 2 rfl)
    exact .inl ⟨rfl, L_ld (V := .int .u8 y.rep) S1_5 hs 1 rfl g2 rfl ⟨hs, f0, f1, f2, fun _ => rfl, f4, f5, f6, f7, f8, f9, f10, f11, f12⟩⟩
  · rintro D ρ wx hD hd hdc hf ⟨hs, f0, f1, f2, f3, f4, f5, f6, f7, f8, f9, f10, f11, f12⟩
    have g1 := f1 (doneD hd 1 rfl)
    have g3 := f3 (doneD hd 3 rfl)
    exact .inl ⟨rfl, L_callP (vs := [.int .u8 x.rep, .int .u8 y.rep]) (V := .int .i64 (cmpI x.rep y.rep)) EN_67 rfl (mapc g1 (mapc g3 rfl)) (cmp_uint8_ok _ x.rep y.rep) hs fun _ hs0 => ⟨hs0, f0, f1, f2, f3, fun _ => rfl, f5, f6, f7, f8, f9, f10, f11, f12⟩⟩
  · rintro D ρ wx hD hd hdc hf ⟨hs, f0, f1, f2, f3, f4, f5, f6, f7, f8, f9, f10, f11, f12⟩
    have r2 : ρ 2 = .pointer (some ⟨b1, 0, none⟩) := outD hf 2 rfl
    exact .inl ⟨rfl, L_fieldAddr FA_34_1 r2 ⟨hs, f0, f1, f2, f3, f4, fun _ => rfl, f6, f7, f8, f9, f10, f11, f12⟩⟩
  · rintro D ρ wx hD hd hdc hf ⟨hs, f0, f1, f2, f3, f4, f5, f6, f7, f8, f9, f10, f11, f12⟩
    have g5 := f5 (doneD hd 5 rfl)
    exact .inl ⟨rfl, L_ld (V := .int .u32 x.seq) S1_22 hs 0 rfl g5 rfl ⟨hs, f0, f1, f2, f3, f4, f5, fun _ => rfl, f7, f8, f9, f10, f11, f12⟩⟩
  · rintro D ρ wx hD hd hdc hf ⟨hs, f0, f1, f2, f3, f4, f5, f6, f7, f8, f9, f10, f11, f12⟩
    have r3 : ρ 3 = .pointer (some ⟨b3, 0, none⟩) := outD hf 3 rfl
    exact .inl ⟨rfl, L_fieldAddr FA_34_1 r3 ⟨hs, f0, f1, f2, f3, f4, f5, f6, fun _ => rfl, f8, f9, f10, f11, f12⟩⟩
  · rintro D ρ wx hD hd hdc hf ⟨hs, f0, f1, f2, f3, f4, f5, f6, f7, f8, f9, f10, f11, f12⟩
    have g7 := f7 (doneD hd 7 rfl)
    exact .inl ⟨rfl, L_ld (V := .int .u32 y.seq) S1_22 hs 1 rfl g7 rfl ⟨hs, f0, f1, f2, f3, f4, f5, f6, f7, fun _ => rfl, f9, f10, f11, f12⟩⟩
  · rintro D ρ wx hD hd hdc hf ⟨hs, f0, f1, f2, f3, f4, f5, f6, f7, f8, f9, f10, f11, f12⟩
    have g6 := f6 (doneD hd 6 rfl)
    have g8 := f8 (doneD hd 8 rfl)
    exact .inl ⟨rfl, L_callP (vs := [.int .u32 x.seq, .int .u32 y.seq]) (V := .int .i64 (cmpI x.seq y.seq)) EN_68 rfl (mapc g6 (mapc g8 rfl)) (cmp_uint32_ok _ x.seq y.seq) hs fun _ hs0 => ⟨hs0, f0, f1, f2, f3, f4, f5, f6, f7, f8, fun _ => rfl, f10, f11, f12⟩⟩
  · rintro D ρ wx hD hd hdc hf ⟨hs, f0, f1, f2, f3, f4, f5, f6, f7, f8, f9, f10, f11, f12⟩
    have g4 := f4 (doneD hd 4 rfl)
    have g9 := f9 (doneD hd 9 rfl)
    refine .inl ⟨rfl, L_bs (vals := [.int .i64 (cmpI x.rep y.rep), .int .i64 (cmpI x.seq y.seq)]) (ls := List.map (ic .i64) ([cmpI x.rep y.rep, cmpI x.seq y.seq] : List Int)) EL_120 (mapb g4 (mapb g9 rfl)) rfl rfl (len_map (enc := (ic .i64)) (fun _ => rfl) _) (one_map (ic_one .i64) _) (Nat.le_of_ble_eq_true rfl) hs fun b _ hs0 => ⟨?_, f0, f1, f2, f3, f4, f5, f6, f7, f8, f9, fun _ => rfl, f11, f12⟩⟩
    exact hs0.put 2 (Nat.le_of_ble_eq_true rfl)
  · rintro D ρ wx hD hd hdc hf ⟨hs, f0, f1, f2, f3, f4, f5, f6, f7, f8, f9, f10, f11, f12⟩
    have g10 := f10 (doneD hd 10 rfl)
    have d10 : D 10 = true := doneD hd 10 rfl
    have hs0 := hs; rw [d10] at hs0
    refine .inl ⟨rfl, L_callP (vs := [.slice (some ⟨(bOf (ρ 15)), 0, none⟩) 2 2]) (V := .int .i64 (orI [cmpI x.rep y.rep, cmpI x.seq y.seq])) EN_66 rfl (mapc g10 rfl) (or_ok _ (some ⟨(bOf (ρ 15)), 0, none⟩) 2 [cmpI x.rep y.rep, cmpI x.seq y.seq] (hs0.rd 2 rfl)) hs0 fun _ hs0 => ⟨?_, f0, f1, f2, f3, f4, f5, f6, f7, f8, f9, f10, fun _ => rfl, f12⟩⟩
    rw [show Go.Vx.mark D 11 10 = true from d10]
    exact hs0
  · rintro D ρ wx hD hd hdc hf ⟨hs, f0, f1, f2, f3, f4, f5, f6, f7, f8, f9, f10, f11, f12⟩
    have g11 := f11 (doneD hd 11 rfl)
    exact .inl ⟨rfl, L_assign (V := .int .i64 (orI [cmpI x.rep y.rep, cmpI x.seq y.seq])) g11 ⟨hs, f0, f1, f2, f3, f4, f5, f6, f7, f8, f9, f10, f11, fun _ => rfl⟩⟩
  · rintro ρ1 w1 D hD hf ⟨hs, f0, f1, f2, f3, f4, f5, f6, f7, f8, f9, f10, f11, f12⟩
    rw [hD 10 rfl] at hs
    have e12 := f12 (hD 12 rfl)
    clear f0 f1 f2 f3 f4 f5 f6 f7 f8 f9 f10 f11 f12
    obtain ⟨b9, hb9⟩ : ∃ b, bOf (ρ1 15) = b := ⟨_, rfl⟩
    try rw [hb9] at hs
    obtain ⟨ρ2, hρ⟩ : ∃ ρ2, ρ1 = upd (mix [5, 6, 7, 8, 9, 10, 11, 12, 13, 14, 15, 16, 4] ρ2 _) 4 (.int .i64 (orI [cmpI x.rep y.rep, cmpI x.seq y.seq])) := ⟨ρ1, upd_of (mix_of (ds := [5, 6, 7, 8, 9, 10, 11, 12, 13, 14, 15, 16, 4]) hf) e12⟩
    clear hf hD e12
    subst hρ
    refine W_ret ?_
    refine ⟨_, res_one (V := .int .i64 (orI [cmpI x.rep y.rep, cmpI x.seq y.seq])) Try.results51 rfl, ?_⟩
    refine ⟨congrArg Ending.returned ?_, hs.take 0⟩
    rfl
end Tt
end Go.Proofs
