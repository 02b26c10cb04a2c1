/- A part of a proof: what functions of the program compute, and plain facts on that. -/
import Derived.Test.YtnanhhiofnohbaaVtK
import Derived.Test.YtnanhhiofnohbaaVxR
namespace Go.Proofs
open Go Go.Vx Go.RowKit
namespace Tt
theorem UD_22 : Ud Try.prog 22 (.int .u32) := Try.runUnderlying22
theorem UD_54 : Ud Try.prog 54 (.int .u64) := Try.runUnderlying54
set_option maxRecDepth 20000 in
set_option maxHeartbeats 4000000 in
theorem rSum_ok (w : World) (v : Vec) (hv : VecOk v) : Calls Try.prog 31 #[.agg (vc v).toArray] w (fun e w' => e = .returned (.int .u64 (vsum v)) ∧ Own w no w' []) := by
  refine calls_of_Wn (n := 16) Try.func31 rfl Try.ntmps31 rfl ?_
  have hs := Own.start w
  refine W_seq ?_
  refine W_region ?_
  refine RW_op (L_box (V := .agg (vc v).toArray) (cs := vc v) rfl rfl hs fun b1 w2 hs => ?_)
  refine RW_op (L_assign (V := .int .u64 0) rfl ?_)
  refine RW_nil ?_
  refine W_seq ?_
  refine W_region ?_
  refine RW_op (L_assign (V := .int .u64 0) rfl ?_)
  refine RW_nil ?_
  refine W_seq ?_
  refine W_seq ?_
  refine W_region ?_
  refine RW_op (L_assign (V := .int .i64 0) rfl ?_)
  refine RW_nil ?_
  refine W_block ?_
  refine W_loopI (fun ρ m ρ' w' => ∃ (ρo : Env) (k : Nat) (n : Int), ρ' = upd (upd (mix [3, 4, 5, 6, 7, 8, 9, 10, 11, 12, 13, 14] ρo ρ) 4 (.int .i64 (k : Int))) 3 (.int .u64 n) ∧ (k ≤ 16) ∧ (n = vsumK v k) ∧ (0 ≤ n ∧ n ≤ (k : Int) * 4294967296) ∧ m = 16 - k ∧ Own w no w' [blk b1 (vc v) 24]) ?_ ?_
  · exact ⟨_, _, 0, 0, upd_of (upd_of (mix_of (ds := [3, 4, 5, 6, 7, 8, 9, 10, 11, 12, 13, 14]) (Agr.refl _ _)) rfl) rfl, (by omega), rfl, (⟨by omega, by omega⟩), rfl, hs⟩
  · rintro m ρ' w3 ⟨ρo, k, n, rfl, hk, hn, hnb, rfl, hs⟩
    refine W_seq ?_
    refine W_seq ?_
    refine W_region ?_
    refine RW_op (L_move (V := .int .i64 (k : Int)) rfl ?_)
    refine RW_op (L_lss rfl rfl ?_)
    refine RW_nil ?_
    refine W_cond (t := decide ((k : Int) < 16)) rfl (fun c4 => ?_) (fun c4 => ?_)
    ·
      replace c4 := of_decide_eq_true c4
      refine W_skip ?_
      refine W_seq ?_
      refine W_block ?_
      have hv1 := vat_ok hv k
      refine W_region ?_
      refine RW_op (L_move (V := .int .u64 n) rfl ?_)
      refine RW_op (L_move (V := .int .i64 (k : Int)) rfl ?_)
      refine RW_op (L_ixArr1 UD_24 S1_22.1 rfl rfl (by omega) (by omega) ?_)
      refine RW_op (L_ld (V := .int .u32 (vat v k)) S1_22 hs 0 rfl rfl (vc_atO (by omega) (by omega)) ?_)
      refine RW_op (L_conv UD_22 UD_54 rfl (wr_u64 (by omega) (by omega)) ?_)
      refine RW_op (L_add (a := n) (b := vat v k) (c := n + (vat v k)) rfl rfl (wr_u64 (by omega) (by omega)) ?_)
      refine RW_op (L_assign (V := .int .u64 (n + (vat v k))) rfl ?_)
      refine RW_nil ?_
      refine W_region ?_
      refine RW_op (L_move (V := .int .i64 (k : Int)) rfl ?_)
      refine RW_op (L_add (a := (k : Int)) (b := 1) (c := (k : Int) + 1) rfl rfl (wr_i64 (by omega) (by omega)) ?_)
      refine RW_op (L_assign (V := .int .i64 ((k : Int) + 1)) rfl ?_)
      refine RW_nil ?_
      refine ⟨_, ?_, _, k + 1, n + (vat v k), upd_of (upd_of (mix_of (ds := [3, 4, 5, 6, 7, 8, 9, 10, 11, 12, 13, 14]) (by repeat (first | exact Agr.refl _ _ | refine Agr.upd ?_ rfl | refine Agr.mix ?_ rfl))) rfl) rfl, (by omega), (vsumK_step hn), (⟨by omega, by omega⟩), rfl, hs.take 1⟩
      omega
    ·
      replace c4 := of_decide_eq_false c4
      refine W_exit ?_
      refine W_seq ?_
      refine W_region ?_
      refine RW_op (L_move (V := .int .u64 n) rfl ?_)
      refine RW_op (L_assign (V := .int .u64 n) rfl ?_)
      refine RW_nil ?_
      refine W_ret ?_
      refine ⟨_, res_one (V := .int .u64 n) Try.results31 rfl, ?_⟩
      refine ⟨congrArg Ending.returned ?_, hs.take 0⟩
      rw [hn, show k = 16 by omega, vsum_K]
end Tt
end Go.Proofs
