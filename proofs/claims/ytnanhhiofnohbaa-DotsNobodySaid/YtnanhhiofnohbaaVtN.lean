/- A part of a proof: what functions of the program compute, and plain facts on that. -/
import Derived.Test.YtnanhhiofnohbaaVtM
namespace Go.Proofs
open Go Go.Vx Go.RowKit
namespace Tt

set_option maxRecDepth 20000 in
set_option maxHeartbeats 4000000 in
theorem dotsGrow_no (w : World) (v : Vec) (a : Option Addr) (c : Nat) (l : List Dot) (hv : VecOk v) (hl : ∀ d ∈ l, DotOk d) (hr : Rd w (.slice a l.length c) 2 (l.map dc)) (hsort : SortC Try.prog 64 51 dc 34 2 sortD) (hB : rightB v 16 = false) : Calls Try.prog 7 #[.agg (vc v).toArray, .slice a l.length c] w (fun e w' => e = .returned (.bool true) ∧ Own w no w' []) := by
  refine calls_of_Wn (n := 89) Try.func7 rfl Try.ntmps7 rfl ?_
  have hs := Own.start w
  refine W_seq ?_
  refine W_region ?_
  refine RW_op (L_box (V := .agg (vc v).toArray) (cs := vc v) rfl rfl hs fun b1 w2 hs => ?_)
  refine RW_op (L_assign (V := .bool false) rfl ?_)
  refine RW_nil ?_
  refine W_seq ?_
  refine W_seq ?_
  refine W_region ?_
  refine RW_op (L_callP (vs := []) (V := .bool true) EN_15 rfl rfl (alive5_ok _ hsort) hs fun w3 hs => ?_)
  refine RW_op (L_not rfl ?_)
  refine RW_nil ?_
  refine W_condF rfl ?_
  refine W_skip ?_
  refine W_seq ?_
  refine W_region ?_
  refine RW_op (L_ldW (cs := vc v) SA_24 hs 0 rfl rfl rfl ?_)
  refine RW_op (L_callP (vs := [.agg (vc v).toArray]) (V := .pointer none) EN_16 rfl rfl (gNew_no _ v hv hB) hs fun w4 hs => ?_)
  refine RW_op (L_assign (V := .pointer none) rfl ?_)
  refine RW_nil ?_
  refine W_seq ?_
  refine W_seq ?_
  refine W_region ?_
  refine RW_op (L_move (V := .pointer none) rfl ?_)
  refine RW_op (L_ptrnil UD_27 rfl rfl ?_)
  refine RW_nil ?_
  refine W_condT rfl ?_
  refine W_seq ?_
  refine W_region ?_
  refine RW_op (L_ldW (cs := vc v) SA_24 hs 0 rfl rfl rfl ?_)
  refine RW_op (L_callP (vs := [.agg (vc v).toArray, .int .i64 16]) (V := .bool (rightB v 16)) EN_17 rfl rfl (rRight_ok _ v 16 (by first | assumption | exact vzero_ok)) hs fun w5 hs => ?_)
  refine RW_op (L_not rfl ?_)
  refine RW_op (L_assign (V := .bool (!(rightB v 16))) rfl ?_)
  refine RW_nil ?_
  refine W_ret ?_
  refine ⟨_, res_one (V := .bool (!(rightB v 16))) Try.results7 rfl, ?_⟩
  refine ⟨congrArg Ending.returned ?_, hs.take 0⟩
  rw [hB]; rfl
end Tt
end Go.Proofs
