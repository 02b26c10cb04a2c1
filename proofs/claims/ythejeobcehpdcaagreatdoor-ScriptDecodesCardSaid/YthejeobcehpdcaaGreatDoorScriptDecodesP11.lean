/- A part of a proof: what functions of the program compute, and plain facts on that. -/
import Derived.Test.YthejeobcehpdcaaGreatDoorScriptDecodesP10
set_option linter.unusedVariables false
set_option linter.unusedSectionVars false
set_option linter.unusedSimpArgs false
namespace Go.Proofs
open Go Go.Vx Go.RowKit Go.Ce
namespace Ct
set_option maxRecDepth 1000000
theorem run_f7 (T : Nat) {w : World} (hw : w.heap[0]? = some (.cells (numsV .u32 half).toArray T (0, 0))) : Calls Tryz.prog 7 #[] w (fun e w' => e = .returned (.bool true) ∧ Own w no w' []) :=
  letI : Ce.Tok := ⟨fun _ => .bool true, fun _ _ => True⟩
  run_law (fuel := 1000000) (args := []) (vs := []) cfgOk no_hook (show cfg.fn 7 = some Tryz.f7 by kernel_rfl) rfl (by decide) (fun _ => .nil) (by kernel_rfl) trivial hw
end Ct
end Go.Proofs
