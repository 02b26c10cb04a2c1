/- A part of a proof: what functions of the program compute, and plain facts on that. -/
import Derived.Test.YthejeobcehpdcaaGreatDoorScriptNobodyP22
set_option linter.unusedVariables false
set_option linter.unusedSectionVars false
set_option linter.unusedSimpArgs false
namespace Go.Proofs
open Go Go.Vx Go.RowKit Go.Ce
namespace Ct
set_option maxRecDepth 1000000
theorem evBig (T : Nat) : runN true (.tok 0) T = true := by kernel_rfl
end Ct
end Go.Proofs
