/- A part of a proof: what functions of the program compute, and plain facts on that. -/
import Derived.Test.YtbkdlibbcepppaaGreatDoorShipBytesP5
set_option linter.unusedVariables false
set_option linter.unusedSectionVars false
set_option linter.unusedSimpArgs false
set_option maxHeartbeats 4000000
set_option maxRecDepth 100000
namespace Go.Proofs
open Go Go.Vx Go.RowKit Go.Ce
namespace Ct
set_option maxRecDepth 1000000
theorem run_f22 (T:Nat) {w:World} (hw:w.heap[0]?=some (.cells (numsV .u32 half).toArray T (0,0))):Calls Tryz.prog 22 #[] w (fun e w'=>e = .returned (.bool true)/\Own w no w' []) :=
 letI:Tok:=⟨fun _=>.bool true,fun _ _=>True⟩
 QsP (fuel:=1000000) (args:=[]) (vs:=[]) Qvs Qru (show cfg.fn 22=some Tryz.f22 by kernel_rfl) rfl (by decide) (fun _=>.nil) (by kernel_rfl) trivial hw
end Ct
end Go.Proofs
