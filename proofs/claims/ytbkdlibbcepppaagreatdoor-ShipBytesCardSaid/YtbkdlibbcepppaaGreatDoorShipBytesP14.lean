/- A part of a proof: what functions of the program compute, and plain facts on that. -/
import Derived.Test.YtbkdlibbcepppaaGreatDoorShipBytesP12
import Derived.Test.YtbkdlibbcepppaaGreatDoorShipBytesP13
set_option linter.unusedVariables false
set_option linter.unusedSectionVars false
set_option linter.unusedSimpArgs false
set_option maxHeartbeats 4000000
set_option maxRecDepth 100000
namespace Go.Proofs.YtbkdlibbcepppaaGreatDoor
open Go Go.ChangeShapes Go.WideShapes Go.ChangeAt Go.RowKit Go.Vx
set_option maxRecDepth 100000
theorem shipBytes_holds:Rows.ShipBytesSaid :=
 OpenClaim.holds_of_wide 5 Tryz.f5 rfl rfl rfl rfl rfl rfl rfl ⟨rfl,rfl,rfl,rfl,rfl⟩ rfl rfl rfl rfl rfl (by kernel_rfl) Tryz.func5 shipBytes_facts
  (QQ1 (by kernel_rfl)) (by unfold Func.isWrapper;first|(rw [if_pos (by decide +kernel)];kernel_rfl)|(rw [if_neg (by decide +kernel)];exact ⟨rfl,rfl⟩))
  (fun os started H enc _=>shipBytes_lifted os started H enc)
end Go.Proofs.YtbkdlibbcepppaaGreatDoor
