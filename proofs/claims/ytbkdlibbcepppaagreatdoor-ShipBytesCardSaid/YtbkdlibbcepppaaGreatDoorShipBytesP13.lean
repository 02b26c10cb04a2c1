/- A part of a proof: what functions of the program compute, and plain facts on that. -/
import Derived.Test.YtbkdlibbcepppaaGreatDoorShipBytesP1
import Derived.Test.YtbkdlibbcepppaaGreatDoorRows
import Derived.Test.YtbkdlibbcepppaaGreatDoorChecked
import Derived.Test.YtbkdlibbcepppaaGreatDoorTie
import Derived.Test.YtbkdlibbcepppaaGreatDoorCards
import Derived.ChangeSame
import Derived.ChangeVars
import Derived.JoinedOf
import Derived.RowKit
import Derived.RowKitTokens
import Derived.SevenTiedAt
set_option linter.unusedVariables false
set_option linter.unusedSectionVars false
set_option linter.unusedSimpArgs false
set_option maxHeartbeats 4000000
set_option maxRecDepth 100000
namespace Go.Proofs.YtbkdlibbcepppaaGreatDoor
open Go Go.ChangeShapes Go.WideShapes Go.RowKit Go.Vx
set_option maxRecDepth 100000
set_option maxHeartbeats 4000000
theorem Qud {a b:Bool} (ha:a=true) (hb:b=true):(a&&b)=true:=by rw [ha,hb];rfl
theorem shipBytes_facts:joinedFacts Tryz.prog 5 Tryz.f5 Rows.shipBytesSpec Rows.shipBytesRow=true:=by
 unfold joinedFacts
 repeat' with_reducible refine Qud ?_ ?_
 all_goals as_aux_lemma=>kernel_rfl
end Go.Proofs.YtbkdlibbcepppaaGreatDoor
