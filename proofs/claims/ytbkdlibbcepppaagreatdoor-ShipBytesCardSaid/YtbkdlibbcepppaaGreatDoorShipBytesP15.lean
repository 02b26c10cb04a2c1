/- A part of a proof: what functions of the program compute, and plain facts on that. -/
import Derived.Test.YtbkdlibbcepppaaGreatDoorShipBytesP1
import Derived.Test.YtbkdlibbcepppaaGreatDoorRows
import Derived.Test.YtbkdlibbcepppaaGreatDoorChecked
import Derived.Test.YtbkdlibbcepppaaGreatDoorTie
import Derived.Test.YtbkdlibbcepppaaGreatDoorCards
import Derived.ChangeSame
import Derived.ChangeVars
import Derived.JoinedOf
import Derived.RowKit
import Derived.RowKitTokens
import Derived.SevenTiedAt
set_option linter.unusedVariables false
set_option linter.unusedSectionVars false
set_option linter.unusedSimpArgs false
set_option maxHeartbeats 4000000
set_option maxRecDepth 100000
namespace Go.Proofs.YtbkdlibbcepppaaGreatDoor
open Go Go.ChangeShapes Go.WideShapes Go.RowKit Go.Vx
set_option maxRecDepth 100000
set_option maxHeartbeats 4000000
theorem shipBytes_k1:Rows.shipBytesRow.wfByText (OpenSpec.ofChange Rows.shipBytesSpec)=true:=by kernel_rfl
theorem shipBytes_k2:Tryz.prog.mainIs=some (true,"d6bdb7d35544cf25454e2603c04e01289706e178d8832005985fc6ed600fbad3".toList):=by kernel_rfl
theorem shipBytes_k3:Tryz.prog.funcNamed "trug/truglaw20.ShipBytes"=some 5:=by kernel_rfl
theorem shipBytes_k4:true=Tryz.prog.looks []:=by kernel_rfl
theorem shipBytes_k5:false=Rows.shipBytesRow.goesBy Tryz.prog:=by kernel_rfl
theorem shipBytes_w86:Tryz.prog.wantsStandIn 86=false:=by kernel_rfl
theorem shipBytes_w30:Tryz.prog.wantsStandIn 30=false:=by kernel_rfl
end Go.Proofs.YtbkdlibbcepppaaGreatDoor
