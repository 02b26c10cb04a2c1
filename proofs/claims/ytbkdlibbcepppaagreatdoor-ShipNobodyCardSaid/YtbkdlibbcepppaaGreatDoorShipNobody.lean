/- ShipNobody -/
import Derived.Test.YtbkdlibbcepppaaGreatDoorShipNobodyP10
import Derived.Test.YtbkdlibbcepppaaGreatDoorTie
import Derived.Test.YtbkdlibbcepppaaGreatDoorCards
namespace Go.Proofs.YtbkdlibbcepppaaGreatDoor
open Go Go.ChangeShapes Go.WideShapes Go.ChangeAt Go.RowKit Go.Vx
set_option maxRecDepth 100000
theorem shipNobody_k1 : Rows.shipNobodyRow.wfByText (OpenSpec.ofChange Rows.shipNobodySpec) = true := by kernel_rfl
theorem shipNobody_k2 : Tryz.prog.mainIs = some (true, "d6bdb7d35544cf25454e2603c04e01289706e178d8832005985fc6ed600fbad3".toList) := by kernel_rfl
theorem shipNobody_k3 : Tryz.prog.funcNamed "trug/truglaw20.ShipNobody" = some 7 := by kernel_rfl
theorem shipNobody_k4 : true = Tryz.prog.looks [] := by kernel_rfl
theorem shipNobody_k5 : false = Rows.shipNobodyRow.goesBy Tryz.prog := by kernel_rfl
theorem shipNobody_w5 : Tryz.prog.wantsStandIn 5 = false := by kernel_rfl
theorem shipNobody_w30 : Tryz.prog.wantsStandIn 30 = false := by kernel_rfl
theorem shipNobody_card : Rows.ShipNobodyCardSaid :=
  Claim7.holds_tied_plain_at .later [] [.data, .data, .data, .data] true (true, "d6bdb7d35544cf25454e2603c04e01289706e178d8832005985fc6ed600fbad3") true
    shipNobody_holds (fun _ h => by cases h) shipNobody_k1 (fun _ h => by cases h) shipNobody_row_tie rfl ⟨rfl, rfl⟩ shipNobody_k2 rfl
    (fun f fn hf hfn => by
      obtain rfl : f = 7 := Option.some.inj (shipNobody_k3.symm.trans hf) |>.symm
      obtain rfl : fn = Tryz.f7 := (Option.some.inj (Tryz.func7.symm.trans hfn)).symm
      exact ⟨shipNobody_k4, fun j t ht => by
        rw [Tryz.params7] at ht
        have h3 : t = 5 ∨ t = 30 := by
          rcases j with _ | _ | j
          · left; simpa using ht.symm
          · right; simpa using ht.symm
          · simp at ht
        rcases h3 with rfl | rfl
        · exact shipNobody_w5
        · exact shipNobody_w30⟩)
    shipNobody_k5
end Go.Proofs.YtbkdlibbcepppaaGreatDoor
