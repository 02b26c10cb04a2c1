/- ArchiveNobody -/
import Derived.Test.YtbkdlibbcepppaaGreatDoorArchiveNobodyP12
import Derived.Test.YtbkdlibbcepppaaGreatDoorTie
import Derived.Test.YtbkdlibbcepppaaGreatDoorCards
namespace Go.Proofs.YtbkdlibbcepppaaGreatDoor
open Go Go.ChangeShapes Go.WideShapes Go.ChangeAt Go.RowKit Go.Vx
set_option maxRecDepth 100000
theorem archiveNobody_k1 : Rows.archiveNobodyRow.wfByText (OpenSpec.ofChange Rows.archiveNobodySpec) = true := by kernel_rfl
theorem archiveNobody_k2 : Tryz.prog.mainIs = some (true, "d6bdb7d35544cf25454e2603c04e01289706e178d8832005985fc6ed600fbad3".toList) := by kernel_rfl
theorem archiveNobody_k3 : Tryz.prog.funcNamed "trug/truglaw18.ArchiveNobody" = some 4 := by kernel_rfl
theorem archiveNobody_k4 : true = Tryz.prog.looks [] := by kernel_rfl
theorem archiveNobody_k5 : false = Rows.archiveNobodyRow.goesBy Tryz.prog := by kernel_rfl
theorem archiveNobody_w60 : Tryz.prog.wantsStandIn 60 = false := by kernel_rfl
theorem archiveNobody_card : Rows.ArchiveNobodyCardSaid :=
  Claim7.holds_tied_plain_at .later [] [.data, .data, .data, .data] true (true, "d6bdb7d35544cf25454e2603c04e01289706e178d8832005985fc6ed600fbad3") true
    archiveNobody_holds (fun _ h => by cases h) archiveNobody_k1 (fun _ h => by cases h) archiveNobody_row_tie rfl ⟨rfl, rfl⟩ archiveNobody_k2 rfl
    (fun f fn hf hfn => by
      obtain rfl : f = 4 := Option.some.inj (archiveNobody_k3.symm.trans hf) |>.symm
      obtain rfl : fn = Tryz.f4 := (Option.some.inj (Tryz.func4.symm.trans hfn)).symm
      exact ⟨archiveNobody_k4, fun j t ht => by
        rw [Tryz.params4] at ht
        obtain rfl : t = 60 := by
          rcases j with _ | j
          · simpa using ht.symm
          · simp at ht
        exact archiveNobody_w60⟩)
    archiveNobody_k5
end Go.Proofs.YtbkdlibbcepppaaGreatDoor
