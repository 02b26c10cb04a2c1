/- ScriptNobody -/
import Derived.Test.YthejeobcehpdcaaGreatDoorScriptNobodyP30
import Derived.Test.YthejeobcehpdcaaGreatDoorTie
import Derived.Test.YthejeobcehpdcaaGreatDoorCards
namespace Go.Proofs.YthejeobcehpdcaaGreatDoor
open Go Go.ChangeShapes Go.WideShapes Go.ChangeAt Go.RowKit Go.Vx
set_option maxRecDepth 100000
theorem scriptNobody_k1 : Rows.scriptNobodyRow.wfByText (OpenSpec.ofChange Rows.scriptNobodySpec) = true := by kernel_rfl
theorem scriptNobody_k2 : Tryz.prog.mainIs = some (true, "a7dd3476cc9ad2b556f89985620974abd1e8d55b6b52a0afdcdc2a3f98ac6163".toList) := by kernel_rfl
theorem scriptNobody_k3 : Tryz.prog.funcNamed "trug/truglaw23.ScriptNobody" = some 5 := by kernel_rfl
theorem scriptNobody_k4 : true = Tryz.prog.looks [] := by kernel_rfl
theorem scriptNobody_k5 : false = Rows.scriptNobodyRow.goesBy Tryz.prog := by kernel_rfl
theorem scriptNobody_w3 : Tryz.prog.wantsStandIn 3 = false := by kernel_rfl
theorem scriptNobody_w30 : Tryz.prog.wantsStandIn 30 = false := by kernel_rfl
theorem scriptNobody_card : Rows.ScriptNobodyCardSaid :=
  Claim7.holds_tied_plain_at .later [] [.data, .data, .data, .data] true (true, "a7dd3476cc9ad2b556f89985620974abd1e8d55b6b52a0afdcdc2a3f98ac6163") true
    scriptNobody_holds (fun _ h => by cases h) scriptNobody_k1 (fun _ h => by cases h) scriptNobody_row_tie rfl ⟨rfl, rfl⟩ scriptNobody_k2 rfl
    (fun f fn hf hfn => by
      obtain rfl : f = 5 := Option.some.inj (scriptNobody_k3.symm.trans hf) |>.symm
      obtain rfl : fn = Tryz.f5 := (Option.some.inj (Tryz.func5.symm.trans hfn)).symm
      exact ⟨scriptNobody_k4, fun j t ht => by
        rw [Tryz.params5] at ht
        have h3 : t = 3 ∨ t = 30 := by
          rcases j with _ | _ | j
          · left; simpa using ht.symm
          · right; simpa using ht.symm
          · simp at ht
        rcases h3 with rfl | rfl
        · exact scriptNobody_w3
        · exact scriptNobody_w30⟩)
    scriptNobody_k5
end Go.Proofs.YthejeobcehpdcaaGreatDoor
