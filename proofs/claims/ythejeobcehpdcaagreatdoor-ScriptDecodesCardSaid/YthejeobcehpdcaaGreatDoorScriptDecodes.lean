/- ScriptDecodes -/
import Derived.Test.YthejeobcehpdcaaGreatDoorScriptDecodesP19
import Derived.Test.YthejeobcehpdcaaGreatDoorTie
import Derived.Test.YthejeobcehpdcaaGreatDoorCards
namespace Go.Proofs.YthejeobcehpdcaaGreatDoor
open Go Go.ChangeShapes Go.WideShapes Go.ChangeAt Go.RowKit Go.Vx
set_option maxRecDepth 100000
theorem scriptDecodes_k1 : Rows.scriptDecodesRow.wfByText (OpenSpec.ofChange Rows.scriptDecodesSpec) = true := by kernel_rfl
theorem scriptDecodes_k2 : Tryz.prog.mainIs = some (true, "a7dd3476cc9ad2b556f89985620974abd1e8d55b6b52a0afdcdc2a3f98ac6163".toList) := by kernel_rfl
theorem scriptDecodes_k3 : Tryz.prog.funcNamed "trug/truglaw23.ScriptDecodes" = some 3 := by kernel_rfl
theorem scriptDecodes_k4 : true = Tryz.prog.looks [] := by kernel_rfl
theorem scriptDecodes_k5 : false = Rows.scriptDecodesRow.goesBy Tryz.prog := by kernel_rfl
theorem scriptDecodes_w3 : Tryz.prog.wantsStandIn 3 = false := by kernel_rfl
theorem scriptDecodes_w22 : Tryz.prog.wantsStandIn 22 = false := by kernel_rfl
theorem scriptDecodes_card : Rows.ScriptDecodesCardSaid :=
  Claim7.holds_tied_plain_at .later [] [.data, .data, .data, .data] true (true, "a7dd3476cc9ad2b556f89985620974abd1e8d55b6b52a0afdcdc2a3f98ac6163") true
    scriptDecodes_holds (fun _ h => by cases h) scriptDecodes_k1 (fun _ h => by cases h) scriptDecodes_row_tie rfl ⟨rfl, rfl⟩ scriptDecodes_k2 rfl
    (fun f fn hf hfn => by
      obtain rfl : f = 3 := Option.some.inj (scriptDecodes_k3.symm.trans hf) |>.symm
      obtain rfl : fn = Tryz.f3 := (Option.some.inj (Tryz.func3.symm.trans hfn)).symm
      exact ⟨scriptDecodes_k4, fun j t ht => by
        rw [Tryz.params3] at ht
        have h3 : t = 3 ∨ t = 22 := by
          rcases j with _ | _ | _ | j
          · first | (left; simpa using ht.symm) | (right; simpa using ht.symm)
          · first | (left; simpa using ht.symm) | (right; simpa using ht.symm)
          · first | (left; simpa using ht.symm) | (right; simpa using ht.symm)
          · simp at ht
        rcases h3 with rfl | rfl
        · exact scriptDecodes_w3
        · exact scriptDecodes_w22⟩)
    scriptDecodes_k5
end Go.Proofs.YthejeobcehpdcaaGreatDoor
