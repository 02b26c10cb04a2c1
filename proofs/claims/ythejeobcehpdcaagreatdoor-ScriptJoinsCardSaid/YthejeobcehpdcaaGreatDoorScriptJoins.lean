/- ScriptJoins -/
import Derived.Test.YthejeobcehpdcaaGreatDoorScriptJoinsP16
import Derived.Test.YthejeobcehpdcaaGreatDoorTie
import Derived.Test.YthejeobcehpdcaaGreatDoorCards
namespace Go.Proofs.YthejeobcehpdcaaGreatDoor
open Go Go.ChangeShapes Go.WideShapes Go.ChangeAt Go.RowKit Go.Vx
set_option maxRecDepth 100000
theorem scriptJoins_k1 : Rows.scriptJoinsRow.wfByText (OpenSpec.ofChange Rows.scriptJoinsSpec) = true := by kernel_rfl
theorem scriptJoins_k2 : Tryz.prog.mainIs = some (true, "a7dd3476cc9ad2b556f89985620974abd1e8d55b6b52a0afdcdc2a3f98ac6163".toList) := by kernel_rfl
theorem scriptJoins_k3 : Tryz.prog.funcNamed "trug/truglaw23.ScriptJoins" = some 6 := by kernel_rfl
theorem scriptJoins_k4 : true = Tryz.prog.looks [] := by kernel_rfl
theorem scriptJoins_k5 : false = Rows.scriptJoinsRow.goesBy Tryz.prog := by kernel_rfl
theorem scriptJoins_w22 : Tryz.prog.wantsStandIn 22 = false := by kernel_rfl
theorem scriptJoins_card : Rows.ScriptJoinsCardSaid :=
  Claim7.holds_tied_plain_at .later [] [.data, .data, .data, .data] true (true, "a7dd3476cc9ad2b556f89985620974abd1e8d55b6b52a0afdcdc2a3f98ac6163") true
    scriptJoins_holds (fun _ h => by cases h) scriptJoins_k1 (fun _ h => by cases h) scriptJoins_row_tie rfl ⟨rfl, rfl⟩ scriptJoins_k2 rfl
    (fun f fn hf hfn => by
      obtain rfl : f = 6 := Option.some.inj (scriptJoins_k3.symm.trans hf) |>.symm
      obtain rfl : fn = Tryz.f6 := (Option.some.inj (Tryz.func6.symm.trans hfn)).symm
      exact ⟨scriptJoins_k4, fun j t ht => by
        rw [Tryz.params6] at ht
        have h3 : t = 22 := by
          rcases j with _ | _ | j
          · simpa using ht.symm
          · simpa using ht.symm
          · simp at ht
        subst h3
        exact scriptJoins_w22⟩)
    scriptJoins_k5
end Go.Proofs.YthejeobcehpdcaaGreatDoor
