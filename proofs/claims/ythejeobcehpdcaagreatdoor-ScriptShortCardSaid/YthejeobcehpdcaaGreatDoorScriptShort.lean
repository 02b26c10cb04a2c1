/- ScriptShort -/
import Derived.Test.YthejeobcehpdcaaGreatDoorScriptShortP16
import Derived.Test.YthejeobcehpdcaaGreatDoorTie
import Derived.Test.YthejeobcehpdcaaGreatDoorCards
namespace Go.Proofs.YthejeobcehpdcaaGreatDoor
open Go Go.ChangeShapes Go.WideShapes Go.ChangeAt Go.RowKit Go.Vx
set_option maxRecDepth 100000
theorem scriptShort_k1 : Rows.scriptShortRow.wfByText (OpenSpec.ofChange Rows.scriptShortSpec) = true := by kernel_rfl
theorem scriptShort_k2 : Tryz.prog.mainIs = some (true, "a7dd3476cc9ad2b556f89985620974abd1e8d55b6b52a0afdcdc2a3f98ac6163".toList) := by kernel_rfl
theorem scriptShort_k3 : Tryz.prog.funcNamed "trug/truglaw23.ScriptShort" = some 4 := by kernel_rfl
theorem scriptShort_k4 : true = Tryz.prog.looks [] := by kernel_rfl
theorem scriptShort_k5 : false = Rows.scriptShortRow.goesBy Tryz.prog := by kernel_rfl
theorem scriptShort_w22 : Tryz.prog.wantsStandIn 22 = false := by kernel_rfl
theorem scriptShort_w30 : Tryz.prog.wantsStandIn 30 = false := by kernel_rfl
theorem scriptShort_card : Rows.ScriptShortCardSaid :=
  Claim7.holds_tied_plain_at .later [] [.data, .data, .data, .data] true (true, "a7dd3476cc9ad2b556f89985620974abd1e8d55b6b52a0afdcdc2a3f98ac6163") true
    scriptShort_holds (fun _ h => by cases h) scriptShort_k1 (fun _ h => by cases h) scriptShort_row_tie rfl ⟨rfl, rfl⟩ scriptShort_k2 rfl
    (fun f fn hf hfn => by
      obtain rfl : f = 4 := Option.some.inj (scriptShort_k3.symm.trans hf) |>.symm
      obtain rfl : fn = Tryz.f4 := (Option.some.inj (Tryz.func4.symm.trans hfn)).symm
      exact ⟨scriptShort_k4, fun j t ht => by
        rw [Tryz.params4] at ht
        have h3 : t = 22 ∨ t = 30 := by
          rcases j with _ | _ | j
          · left; simpa using ht.symm
          · right; simpa using ht.symm
          · simp at ht
        rcases h3 with rfl | rfl
        · exact scriptShort_w22
        · exact scriptShort_w30⟩)
    scriptShort_k5
end Go.Proofs.YthejeobcehpdcaaGreatDoor
