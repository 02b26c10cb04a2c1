/- A part of a proof: what functions of the program compute, and plain facts on that. -/
import Derived.Test.YthejeobcehpdcaaGreatDoorScriptDecodesP16
set_option linter.unusedVariables false
set_option linter.unusedSectionVars false
set_option linter.unusedSimpArgs false
namespace Go.Proofs.YthejeobcehpdcaaGreatDoor
open Go Go.ChangeShapes Go.WideShapes Go.ChangeAt Go.RowKit Go.Vx
set_option maxRecDepth 100000
theorem scriptDecodes_lifted (os : Os) (started : os.Started) (H : Type) (enc : TypeId × Value → H) :
    ReturnsInHanded {} Tryz.checked os 3 .any (fun w args => (Rows.scriptDecodesSpec.pre enc Tryz.prog Tryz.f3 Rows.scriptDecodesRow.domain false w args ∧ laidMet Tryz.prog laidL w) ∧ sizedMet enc Tryz.prog Tryz.f3 (OpenSpec.ofChange Rows.scriptDecodesSpec) false w args)
      (Rows.scriptDecodesSpec.post enc Tryz.prog Tryz.f3 false true false false) := by
  refine returnsInHanded_of_change_and (C := Tryz.checked) (X := fun w _ => laidMet Tryz.prog laidL w) (fun _ _ _ hh h => h.of_heap hh) Tryz.own started (by kernel_rfl) Tryz.func3
    (ChangeSpec.witness_at (enc := enc) (C := Tryz.checked) (os := os) (X := fun w _ => laidMet Tryz.prog laidL w) false (laidWorld os) #[.slice none 0 0, .int .i64 0, .int .i64 0] 8 rfl (by kernel_rfl) (by kernel_rfl) (by kernel_rfl) (by kernel_rfl) (by kernel_rfl) (laidWorld_met os _)) ?_
  intro W base args ds gs before hval0 hW _ _ hL _
  have hval : ∀ (j : Nat) t v, Tryz.f3.params[j]? = some t → args[j]? = some v → Value.okWide Tryz.prog W .any base t v := hval0
  have hW' := hW
  obtain ⟨p, q, hA0, hV, rfl, hfz, hnd⟩ := hW
  have hA : DataW.TrodAll enc Tryz.prog W 0 (fun _ => true) true Tryz.f3.params.toList args.toList ds p := hA0
  rw [Tryz.params3] at hA hval
  obtain ⟨v0, v1, v2, d0, d1, d2, p0, p1, p2, rfl, rfl, rfl, h0, h1, h2⟩ := trodAll_three hA
  obtain ⟨rfl, rfl⟩ := trodVars_none hV
  have h0k := h0
  have h1k := h1
  have h2k := h2
  obtain ⟨a0, c0, x0, rfl, hx0, hr0⟩ := open_rows (k := 1) Tryz.underlying22 (O_int Tryz.underlying5) (fun _ => rfl) (by kernel_rfl) (hval 0 22 v0 rfl rfl) h0
  have hb0 : ByOk x0 := fun c hc => inK_u8 (hx0 c hc)
  obtain ⟨m1, rfl, rfl, rfl, hw1⟩ := open_int Tryz.underlying3 (hval 1 3 v1 rfl rfl) h1
  obtain ⟨m2, rfl, rfl, rfl, hw2⟩ := open_int Tryz.underlying3 (hval 2 3 v2 rfl rfl) h2
  clear hA0 hval0
  simp only [List.append_nil] at hW'
  have hlt : ∀ x ∈ p0, x.block < W.heap.size := fun x hx => hW'.lt x hx
  obtain ⟨T, hT⟩ := half_of_laid hL
  have walk : Calls Tryz.prog 3 #[.slice a0 x0.length c0, .int .i64 m1, .int .i64 m2] W (fun e w' => e = .returned (.bool true) ∧ Own W no w' []) := Tt.decodes_ok W a0 c0 x0 m1 m2 hb0 hr0 T hT
  refine walk.mono fun e W' ⟨he, ho⟩ => ?_
  subst he
  have bel : Below W.heap.size W W' := ho.below
  refine ⟨_, rfl, _, _, _, [], p0, [], hW', ?_, ?_, rfl, bel.frame _, fun h => by cases h⟩
  · exact trodAll_mk1 (shut_bool Tryz.underlying4 true)
  · have hh := trodAll_mk3 (Below.trod Tryz.laidOut (by kernel_rfl) (of_decide_eq_true (by kernel_rfl)) h0k bel fun x hx => hlt x hx) (Below.trod Tryz.laidOut (by kernel_rfl) (of_decide_eq_true (by kernel_rfl)) h1k bel fun x hx => by cases hx) (Below.trod Tryz.laidOut (by kernel_rfl) (of_decide_eq_true (by kernel_rfl)) h2k bel fun x hx => by cases hx)
    simp only [List.append_nil] at hh
    exact hh
end Go.Proofs.YthejeobcehpdcaaGreatDoor
