/- A set that no call made answers an error, or nothing: DotsNobody answers true. For every input; no condition. -/
import Derived.Test.YtnanhhiofnohbaaRows
import Derived.Test.YtnanhhiofnohbaaVtV
import Derived.Test.YtnanhhiofnohbaaVtY
import Derived.Test.YtnanhhiofnohbaaSortPay
namespace Go.Proofs.Ytnanhhiofnohbaa
open Go.ChangeShapes Go.WideShapes Go.ChangeAt Go.RowKit Go.Vx
set_option maxRecDepth 100000 in
theorem dotsNobody_lifted (hsort : SortC Try.prog 64 51 dc 34 2 sortD) (os : Os) (started : os.Started) (H : Type) (enc : TypeId × Value → H) :
    ReturnsInHanded {} Try.checked os 6 .any (Rows.dotsNobodySpec.pre6 enc Try.prog Try.f6 Rows.dotsNobodyRow.domain false) (Rows.dotsNobodySpec.post enc Try.prog Try.f6 false true false false) := by
  refine returnsInHanded_of_change (C := Try.checked) Try.own started (by kernel_rfl) Try.func6
    (ChangeSpec.witness6 (enc := enc) (C := Try.checked) false ⟨#[], #[.agg #[.int .u8 0, .int .u32 0]], []⟩ 8 (by kernel_rfl) (by kernel_rfl) (by kernel_rfl) (by kernel_rfl)) ?_
  intro W base args ds gs before hval0 hW hcnd _
  have hval : ∀ (j : Nat) t v, Try.f6.params[j]? = some t → args[j]? = some v → Value.okWide Try.prog W .any base t v := hval0
  have hW' := hW
  obtain ⟨p, q, hA0, hV, rfl, hfz, hnd⟩ := hW
  have hA : DataW.TrodAll enc Try.prog W 0 (fun _ => true) true Try.f6.params.toList args.toList ds p := hA0
  rw [Try.params6] at hA hval
  obtain ⟨v0, d0, rfl, rfl, h0⟩ := trodAll_one hA
  obtain ⟨rfl, rfl⟩ := trodVars_none hV
  have h0k := h0
  obtain ⟨x0, hx0, rfl⟩ := open_flat O34 (wide_agg (.inl ⟨_, Try.underlying34⟩) (hval 0 34 v0 rfl rfl)) h0
  clear hA0 hval0
  simp only [List.append_nil] at hW'
  have hlt : ∀ x ∈ p, x.block < W.heap.size := fun x hx => hW'.lt x hx
  have walk : Calls Try.prog 6 #[.agg (dc x0).toArray] W (fun e w' => e = .returned (.bool true) ∧ Own W no w' []) := by
    exact Tt.dotsNobody_ok W x0 hsort
  refine walk.mono fun e W' ⟨he, ho⟩ => ?_
  subst he
  have bel : Below W.heap.size W W' := ho.below
  refine ⟨_, rfl, _, _, _, [], p, [], hW', ?_, ?_, rfl, bel.frame _, fun h => by cases h⟩
  · exact trodAll_mk1 (shut_bool Try.underlying4 true)
  · exact trodAll_mk1 (Below.trod Try.laidOut (by kernel_rfl) (of_decide_eq_true (by kernel_rfl)) h0k bel fun x hx => hlt x hx)
theorem dotsNobody_holds (hsort : SortC Try.prog 64 51 dc 34 2 sortD) : Rows.DotsNobodySaid :=
  OpenClaim.holds_of_wide 6 Try.f6 rfl rfl rfl rfl rfl rfl rfl ⟨rfl, rfl, rfl, rfl, rfl⟩ rfl rfl rfl rfl rfl (by kernel_rfl) Try.func6 (by kernel_rfl)
    (of_decide_eq_true (by kernel_rfl)) (by unfold Func.isWrapper; first | (rw [if_pos (by decide +kernel)]; kernel_rfl) | (rw [if_neg (by decide +kernel)]; exact ⟨rfl, rfl⟩))
    (fun os started H enc _ => dotsNobody_lifted hsort os started H enc)
theorem dotsNobody_said : Rows.DotsNobodySaid := dotsNobody_holds sortsD
end Go.Proofs.Ytnanhhiofnohbaa
