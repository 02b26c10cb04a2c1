/- FoldParts -/
import Derived.Test.YtnanhhiofnohbaaFoldPartsP7
import Derived.Test.YtnanhhiofnohbaaRows
namespace Go.Proofs.Ytnanhhiofnohbaa
open Go.ChangeShapes Go.WideShapes Go.ChangeAt Go.RowKit Go.Vx
set_option maxRecDepth 100000 in
theorem foldParts_lifted (hsortU : SortI Try.prog 76 .u16 57) (os : Os) (started : os.Started) (H : Type) (enc : TypeId × Value → H) :
    ReturnsInHanded {} Try.checked os 14 .any (Rows.foldPartsSpec.pre6 enc Try.prog Try.f14 Rows.foldPartsRow.domain false) (Rows.foldPartsSpec.post enc Try.prog Try.f14 false true false false) := by
  refine returnsInHanded_of_change (C := Try.checked) Try.own started (by kernel_rfl) Try.func14
    (ChangeSpec.witness6 (enc := enc) (C := Try.checked) false ⟨#[], #[.slice none 0 0, .agg #[.int .u32 0, .int .u32 0, .int .u32 0, .int .u32 0, .int .u32 0, .int .u32 0, .int .u32 0, .int .u32 0, .int .u32 0, .int .u32 0, .int .u32 0, .int .u32 0, .int .u32 0, .int .u32 0, .int .u32 0, .int .u32 0]], []⟩ 8 (by kernel_rfl) (by kernel_rfl) (by kernel_rfl) (by kernel_rfl)) ?_
  intro W base args ds gs before hval0 hW hcnd _
  have hval : ∀ (j : Nat) t v, Try.f14.params[j]? = some t → args[j]? = some v → Value.okWide Try.prog W .any base t v := hval0
  have hW' := hW
  obtain ⟨p, q, hA0, hV, rfl, hfz, hnd⟩ := hW
  have hA : DataW.TrodAll enc Try.prog W 0 (fun _ => true) true Try.f14.params.toList args.toList ds p := hA0
  rw [Try.params14] at hA hval
  obtain ⟨v0, v1, d0, d1, p0, p1, rfl, rfl, rfl, h0, h1⟩ := trodAll_two hA
  obtain ⟨rfl, rfl⟩ := trodVars_none hV
  have h0k := h0
  have h1k := h1
  obtain ⟨a0, c0, x0, rfl, hx0, hr0⟩ := open_rows (k := 23) Try.underlying56 O59 (fun _ => rfl) (by kernel_rfl) (hval 0 56 v0 rfl rfl) h0
  obtain ⟨x1, hx1, rfl⟩ := open_flat O24 (wide_agg (.inr ⟨_, _, Try.underlying24⟩) (hval 1 24 v1 rfl rfl)) h1
  clear hA0 hval0
  simp only [List.append_nil] at hW'
  have hlt : ∀ x ∈ p0 ++ p1, x.block < W.heap.size := fun x hx => hW'.lt x hx
  have walk : Calls Try.prog 14 #[.slice a0 x0.length c0, .agg (vc x1).toArray] W (fun e w' => e = .returned (.bool true) ∧ Own W no w' []) := by
    exact Tf.foldParts_ok W x1 a0 c0 x0 hx0 hr0 hsortU
  refine walk.mono fun e W' ⟨he, ho⟩ => ?_
  subst he
  have bel : Below W.heap.size W W' := ho.below
  refine ⟨_, rfl, _, _, _, [], p0 ++ p1, [], hW', ?_, ?_, rfl, bel.frame _, fun h => by cases h⟩
  · exact trodAll_mk1 (shut_bool Try.underlying4 true)
  · exact trodAll_mk2 (Below.trod Try.laidOut (by kernel_rfl) (of_decide_eq_true (by kernel_rfl)) h0k bel fun x hx => hlt x (List.mem_append_left _ hx)) (Below.trod Try.laidOut (by kernel_rfl) (of_decide_eq_true (by kernel_rfl)) h1k bel fun x hx => hlt x (List.mem_append_right _ hx))
theorem foldParts_holds (hsortU : SortI Try.prog 76 .u16 57) : Rows.FoldPartsSaid :=
  OpenClaim.holds_of_wide 14 Try.f14 rfl rfl rfl rfl rfl rfl rfl ⟨rfl, rfl, rfl, rfl, rfl⟩ rfl rfl rfl rfl rfl (by kernel_rfl) Try.func14 (by kernel_rfl)
    (of_decide_eq_true (by kernel_rfl)) (by unfold Func.isWrapper; first | (rw [if_pos (by decide +kernel)]; kernel_rfl) | (rw [if_neg (by decide +kernel)]; exact ⟨rfl, rfl⟩))
    (fun os started H enc _ => foldParts_lifted hsortU os started H enc)
theorem foldParts_said : Rows.FoldPartsSaid := foldParts_holds sortsU
end Go.Proofs.Ytnanhhiofnohbaa
