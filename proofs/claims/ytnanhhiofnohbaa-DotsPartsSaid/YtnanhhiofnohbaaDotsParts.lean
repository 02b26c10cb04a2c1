/- What is in a set is what its closed part has, and what is loose; what is missing is neither: DotsParts answers true. For every input; no condition. -/
import Derived.Test.YtnanhhiofnohbaaRows
import Derived.Test.YtnanhhiofnohbaaVtQ
import Derived.Test.YtnanhhiofnohbaaVtY
import Derived.Test.YtnanhhiofnohbaaSortPay
namespace Go.Proofs.Ytnanhhiofnohbaa
open Go.ChangeShapes Go.WideShapes Go.ChangeAt Go.RowKit Go.Vx
set_option maxRecDepth 100000 in
theorem dotsParts_lifted (hsort : SortC Try.prog 64 51 dc 34 2 sortD) (os : Os) (started : os.Started) (H : Type) (enc : TypeId × Value → H) :
    ReturnsInHanded {} Try.checked os 5 .any (Rows.dotsPartsSpec.pre6 enc Try.prog Try.f5 Rows.dotsPartsRow.domain false) (Rows.dotsPartsSpec.post enc Try.prog Try.f5 false true false false) := by
  refine returnsInHanded_of_change (C := Try.checked) Try.own started (by kernel_rfl) Try.func5
    (ChangeSpec.witness6 (enc := enc) (C := Try.checked) false ⟨#[], #[.agg #[.int .u32 0, .int .u32 0, .int .u32 0, .int .u32 0, .int .u32 0, .int .u32 0, .int .u32 0, .int .u32 0, .int .u32 0, .int .u32 0, .int .u32 0, .int .u32 0, .int .u32 0, .int .u32 0, .int .u32 0, .int .u32 0], .slice none 0 0, .agg #[.int .u8 0, .int .u32 0]], []⟩ 8 (by kernel_rfl) (by kernel_rfl) (by kernel_rfl) (by kernel_rfl)) ?_
  intro W base args ds gs before hval0 hW hcnd _
  have hval : ∀ (j : Nat) t v, Try.f5.params[j]? = some t → args[j]? = some v → Value.okWide Try.prog W .any base t v := hval0
  have hW' := hW
  obtain ⟨p, q, hA0, hV, rfl, hfz, hnd⟩ := hW
  have hA : DataW.TrodAll enc Try.prog W 0 (fun _ => true) true Try.f5.params.toList args.toList ds p := hA0
  rw [Try.params5] at hA hval
  obtain ⟨v0, v1, v2, d0, d1, d2, p0, p1, p2, rfl, rfl, rfl, h0, h1, h2⟩ := trodAll_three hA
  obtain ⟨rfl, rfl⟩ := trodVars_none hV
  have h0k := h0
  have h1k := h1
  have h2k := h2
  obtain ⟨x0, hx0, rfl⟩ := open_flat O24 (wide_agg (.inr ⟨_, _, Try.underlying24⟩) (hval 0 24 v0 rfl rfl)) h0
  obtain ⟨a1, c1, x1, rfl, hx1, hr1⟩ := open_rows (k := 2) Try.underlying25 O34 (fun _ => rfl) (by kernel_rfl) (hval 1 25 v1 rfl rfl) h1
  obtain ⟨x2, hx2, rfl⟩ := open_flat O34 (wide_agg (.inl ⟨_, Try.underlying34⟩) (hval 2 34 v2 rfl rfl)) h2
  clear hA0 hval0
  simp only [List.append_nil] at hW'
  have hlt : ∀ x ∈ p0 ++ p1 ++ p2, x.block < W.heap.size := fun x hx => hW'.lt x hx
  have walk : Calls Try.prog 5 #[.agg (vc x0).toArray, .slice a1 x1.length c1, .agg (dc x2).toArray] W (fun e w' => e = .returned (.bool true) ∧ Own W no w' []) := by
    cases hB : rightB x0 16 with
    | true => exact Tt.dotsParts_yes W x0 a1 c1 x1 x2 hx0 hx1 hx2 hr1 hsort hB
    | false => exact Tt.dotsParts_no W x0 a1 c1 x1 x2 hx0 hr1 hsort hB
  refine walk.mono fun e W' ⟨he, ho⟩ => ?_
  subst he
  have bel : Below W.heap.size W W' := ho.below
  refine ⟨_, rfl, _, _, _, [], p0 ++ (p1 ++ p2), [], hW', ?_, ?_, rfl, bel.frame _, fun h => by cases h⟩
  · exact trodAll_mk1 (shut_bool Try.underlying4 true)
  · exact trodAll_mk3 (Below.trod Try.laidOut (by kernel_rfl) (of_decide_eq_true (by kernel_rfl)) h0k bel fun x hx => hlt x (List.mem_append_left _ (List.mem_append_left _ hx))) (Below.trod Try.laidOut (by kernel_rfl) (of_decide_eq_true (by kernel_rfl)) h1k bel fun x hx => hlt x (List.mem_append_left _ (List.mem_append_right _ hx))) (Below.trod Try.laidOut (by kernel_rfl) (of_decide_eq_true (by kernel_rfl)) h2k bel fun x hx => hlt x (List.mem_append_right _ hx))
theorem dotsParts_holds (hsort : SortC Try.prog 64 51 dc 34 2 sortD) : Rows.DotsPartsSaid :=
  OpenClaim.holds_of_wide 5 Try.f5 rfl rfl rfl rfl rfl rfl rfl ⟨rfl, rfl, rfl, rfl, rfl⟩ rfl rfl rfl rfl rfl (by kernel_rfl) Try.func5 (by kernel_rfl)
    (of_decide_eq_true (by kernel_rfl)) (by unfold Func.isWrapper; first | (rw [if_pos (by decide +kernel)]; kernel_rfl) | (rw [if_neg (by decide +kernel)]; exact ⟨rfl, rfl⟩))
    (fun os started H enc _ => dotsParts_lifted hsort os started H enc)
theorem dotsParts_said : Rows.DotsPartsSaid := dotsParts_holds sortsD
end Go.Proofs.Ytnanhhiofnohbaa
