/- FoldAny -/
import Derived.Test.YtnanhhiofnohbaaFoldAnyP6
import Derived.Test.YtnanhhiofnohbaaRows
namespace Go.Proofs.Ytnanhhiofnohbaa
open Go.ChangeShapes Go.WideShapes Go.ChangeAt Go.RowKit Go.Vx
set_option maxRecDepth 100000 in
theorem foldAny_lifted (hsortU : SortI Try.prog 76 .u16 57) (os : Os) (started : os.Started) (H : Type) (enc : TypeId × Value → H) :
    ReturnsInHanded {} Try.checked os 12 .any (Rows.foldAnySpec.pre6 enc Try.prog Try.f12 Rows.foldAnyRow.domain false) (Rows.foldAnySpec.post enc Try.prog Try.f12 false true false false) := by
  refine returnsInHanded_of_change (C := Try.checked) Try.own started (by kernel_rfl) Try.func12
    (ChangeSpec.witness6 (enc := enc) (C := Try.checked) false ⟨#[], #[.slice none 0 0, .int .u16 0, .agg #[.int .u8 0, .int .u8 0]], []⟩ 8 (by kernel_rfl) (by kernel_rfl) (by kernel_rfl) (by kernel_rfl)) ?_
  intro W base args ds gs before hval0 hW hcnd _
  have hval : ∀ (j : Nat) t v, Try.f12.params[j]? = some t → args[j]? = some v → Value.okWide Try.prog W .any base t v := hval0
  have hW' := hW
  obtain ⟨p, q, hA0, hV, rfl, hfz, hnd⟩ := hW
  have hA : DataW.TrodAll enc Try.prog W 0 (fun _ => true) true Try.f12.params.toList args.toList ds p := hA0
  rw [Try.params12] at hA hval
  obtain ⟨v0, v1, v2, d0, d1, d2, p0, p1, p2, rfl, rfl, rfl, h0, h1, h2⟩ := trodAll_three hA
  obtain ⟨rfl, rfl⟩ := trodVars_none hV
  have h0k := h0
  have h1k := h1
  have h2k := h2
  obtain ⟨a0, c0, x0, rfl, hx0, hr0⟩ := open_rows (k := 23) Try.underlying56 O59 (fun _ => rfl) (by kernel_rfl) (hval 0 56 v0 rfl rfl) h0
  obtain ⟨x1, rfl, rfl, rfl, hx1⟩ := open_int Try.underlying57 (hval 1 57 v1 rfl rfl) h1
  obtain ⟨x2, hx2, rfl⟩ := open_flat O69 (wide_agg (.inr ⟨_, _, Try.underlying69⟩) (hval 2 69 v2 rfl rfl)) h2
  clear hA0 hval0
  simp only [List.append_nil] at hW'
  have hlt : ∀ x ∈ p0 ++ p2, x.block < W.heap.size := fun x hx => hW'.lt x hx
  have walk : Calls Try.prog 12 #[.slice a0 x0.length c0, .int .u16 x1, .agg (pc2 x2).toArray] W (fun e w' => e = .returned (.bool true) ∧ Own W no w' []) := by
    exact Tf.foldAny_ok W a0 c0 x0 hx0 hr0 hsortU x1 x2.1 x2.2 hx2.1 hx2.2
  have hW2 : DataW.Whole enc Try.checked.prog Try.f12.params.toList Rows.foldAnySpec.vars false W [.slice a0 x0.length c0, .int .u16 x1, .agg (pc2 x2).toArray] [d0, DataW.lit (Lit.int .u16 x1), d2] [] (p0 ++ ([] ++ p2)) := by simpa using hW'
  refine walk.mono fun e W' ⟨he, ho⟩ => ?_
  subst he
  have bel : Below W.heap.size W W' := ho.below
  refine ⟨_, rfl, _, _, _, [], p0 ++ ([] ++ p2), [], hW2, ?_, ?_, rfl, bel.frame _, fun h => by cases h⟩
  · exact trodAll_mk1 (shut_bool Try.underlying4 true)
  · exact trodAll_mk3 (Below.trod Try.laidOut (by kernel_rfl) (of_decide_eq_true (by kernel_rfl)) h0k bel fun x hx => hlt x (by simp [hx])) (Below.trod Try.laidOut (by kernel_rfl) (of_decide_eq_true (by kernel_rfl)) h1k bel fun x hx => by simp at hx) (Below.trod Try.laidOut (by kernel_rfl) (of_decide_eq_true (by kernel_rfl)) h2k bel fun x hx => hlt x (by simp [hx]))
theorem foldAny_holds (hsortU : SortI Try.prog 76 .u16 57) : Rows.FoldAnySaid :=
  OpenClaim.holds_of_wide 12 Try.f12 rfl rfl rfl rfl rfl rfl rfl ⟨rfl, rfl, rfl, rfl, rfl⟩ rfl rfl rfl rfl rfl (by kernel_rfl) Try.func12 (by kernel_rfl)
    (of_decide_eq_true (by kernel_rfl)) (by unfold Func.isWrapper; first | (rw [if_pos (by decide +kernel)]; kernel_rfl) | (rw [if_neg (by decide +kernel)]; exact ⟨rfl, rfl⟩))
    (fun os started H enc _ => foldAny_lifted hsortU os started H enc)
theorem foldAny_said : Rows.FoldAnySaid := foldAny_holds sortsU
end Go.Proofs.Ytnanhhiofnohbaa
