/- CartViews -/
import Derived.Test.YthbbcjimiemdgaaCartViewsP6
import Derived.Test.YthbbcjimiemdgaaRows
namespace Go.Proofs.Ythbbcjimiemdgaa
open Go.ChangeShapes Go.WideShapes Go.ChangeAt Go.RowKit Go.Vx
set_option maxRecDepth 100000 in
theorem cartViews_lifted (hsortE : SortC Try.prog 63 64 cec 128 7 srtE) (os : Os) (started : os.Started) (H : Type) (enc : TypeId × Value → H) :
    ReturnsInHanded {} Try.checked os 7 .any (Rows.cartViewsSpec.pre6 enc Try.prog Try.f7 Rows.cartViewsRow.domain false) (Rows.cartViewsSpec.post enc Try.prog Try.f7 false true false false) := by
  refine returnsInHanded_of_change (C := Try.checked) Try.own started (by kernel_rfl) Try.func7
    (ChangeSpec.witness6 (enc := enc) (C := Try.checked) false ⟨#[], #[.agg #[.int .u32 0, .int .u32 0, .int .u32 0, .int .u32 0, .int .u32 0, .int .u32 0, .int .u32 0, .int .u32 0, .int .u32 0, .int .u32 0, .int .u32 0, .int .u32 0, .int .u32 0, .int .u32 0, .int .u32 0, .int .u32 0, .slice none 0 0, .slice none 0 0], .int .u16 0], []⟩ 8 (by kernel_rfl) (by kernel_rfl) (by kernel_rfl) (by kernel_rfl)) ?_
  intro W base args ds gs before hval0 hW hcnd _
  have hval : ∀ (j : Nat) t v, Try.f7.params[j]? = some t → args[j]? = some v → Value.okWide Try.prog W .any base t v := hval0
  have hW' := hW
  obtain ⟨p, q, hA0, hV, rfl, hfz, hnd⟩ := hW
  have hA : DataW.TrodAll enc Try.prog W 0 (fun _ => true) true Try.f7.params.toList args.toList ds p := hA0
  rw [Try.params7] at hA hval
  obtain ⟨v0, v1, d0, d1, p0, p1, rfl, rfl, rfl, h0, h1⟩ := trodAll_two hA
  obtain ⟨rfl, rfl⟩ := trodVars_none hV
  have h0k := h0
  have h1k := h1
  obtain ⟨x0, a0, c0, b0, e0, rfl, hx0, hr0, hq0⟩ := open_sta Try.underlying57 rfl rfl O53 Try.underlying54 O134 Try.underlying55 O135 (by kernel_rfl) (by kernel_rfl) (hval 0 57 v0 rfl rfl) h0
  obtain ⟨x1, rfl, rfl, rfl, hx1⟩ := open_int Try.underlying70 (hval 1 70 v1 rfl rfl) h1
  clear hA0 hval0
  simp only [List.append_nil] at hW'
  have hlt : ∀ x ∈ p0, x.block < W.heap.size := fun x hx => hW'.lt x hx
  have walk : Calls Try.prog 7 #[.agg (vc x0.known ++ [(.slice a0 x0.ents.length c0 : Value), (.slice b0 x0.ticks.length e0 : Value)]).toArray, .int .u16 x1] W (fun e w' => e = .returned (.bool true) ∧ Own W no w' []) := by
    exact Tt.cartViews_ok W x0 a0 c0 b0 e0 x1 hsortE hx0 (inK_u16 hx1) hr0 hq0
  have hW2 : DataW.Whole enc Try.checked.prog Try.f7.params.toList Rows.cartViewsSpec.vars false W [.agg (vc x0.known ++ [(.slice a0 x0.ents.length c0 : Value), (.slice b0 x0.ticks.length e0 : Value)]).toArray, .int .u16 x1] [d0, DataW.lit (Lit.int .u16 x1)] [] (p0 ++ []) := by simpa using hW'
  refine walk.mono fun e W' ⟨he, ho⟩ => ?_
  subst he
  have bel : Below W.heap.size W W' := ho.below
  refine ⟨_, rfl, _, _, _, [], p0 ++ [], [], hW2, ?_, ?_, rfl, bel.frame _, fun h => by cases h⟩
  · exact trodAll_mk1 (shut_bool Try.underlying4 true)
  · exact trodAll_mk2 (Below.trod Try.laidOut (by kernel_rfl) (of_decide_eq_true (by kernel_rfl)) h0k bel fun x hx => hlt x (by simp [hx])) (Below.trod Try.laidOut (by kernel_rfl) (of_decide_eq_true (by kernel_rfl)) h1k bel fun x hx => by simp at hx)
theorem cartViews_holds (hsortE : SortC Try.prog 63 64 cec 128 7 srtE) : Rows.CartViewsSaid :=
  OpenClaim.holds_of_wide 7 Try.f7 rfl rfl rfl rfl rfl rfl rfl ⟨rfl, rfl, rfl, rfl, rfl⟩ rfl rfl rfl rfl rfl (by kernel_rfl) Try.func7 (by kernel_rfl)
    (of_decide_eq_true (by kernel_rfl)) (by unfold Func.isWrapper; first | (rw [if_pos (by decide +kernel)]; kernel_rfl) | (rw [if_neg (by decide +kernel)]; exact ⟨rfl, rfl⟩))
    (fun os started H enc _ => cartViews_lifted hsortE os started H enc)
theorem cartViews_said : Rows.CartViewsSaid := cartViews_holds sortsE
end Go.Proofs.Ythbbcjimiemdgaa
