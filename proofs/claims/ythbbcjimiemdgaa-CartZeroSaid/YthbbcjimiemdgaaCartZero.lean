/- CartZero -/
import Derived.Test.YthbbcjimiemdgaaCartZeroP6
import Derived.Test.YthbbcjimiemdgaaRows
namespace Go.Proofs.Ythbbcjimiemdgaa
open Go.ChangeShapes Go.WideShapes Go.ChangeAt Go.RowKit Go.Vx
set_option maxRecDepth 100000 in
theorem cartZero_lifted (hsortE : SortC Try.prog 63 64 cec 128 7 srtE) (os : Os) (started : os.Started) (H : Type) (enc : TypeId × Value → H) :
    ReturnsInHanded {} Try.checked os 12 .any (Rows.cartZeroSpec.pre6 enc Try.prog Try.f12 Rows.cartZeroRow.domain false) (Rows.cartZeroSpec.post enc Try.prog Try.f12 false true false false) := by
  refine returnsInHanded_of_change (C := Try.checked) Try.own started (by kernel_rfl) Try.func12
    (ChangeSpec.witness6 (enc := enc) (C := Try.checked) false ⟨#[], #[.agg #[.int .u32 0, .int .u32 0, .int .u32 0, .int .u32 0, .int .u32 0, .int .u32 0, .int .u32 0, .int .u32 0, .int .u32 0, .int .u32 0, .int .u32 0, .int .u32 0, .int .u32 0, .int .u32 0, .int .u32 0, .int .u32 0, .slice none 0 0, .slice none 0 0]], []⟩ 8 (by kernel_rfl) (by kernel_rfl) (by kernel_rfl) (by kernel_rfl)) ?_
  intro W base args ds gs before hval0 hW hcnd _
  have hval : ∀ (j : Nat) t v, Try.f12.params[j]? = some t → args[j]? = some v → Value.okWide Try.prog W .any base t v := hval0
  have hW' := hW
  obtain ⟨p, q, hA0, hV, rfl, hfz, hnd⟩ := hW
  have hA : DataW.TrodAll enc Try.prog W 0 (fun _ => true) true Try.f12.params.toList args.toList ds p := hA0
  rw [Try.params12] at hA hval
  obtain ⟨v0, d0, rfl, rfl, h0⟩ := trodAll_one hA
  obtain ⟨rfl, rfl⟩ := trodVars_none hV
  have h0k := h0
  obtain ⟨x0, a0, c0, b0, e0, rfl, hx0, hr0, hq0⟩ := open_sta Try.underlying57 rfl rfl O53 Try.underlying54 O134 Try.underlying55 O135 (by kernel_rfl) (by kernel_rfl) (hval 0 57 v0 rfl rfl) h0
  clear hA0 hval0
  simp only [List.append_nil] at hW'
  have hlt : ∀ x ∈ p, x.block < W.heap.size := fun x hx => hW'.lt x hx
  have walk : Calls Try.prog 12 #[.agg (vc x0.known ++ [(.slice a0 x0.ents.length c0 : Value), (.slice b0 x0.ticks.length e0 : Value)]).toArray] W (fun e w' => e = .returned (.bool true) ∧ Own W no w' []) := by
    exact Tt.cartZero_ok W x0 a0 c0 b0 e0 hsortE hx0 hr0 hq0
  refine walk.mono fun e W' ⟨he, ho⟩ => ?_
  subst he
  have bel : Below W.heap.size W W' := ho.below
  refine ⟨_, rfl, _, _, _, [], p, [], hW', ?_, ?_, rfl, bel.frame _, fun h => by cases h⟩
  · exact trodAll_mk1 (shut_bool Try.underlying4 true)
  · exact trodAll_mk1 (Below.trod Try.laidOut (by kernel_rfl) (of_decide_eq_true (by kernel_rfl)) h0k bel fun x hx => hlt x hx)
theorem cartZero_holds (hsortE : SortC Try.prog 63 64 cec 128 7 srtE) : Rows.CartZeroSaid :=
  OpenClaim.holds_of_wide 12 Try.f12 rfl rfl rfl rfl rfl rfl rfl ⟨rfl, rfl, rfl, rfl, rfl⟩ rfl rfl rfl rfl rfl (by kernel_rfl) Try.func12 (by kernel_rfl)
    (of_decide_eq_true (by kernel_rfl)) (by unfold Func.isWrapper; first | (rw [if_pos (by decide +kernel)]; kernel_rfl) | (rw [if_neg (by decide +kernel)]; exact ⟨rfl, rfl⟩))
    (fun os started H enc _ => cartZero_lifted hsortE os started H enc)
theorem cartZero_said : Rows.CartZeroSaid := cartZero_holds sortsE
end Go.Proofs.Ythbbcjimiemdgaa
