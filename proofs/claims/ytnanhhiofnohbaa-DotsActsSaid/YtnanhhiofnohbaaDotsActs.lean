/- A set of dots answers every call, in every order, as the document says: DotsActs answers true. For every input; no condition. -/
import Derived.Test.YtnanhhiofnohbaaRows
import Derived.Test.YtnanhhiofnohbaaVtU
import Derived.Test.YtnanhhiofnohbaaVtY
import Derived.Test.YtnanhhiofnohbaaSortPay
namespace Go.Proofs.Ytnanhhiofnohbaa
open Go.ChangeShapes Go.WideShapes Go.ChangeAt Go.RowKit Go.Vx
set_option maxRecDepth 100000 in
theorem dotsActs_lifted (hsort : SortC Try.prog 64 51 dc 34 2 sortD) (os : Os) (started : os.Started) (H : Type) (enc : TypeId × Value → H) :
    ReturnsInHanded {} Try.checked os 3 .any (Rows.dotsActsSpec.pre6 enc Try.prog Try.f3 Rows.dotsActsRow.domain false) (Rows.dotsActsSpec.post enc Try.prog Try.f3 false true false false) := by
  refine returnsInHanded_of_change (C := Try.checked) Try.own started (by kernel_rfl) Try.func3
    (ChangeSpec.witness6 (enc := enc) (C := Try.checked) false ⟨#[], #[.agg #[.int .u32 0, .int .u32 0, .int .u32 0, .int .u32 0, .int .u32 0, .int .u32 0, .int .u32 0, .int .u32 0, .int .u32 0, .int .u32 0, .int .u32 0, .int .u32 0, .int .u32 0, .int .u32 0, .int .u32 0, .int .u32 0], .slice none 0 0], []⟩ 8 (by kernel_rfl) (by kernel_rfl) (by kernel_rfl) (by kernel_rfl)) ?_
  intro W base args ds gs before hval0 hW hcnd _
  have hval : ∀ (j : Nat) t v, Try.f3.params[j]? = some t → args[j]? = some v → Value.okWide Try.prog W .any base t v := hval0
  have hW' := hW
  obtain ⟨p, q, hA0, hV, rfl, hfz, hnd⟩ := hW
  have hA : DataW.TrodAll enc Try.prog W 0 (fun _ => true) true Try.f3.params.toList args.toList ds p := hA0
  rw [Try.params3] at hA hval
  obtain ⟨v0, v1, d0, d1, p0, p1, rfl, rfl, rfl, h0, h1⟩ := trodAll_two hA
  obtain ⟨rfl, rfl⟩ := trodVars_none hV
  have h0k := h0
  have h1k := h1
  obtain ⟨x0, hx0, rfl⟩ := open_flat O24 (wide_agg (.inr ⟨_, _, Try.underlying24⟩) (hval 0 24 v0 rfl rfl)) h0
  obtain ⟨a1, c1, x1, rfl, hx1, hr1⟩ := open_rows (k := 2) Try.underlying25 O34 (fun _ => rfl) (by kernel_rfl) (hval 1 25 v1 rfl rfl) h1
  clear hA0 hval0
  simp only [List.append_nil] at hW'
  have hlt : ∀ x ∈ p0 ++ p1, x.block < W.heap.size := fun x hx => hW'.lt x hx
  have walk : Calls Try.prog 3 #[.agg (vc x0).toArray, .slice a1 x1.length c1] W (fun e w' => e = .returned (.bool true) ∧ Own W no w' []) := by
    cases hB : rightB x0 16 with
    | true => exact Tt.dotsActs_yes W x0 a1 c1 x1 hx0 hx1 hr1 hsort hB
    | false => exact Tt.dotsActs_no W x0 a1 c1 x1 hx0 hx1 hr1 hsort hB
  refine walk.mono fun e W' ⟨he, ho⟩ => ?_
  subst he
  have bel : Below W.heap.size W W' := ho.below
  refine ⟨_, rfl, _, _, _, [], p0 ++ p1, [], hW', ?_, ?_, rfl, bel.frame _, fun h => by cases h⟩
  · exact trodAll_mk1 (shut_bool Try.underlying4 true)
  · exact trodAll_mk2 (Below.trod Try.laidOut (by kernel_rfl) (of_decide_eq_true (by kernel_rfl)) h0k bel fun x hx => hlt x (List.mem_append_left _ hx)) (Below.trod Try.laidOut (by kernel_rfl) (of_decide_eq_true (by kernel_rfl)) h1k bel fun x hx => hlt x (List.mem_append_right _ hx))
theorem dotsActs_holds (hsort : SortC Try.prog 64 51 dc 34 2 sortD) : Rows.DotsActsSaid :=
  OpenClaim.holds_of_wide 3 Try.f3 rfl rfl rfl rfl rfl rfl rfl ⟨rfl, rfl, rfl, rfl, rfl⟩ rfl rfl rfl rfl rfl (by kernel_rfl) Try.func3 (by kernel_rfl)
    (of_decide_eq_true (by kernel_rfl)) (by unfold Func.isWrapper; first | (rw [if_pos (by decide +kernel)]; kernel_rfl) | (rw [if_neg (by decide +kernel)]; exact ⟨rfl, rfl⟩))
    (fun os started H enc _ => dotsActs_lifted hsort os started H enc)
theorem dotsActs_said : Rows.DotsActsSaid := dotsActs_holds sortsD
end Go.Proofs.Ytnanhhiofnohbaa
