/- DiskNames -/
import Derived.Test.YtoihdfbaopeaaaaDiskNamesP3
import Derived.Test.YtoihdfbaopeaaaaRows
namespace Go.Proofs.Ytoihdfbaopeaaaa
open Go.ChangeShapes Go.WideShapes Go.ChangeAt Go.RowKit Go.Vx
set_option maxRecDepth 100000 in
theorem diskNames_lifted (hcl : CloneC Try.prog 24) (os : Os) (started : os.Started) (H : Type) (enc : TypeId × Value → H) :
    ReturnsInHanded {} Try.checked os 5 .any (Rows.diskNamesSpec.pre6 enc Try.prog Try.f5 Rows.diskNamesRow.domain false) (Rows.diskNamesSpec.post enc Try.prog Try.f5 false true false false) := by
  refine returnsInHanded_of_change (C := Try.checked) Try.own started (by kernel_rfl) Try.func5
    (ChangeSpec.witness6 (enc := enc) (C := Try.checked) false ⟨#[], #[.slice none 0 0, .int .u8 0], []⟩ 8 (by kernel_rfl) (by kernel_rfl) (by kernel_rfl) (by kernel_rfl)) ?_
  intro W base args ds gs before hval0 hW hcnd _
  have hval : ∀ (j : Nat) t v, Try.f5.params[j]? = some t → args[j]? = some v → Value.okWide Try.prog W .any base t v := hval0
  have hW' := hW
  obtain ⟨p, q, hA0, hV, rfl, hfz, hnd⟩ := hW
  have hA : DataW.TrodAll enc Try.prog W 0 (fun _ => true) true Try.f5.params.toList args.toList ds p := hA0
  rw [Try.params5] at hA hval
  obtain ⟨v0, v1, d0, d1, p0, p1, rfl, rfl, rfl, h0, h1⟩ := trodAll_two hA
  obtain ⟨rfl, rfl⟩ := trodVars_none hV
  have h0k := h0
  have h1k := h1
  obtain ⟨a0, c0, x0, rfl, hx0, hr0⟩ := open_rowsM (k := 7) Try.underlying22 O26 (fun _ => rfl) (by kernel_rfl) (hval 0 22 v0 rfl rfl) h0
  obtain ⟨x1, rfl, rfl, rfl, hx1⟩ := open_int Try.underlying5 (hval 1 5 v1 rfl rfl) h1
  clear hA0 hval0
  simp only [List.append_nil] at hW'
  have hlt : ∀ x ∈ p0, x.block < W.heap.size := fun x hx => hW'.lt x hx
  have walk : Calls Try.prog 5 #[.slice a0 x0.length c0, .int .u8 x1] W (fun e w' => e = .returned (.bool true) ∧ Own W no w' []) := by
    exact Tt.diskNames_ok W hcl sortsS a0 c0 x0 hx0 hr0 x1 (inK_u8 hx1)
  have hW2 : DataW.Whole enc Try.checked.prog Try.f5.params.toList Rows.diskNamesSpec.vars false W [.slice a0 x0.length c0, .int .u8 x1] [d0, DataW.lit (Lit.int .u8 x1)] [] (p0 ++ []) := by simpa using hW'
  refine walk.mono fun e W' ⟨he, ho⟩ => ?_
  subst he
  have bel : Below W.heap.size W W' := ho.below
  refine ⟨_, rfl, _, _, _, [], p0 ++ [], [], hW2, ?_, ?_, rfl, bel.frame _, fun h => by cases h⟩
  · exact trodAll_mk1 (shut_bool Try.underlying4 true)
  · exact trodAll_mk2 (Below.trod Try.laidOut (by kernel_rfl) (of_decide_eq_true (by kernel_rfl)) h0k bel fun x hx => hlt x (by simp [hx])) (Below.trod Try.laidOut (by kernel_rfl) (of_decide_eq_true (by kernel_rfl)) h1k bel fun x hx => by simp at hx)
theorem diskNames_holds (hcl : CloneC Try.prog 24) : Rows.DiskNamesSaid :=
  OpenClaim.holds_of_wide 5 Try.f5 rfl rfl rfl rfl rfl rfl rfl ⟨rfl, rfl, rfl, rfl, rfl⟩ rfl rfl rfl rfl rfl (by kernel_rfl) Try.func5 (by kernel_rfl)
    (of_decide_eq_true (by kernel_rfl)) (by unfold Func.isWrapper; first | (rw [if_pos (by decide +kernel)]; kernel_rfl) | (rw [if_neg (by decide +kernel)]; exact ⟨rfl, rfl⟩))
    (fun os started H enc _ => diskNames_lifted hcl os started H enc)
theorem diskNames_said : Rows.DiskNamesSaid := diskNames_holds clonesM
end Go.Proofs.Ytoihdfbaopeaaaa
