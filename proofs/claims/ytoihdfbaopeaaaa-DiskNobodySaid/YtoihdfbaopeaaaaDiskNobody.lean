/- DiskNobody -/
import Derived.Test.YtoihdfbaopeaaaaDiskNobodyP3
import Derived.Test.YtoihdfbaopeaaaaRows
namespace Go.Proofs.Ytoihdfbaopeaaaa
open Go.ChangeShapes Go.WideShapes Go.ChangeAt Go.RowKit Go.Vx
set_option maxRecDepth 100000 in
theorem diskNobody_lifted (hcl : CloneC Try.prog 24) (os : Os) (started : os.Started) (H : Type) (enc : TypeId × Value → H) :
    ReturnsInHanded {} Try.checked os 4 .any (Rows.diskNobodySpec.pre6 enc Try.prog Try.f4 Rows.diskNobodyRow.domain false) (Rows.diskNobodySpec.post enc Try.prog Try.f4 false true false false) := by
  refine returnsInHanded_of_change (C := Try.checked) Try.own started (by kernel_rfl) Try.func4
    (ChangeSpec.witness6 (enc := enc) (C := Try.checked) false ⟨#[], #[.agg #[.int .u8 0, .string ByteArray.empty, .string ByteArray.empty, .slice none 0 0, .int .u8 0, .slice none 0 0, .int .i64 0]], []⟩ 8 (by kernel_rfl) (by kernel_rfl) (by kernel_rfl) (by kernel_rfl)) ?_
  intro W base args ds gs before hval0 hW hcnd _
  have hval : ∀ (j : Nat) t v, Try.f4.params[j]? = some t → args[j]? = some v → Value.okWide Try.prog W .any base t v := hval0
  have hW' := hW
  obtain ⟨p, q, hA0, hV, rfl, hfz, hnd⟩ := hW
  have hA : DataW.TrodAll enc Try.prog W 0 (fun _ => true) true Try.f4.params.toList args.toList ds p := hA0
  rw [Try.params4] at hA hval
  obtain ⟨v0, d0, rfl, rfl, h0⟩ := trodAll_one hA
  obtain ⟨rfl, rfl⟩ := trodVars_none hV
  have h0k := h0
  obtain ⟨x0, hx0, rfl⟩ := open_flatM O26 (wide_agg (.inl ⟨_, Try.underlying26⟩) (hval 0 26 v0 rfl rfl)) h0
  clear hA0 hval0
  simp only [List.append_nil] at hW'
  have hlt : ∀ x ∈ p, x.block < W.heap.size := fun x hx => hW'.lt x hx
  have walk : Calls Try.prog 4 #[.agg (acc x0).toArray] W (fun e w' => e = .returned (.bool true) ∧ Own W no w' []) := by
    exact Tt.diskNobody_ok W hcl sortsS x0 hx0
  refine walk.mono fun e W' ⟨he, ho⟩ => ?_
  subst he
  have bel : Below W.heap.size W W' := ho.below
  refine ⟨_, rfl, _, _, _, [], p, [], hW', ?_, ?_, rfl, bel.frame _, fun h => by cases h⟩
  · exact trodAll_mk1 (shut_bool Try.underlying4 true)
  · exact trodAll_mk1 (Below.trod Try.laidOut (by kernel_rfl) (of_decide_eq_true (by kernel_rfl)) h0k bel fun x hx => hlt x hx)
theorem diskNobody_holds (hcl : CloneC Try.prog 24) : Rows.DiskNobodySaid :=
  OpenClaim.holds_of_wide 4 Try.f4 rfl rfl rfl rfl rfl rfl rfl ⟨rfl, rfl, rfl, rfl, rfl⟩ rfl rfl rfl rfl rfl (by kernel_rfl) Try.func4 (by kernel_rfl)
    (of_decide_eq_true (by kernel_rfl)) (by unfold Func.isWrapper; first | (rw [if_pos (by decide +kernel)]; kernel_rfl) | (rw [if_neg (by decide +kernel)]; exact ⟨rfl, rfl⟩))
    (fun os started H enc _ => diskNobody_lifted hcl os started H enc)
theorem diskNobody_said : Rows.DiskNobodySaid := diskNobody_holds clonesM
end Go.Proofs.Ytoihdfbaopeaaaa
