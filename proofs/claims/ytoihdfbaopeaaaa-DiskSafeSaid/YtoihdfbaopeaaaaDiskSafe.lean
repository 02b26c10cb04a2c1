/- DiskSafe -/
import Derived.Test.YtoihdfbaopeaaaaDiskSafeP3
import Derived.Test.YtoihdfbaopeaaaaRows
namespace Go.Proofs.Ytoihdfbaopeaaaa
open Go.ChangeShapes Go.WideShapes Go.ChangeAt Go.RowKit Go.Vx
set_option maxRecDepth 100000 in
theorem diskSafe_lifted (hcl : CloneC Try.prog 24) (os : Os) (started : os.Started) (H : Type) (enc : TypeId × Value → H) :
    ReturnsInHanded {} Try.checked os 3 .any (Rows.diskSafeSpec.pre6 enc Try.prog Try.f3 Rows.diskSafeRow.domain false) (Rows.diskSafeSpec.post enc Try.prog Try.f3 false true false false) := by
  refine returnsInHanded_of_change (C := Try.checked) Try.own started (by kernel_rfl) Try.func3
    (ChangeSpec.witness6 (enc := enc) (C := Try.checked) false ⟨#[], #[.slice none 0 0, .agg #[.slice none 0 0, .slice none 0 0], .agg #[.int .u8 0, .string ByteArray.empty, .string ByteArray.empty, .slice none 0 0, .int .u8 0, .slice none 0 0, .int .i64 0]], []⟩ 8 (by kernel_rfl) (by kernel_rfl) (by kernel_rfl) (by kernel_rfl)) ?_
  intro W base args ds gs before hval0 hW hcnd _
  have hval : ∀ (j : Nat) t v, Try.f3.params[j]? = some t → args[j]? = some v → Value.okWide Try.prog W .any base t v := hval0
  have hW' := hW
  obtain ⟨p, q, hA0, hV, rfl, hfz, hnd⟩ := hW
  have hA : DataW.TrodAll enc Try.prog W 0 (fun _ => true) true Try.f3.params.toList args.toList ds p := hA0
  rw [Try.params3] at hA hval
  obtain ⟨v0, v1, v2, d0, d1, d2, p0, p1, p2, rfl, rfl, rfl, h0, h1, h2⟩ := trodAll_three hA
  obtain ⟨rfl, rfl⟩ := trodVars_none hV
  have h0k := h0
  have h1k := h1
  have h2k := h2
  obtain ⟨a0, c0, x0, rfl, hx0, hr0⟩ := open_rowsM (k := 7) Try.underlying22 O26 (fun _ => rfl) (by kernel_rfl) (hval 0 22 v0 rfl rfl) h0
  obtain ⟨x1, hx1, rfl⟩ := open_flatM O24 (wide_agg (.inr ⟨_, _, Try.underlying24⟩) (hval 1 24 v1 rfl rfl)) h1
  obtain ⟨x2, hx2, rfl⟩ := open_flatM O26 (wide_agg (.inl ⟨_, Try.underlying26⟩) (hval 2 26 v2 rfl rfl)) h2
  clear hA0 hval0
  simp only [List.append_nil] at hW'
  have hlt : ∀ x ∈ p0 ++ p1 ++ p2, x.block < W.heap.size := fun x hx => hW'.lt x hx
  have walk : Calls Try.prog 3 #[.slice a0 x0.length c0, .agg (bt2 x1).toArray, .agg (acc x2).toArray] W (fun e w' => e = .returned (.bool true) ∧ Own W no w' []) := by
    exact Tt.diskSafe_ok W hcl sortsS a0 c0 x0 hx0 hr0 x1.1.a x1.1.c x1.1.l x1.2.a x1.2.c x1.2.l hx1.1.1 hx1.2.1 x2 hx2
  refine walk.mono fun e W' ⟨he, ho⟩ => ?_
  subst he
  have bel : Below W.heap.size W W' := ho.below
  refine ⟨_, rfl, _, _, _, [], p0 ++ (p1 ++ p2), [], hW', ?_, ?_, rfl, bel.frame _, fun h => by cases h⟩
  · exact trodAll_mk1 (shut_bool Try.underlying4 true)
  · exact trodAll_mk3 (Below.trod Try.laidOut (by kernel_rfl) (of_decide_eq_true (by kernel_rfl)) h0k bel fun x hx => hlt x (List.mem_append_left _ (List.mem_append_left _ hx))) (Below.trod Try.laidOut (by kernel_rfl) (of_decide_eq_true (by kernel_rfl)) h1k bel fun x hx => hlt x (List.mem_append_left _ (List.mem_append_right _ hx))) (Below.trod Try.laidOut (by kernel_rfl) (of_decide_eq_true (by kernel_rfl)) h2k bel fun x hx => hlt x (List.mem_append_right _ hx))
theorem diskSafe_holds (hcl : CloneC Try.prog 24) : Rows.DiskSafeSaid :=
  OpenClaim.holds_of_wide 3 Try.f3 rfl rfl rfl rfl rfl rfl rfl ⟨rfl, rfl, rfl, rfl, rfl⟩ rfl rfl rfl rfl rfl (by kernel_rfl) Try.func3 (by kernel_rfl)
    (of_decide_eq_true (by kernel_rfl)) (by unfold Func.isWrapper; first | (rw [if_pos (by decide +kernel)]; kernel_rfl) | (rw [if_neg (by decide +kernel)]; exact ⟨rfl, rfl⟩))
    (fun os started H enc _ => diskSafe_lifted hcl os started H enc)
theorem diskSafe_said : Rows.DiskSafeSaid := diskSafe_holds clonesM
end Go.Proofs.Ytoihdfbaopeaaaa
