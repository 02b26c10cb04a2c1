/- CartClears -/
import Derived.Test.YthbbcjimiemdgaaCartClearsP6
import Derived.Test.YthbbcjimiemdgaaRows
namespace Go.Proofs.Ythbbcjimiemdgaa
open Go.ChangeShapes Go.WideShapes Go.ChangeAt Go.RowKit Go.Vx
set_option maxRecDepth 100000 in
theorem cartClears_lifted (hsortE : SortC Try.prog 63 64 cec 128 7 srtE) (os : Os) (started : os.Started) (H : Type) (enc : TypeId × Value → H) :
    ReturnsInHanded {} Try.checked os 10 .any (Rows.cartClearsSpec.pre6 enc Try.prog Try.f10 Rows.cartClearsRow.domain false) (Rows.cartClearsSpec.post enc Try.prog Try.f10 false true false false) := by
  refine returnsInHanded_of_change (C := Try.checked) Try.own started (by kernel_rfl) Try.func10
    (ChangeSpec.witness6 (enc := enc) (C := Try.checked) false ⟨#[], #[.slice none 0 0, .int .u16 0, .int .u16 0], []⟩ 8 (by kernel_rfl) (by kernel_rfl) (by kernel_rfl) (by kernel_rfl)) ?_
  intro W base args ds gs before hval0 hW hcnd _
  have hval : ∀ (j : Nat) t v, Try.f10.params[j]? = some t → args[j]? = some v → Value.okWide Try.prog W .any base t v := hval0
  have hW' := hW
  obtain ⟨p, q, hA0, hV, rfl, hfz, hnd⟩ := hW
  have hA : DataW.TrodAll enc Try.prog W 0 (fun _ => true) true Try.f10.params.toList args.toList ds p := hA0
  rw [Try.params10] at hA hval
  obtain ⟨v0, v1, v2, d0, d1, d2, p0, p1, p2, rfl, rfl, rfl, h0, h1, h2⟩ := trodAll_three hA
  obtain ⟨rfl, rfl⟩ := trodVars_none hV
  have h0k := h0
  have h1k := h1
  have h2k := h2
  obtain ⟨a0, c0, x0, rfl, hx0, hr0⟩ := open_rows (k := 23) Try.underlying82 O98 (fun _ => rfl) (by kernel_rfl) (hval 0 82 v0 rfl rfl) h0
  obtain ⟨x1, rfl, rfl, rfl, hx1⟩ := open_int Try.underlying70 (hval 1 70 v1 rfl rfl) h1
  obtain ⟨x2, rfl, rfl, rfl, hx2⟩ := open_int Try.underlying70 (hval 2 70 v2 rfl rfl) h2
  clear hA0 hval0
  simp only [List.append_nil] at hW'
  have hlt : ∀ x ∈ p0, x.block < W.heap.size := fun x hx => hW'.lt x hx
  have walk : Calls Try.prog 10 #[.slice a0 x0.length c0, .int .u16 x1, .int .u16 x2] W (fun e w' => e = .returned (.bool true) ∧ Own W no w' []) := by
    exact Tt.cartClears_ok W a0 c0 x0 hx0 hr0 hsortE x1 x2 (inK_u16 hx1)
  have hW2 : DataW.Whole enc Try.checked.prog Try.f10.params.toList Rows.cartClearsSpec.vars false W [.slice a0 x0.length c0, .int .u16 x1, .int .u16 x2] [d0, DataW.lit (Lit.int .u16 x1), DataW.lit (Lit.int .u16 x2)] [] (p0 ++ ([] ++ [])) := by simpa using hW'
  refine walk.mono fun e W' ⟨he, ho⟩ => ?_
  subst he
  have bel : Below W.heap.size W W' := ho.below
  refine ⟨_, rfl, _, _, _, [], p0 ++ ([] ++ []), [], hW2, ?_, ?_, rfl, bel.frame _, fun h => by cases h⟩
  · exact trodAll_mk1 (shut_bool Try.underlying4 true)
  · exact trodAll_mk3 (Below.trod Try.laidOut (by kernel_rfl) (of_decide_eq_true (by kernel_rfl)) h0k bel fun x hx => hlt x (by simp [hx])) (Below.trod Try.laidOut (by kernel_rfl) (of_decide_eq_true (by kernel_rfl)) h1k bel fun x hx => by simp at hx) (Below.trod Try.laidOut (by kernel_rfl) (of_decide_eq_true (by kernel_rfl)) h2k bel fun x hx => by simp at hx)
theorem cartClears_holds (hsortE : SortC Try.prog 63 64 cec 128 7 srtE) : Rows.CartClearsSaid :=
  OpenClaim.holds_of_wide 10 Try.f10 rfl rfl rfl rfl rfl rfl rfl ⟨rfl, rfl, rfl, rfl, rfl⟩ rfl rfl rfl rfl rfl (by kernel_rfl) Try.func10 (by kernel_rfl)
    (of_decide_eq_true (by kernel_rfl)) (by unfold Func.isWrapper; first | (rw [if_pos (by decide +kernel)]; kernel_rfl) | (rw [if_neg (by decide +kernel)]; exact ⟨rfl, rfl⟩))
    (fun os started H enc _ => cartClears_lifted hsortE os started H enc)
theorem cartClears_said : Rows.CartClearsSaid := cartClears_holds sortsE
end Go.Proofs.Ythbbcjimiemdgaa
