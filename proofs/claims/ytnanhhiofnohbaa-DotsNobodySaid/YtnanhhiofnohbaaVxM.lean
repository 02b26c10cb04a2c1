/- The arguments of a row, opened. -/
import Derived.Test.YtnanhhiofnohbaaVxQ
import Derived.OpenShut
import Derived.ChangeArms
import Derived.ProofKit
import Derived.Deep.Slices
namespace Go.Vx
open Go.RowKit Go.ChangeShapes Go.WideShapes Go.ChangeAt

/-- what cells of type t hold -/
def OpenT (P : Program) (t : TypeId) {α : Type} (en : α → List Value) (ok : α → Prop) : Prop :=
  ∀ (H : Type) (enc : TypeId × Value → H) (w : World) (base : Nat) (spare : Nat → Bool) (held : Bool) (fuel : Nat) (cs : List Value) (x : DataW H × List MemPlace), DataW.trod enc P w base spare held fuel t cs = some x → ∃ a, ok a ∧ cs = en a
def inK (k : IntKind) (a : Int) : Prop := (Lit.int k a).wf = true
theorem inK_u32 {a : Int} (h : inK .u32 a) : 0 ≤ a ∧ a < 4294967296 := by
  unfold inK at h
  simp [Lit.wf, IntKind.min, IntKind.max, IntKind.signed, IntKind.bits] at h
  omega
theorem inK_u16 {a : Int} (h : inK .u16 a) : 0 ≤ a ∧ a < 65536 := by
  unfold inK at h
  simp [Lit.wf, IntKind.min, IntKind.max, IntKind.signed, IntKind.bits] at h
  omega
theorem inK_u8 {a : Int} (h : inK .u8 a) : 0 ≤ a ∧ a < 256 := by
  unfold inK at h
  simp [Lit.wf, IntKind.min, IntKind.max, IntKind.signed, IntKind.bits] at h
  omega
theorem O_int {P : Program} {t : TypeId} {k : IntKind} (ht : P.underlying t = some (.int k)) : OpenT P t (ic k) (inK k) := by
  intro H enc w base spare held fuel cs x h
  obtain ⟨n, h1, _, h2⟩ := DataW.trod_int ht h
  exact ⟨n, h2, h1⟩
theorem O_vec {P : Program} {t el : TypeId} (ht : P.underlying t = some (.array 16 el)) (he : P.underlying el = some (.int .u32)) (hc : P.cellsOf el = 1) (hct : P.cellsOf t = 16) : OpenT P t vc VecOk := by
  intro H enc w base spare held fuel cs x h
  obtain ⟨xs, m, _, _, hl, hxl, hx⟩ := DataW.trod_array ht h
  rw [hct] at hl
  have each : ∀ i, i < 16 → ∃ a, inK .u32 a ∧ cs[i]? = some (.int .u32 a) := by
    intro i hi
    have h1 := hx i hi
    rw [hc, List.getElem?_eq_getElem (by omega)] at h1
    obtain ⟨a, ha, he⟩ := O_int he _ _ _ _ _ _ _ _ _ h1
    refine ⟨a, ha, ?_⟩
    have h2 : ((cs.drop (i * 1)).take 1)[0]? = some (.int .u32 a) := by rw [he]; rfl
    simpa [List.getElem?_take, List.getElem?_drop] using h2
  have each' : ∀ i : Fin 16, ∃ a, inK .u32 a ∧ cs[i.val]? = some (.int .u32 a) := fun i => each i.val i.isLt
  obtain ⟨v, hv⟩ := Classical.axiomOfChoice each'
  refine ⟨v, fun i => inK_u32 (hv i).1, ?_⟩
  apply List.ext_getElem?
  intro i
  by_cases hi : i < 16
  · rw [vc_at _ _ hi, (hv ⟨i, hi⟩).2]; simp [vat, hi]
  · rw [List.getElem?_eq_none (by omega), List.getElem?_eq_none (by rw [vc_len]; omega)]
theorem O_dot {P : Program} {t : TypeId} {f1 f2 : Field} (ht : P.underlying t = some (.struct #[f1, f2])) (o1 : f1.offset = 0) (o2 : f2.offset = 1) (u1 : P.underlying f1.type = some (.int .u8)) (u2 : P.underlying f2.type = some (.int .u32))
    (c1 : P.cellsOf f1.type = 1) (c2 : P.cellsOf f2.type = 1) (hct : P.cellsOf t = 2) : OpenT P t dc DotOk := by
  intro H enc w base spare held fuel cs x h
  obtain ⟨xs, m, _, _, hl, hxl, hx⟩ := DataW.trod_struct ht h
  rw [hct] at hl
  have h1 := hx 0 f1 rfl
  have h2 := hx 1 f2 rfl
  have hx2 : xs.length = 2 := by simpa using hxl
  rw [List.getElem?_eq_getElem (by omega)] at h1 h2
  rw [o1, c1] at h1
  rw [o2, c2] at h2
  obtain ⟨a, ha, e1⟩ := O_int u1 _ _ _ _ _ _ _ _ _ h1
  obtain ⟨b, hb, e2⟩ := O_int u2 _ _ _ _ _ _ _ _ _ h2
  match cs, hl with
  | [x, y], _ =>
    simp [ic] at e1 e2
    exact ⟨⟨a, b⟩, ⟨inK_u8 ha, inK_u32 hb⟩, by rw [e1, e2]; rfl⟩
/-- an argument that is a struct or an array -/
theorem open_flat {P : Program} {t : TypeId} {α : Type} {en : α → List Value} {ok : α → Prop} (hO : OpenT P t en ok) {H : Type} {enc : TypeId × Value → H} {w : World} {base : Nat} {spare : Nat → Bool} {held : Bool} {v : Value} {d : DataW H} {ps : List MemPlace}
    (hv : ∃ cs : Array Value, v = .agg cs) (h : DataW.Trod enc P w base spare held t v d ps) : ∃ a, ok a ∧ v = .agg (en a).toArray := by
  obtain ⟨cs, rfl⟩ := hv
  obtain ⟨fuel, h⟩ := h
  obtain ⟨a, ha, he⟩ := hO _ _ _ _ _ _ _ _ _ h
  refine ⟨a, ha, ?_⟩
  have : cs.toList = en a := he
  rw [← this]
theorem wide_agg {P : Program} {t : TypeId} {w : World} {r : Reach} {base : Nat} {v : Value} (hs : (∃ fs, P.underlying t = some (.struct fs)) ∨ ∃ n e, P.underlying t = some (.array n e)) (h : Value.okWide P w r base t v) : ∃ cs : Array Value, v = .agg cs := by
  unfold Value.okWide at h
  rcases hs with ⟨fs, hs⟩ | ⟨n, e, hs⟩ <;> rw [hs] at h <;> exact ⟨_, h.choose_spec.1⟩
/-- a slice that came in -/
theorem open_rows {P : Program} {t e k : TypeId} {α : Type} {en : α → List Value} {ok : α → Prop} (ht : P.underlying t = some (.slice e)) (hO : OpenT P e en ok) (hk : ∀ x, (en x).length = k) (hc : P.cellsOf e = k) {H : Type} {enc : TypeId × Value → H} {w : World} {r : Reach} {b0 base : Nat} {spare : Nat → Bool} {held : Bool} {v : Value} {d : DataW H} {ps : List MemPlace}
    (hv : Value.okWide P w r b0 t v) (h : DataW.Trod enc P w base spare held t v d ps) : ∃ a c, ∃ l : List α, v = .slice a l.length c ∧ (∀ x ∈ l, ok x) ∧ Rd w (.slice a l.length c) k (l.map en) := by
  have hv0 := hv
  obtain ⟨a, len, cap, rfl⟩ := okWide_slice ht hv
  obtain ⟨fuel, h⟩ := h
  have h' : DataW.trod enc P w base spare held fuel t [.slice a len cap] = some (d, ps) := h
  rcases Go.Deep.open_slice ht h' with ⟨hcs, _⟩ | ⟨ad, len', cap', m, n, D, Pl, hcs, hb, hl, hm, hmm, hx, hall⟩
  · simp only [List.cons.injEq, Value.slice.injEq, and_true] at hcs
    obtain ⟨rfl, rfl, rfl⟩ := hcs
    exact ⟨none, 0, [], rfl, by simp, Rd.nil w k⟩
  · simp only [List.cons.injEq, Value.slice.injEq, and_true] at hcs
    obtain ⟨rfl, rfl, rfl⟩ := hcs
    have hsp : ad.spot = none := by
      simp only [Value.okWide, ht, Cell.okWide, Cell.ok] at hv0
      exact hv0.2.2.2.1
    have hle : len ≤ m := by rw [hmm]; split <;> omega
    have each : ∀ i : Fin len, ∃ x : α, ok x ∧ ∀ j, j < k → w.cell? ((ad.add (i.val * k)).add j) = (en x)[j]? := by
      intro i
      obtain ⟨cs', h1, h2⟩ := hall i.val (by omega)
      rw [hc] at h1
      obtain ⟨_, _, h3⟩ := World.cells?_some h1
      obtain ⟨x, hox, rfl⟩ := hO _ _ _ _ _ _ _ _ _ h2
      exact ⟨x, hox, h3⟩
    obtain ⟨f, hf⟩ := Classical.axiomOfChoice each
    refine ⟨some ad, cap, List.ofFn f, by rw [List.length_ofFn], fun x hx => ?_, ?_⟩
    · obtain ⟨i, rfl⟩ := List.mem_ofFn.1 hx; exact (hf i).1
    · obtain ⟨b, o, sp⟩ := ad
      simp only at hsp
      subst hsp
      refine ⟨len_map hk _, by simp only [List.length_map, List.length_ofFn]; simp only [maxLen] at hm; omega, .inr ⟨b, o, cap, by rw [List.length_map]⟩, fun i j l u hi hj => ?_⟩
      have hi' := lt_of_get hi
      rw [List.length_map, List.length_ofFn] at hi'
      have e1 : l = en (f ⟨i, hi'⟩) := by
        rw [List.getElem?_map, List.getElem?_ofFn] at hi
        simp [hi'] at hi
        exact hi.symm
      subst e1
      have hjk : j < k := by have := lt_of_get hj; rw [hk] at this; exact this
      have h4 := (hf ⟨i, hi'⟩).2 j hjk
      rw [add_eq, add_eq] at h4
      show w.cell? ⟨b, o + i * k + j, none⟩ = some u
      rw [← hj]; exact h4
end Go.Vx
