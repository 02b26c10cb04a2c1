/- A part of a proof: what functions of the program compute, and plain facts on that. -/
import Derived.Test.YtbkdlibbcepppaaGreatDoorShipNobodyP6
import Derived.OpenShut
import Derived.ChangeArms
import Derived.ProofKit
import Derived.Deep.Slices
set_option linter.unusedVariables false
set_option linter.unusedSectionVars false
set_option linter.unusedSimpArgs false
namespace Go.Vx
def dotB (d : Dot) : Bool := decide (d.rep < 16) && decide (1 ≤ d.seq) && decide (d.seq ≤ 1048576)
theorem dotB_spec {d : Dot} (h : dotB d = true) : d.rep < 16 ∧ 1 ≤ d.seq ∧ d.seq ≤ 1048576 := by
  unfold dotB at h; simp at h; exact ⟨h.1.1, h.1.2, h.2⟩
def hasB (v : Vec) (d : Dot) : Bool := dotB d && decide (d.seq ≤ vat v d.rep.toNat)
def nextV (v : Vec) (d : Dot) : Vec := if dotB d = false then vzero else if hasB v d = true then vzero else if d.seq = (vat v d.rep.toNat + 1) % 4294967296 then vset v d.rep.toNat (vat v d.rep.toNat + 1) else vzero
def nextE (v : Vec) (d : Dot) : Int := if dotB d = false then 2 else if hasB v d = true then 8 else if d.seq = (vat v d.rep.toNat + 1) % 4294967296 then 0 else 9
end Go.Vx
namespace Go.Vx
def Dots (l : List Dot) : Prop := ∀ d ∈ l, DotOk d ∧ dotB d = true
def VOk (v : Vec) : Prop := ∀ j, 0 ≤ v j ∧ v j ≤ 1048576
theorem VOk.ok {v : Vec} (h : VOk v) : VecOk v := fun j => by have := h j; omega
theorem VOk.at {v : Vec} (h : VOk v) (j : Nat) : 0 ≤ vat v j ∧ vat v j ≤ 1048576 := by
  unfold vat; split
  · exact h _
  · omega
theorem VOk.set {v : Vec} (h : VOk v) (i : Nat) {x : Int} (h0 : 0 ≤ x) (h1 : x ≤ 1048576) : VOk (vset v i x) := by
  intro j; unfold vset; split
  · exact ⟨h0, h1⟩
  · exact h j
end Go.Vx
namespace Go.Vx
structure GOk (g : Grp) : Prop where
  v : VOk g.v
  l : Dots (g.l.map (·.1))
  nd : (g.l.map (·.1)).Nodup
end Go.Vx
namespace Go.Vx
theorem nextE_0 {v : Vec} {d : Dot} (h2 : ¬ nextE v d = 2) (h8 : ¬ nextE v d = 8) (h9 : ¬ nextE v d = 9) : dotB d = true ∧ hasB v d = false ∧ d.seq = (vat v d.rep.toNat + 1) % 4294967296 := by
  unfold nextE at h2 h8 h9
  split at h2
  · exact absurd rfl h2
  · rename_i h1
    rw [if_neg h1] at h8 h9
    split at h8
    · exact absurd rfl h8
    · rename_i h3
      rw [if_neg h3] at h9
      split at h9
      · rename_i h4; exact ⟨by simpa using h1, by simpa using h3, h4⟩
      · exact absurd rfl h9
theorem next_ok {g : Grp} {d : Dot} (hg : GOk g) (h2 : ¬ nextE g.v d = 2) (h8 : ¬ nextE g.v d = 8) (h9 : ¬ nextE g.v d = 9) : GOk ⟨nextV g.v d, g.l⟩ := by
  obtain ⟨h1, h3, h4⟩ := nextE_0 h2 h8 h9
  have h5 := dotB_spec h1
  have h6 := hg.v.at d.rep.toNat
  refine ⟨?_, hg.l, hg.nd⟩
  show VOk (nextV g.v d)
  unfold nextV
  rw [if_neg (by simp [h1]), if_neg (by simp [h3]), if_pos h4]
  exact hg.v.set _ (by omega) (by omega)
end Go.Vx
namespace Go.Vx
open Go.RowKit Go.ChangeShapes Go.WideShapes Go.ChangeAt
def OpenT (P : Program) (t : TypeId) {α : Type} (en : α → List Value) (ok : α → Prop) : Prop :=
  ∀ (H : Type) (enc : TypeId × Value → H) (w : World) (base : Nat) (spare : Nat → Bool) (held : Bool) (fuel : Nat) (cs : List Value) (x : DataW H × List MemPlace), DataW.trod enc P w base spare held fuel t cs = some x → ∃ a, ok a ∧ cs = en a
def inK (k : IntKind) (a : Int) : Prop := (Lit.int k a).wf = true
theorem O_int {P : Program} {t : TypeId} {k : IntKind} (ht : P.underlying t = some (.int k)) : OpenT P t (ic k) (inK k) := by
  intro H enc w base spare held fuel cs x h
  obtain ⟨n, h1, _, h2⟩ := DataW.trod_int ht h
  exact ⟨n, h2, h1⟩
theorem open_rows {P : Program} {t e k : TypeId} {α : Type} {en : α → List Value} {ok : α → Prop} (ht : P.underlying t = some (.slice e)) (hO : OpenT P e en ok) (hk : ∀ x, (en x).length = k) (hc : P.cellsOf e = k) {H : Type} {enc : TypeId × Value → H} {w : World} {r : Reach} {b0 base : Nat} {spare : Nat → Bool} {held : Bool} {v : Value} {d : DataW H} {ps : List MemPlace}
    (hv : Value.okWide P w r b0 t v) (h : DataW.Trod enc P w base spare held t v d ps) : ∃ a c, ∃ l : List α, v = .slice a l.length c ∧ (∀ x ∈ l, ok x) ∧ Rd w (.slice a l.length c) k (l.map en) := by
  have hv0 := hv
  obtain ⟨a, len, cap, rfl⟩ := okWide_slice ht hv
  obtain ⟨fuel, h⟩ := h
  have h' : DataW.trod enc P w base spare held fuel t [.slice a len cap] = some (d, ps) := h
  rcases Go.Deep.open_slice ht h' with ⟨hcs, _⟩ | ⟨ad, len', cap', m, n, D, Pl, hcs, hb, hl, hm, hmm, hx, hall⟩
  · simp only [List.cons.injEq, Value.slice.injEq, and_true] at hcs
    obtain ⟨rfl, rfl, rfl⟩ := hcs
    exact ⟨none, 0, [], rfl, by simp, Rd.nil w k⟩
  · simp only [List.cons.injEq, Value.slice.injEq, and_true] at hcs
    obtain ⟨rfl, rfl, rfl⟩ := hcs
    have hrm : len ≤ cap := by
      have hv1 := hv0
      simp only [Value.okWide, ht, Cell.okWide, Cell.ok] at hv1
      exact hv1.1
    have hsp : ad.spot = none := by
      simp only [Value.okWide, ht, Cell.okWide, Cell.ok] at hv0
      exact hv0.2.2.2.1
    have hle : len ≤ m := by rw [hmm]; split <;> omega
    have each : ∀ i : Fin len, ∃ x : α, ok x ∧ ∀ j, j < k → w.cell? ((ad.add (i.val * k)).add j) = (en x)[j]? := by
      intro i
      obtain ⟨cs', h1, h2⟩ := hall i.val (by omega)
      rw [hc] at h1
      obtain ⟨_, _, h3⟩ := World.cells?_some h1
      obtain ⟨x, hox, rfl⟩ := hO _ _ _ _ _ _ _ _ _ h2
      exact ⟨x, hox, h3⟩
    obtain ⟨f, hf⟩ := Classical.axiomOfChoice each
    refine ⟨some ad, cap, List.ofFn f, by rw [List.length_ofFn], fun x hx => ?_, ?_⟩
    · obtain ⟨i, rfl⟩ := List.mem_ofFn.1 hx; exact (hf i).1
    · obtain ⟨b, o, sp⟩ := ad
      simp only at hsp
      subst hsp
      refine ⟨len_map hk _, by simp only [List.length_map, List.length_ofFn]; simp only [maxLen] at hm; omega, .inr ⟨b, o, cap, by rw [List.length_map]⟩, fun i j l u hi hj => ?_, by rw [List.length_map, List.length_ofFn]; exact hrm⟩
      have hi' := lt_of_get hi
      rw [List.length_map, List.length_ofFn] at hi'
      have e1 : l = en (f ⟨i, hi'⟩) := by
        rw [List.getElem?_map, List.getElem?_ofFn] at hi
        simp [hi'] at hi
        exact hi.symm
      subst e1
      have hjk : j < k := by have := lt_of_get hj; rw [hk] at this; exact this
      have h4 := (hf ⟨i, hi'⟩).2 j hjk
      rw [add_eq, add_eq] at h4
      show w.cell? ⟨b, o + i * k + j, none⟩ = some u
      rw [← hj]; exact h4
end Go.Vx
