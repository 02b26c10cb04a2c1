/- A part of a proof: what functions of the program compute, and plain facts on that. -/
import Derived.Test.YthejeobcehpdcaaGreatDoorScriptNobodyP26
import Derived.OpenShut
import Derived.ChangeArms
import Derived.ProofKit
import Derived.Deep.Slices
set_option linter.unusedVariables false
set_option linter.unusedSectionVars false
set_option linter.unusedSimpArgs false
namespace Go.Vx
def dotB (d : Dot) : Bool := decide (d.rep < 16) && decide (1 ≤ d.seq) && decide (d.seq ≤ 1048576)
theorem dotB_spec {d : Dot} (h : dotB d = true) : d.rep < 16 ∧ 1 ≤ d.seq ∧ d.seq ≤ 1048576 := by
  unfold dotB at h; simp at h; exact ⟨h.1.1, h.1.2, h.2⟩
def hasB (v : Vec) (d : Dot) : Bool := dotB d && decide (d.seq ≤ vat v d.rep.toNat)
def nextV (v : Vec) (d : Dot) : Vec := if dotB d = false then vzero else if hasB v d = true then vzero else if d.seq = (vat v d.rep.toNat + 1) % 4294967296 then vset v d.rep.toNat (vat v d.rep.toNat + 1) else vzero
def nextE (v : Vec) (d : Dot) : Int := if dotB d = false then 2 else if hasB v d = true then 8 else if d.seq = (vat v d.rep.toNat + 1) % 4294967296 then 0 else 9
end Go.Vx
namespace Go.Vx
def Dots (l : List Dot) : Prop := ∀ d ∈ l, DotOk d ∧ dotB d = true
def VOk (v : Vec) : Prop := ∀ j, 0 ≤ v j ∧ v j ≤ 1048576
theorem VOk.ok {v : Vec} (h : VOk v) : VecOk v := fun j => by have := h j; omega
theorem VOk.at {v : Vec} (h : VOk v) (j : Nat) : 0 ≤ vat v j ∧ vat v j ≤ 1048576 := by
  unfold vat; split
  · exact h _
  · omega
theorem VOk.set {v : Vec} (h : VOk v) (i : Nat) {x : Int} (h0 : 0 ≤ x) (h1 : x ≤ 1048576) : VOk (vset v i x) := by
  intro j; unfold vset; split
  · exact ⟨h0, h1⟩
  · exact h j
end Go.Vx
namespace Go.Vx
structure GOk (g : Grp) : Prop where
  v : VOk g.v
  l : Dots (g.l.map (·.1))
  nd : (g.l.map (·.1)).Nodup
end Go.Vx
namespace Go.Vx
theorem nextE_0 {v : Vec} {d : Dot} (h2 : ¬ nextE v d = 2) (h8 : ¬ nextE v d = 8) (h9 : ¬ nextE v d = 9) : dotB d = true ∧ hasB v d = false ∧ d.seq = (vat v d.rep.toNat + 1) % 4294967296 := by
  unfold nextE at h2 h8 h9
  split at h2
  · exact absurd rfl h2
  · rename_i h1
    rw [if_neg h1] at h8 h9
    split at h8
    · exact absurd rfl h8
    · rename_i h3
      rw [if_neg h3] at h9
      split at h9
      · rename_i h4; exact ⟨by simpa using h1, by simpa using h3, h4⟩
      · exact absurd rfl h9
theorem next_ok {g : Grp} {d : Dot} (hg : GOk g) (h2 : ¬ nextE g.v d = 2) (h8 : ¬ nextE g.v d = 8) (h9 : ¬ nextE g.v d = 9) : GOk ⟨nextV g.v d, g.l⟩ := by
  obtain ⟨h1, h3, h4⟩ := nextE_0 h2 h8 h9
  have h5 := dotB_spec h1
  have h6 := hg.v.at d.rep.toNat
  refine ⟨?_, hg.l, hg.nd⟩
  show VOk (nextV g.v d)
  unfold nextV
  rw [if_neg (by simp [h1]), if_neg (by simp [h3]), if_pos h4]
  exact hg.v.set _ (by omega) (by omega)
end Go.Vx
