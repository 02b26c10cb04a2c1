/- What the functions answer, in plain Lean. -/
import Derived.Test.YtnanhhiofnohbaaVxD
namespace Go.Vx
def dotB (d : Dot) : Bool := decide (d.rep < 16) && decide (1 ≤ d.seq) && decide (d.seq ≤ 1048576)
theorem dotB_spec {d : Dot} (h : dotB d = true) : d.rep < 16 ∧ 1 ≤ d.seq ∧ d.seq ≤ 1048576 := by
  unfold dotB at h; simp at h; exact ⟨h.1.1, h.1.2, h.2⟩
def hasB (v : Vec) (d : Dot) : Bool := dotB d && decide (d.seq ≤ vat v d.rep.toNat)
def nextV (v : Vec) (d : Dot) : Vec := if dotB d = false then vzero else if hasB v d = true then vzero else if d.seq = (vat v d.rep.toNat + 1) % 4294967296 then vset v d.rep.toNat (vat v d.rep.toNat + 1) else vzero
def nextE (v : Vec) (d : Dot) : Int := if dotB d = false then 2 else if hasB v d = true then 8 else if d.seq = (vat v d.rep.toNat + 1) % 4294967296 then 0 else 9
/-- what a vector of n replicas is like at index i -/
def okAt (v : Vec) (n : Int) (i : Nat) : Bool := !(decide (1048576 < vat v i) || decide (n ≤ (i : Int)) && decide (0 < vat v i))
def rightB (v : Vec) (n : Int) : Bool := !(decide (n < 1) || decide (16 < n)) && (List.range 16).all fun i => okAt v n i
def vle (a b : Vec) : Bool := (List.range 16).all fun i => decide (vat a i ≤ vat b i)
def vsum (v : Vec) : Int := ((List.range 16).map fun i => vat v i).sum
end Go.Vx
namespace Go.Vx
theorem okAt_false {v : Vec} {n : Int} {k : Nat} (hk : k < 16) (h : okAt v n k = false) : (List.range 16).all (fun i => okAt v n i) = false := by
  rw [List.all_eq_false]
  exact ⟨k, by simpa using hk, by simp [h]⟩
theorem okAt_all {v : Vec} {n : Int} (h : ∀ j : Nat, j < 16 → okAt v n j = true) : (List.range 16).all (fun i => okAt v n i) = true := by
  rw [List.all_eq_true]
  intro i hi
  exact h i (by simpa using hi)
theorem rightB_no {v : Vec} {n : Int} {k : Nat} (hk : k < 16) (h : okAt v n k = false) : rightB v n = false := by
  unfold rightB; rw [okAt_false hk h]; simp
theorem rightB_out {v : Vec} {n : Int} (h : (decide (n < 1) || decide (16 < n)) = true) : rightB v n = false := by
  unfold rightB; rw [h]; rfl
theorem rightB_yes {v : Vec} {n : Int} (h : ∀ j : Nat, j < 16 → okAt v n j = true) : rightB v n = (decide (1 ≤ n) && decide (n ≤ 16)) := by
  unfold rightB; rw [okAt_all h]
  by_cases h1 : n < 1 <;> by_cases h2 : 16 < n <;> simp [h1, h2] <;> omega
theorem okAt_yes {v : Vec} {n : Int} {k : Nat} (h1 : ¬ 1048576 < vat v (k : Int).toNat) (h2 : (decide (n ≤ (k : Int)) && decide (0 < vat v (k : Int).toNat)) = false) : okAt v n k = true := by
  unfold okAt; rw [Int.toNat_natCast] at h1 h2; rw [h2]; simp; omega
theorem okAt_no {v : Vec} {n : Int} {k : Nat} (h : (decide (1048576 < vat v (k : Int).toNat) || decide (n ≤ (k : Int)) && decide (0 < vat v (k : Int).toNat)) = true) : okAt v n k = false := by
  unfold okAt; rw [Int.toNat_natCast] at h; rw [h]; rfl
theorem ne0 {v : Vec} {k : Nat} (hv : VecOk v) : (!decide (vat v (k : Int).toNat = 0)) = decide (0 < vat v (k : Int).toNat) := by
  have := vat_ok hv (k : Int).toNat
  by_cases e : vat v (k : Int).toNat = 0
  · rw [e]; rfl
  · have h : 0 < vat v (k : Int).toNat := by omega
    rw [decide_eq_false e, decide_eq_true h]; rfl
theorem okAt_yes' {v : Vec} {n : Int} {k : Nat} (hv : VecOk v) (h1 : ¬ 1048576 < vat v (k : Int).toNat) (h2 : (decide (n ≤ (k : Int)) && !decide (vat v (k : Int).toNat = 0)) = false) : okAt v n k = true := by
  rw [ne0 hv] at h2; exact okAt_yes h1 h2
theorem okAt_no' {v : Vec} {n : Int} {k : Nat} (hv : VecOk v) (h : (decide (1048576 < vat v (k : Int).toNat) || decide (n ≤ (k : Int)) && !decide (vat v (k : Int).toNat = 0)) = true) : okAt v n k = false := by
  rw [ne0 hv] at h; exact okAt_no h
theorem okAt_step {v : Vec} {n : Int} {k : Nat} (h : ∀ j : Nat, j < k → okAt v n j = true) (hk : okAt v n k = true) : ∀ j : Nat, j < k + 1 → okAt v n j = true := by
  intro j hj
  by_cases e : j = k
  · subst e; exact hk
  · exact h j (by omega)
theorem vle_no {a b : Vec} {k : Nat} (hk : k < 16) (h : vat b k < vat a k) : vle a b = false := by
  unfold vle; rw [List.all_eq_false]; exact ⟨k, by simpa using hk, by simp; omega⟩
theorem vle_yes {a b : Vec} (h : ∀ j : Nat, j < 16 → vat a j ≤ vat b j) : vle a b = true := by
  unfold vle; rw [List.all_eq_true]; intro i hi; simpa using h i (by simpa using hi)
end Go.Vx
