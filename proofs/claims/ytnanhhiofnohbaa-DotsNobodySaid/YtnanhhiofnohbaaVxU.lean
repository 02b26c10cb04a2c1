/- What the laws on sets of dots ask, in plain Lean. -/
import Derived.Test.YtnanhhiofnohbaaVxT
namespace Go.Vx
section
variable {g : Grp} {v : Vec} {l : List Dot} {d : Dot}
theorem RelD.add_yes (h : RelD g v l) (hd : DotOk d) (he : gAddE g d = 0) : RelD (gAddG g d) v (l ++ [d]) := by
  have := h.add hd
  unfold addL at this
  rw [if_pos (by rw [← h.addE hd]; exact he)] at this
  exact this
theorem RelD.add_no (h : RelD g v l) (hd : DotOk d) (he : ¬ gAddE g d = 0) : RelD (gAddG g d) v l := by
  have := h.add hd
  unfold addL at this
  rw [if_neg (by rw [← h.addE hd]; exact he)] at this
  exact this
theorem addL_len : (addL v l d).length ≤ l.length + 1 := by unfold addL; split <;> simp
theorem loose_dot (h : GInv g) (hd : d ∈ looseL g) : DotOk d ∧ hasB g.v d = false ∧ gHas g d = true ∧ gHas g ⟨d.rep, vat g.v d.rep.toNat + 1⟩ = false ∧ (0 ≤ d.rep ∧ d.rep < 16) ∧ vat g.v d.rep.toNat < d.seq := by
  have h0 := loose_far h d hd
  have h1 := looseL_mem.1 hd
  have h2 := h.ok.l d h1
  refine ⟨h2.1, ?_, ?_, ?_, h0⟩
  · unfold hasB; rw [show decide (d.seq ≤ vat g.v d.rep.toNat) = false from decide_eq_false (by omega), Bool.and_false]
  · unfold gHas; rw [mget_iff, decide_eq_true h1]; rfl
  · unfold gHas
    rw [Bool.or_eq_false_iff, mget_iff]
    refine ⟨decide_eq_false fun hk => ?_, ?_⟩
    · have := h.far _ hk
      dsimp only at this
      omega
    · unfold hasB
      have : decide ((⟨d.rep, vat g.v d.rep.toNat + 1⟩ : Dot).seq ≤ vat g.v (⟨d.rep, vat g.v d.rep.toNat + 1⟩ : Dot).rep.toNat) = false := decide_eq_false (by dsimp only; omega)
      rw [this, Bool.and_false]
theorem miss_dot (h : GInv g) (hd : d ∈ missL g) : DotOk d ∧ gHas g d = false ∧ hasB g.v d = false ∧ (looseL g).any (fun y => decide (y.rep = d.rep) && decide (d.seq < y.seq)) = true := by
  obtain ⟨h1, h2, y, h3, h4, h5⟩ := (missL_mem h d).1 hd
  obtain ⟨hy, _⟩ := loose_dot h h3
  have hv := h.ok.v.at d.rep.toNat
  have hb : hasB g.v d = false := by unfold hasB; rw [show decide (d.seq ≤ vat g.v d.rep.toNat) = false from decide_eq_false (by omega), Bool.and_false]
  refine ⟨⟨h4 ▸ hy.1, by have := hy.2; omega⟩, ?_, hb, ?_⟩
  · unfold gHas; rw [hb, Bool.or_false, mget_iff]; exact decide_eq_false fun hk => h2 (looseL_mem.2 hk)
  · rw [List.any_eq_true]; exact ⟨y, h3, by simp [h4, h5]⟩
theorem parts_has (g : Grp) (d : Dot) : gHas g d = (hasB g.v d || (looseL g).any fun x => decide (x = d)) := by
  unfold gHas
  rw [mget_iff, Bool.or_comm]
  congr 1
  have : (∃ x ∈ looseL g, decide (x = d) = true) ↔ d ∈ g.l.map (·.1) := by
    constructor
    · rintro ⟨x, hx, h⟩; exact of_decide_eq_true h ▸ looseL_mem.1 hx
    · intro h; exact ⟨d, looseL_mem.2 h, decide_eq_true rfl⟩
  rw [← List.any_eq_true] at this
  by_cases hk : d ∈ g.l.map (·.1)
  · rw [decide_eq_true hk, this.2 hk]
  · rw [decide_eq_false hk]
    cases h : (looseL g).any fun x => decide (x = d) with
    | false => rfl
    | true => exact absurd (this.1 h) hk
end
section
variable {α : Type} [Inhabited α]
omit [Inhabited α] in
theorem any_start (p0 : Bool) (l : List α) (p : α → Bool) : p0 = (p0 || (l.take 0).any p) := by simp
theorem take_gd {l : List α} {k : Nat} (h : k < l.length) : l.take (k + 1) = l.take k ++ [gd l k] := by
  rw [List.take_add_one, List.getElem?_eq_getElem h]; simp [gd, h]
theorem any_next {p0 b : Bool} {l : List α} {p : α → Bool} {k : Nat} (h : k < l.length) (hb : b = (p0 || (l.take k).any p)) : (b || p (gd l k)) = (p0 || (l.take (k + 1)).any p) := by
  rw [take_gd h, List.any_append, hb, Bool.or_assoc]; simp
omit [Inhabited α] in
theorem any_end {p0 b : Bool} {l : List α} {p : α → Bool} {k : Nat} (h : ¬ k < l.length) (hb : b = (p0 || (l.take k).any p)) : b = (p0 || l.any p) := by
  rw [hb, List.take_of_length_le (by omega)]
end
theorem tmod_nat {a n : Nat} : (a : Int).tmod (n : Int) = ((a % n : Nat) : Int) := rfl
theorem rot_tmod {i at' : Int} {k n : Nat} (h0 : 0 ≤ at') (hi : i = (k : Int) + at') : i.tmod (n : Int) = (((k + at'.toNat) % n : Nat) : Int) := by
  subst hi
  have : (k : Int) + at' = ((k + at'.toNat : Nat) : Int) := by omega
  rw [this]; rfl
def rotL (t : List Dot) (r : Nat) (k : Nat) : List Dot := (List.range k).map fun j => gd t ((j + r) % t.length)
theorem rotL_next (t : List Dot) (r k : Nat) : rotL t r (k + 1) = rotL t r k ++ [gd t ((k + r) % t.length)] := by
  unfold rotL; rw [List.range_succ, List.map_append]; rfl
theorem rotL_mem (t : List Dot) (r : Nat) (x : Dot) : x ∈ t ↔ x ∈ rotL t r t.length := by
  unfold rotL
  rw [List.mem_map]
  constructor
  · intro h
    obtain ⟨j, hj, rfl⟩ := List.mem_iff_getElem.1 h
    have hr := Nat.mod_lt r (show 0 < t.length by omega)
    refine ⟨(j + t.length - r % t.length) % t.length, List.mem_range.2 (Nat.mod_lt _ (by omega)), ?_⟩
    have e : ((j + t.length - r % t.length) % t.length + r) % t.length = j := by
      rw [Nat.mod_add_mod]
      have h1 : j + t.length - r % t.length + r = j + t.length + t.length * (r / t.length) := by
        have := Nat.div_add_mod r t.length; omega
      rw [h1, Nat.add_mul_mod_self_left, Nat.add_mod_right, Nat.mod_eq_of_lt hj]
    rw [e]; simp [gd, hj]
  · rintro ⟨j, hj, rfl⟩
    rw [List.mem_range] at hj
    exact gd_mem (Nat.mod_lt _ (by omega))
theorem RelD.rot {g1 g2 : Grp} {v : Vec} {t : List Dot} {r k : Nat} (h1 : RelD g1 v t) (h2 : RelD g2 v (rotL t r k)) (hk : k = t.length) : g1.v = g2.v ∧ looseL g1 = looseL g2 ∧ missL g1 = missL g2 := by
  subst hk; exact h1.same h2 (rotL_mem t r)
/-- a cell of a struct in a tuple -/
def tupS (v : Value) (i k : Nat) : Value :=
  match v with
  | .tuple vs => match vs.getD i undef with
    | .agg cs => cs.getD k undef
    | _ => undef
  | _ => undef
open Go.RowKit in
/-- a call that answers a value that is known otherwise -/
theorem L_callPV {P : Program} {ty : TypeId} {e : Operand → Value} {w : World} {K : Value → World → Prop} {w0 : World} {M : Nat → Prop} {L : List Res} {f : FuncId} {xs : List Operand} {vs : List Value} {ats : Array TypeId} {V V' : Value} (hV : V = V') (hf : En P f) (hef : e (.func f) = .func (.func f) #[] #[]) (hv : xs.map e = vs)
    (hc : Calls P f vs.toArray w fun r w' => r = .returned V ∧ Own w no w' []) (hs : Own w0 M w L) (h : ∀ w', Own w0 M w' L → K V' w') :
    opW P (.call { callee := .value (.func f), args := xs.toArray, argTypes := ats }) ty e w K := by
  subst hV; exact L_callP hf hef hv hc hs h
/-- pointers in rows -/
def po (a : Option Addr) : List Value := [.pointer a]
theorem po_one (a : Option Addr) : ∀ v ∈ po a, v.oneCell' = true := by intro v hv; simp [po] at hv; subst hv; rfl
/-- behind what one was lent -/
theorem Own.wk {w w' : World} {S : Nat → Prop} {L : List Res} (h : Own w no w' L) : Own w S w' L := by
  obtain ⟨a, b, c, d, e, S', f, g, i, j⟩ := h
  exact ⟨a, b, c, d, fun b hb _ => e b hb (fun h => h), S', f, g, i, fun k b h hb => (j k b h hb).elim⟩
end Go.Vx
