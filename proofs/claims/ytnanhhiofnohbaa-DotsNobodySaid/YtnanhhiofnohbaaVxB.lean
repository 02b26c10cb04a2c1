/- Memory of a call's own as a list of resources apart from one another, and the operations over it. -/
import Derived.Test.YtnanhhiofnohbaaVxA
import Derived.Laws.StructEq
namespace Go.Vx
open Go.RowKit

/-! ## resources -/
structure Res where
  holds : World → (Nat → Prop) → Prop
  loc : ∀ w w' S, (∀ b, S b → w'.heap[b]? = w.heap[b]?) → holds w S → holds w' S
def emp : Res := ⟨fun _ _ => True, fun _ _ _ _ _ => trivial⟩
/-- block 'b' holds these cells -/
def blk (b : Nat) (cs : List Value) (T : TypeId) : Res :=
  ⟨fun w S => S b ∧ w.heap[b]? = some (.cells cs.toArray T (0, 0)), fun _ _ _ h ⟨h1, h2⟩ => ⟨h1, (h _ h1).trans h2⟩⟩
/-- block 'b' is this object -/
def obj (b : Nat) (o : Obj) : Res :=
  ⟨fun w S => S b ∧ w.heap[b]? = some o, fun _ _ _ h ⟨h1, h2⟩ => ⟨h1, (h _ h1).trans h2⟩⟩
/-- a fact that hangs on the blocks of a set alone -/
structure Own (w0 : World) (M : Nat → Prop) (w : World) (L : List Res) : Prop where
  os : w.os = w0.os
  tape : w.tape = w0.tape ∧ w0.drawn ≤ w.drawn
  output : w.output = w0.output
  size : w0.heap.size ≤ w.heap.size
  old : ∀ b, b < w0.heap.size → ¬ M b → w.heap[b]? = w0.heap[b]?
  res : ∃ S : Nat → Nat → Prop, (∀ k (R : Res), L[k]? = some R → R.holds w (S k)) ∧ (∀ k b, S k b → b < w.heap.size) ∧ (∀ k k' b, S k b → S k' b → k = k') ∧ (∀ k b, S k b → b < w0.heap.size → M b)

abbrev no : Nat → Prop := fun _ => False

namespace Own
variable {w0 w w' : World} {M : Nat → Prop} {L : List Res}

theorem start (w : World) : Own w no w [] := ⟨rfl, ⟨rfl, Nat.le_refl _⟩, rfl, Nat.le_refl _, fun _ _ _ => rfl, fun _ _ => False, by simp, fun _ _ h => h.elim, fun _ _ _ h => h.elim, fun _ _ h => h.elim⟩
theorem start1 {R : Res} {S : Nat → Prop} (h : R.holds w S) (hS : ∀ b, S b → b < w.heap.size) : Own w S w [R] :=
  ⟨rfl, ⟨rfl, Nat.le_refl _⟩, rfl, Nat.le_refl _, fun _ _ _ => rfl, fun k b => k = 0 ∧ S b,
    fun k R' hk => by
      cases k with
      | zero => simp at hk; subst hk; exact R.loc w w _ (fun _ _ => rfl) (by simpa using h)
      | succ k => simp at hk,
    fun _ b h => hS b h.2, fun k k' b h h' => h.1.trans h'.1.symm, fun _ b h _ => h.2⟩
theorem below (h : Own w0 no w L) : Below w0.heap.size w0 w := ⟨h.os, h.tape.1, h.output, h.size, fun k hk => h.old k hk (fun h => h)⟩
theorem drew (h : Own w0 M w L) : Own w0 M w.drew L := by
  obtain ⟨a, b, c, d, e, S, f, g, i, j⟩ := h
  exact ⟨a, ⟨b.1, Nat.le_succ_of_le b.2⟩, c, d, e, S, fun k R hk => R.loc w _ _ (fun _ _ => rfl) (f k R hk), g, i, j⟩
theorem get (h : Own w0 M w L) (i : Nat) {R : Res} (hi : L[i]? = some R) : ∃ S, R.holds w S ∧ (∀ b, S b → b < w.heap.size) ∧ (∀ b, S b → b < w0.heap.size → M b) := by
  obtain ⟨a, b, c, d, e, S, f, g, i', j⟩ := h
  exact ⟨S i, f i R hi, g i, j i⟩
theorem get_blk (h : Own w0 M w L) (i : Nat) {b : Nat} {cs : List Value} {T : TypeId} (hi : L[i]? = some (blk b cs T)) : w.heap[b]? = some (.cells cs.toArray T (0, 0)) := by
  obtain ⟨S, ⟨_, h⟩, _⟩ := h.get i hi
  exact h
theorem get_obj (h : Own w0 M w L) (i : Nat) {b : Nat} {o : Obj} (hi : L[i]? = some (obj b o)) : w.heap[b]? = some o := by
  obtain ⟨S, ⟨_, h⟩, _⟩ := h.get i hi
  exact h
/-- a new block -/
theorem new (h : Own w0 M w L) (o : Obj) (R : Res) (hR : R.holds (w.alloc o) (fun b => b = w.heap.size)) : Own w0 M (w.alloc o) (L ++ [R]) := by
  obtain ⟨a, b, c, d, e, S, f, g, i, j⟩ := h
  refine ⟨a, b, c, by simp; omega, fun k hk hm => by rw [Below.heap_alloc w o k (by omega)]; exact e k hk hm,
    fun k b => (k < L.length ∧ S k b) ∨ (k = L.length ∧ b = w.heap.size), ?_, ?_, ?_, ?_⟩
  · intro k R' hk
    rw [List.getElem?_append] at hk
    by_cases hl : k < L.length
    · rw [if_pos hl] at hk
      have e1 : (fun b => (k < L.length ∧ S k b) ∨ (k = L.length ∧ b = w.heap.size)) = S k := by
        funext b
        apply propext
        constructor
        · rintro (⟨_, h⟩ | ⟨h, _⟩)
          · exact h
          · omega
        · exact fun h => .inl ⟨hl, h⟩
      show R'.holds (w.alloc o) (fun b => (k < L.length ∧ S k b) ∨ (k = L.length ∧ b = w.heap.size))
      rw [e1]
      exact R'.loc w _ _ (fun b hb => Below.heap_alloc w o b (g k b hb)) (f k R' hk)
    · rw [if_neg hl] at hk
      have hkl : k = L.length := by
        rcases Nat.lt_or_ge (k - L.length) 1 with h | h
        · omega
        · rw [List.getElem?_eq_none (by simpa using h)] at hk; cases hk
      subst hkl
      simp at hk
      subst hk
      have e1 : (fun b => (L.length < L.length ∧ S L.length b) ∨ (L.length = L.length ∧ b = w.heap.size)) = fun b => b = w.heap.size := by
        funext b; simp
      show R.holds (w.alloc o) (fun b => (L.length < L.length ∧ S L.length b) ∨ (L.length = L.length ∧ b = w.heap.size))
      rw [e1]; exact hR
  · rintro k b (⟨_, h⟩ | ⟨_, h⟩)
    · have := g k b h; simp; omega
    · simp; omega
  · rintro k k' b (⟨h1, h2⟩ | ⟨h1, h2⟩) (⟨h3, h4⟩ | ⟨h3, h4⟩)
    · exact i k k' b h2 h4
    · have := g k b h2; omega
    · have := g k' b h4; omega
    · omega
  · rintro k b (⟨_, h⟩ | ⟨_, h⟩) hb
    · exact j k b h hb
    · omega
/-- a block is changed -/
theorem change (h : Own w0 M w L) (i : Nat) {b : Nat} {R R' : Res} (hi : L[i]? = some R) (hsz : w'.heap.size = w.heap.size) (hos : w'.os = w.os) (ht : w'.tape = w.tape) (ho : w'.output = w.output)
    (hne : ∀ c, c ≠ b → w'.heap[c]? = w.heap[c]?) (hR : ∀ S, R.holds w S → S b ∧ R'.holds w' S) (hd : w.drawn ≤ w'.drawn := by exact Nat.le_refl _) : Own w0 M w' (L.set i R') := by
  obtain ⟨a, b', c, d, e, S, f, g, i', j⟩ := h
  have hil : i < L.length := by
    rcases Nat.lt_or_ge i L.length with h | h
    · exact h
    · rw [List.getElem?_eq_none h] at hi; cases hi
  have hb := hR (S i) (f i R hi)
  refine ⟨hos.trans a, ⟨ht.trans b'.1, Nat.le_trans b'.2 hd⟩, ho.trans c, by omega, fun k hk hm => ?_, S, ?_, fun k c h => by rw [hsz]; exact g k c h, i', j⟩
  · by_cases hkb : k = b
    · subst hkb; exact absurd (j i k hb.1 hk) hm
    · rw [hne k hkb]; exact e k hk hm
  · intro k Q hk
    rw [List.getElem?_set] at hk
    by_cases hki : i = k
    · subst hki
      simp [hil] at hk
      subst hk
      exact hb.2
    · rw [if_neg hki] at hk
      refine Q.loc w w' _ (fun c hc => hne c ?_) (f k Q hk)
      intro e
      subst e
      exact hki (i' i k c hb.1 hc)
theorem set_blk (h : Own w0 M w L) (i : Nat) {b : Nat} {cs cs' : List Value} {T : TypeId} (hi : L[i]? = some (blk b cs T)) : Own w0 M (w.setRow b cs'.toArray) (L.set i (blk b cs' T)) := by
  refine h.change i (b := b) hi (by simp) rfl rfl rfl (fun c hc => setRow_other w b c _ hc) ?_
  rintro S ⟨h1, h2⟩
  exact ⟨h1, h1, setRow_heap w b _ _ T _ h2⟩
/-- the first n resources -/
theorem take (h : Own w0 M w L) (n : Nat) : Own w0 M w (L.take n) := by
  obtain ⟨a, b, c, d, e, S, f, g, i, j⟩ := h
  refine ⟨a, b, c, d, e, S, fun k R hk => f k R ?_, g, i, j⟩
  rw [List.getElem?_take] at hk
  split at hk
  · exact hk
  · cases hk
theorem drop1 (h : Own w0 M w L) (i : Nat) : Own w0 M w (L.set i emp) := by
  obtain ⟨a, b, c, d, e, S, f, g, i', j⟩ := h
  refine ⟨a, b, c, d, e, S, fun k R hk => ?_, g, i', j⟩
  rw [List.getElem?_set] at hk
  by_cases hki : i = k
  · subst hki
    by_cases hl : i < L.length
    · simp [hl] at hk; subst hk; trivial
    · simp [hl] at hk
  · rw [if_neg hki] at hk; exact f k R hk
/-- one resource is seen otherwise -/
theorem conv (h : Own w0 M w L) (i : Nat) {R R' : Res} (hi : L[i]? = some R) (hR : ∀ S, R.holds w S → R'.holds w S) : Own w0 M w (L.set i R') := by
  obtain ⟨a, b, c, d, e, S, f, g, i', j⟩ := h
  refine ⟨a, b, c, d, e, S, fun k Q hk => ?_, g, i', j⟩
  rw [List.getElem?_set] at hk
  by_cases hki : i = k
  · subst hki
    by_cases hl : i < L.length
    · simp [hl] at hk; subst hk; exact hR _ (f i R hi)
    · simp [hl] at hk
  · rw [if_neg hki] at hk; exact f k Q hk
theorem more (h : Own w0 M w L) (R : Res) (hR : R.holds w (fun _ => False)) : Own w0 M w (L ++ [R]) := by
  obtain ⟨a, b, c, d, e, S, f, g, i, j⟩ := h
  refine ⟨a, b, c, d, e, fun k b => k < L.length ∧ S k b, ?_, fun k b h => g k b h.2, fun k k' b h h' => i k k' b h.2 h'.2, fun k b h => j k b h.2⟩
  intro k R' hk
  rw [List.getElem?_append] at hk
  by_cases hl : k < L.length
  · rw [if_pos hl] at hk
    have e : (fun b => k < L.length ∧ S k b) = S k := by funext b; simp [hl]
    show R'.holds w (fun b => k < L.length ∧ S k b)
    rw [e]; exact f k R' hk
  · rw [if_neg hl] at hk
    have hkl : k = L.length := by
      rcases Nat.lt_or_ge (k - L.length) 1 with h | h
      · omega
      · rw [List.getElem?_eq_none (by simpa using h)] at hk; cases hk
    subst hkl
    simp at hk
    subst hk
    have e : (fun b => L.length < L.length ∧ S L.length b) = fun _ => False := by funext b; simp
    show R.holds w (fun b => L.length < L.length ∧ S L.length b)
    rw [e]; exact hR
/-- behind a call that has changed nothing that was there -/
theorem call (h : Own w0 M w L) {Lo : List Res} (hc : Own w no w' Lo) : Own w0 M w' (L ++ Lo) := by
  obtain ⟨a, b, c, d, e, S, f, g, i, j⟩ := h
  obtain ⟨a', b', c', d', e', S', f', g', i', j'⟩ := hc
  refine ⟨a'.trans a, ⟨b'.1.trans b.1, Nat.le_trans b.2 b'.2⟩, c'.trans c, by omega, fun k hk hm => by rw [e' k (by omega) (fun h => h)]; exact e k hk hm,
    fun k b => (k < L.length ∧ S k b) ∨ (L.length ≤ k ∧ S' (k - L.length) b), ?_, ?_, ?_, ?_⟩
  · intro k R hk
    rw [List.getElem?_append] at hk
    by_cases hl : k < L.length
    · rw [if_pos hl] at hk
      have e1 : (fun b => (k < L.length ∧ S k b) ∨ (L.length ≤ k ∧ S' (k - L.length) b)) = S k := by
        funext b; simp [hl]; intro h; omega
      show R.holds w' (fun b => (k < L.length ∧ S k b) ∨ (L.length ≤ k ∧ S' (k - L.length) b))
      rw [e1]
      exact R.loc w w' _ (fun b hb => e' b (g k b hb) (fun h => h)) (f k R hk)
    · rw [if_neg hl] at hk
      have e1 : (fun b => (k < L.length ∧ S k b) ∨ (L.length ≤ k ∧ S' (k - L.length) b)) = S' (k - L.length) := by
        funext b; simp [hl]; intro h; omega
      show R.holds w' (fun b => (k < L.length ∧ S k b) ∨ (L.length ≤ k ∧ S' (k - L.length) b))
      rw [e1]
      exact f' _ R hk
  · rintro k b (⟨_, h⟩ | ⟨_, h⟩)
    · have := g k b h; omega
    · exact g' _ b h
  · have hnew : ∀ k b, S' k b → w.heap.size ≤ b := by
      intro k b h
      rcases Nat.lt_or_ge b w.heap.size with hlt | hge
      · exact (j' k b h hlt).elim
      · exact hge
    rintro k k' b (⟨h1, h2⟩ | ⟨h1, h2⟩) (⟨h3, h4⟩ | ⟨h3, h4⟩)
    · exact i k k' b h2 h4
    · have := g k b h2; have := hnew _ b h4; omega
    · have := g k' b h4; have := hnew _ b h2; omega
    · have := i' _ _ b h2 h4; omega
  · rintro k b (⟨_, h⟩ | ⟨_, h⟩) hb
    · exact j k b h hb
    · exact (j' _ b h (by omega)).elim
theorem call0 (h : Own w0 M w L) (hc : Own w no w' []) : Own w0 M w' L := by simpa using h.call hc
/-- behind a call that was handed resource i to change -/
theorem lend2 (h : Own w0 M w L) (i : Nat) {R : Res} (hi : L[i]? = some R) : ∃ S, R.holds w S ∧ (∀ b, S b → b < w.heap.size) ∧ (∀ b, S b → b < w0.heap.size → M b) ∧ ∀ w' R' Lo, Own w S w' (R' :: Lo) → Own w0 M w' (L.set i R' ++ Lo) := by
  obtain ⟨a, b, c, d, e, S, f, g, i', j⟩ := h
  have hil : i < L.length := by
    rcases Nat.lt_or_ge i L.length with h | h
    · exact h
    · rw [List.getElem?_eq_none h] at hi; cases hi
  refine ⟨S i, f i R hi, g i, j i, fun w' R' Lo hc => ?_⟩
  obtain ⟨a', b', c', d', e', S', f', g', i'', j'⟩ := hc
  refine ⟨a'.trans a, ⟨b'.1.trans b.1, Nat.le_trans b.2 b'.2⟩, c'.trans c, by omega, fun k hk hm => ?_,
    fun k b => (k < L.length ∧ k ≠ i ∧ S k b) ∨ (k = i ∧ S' 0 b) ∨ (L.length ≤ k ∧ S' (k - L.length + 1) b), ?_, ?_, ?_, ?_⟩
  · rw [e' k (by omega) (fun hs => hm (j i k hs hk))]; exact e k hk hm
  · intro k Q hk
    rw [List.getElem?_append, List.length_set] at hk
    by_cases hl : k < L.length
    · rw [if_pos hl, List.getElem?_set] at hk
      by_cases hki : i = k
      · subst hki
        simp [hil] at hk
        subst hk
        have e1 : (fun b => (i < L.length ∧ i ≠ i ∧ S i b) ∨ (i = i ∧ S' 0 b) ∨ (L.length ≤ i ∧ S' (i - L.length + 1) b)) = S' 0 := by
          funext b; simp; intro h; omega
        show R'.holds w' (fun b => (i < L.length ∧ i ≠ i ∧ S i b) ∨ (i = i ∧ S' 0 b) ∨ (L.length ≤ i ∧ S' (i - L.length + 1) b))
        rw [e1]
        exact f' 0 R' rfl
      · rw [if_neg hki] at hk
        have e1 : (fun b => (k < L.length ∧ k ≠ i ∧ S k b) ∨ (k = i ∧ S' 0 b) ∨ (L.length ≤ k ∧ S' (k - L.length + 1) b)) = S k := by
          funext b
          apply propext
          constructor
          · rintro (⟨_, _, h⟩ | ⟨h, _⟩ | ⟨h, _⟩)
            · exact h
            · exact absurd h.symm hki
            · omega
          · exact fun h => .inl ⟨hl, fun e => hki e.symm, h⟩
        show Q.holds w' (fun b => (k < L.length ∧ k ≠ i ∧ S k b) ∨ (k = i ∧ S' 0 b) ∨ (L.length ≤ k ∧ S' (k - L.length + 1) b))
        rw [e1]
        exact Q.loc w w' _ (fun b hb => e' b (g k b hb) (fun hs => hki (i' i k b hs hb))) (f k Q hk)
    · rw [if_neg hl] at hk
      have e1 : (fun b => (k < L.length ∧ k ≠ i ∧ S k b) ∨ (k = i ∧ S' 0 b) ∨ (L.length ≤ k ∧ S' (k - L.length + 1) b)) = S' (k - L.length + 1) := by
        funext b
        apply propext
        constructor
        · rintro (⟨h, _⟩ | ⟨h, _⟩ | ⟨_, h⟩)
          · omega
          · omega
          · exact h
        · exact fun h => .inr (.inr ⟨by omega, h⟩)
      show Q.holds w' (fun b => (k < L.length ∧ k ≠ i ∧ S k b) ∨ (k = i ∧ S' 0 b) ∨ (L.length ≤ k ∧ S' (k - L.length + 1) b))
      rw [e1]
      exact f' _ Q (by simpa using hk)
  · rintro k b (⟨_, _, h⟩ | ⟨_, h⟩ | ⟨_, h⟩)
    · have := g k b h; omega
    · exact g' _ b h
    · exact g' _ b h
  · have hnew : ∀ k b, S' k b → b < w.heap.size → S i b := fun k b h hb => j' k b h hb
    rintro k k' b (⟨h1, h2, h3⟩ | ⟨h1, h2⟩ | ⟨h1, h2⟩) (⟨h4, h5, h6⟩ | ⟨h4, h5⟩ | ⟨h4, h5⟩)
    · exact i' k k' b h3 h6
    · have := i' k i b h3 (hnew _ b h5 (g k b h3)); omega
    · have := i' k i b h3 (hnew _ b h5 (g k b h3)); omega
    · have := i' k' i b h6 (hnew _ b h2 (g k' b h6)); omega
    · omega
    · have := i'' _ _ b h2 h5; omega
    · have := i' k' i b h6 (hnew _ b h2 (g k' b h6)); omega
    · have := i'' _ _ b h2 h5; omega
    · have := i'' _ _ b h2 h5; omega
  · rintro k b (⟨_, _, h⟩ | ⟨_, h⟩ | ⟨_, h⟩) hb
    · exact j k b h hb
    · exact j i b (j' _ b h (by omega)) hb
    · exact j i b (j' _ b h (by omega)) hb
theorem lend (h : Own w0 M w L) (i : Nat) {R : Res} (hi : L[i]? = some R) : ∃ S, R.holds w S ∧ (∀ b, S b → b < w.heap.size) ∧ ∀ w' R' Lo, Own w S w' (R' :: Lo) → Own w0 M w' (L.set i R' ++ Lo) := by
  obtain ⟨S, h1, h2, _, h3⟩ := h.lend2 i hi
  exact ⟨S, h1, h2, h3⟩
/-- what lay below and was not lent is as it was -/
theorem cell (h : Own w0 M w L) {p : Addr} (hp : p.block < w0.heap.size) (hm : ¬ M p.block) : w.cell? p = w0.cell? p := World.cell?_of_block (h.old _ hp hm)
end Own
end Go.Vx
