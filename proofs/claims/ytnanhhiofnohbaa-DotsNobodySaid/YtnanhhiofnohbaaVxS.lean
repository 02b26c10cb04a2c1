/- slices.SortFunc, as a contract over memory of one's own. -/
import Derived.Test.YtnanhhiofnohbaaVxQ
import Derived.Shelf.SlSortCmp.WholeK
namespace Go.Vx
open Go.RowKit Go.Shelf Go.Sort Go.Proofs

theorem own_grow {w w' : World} {L : List Res} (h : Own w no w' L) : ∃ q os, w' = grow (w.drewN q) os := by
  refine ⟨w'.drawn - w.drawn, w'.heap.extract w.heap.size w'.heap.size, ?_⟩
  have hd : w.drawn + (w'.drawn - w.drawn) = w'.drawn := by have := h.tape.2; omega
  have hh : w.heap ++ w'.heap.extract w.heap.size w'.heap.size = w'.heap := by
    apply Array.ext_getElem?
    intro i
    by_cases hi : i < w.heap.size
    · rw [Array.getElem?_append_left hi, h.old i hi (fun h => h)]
    · rw [Array.getElem?_append_right (by omega)]
      have := h.size
      simp only [Array.getElem?_extract]
      split
      · congr 1; omega
      · rw [Array.getElem?_eq_none (by omega)]
  have h1 := h.os
  have h2 := h.tape.1
  have h3 := h.output
  cases w' with
  | mk heap tape drawn os output =>
    cases w with
    | mk heap0 tape0 drawn0 os0 output0 =>
      simp only at h1 h2 h3 hd hh
      subst h1; subst h2; subst h3
      simp [grow, World.drewN, hh, hd]
section
variable {P : Program} {ρ : Ren} {α : Type} [Inhabited α]
theorem flatK_at {enc : α → List Value} {k : Nat} {l : List α} (hk : ∀ x, (enc x).length = k) {j : Nat} (hj : j < l.length * k) : (l.map enc).flatten[j]? = some (flatK enc k l.toArray)[j]! := by
  have hk0 : 0 < k := by
    rcases Nat.eq_zero_or_pos k with h | h
    · subst h; simp at hj
    · exact h
  have hi : j / k < l.length := Nat.div_lt_of_lt_mul (by rw [Nat.mul_comm]; exact hj)
  have hm : j % k < k := Nat.mod_lt _ hk0
  have e1 : (l.map enc)[j / k]? = some (enc l[j / k]) := by simp [hi]
  have e2 : (enc l[j / k])[j % k]? = some (enc l[j / k])[j % k]! := by
    rw [List.getElem?_eq_getElem (by rw [hk]; exact hm), List.getElem!_eq_getElem?_getD, List.getElem?_eq_getElem (by rw [hk]; exact hm)]
    rfl
  have h := flat_at (l.map enc) k (len_map hk l) (j / k) (j % k) _ _ e1 e2
  rw [Nat.mul_comm, Nat.div_add_mod] at h
  rw [h, get_flatK enc k l.toArray j (by simpa using hj)]
  simp [hi]
/-- the row behind a sort -/
theorem own_sorted {enc : α → List Value} {k : Nat} {w : World} {S : Nat → Prop} {g cap T n : Nat} {l m : List α} {os : Array Obj} (hk : ∀ x, (enc x).length = k) (h1 : ∀ x, ∀ v ∈ enc x, v.oneCell' = true)
    (hR : (row (.slice (some ⟨g, 0, none⟩) l.length cap) (l.map enc) T k).holds w S) (hlt : ∀ b, S b → b < w.heap.size) (hlen : m.length = l.length) :
    Own w S (sortWorldK enc k w g 0 n m.toArray os) [row (.slice (some ⟨g, 0, none⟩) l.length cap) (m.map enc) T k] := by
  obtain ⟨_, hown, hS⟩ := hR
  have hSg := hS g rfl
  have hgl := hlt g hSg
  rcases hown.2 with ⟨hv, _⟩ | ⟨g', cap', cur, hv, _, hg, hnc, hcm, hcs, htake⟩
  · cases hv
  · simp only [Value.slice.injEq, Option.some.injEq, Addr.mk.injEq, and_true] at hv
    obtain ⟨rfl, hn, rfl⟩ := hv
    simp only [List.length_map] at hnc htake hn
    have hX : ∀ c, c < w.heap.size → (sortWorldK enc k w g 0 n m.toArray os).heap[c]? = (w.heap.modify g (onCells (putCells id 0 (flatK enc k m.toArray))))[c]? := by
      intro c hc
      show ((w.heap.modify g (onCells (putCells id 0 (flatK enc k m.toArray)))) ++ os)[c]? = _
      rw [Array.getElem?_append_left (by simpa using hc)]
    have hXg : (sortWorldK enc k w g 0 n m.toArray os).heap[g]? = some (.cells (putCells id 0 (flatK enc k m.toArray) cur) T (0, 0)) := by
      rw [hX g hgl, Array.getElem?_modify, if_pos rfl, hg]; rfl
    have hXo : ∀ c, c < w.heap.size → c ≠ g → (sortWorldK enc k w g 0 n m.toArray os).heap[c]? = w.heap[c]? := by
      intro c hc hne
      rw [hX c hc, Array.getElem?_modify, if_neg (fun e => hne e.symm)]
    have hsz : (sortWorldK enc k w g 0 n m.toArray os).heap.size = w.heap.size + os.size := by
      show ((w.heap.modify g (onCells (putCells id 0 (flatK enc k m.toArray)))) ++ os).size = _
      simp
    refine ⟨rfl, ⟨rfl, Nat.le_add_right _ _⟩, rfl, by omega, fun b hb hm => hXo b hb (fun e => hm (e ▸ hSg)), fun j b => j = 0 ∧ b = g, fun j R hj => ?_, fun j b hb => by rw [hb.2]; omega, fun j j' b hb hb' => hb.1.trans hb'.1.symm, fun j b hb _ => by rw [hb.2]; exact hSg⟩
    cases j with
    | succ j => simp at hj
    | zero =>
      simp only [List.getElem?_cons_zero, Option.some.injEq] at hj
      subst hj
      refine ⟨⟨len_map hk m, one_map h1 m⟩, ⟨?_, .inr ⟨g, cap, _, by rw [List.length_map, hlen], Nat.zero_le _, hXg, by rw [List.length_map]; omega, hcm, by unfold putCells; simpa using hcs, ?_⟩⟩, fun g' hg' => by cases hg'; exact ⟨rfl, rfl⟩⟩
      · rw [flat_len _ (len_map hk m)]
      · apply List.ext_getElem?
        intro j
        rw [List.getElem?_take, List.length_map]
        by_cases hj : j < m.length * k
        · have hjc : j < cur.size := by
            rw [hcs]
            exact Nat.lt_of_lt_of_le hj (Nat.mul_le_mul_right _ (by omega))
          rw [if_pos hj, flatK_at hk hj, Array.getElem?_toList]
          unfold putCells
          rw [Array.getElem?_mapIdx, Array.getElem?_eq_getElem hjc]
          simp [hj]
        · rw [if_neg hj, List.getElem?_eq_none (by rw [flat_len _ (len_map hk m), List.length_map]; omega)]
theorem sortC_of (L : SlLaysF0.n6 P ρ) {k T g : Nat} {enc : α → List Value} {cf : α → α → Int} (aE : ∀ w, (isAgg (ρ.t 24)).run P w = .ok true w) (zE : ∀ w, (Go.sizeOf (ρ.t 24)).run P w = .ok k w) (hk : ∀ x, (enc x).length = k) (h1 : ∀ x, ∀ v ∈ enc x, v.oneCell' = true)
    (hO : SWO (ltOf cf)) (hg : En P g) (hc : ∀ w x y, Calls P g #[.agg (enc x).toArray, .agg (enc y).toArray] w fun e w' => e = .returned (.int .i64 (cf x y)) ∧ Own w no w' [])
    (hnil : ∀ w, Calls P (ρ.f 6) #[.slice none 0 0, .func (.func g) #[] #[]] w fun e w' => e = .returned (.tuple #[]) ∧ w' = w) :
    SortC P (ρ.f 6) g enc T k (fun l m => m.Perm l ∧ m.Pairwise fun x y => ¬ cf y x < 0) := by
  intro w S a c l hR hlt hsz
  have hR' := hR
  obtain ⟨_, hown, hS⟩ := hR
  rcases hown.2 with ⟨hv, hn⟩ | ⟨b, cap, cur, hv, _, hb, hnc, hcm, hcs, htake⟩
  · have hl : l = [] := by simpa using hn
    subst hl
    simp only [List.length_nil, Value.slice.injEq] at hv
    obtain ⟨rfl, _, rfl⟩ := hv
    exact (hnil w).mono fun e w' ⟨he, hw⟩ => ⟨⟨[], List.Perm.refl _, List.Pairwise.nil⟩, he, by subst hw; exact Own.lent hR' hlt, trivial⟩
  · simp only [Value.slice.injEq, List.length_map] at hv
    obtain ⟨rfl, _, rfl⟩ := hv
    have hbl := hlt b (hS b rfl)
    have hH : HoldsK enc k w b 0 l.toArray := by
      intro j hj
      have hj' : j < l.length * k := by simpa using hj
      rw [Nat.zero_add]
      refine ⟨?_, frozen_of_row w b _ _ _ hb⟩
      rw [cell_of_row w b j _ _ _ hb]
      have h2 := flatK_at (l := l) hk hj'
      rw [← htake, List.getElem?_take, List.length_map, if_pos hj'] at h2
      simpa using h2
    have hcmp : CmpLays P g #[] enc k cf b 0 l.toArray.size w := fun m os dk _ x y =>
      (hc _ x y).mono fun e w' ⟨he, ho⟩ => ⟨he, own_grow ho⟩
    refine (AnyQ.slices_SortFunc L k aE zE enc hk h1 cf hO g #[] b 0 c l.toArray w hg hcmp hH hbl (by simpa using hsz)).mono ?_
    rintro e w' ⟨he, d', n, os, hp, hs, rfl⟩
    obtain ⟨hp1, _, hp2⟩ := hp
    have hsz' : d'.toList.length = l.length := by simpa using hp1
    refine ⟨⟨d'.toList, ?_, ?_⟩, he, ?_, trivial⟩
    · have e1 : d'.extract 0 l.toArray.size = d' := by rw [← hp1]; simp
      have e2 : l.toArray.extract 0 l.toArray.size = l.toArray := by simp
      rw [e1, e2] at hp2
      simpa using hp2
    · rw [List.pairwise_iff_getElem]
      intro i j hi hj hij
      have h3 := hs i j (Nat.zero_le _) hij (by rw [← hp1]; simpa using hj)
      unfold ltOf at h3
      have e1 : d'[i]! = d'.toList[i] := by simp at hi; simp [hi]
      have e2 : d'[j]! = d'.toList[j] := by simp at hj; simp [hj]
      rw [e1, e2] at h3
      simpa using h3
    · have := own_sorted (n := n) (os := os) hk h1 hR' hlt hsz'
      simpa using this
end
end Go.Vx
