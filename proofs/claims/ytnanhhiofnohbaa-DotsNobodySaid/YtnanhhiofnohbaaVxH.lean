/- Slices: rows of one's own, and rows that are read. -/
import Derived.Test.YtnanhhiofnohbaaVxF
import Derived.Test.YtnanhhiofnohbaaVxG
import Derived.Laws.OwnMore
import Derived.Great.BuildSlice
namespace Go.Vx
open Go.RowKit

def bkS : Value → Nat
  | .slice (some a) _ _ => a.block
  | _ => 0
def ofS : Value → Nat
  | .slice (some a) _ _ => a.off
  | _ => 0
/-- a slice whose elements, of k cells each, can be read -/
structure Rd (w : World) (v : Value) (k : Nat) (ls : List (List Value)) : Prop where
  len : ∀ l ∈ ls, l.length = k
  small : ls.length ≤ 9223372036854775807
  shape : (v = .slice none 0 0 ∧ ls = []) ∨ ∃ b o c, v = .slice (some ⟨b, o, none⟩) ls.length c
  cell : ∀ (i j : Nat) (l : List Value) (u : Value), ls[i]? = some l → l[j]? = some u → w.cell? ⟨bkS v, ofS v + i * k + j, none⟩ = some u

namespace Rd
variable {w w' : World} {v : Value} {k : Nat} {ls : List (List Value)} {w0 : World} {M : Nat → Prop} {L : List Res}
theorem own (h : Rd w0 v k ls) (hs : Own w0 M w L) (hm : ¬ M (bkS v)) : Rd w v k ls := by
  refine ⟨h.len, h.small, h.shape, fun i j l u hi hj => ?_⟩
  have hc := h.cell i j l u hi hj
  rw [hs.cell (p := ⟨bkS v, ofS v + i * k + j, none⟩) (World.block_lt_of_cell? _ _ hc) hm]
  exact hc
theorem own' (h : Rd w0 v k ls) (hs : Own w0 no w L) : Rd w v k ls := h.own hs (fun h => h)
theorem ptr (h : Rd w v k ls) {i : Nat} (hi : i < ls.length) : ∃ b o c, v = .slice (some ⟨b, o, none⟩) ls.length c := by
  rcases h.shape with ⟨_, rfl⟩ | h
  · simp at hi
  · exact h
theorem nil (w : World) (k : Nat) : Rd w (.slice none 0 0) k [] := ⟨by simp, by simp, .inl ⟨rfl, rfl⟩, by simp⟩
end Rd

/-- a row of one's own -/
def row (v : Value) (ls : List (List Value)) (e k : Nat) : Res :=
  ⟨fun w S => ((∀ l ∈ ls, l.length = k) ∧ (∀ l ∈ ls, ∀ u ∈ l, u.oneCell' = true)) ∧ w.ownsRow 0 e k v ls.length ls.flatten ∧ ∀ g, v.ownBlock = some g → S g, by
    rintro w w' S hw ⟨h1, ⟨h2, h3⟩, h4⟩
    refine ⟨h1, ⟨h2, ?_⟩, h4⟩
    rcases h3 with h3 | ⟨g, cap, cur, hv, hb, hg, rest⟩
    · exact .inl h3
    · refine .inr ⟨g, cap, cur, hv, hb, ?_, rest⟩
      rw [hw g (h4 g (by rw [hv]; rfl))]
      exact hg⟩
theorem row_nil (w : World) (S : Nat → Prop) (e k : Nat) : (row (.slice none 0 0) [] e k).holds w S := ⟨⟨by simp, by simp⟩, World.ownsRow_nil _ _ _ _, by simp [Value.ownBlock]⟩
theorem Rd.sml {α : Type} {enc : α → List Value} {l : List α} {w : World} {v : Value} {k : Nat} (h : Rd w v k (l.map enc)) : l.length ≤ 9223372036854775807 := by simpa using h.small
theorem flat_at : ∀ (ls : List (List Value)) (k : Nat) (_ : ∀ l ∈ ls, l.length = k) (i j : Nat) (l : List Value) (u : Value), ls[i]? = some l → l[j]? = some u → ls.flatten[i * k + j]? = some u
  | [], _, _, i, j, l, u, hi, _ => by simp at hi
  | a :: ls, k, hk, 0, j, l, u, hi, hj => by
    simp at hi; subst hi
    have hjl := lt_of_get hj
    simp only [List.flatten_cons, Nat.zero_mul, Nat.zero_add, List.getElem?_append, hjl, if_true, hj]
  | a :: ls, k, hk, i + 1, j, l, u, hi, hj => by
    simp only [List.getElem?_cons_succ] at hi
    have ha := hk a (by simp)
    rw [List.flatten_cons, List.getElem?_append_right (by rw [ha, Nat.add_mul]; omega), ha]
    rw [show (i + 1) * k + j - k = i * k + j by rw [Nat.add_mul]; omega]
    exact flat_at ls k (fun l hl => hk l (by simp [hl])) i j l u hi hj
theorem flat_inv : ∀ (ls : List (List Value)) (k : Nat) (_ : ∀ l ∈ ls, l.length = k) (j : Nat) (u : Value), ls.flatten[j]? = some u → ∃ i j' l, ls[i]? = some l ∧ l[j']? = some u ∧ j = i * k + j'
  | [], _, _, j, u, h => by simp at h
  | a :: ls, k, hk, j, u, h => by
    rw [List.flatten_cons, List.getElem?_append] at h
    have ha := hk a (by simp)
    split at h
    · exact ⟨0, j, a, by simp, h, by omega⟩
    · obtain ⟨i, j', l, h1, h2, h3⟩ := flat_inv ls k (fun l hl => hk l (by simp [hl])) _ u h
      exact ⟨i + 1, j', l, by simpa using h1, h2, by rw [Nat.add_mul]; omega⟩
theorem flat_len {k : Nat} : ∀ m : List (List Value), (∀ l ∈ m, l.length = k) → m.flatten.length = m.length * k
  | [], _ => by simp
  | a :: m, hm => by rw [List.flatten_cons, List.length_append, flat_len m (fun l hl => hm l (by simp [hl])), hm a (by simp), List.length_cons, Nat.add_mul]; omega
theorem Rd.flat {w : World} {v : Value} {k : Nat} {ls : List (List Value)} {b o c n : Nat} (hr : Rd w v k ls) (hv : v = .slice (some ⟨b, o, none⟩) n c) : ∀ j u, ls.flatten[j]? = some u → w.cell? ((⟨b, o, none⟩ : Addr).add j) = some u := by
  intro j u hj
  obtain ⟨i, j', l, h1, h2, rfl⟩ := flat_inv ls k hr.len j u hj
  have := hr.cell i j' l u h1 h2
  subst hv
  rw [add_eq]
  simpa [bkS, ofS, Nat.add_assoc] using this
theorem row_made {w : World} {xs : List Value} {rest : Array Value} {ls : List (List Value)} {e k cap : Nat} (hl1 : ∀ l ∈ ls, l.length = k) (ho1 : ∀ l ∈ ls, ∀ u ∈ l, u.oneCell' = true) (hx : xs = ls.flatten) (hc : ls.length ≤ cap) (hm : cap ≤ maxLen) (hr : rest.size = (cap - ls.length) * k) :
    (row (.slice (some ⟨w.heap.size, 0, none⟩) ls.length cap) ls e k).holds (w.alloc (.cells (xs.toArray ++ rest) e)) (fun b => b = w.heap.size) := by
  subst hx
  have hfl := flat_len ls hl1
  refine ⟨⟨hl1, ho1⟩, ⟨hfl, .inr ⟨w.heap.size, cap, _, rfl, Nat.zero_le _, _root_.Go.heap_alloc_new w _, hc, hm, ?_, ?_⟩⟩, fun g hg => by cases hg; rfl⟩
  · simp only [Array.size_append, List.size_toArray, hfl, hr, ← Nat.add_mul]
    congr 1
    omega
  · rw [Array.toList_append, ← hfl]
    exact List.take_left
theorem Rd.of_row {w : World} {S : Nat → Prop} {v : Value} {ls : List (List Value)} {e k : Nat} (h : (row v ls e k).holds w S) : Rd w v k ls := by
  obtain ⟨⟨h1, _⟩, ho, _⟩ := h
  refine ⟨h1, ?_, ?_, ?_⟩
  · rcases ho.2 with ⟨hv, hn⟩ | ⟨g, cap, cur, hv, _, _, hc, hm, _⟩
    · omega
    · simp only [maxLen] at hm; omega
  · rcases ho.2 with ⟨hv, hn⟩ | ⟨g, cap, cur, hv, _⟩
    · exact .inl ⟨hv, List.eq_nil_of_length_eq_zero hn⟩
    · exact .inr ⟨g, 0, cap, hv⟩
  · intro i j l u hi hj
    have hf := flat_at ls k h1 i j l u hi hj
    rcases ho.2 with ⟨hv, hn⟩ | ⟨g, cap, cur, hv, hr⟩
    · have := lt_of_get hi; omega
    · have := ho.cells (g := g) (by rw [hv]; rfl) _ _ hf
      rw [add_eq] at this
      subst hv
      simpa [bkS, ofS] using this
theorem Own.rd {w0 w : World} {M : Nat → Prop} {L : List Res} (hs : Own w0 M w L) (i : Nat) {v : Value} {ls : List (List Value)} {e k : Nat} (hi : L[i]? = some (row v ls e k)) : Rd w v k ls := by
  obtain ⟨S, h, _⟩ := hs.get i hi
  exact Rd.of_row h
theorem Rd.len_eq {w : World} {v : Value} {k : Nat} {ls : List (List Value)} (h : Rd w v k ls) : ∃ a c, v = .slice a ls.length c := by
  rcases h.shape with ⟨hv, rfl⟩ | ⟨b, o, c, h⟩
  · exact ⟨none, 0, by simpa using hv⟩
  · exact ⟨_, c, h⟩

section
variable {P : Program} {ty : TypeId} {e : Operand → Value} {w : World} {K : Value → World → Prop} {w0 : World} {M : Nat → Prop} {L : List Res}
theorem L_lenR {t el k n : Nat} {x : Operand} {v : Value} {ls : List (List Value)} (ht : Ud P t (.slice el)) (hr : Rd w v k ls) (hn : ls.length = n) (hx : e x = v) (h : K (.int .i64 n) w) : opW P (.call { callee := .builtin .len, args := #[x], argTypes := #[t] }) ty e w K := by
  obtain ⟨a, c, rfl⟩ := hr.len_eq
  subst hn
  exact L_lenS ht hx h
/-- the address of an element -/
theorem L_ixR {t el k : Nat} {x ix : Operand} {v : Value} {ls : List (List Value)} {j : IntKind} {i : Int} (ht : Ud P t (.slice el)) (hk : Sz P el k) (hr : Rd w v k ls) (hx : e x = v) (hi : e ix = .int j i) (h0 : 0 ≤ i) (h1 : i < ls.length)
    (h : K (.pointer (some ⟨bkS v, ofS v + i.toNat * k, none⟩)) w) : opW P (.indexAddr t x ix) ty e w K := by
  obtain ⟨b, o, c, hv⟩ := hr.ptr (i := i.toNat) (by omega)
  subst hv
  exact L_ixSl ht hk hx hi h0 h1 h
/-- a cell of an element -/
theorem L_ldR {t k j n : Nat} {x : Operand} {v : Value} {ls : List (List Value)} {l : List Value} {V : Value} (i : Nat) (ht : T1 P t) (hr : Rd w v k ls) (hi : ls[i]? = some l) (hj : l[j]? = some V) (hx : e x = .pointer (some ⟨bkS v, n, none⟩)) (hn : n = ofS v + i * k + j) (h : K V w) : opW P (.load t x) ty e w K := by
  subst hn
  exact L_ldc ht (hr.cell i j l V hi hj) hx h
/-- some cells of an element -/
theorem L_ldRA {t k j m n : Nat} {x : Operand} {v : Value} {ls : List (List Value)} {l vs : List Value} (i : Nat) (ht : TA P t m) (hr : Rd w v k ls) (hi : ls[i]? = some l) (hl : vs.length = m) (hj : (l.drop j).take m = vs) (hx : e x = .pointer (some ⟨bkS v, n, none⟩)) (hn : n = ofS v + i * k + j) (h : K (.agg vs.toArray) w) : opW P (.load t x) ty e w K := by
  subst hn
  refine L_ldcA ht hl (fun a u ha => ?_) hx h
  rw [show ofS v + i * k + j + a = ofS v + i * k + (j + a) by omega]
  refine hr.cell i (j + a) l u hi ?_
  subst hj
  rw [List.getElem?_take] at ha
  split at ha
  · simpa [List.getElem?_drop] using ha
  · cases ha
/-! ## making -/
structure El (P : Program) (t el k bytes : Nat) : Prop where
  und : P.underlying t = some (.slice el)
  el : ∃ i z, P.info? el = some i ∧ i.zero = some z ∧ i.size = k ∧ i.bytes = bytes ∧ z.cells.size = k ∧ 0 < k
theorem El.ud {t el k bytes : Nat} (h : El P t el k bytes) : Ud P t (.slice el) := fun w => run_underlying h.und w
theorem Own.replace {L : List Res} (h : Own w0 M w L) (i : Nat) {R R' : Res} {o : Obj} {w' : World} (hi : L[i]? = some R) (hw : w' = w.drew.alloc o) (hR : R'.holds w' (fun b => b = w.heap.size)) : Own w0 M w' (L.set i R') := by
  subst hw
  have h1 := (h.drew.drop1 i).new o R' hR
  obtain ⟨a, b, c, d, e, S, f, g, i', j⟩ := h1
  have hil : i < L.length := lt_of_get hi
  refine ⟨a, b, c, d, e, fun k => if k = i then S L.length else if k < L.length then S k else fun _ => False, ?_, ?_, ?_, ?_⟩
  · intro k Q hk
    rw [List.getElem?_set] at hk
    by_cases hki : i = k
    · subst hki
      simp [hil] at hk
      subst hk
      have := f L.length R' (by rw [List.getElem?_append_right (by simp)]; simp)
      simpa using this
    · rw [if_neg hki] at hk
      have hkl := lt_of_get hk
      have := f k Q (by rw [List.getElem?_append_left (by simpa using hkl), List.getElem?_set, if_neg hki]; exact hk)
      show Q.holds _ (if k = i then _ else _)
      rw [if_neg (fun e => hki e.symm), if_pos hkl]
      exact this
  · intro k b h
    split at h
    · exact g _ b h
    · split at h
      · exact g _ b h
      · exact h.elim
  · intro k k' b h h'
    split at h <;> split at h'
    · omega
    · split at h'
      · have := i' _ _ b h h'; omega
      · exact h'.elim
    · split at h
      · have := i' _ _ b h h'; omega
      · exact h.elim
    · split at h <;> split at h'
      · exact i' _ _ b h h'
      · exact h'.elim
      · exact h.elim
      · exact h.elim
  · intro k b h hb
    split at h
    · exact j _ b h hb
    · split at h
      · exact j _ b h hb
      · exact h.elim
/-- what is appended to a row of one's own -/
theorem L_app {t el k bytes : Nat} {x y : Operand} {v v2 : Value} {ls ls2 : List (List Value)} (hE : El P t el k bytes) (hs : Own w0 M w L) (i : Nat) (hi : L[i]? = some (row v ls el k)) (hx : e x = v) (hy : e y = v2) (hr : Rd w v2 k ls2)
    (h1 : ∀ l ∈ ls2, ∀ u ∈ l, u.oneCell' = true) (hb : (ls.length + ls2.length) * (bytes + 1) ≤ 140737488355328) (h : ∀ v' w', Own w0 M w' (L.set i (row v' (ls ++ ls2) el k)) → K v' w') :
    opW P (.call { callee := .builtin .append, args := #[x, y], argTypes := #[t, t] }) ty e w K := by
  obtain ⟨ht, ie, z, hie, hz, rfl, rfl, hzs, hk⟩ := hE
  have hbn : ls.length + ls2.length ≤ 140737488355328 := Nat.le_trans (Nat.le_mul_of_pos_right _ (by omega)) hb
  have hbb : (ls.length + ls2.length) * ie.bytes ≤ 140737488355328 := Nat.le_trans (Nat.mul_le_mul_left _ (by omega)) hb
  have key : ∃ v' w', (Builtin.append_ #[t, t] ty #[v, v2]).run P w = .ok v' w' ∧ Own w0 M w' (L.set i (row v' (ls ++ ls2) el ie.size)) := by
    obtain ⟨S, ⟨⟨hl1, ho1⟩, hown, hSg⟩, hSlt, hSM⟩ := hs.get i hi
    have hall : (∀ l ∈ ls ++ ls2, l.length = ie.size) ∧ (∀ l ∈ ls ++ ls2, ∀ u ∈ l, u.oneCell' = true) :=
      ⟨fun l hl => by rcases List.mem_append.1 hl with h | h; exact hl1 l h; exact hr.len l h, fun l hl => by rcases List.mem_append.1 hl with h | h; exact ho1 l h; exact h1 l h⟩
    have hlen : (ls ++ ls2).flatten.length = (ls ++ ls2).length * ie.size := by
      have : ∀ m : List (List Value), (∀ l ∈ m, l.length = ie.size) → m.flatten.length = m.length * ie.size := by
        intro m
        induction m with
        | nil => simp
        | cons a m ih =>
          intro hm
          rw [List.flatten_cons, List.length_append, ih (fun l hl => hm l (by simp [hl])), hm a (by simp), List.length_cons, Nat.add_mul]
          omega
      exact this _ hall.1
    have hl2 : ls2.flatten.length = ls2.length * ie.size := by
      have h3 := hown.1
      simp only [List.flatten_append, List.length_append, Nat.add_mul] at hlen
      omega
    -- nothing is appended
    by_cases hm : ls2 = []
    · subst hm
      rcases hr.shape with ⟨hv2, _⟩ | ⟨b2, o2, c2, hv2⟩
      · subst hv2
        refine ⟨v, w, run_append_owned_none (P := P) w 0 t ty el ie ie.size ht hie v _ _ hown, ?_⟩
        rw [List.append_nil]
        exact hs.conv i hi fun S h => h
      · subst hv2
        rcases hown.2 with ⟨hv, hn⟩ | ⟨g, cap, cur, hv, hbg, hg, hnc, hcm, hcs, htake⟩
        · have hls : ls = [] := List.eq_nil_of_length_eq_zero hn
          subst hls; subst hv
          refine ⟨.slice none 0 0, w, ?_, hs.conv i hi fun S h => h⟩
          simp [Builtin.append_, run_underlying ht, sizeOf, typeInfo, hie, Builtin.lenOf, Builtin.firstCells, loadCells, loadCellsFrom]
        · subst hv
          refine ⟨.slice (some ⟨g, 0, none⟩) ls.length cap, w, ?_, ?_⟩
          · simp [Builtin.append_, run_underlying ht, sizeOf, typeInfo, hie, Builtin.lenOf, Builtin.firstCells, loadCells, loadCellsFrom, hnc, storeCells]
          · rw [List.append_nil]
            exact hs.conv i hi fun S h => h
    · have hpos : 0 < ls2.length := List.length_pos_iff.2 hm
      obtain ⟨b2, o2, c2, hv2⟩ := hr.ptr hpos
      have hnews := hr.flat hv2
      subst hv2
      have h1' : ∀ u ∈ ls2.flatten, u.oneCell' = true := fun u hu => by
        obtain ⟨l, hl, hul⟩ := List.mem_flatten.1 hu
        exact h1 l hl u hul
      have hsmall : ls.length + ls2.length ≤ 9223372036854775807 := by omega
      rcases hown.2 with ⟨hv, hn⟩ | ⟨g, cap, cur, hv, hbg, hg, hnc, hcm, hcs, htake⟩
      · subst hv
        have hls : ls = [] := List.eq_nil_of_length_eq_zero hn
        subst hls
        have hrun := run_append_nil (P := P) w t ty el ie z ht hie hz ⟨b2, o2, none⟩ ls2.length c2 _ hl2 hnews hpos (by omega) (by have := hbb; simp only [List.length_nil, Nat.zero_add] at this; omega)
        refine ⟨_, _, hrun, hs.replace i hi rfl ?_⟩
        have h5 := row_made (w := w.drew) (xs := ls2.flatten) (rest := Builtin.zeroCells z.cells (grownCap w ls2.length 0 el - ls2.length)) (ls := ls2) (e := el) (k := ie.size) (cap := grownCap w ls2.length 0 el) hr.len h1 rfl (grownCap_ge w _ _ _) (grownCap_le_maxLen w _ _ _ (by simp only [maxLen]; omega)) (by rw [size_zeroCells, hzs])
        exact h5
      · subst hv
        by_cases hroom : ls.length + ls2.length ≤ cap
        · have hfit : ls.length * ie.size + ls2.flatten.length ≤ cur.size := by rw [hl2, hcs, ← Nat.add_mul]; exact Nat.mul_le_mul_right _ hroom
          have hrun := run_append_room (P := P) w t ty el ie ht hie g ls.length cap cur hg ⟨b2, o2, none⟩ ls2.length c2 _ hl2 hnews h1' hroom hfit
          refine ⟨_, _, hrun, ?_⟩
          refine hs.change i (b := g) hi (by simp) rfl rfl rfl (fun c hc => setRow_other w g c _ hc) ?_
          rintro S' ⟨_, hown', hSg'⟩
          refine ⟨hSg' g rfl, ⟨hall, ⟨by rw [hlen], .inr ⟨g, cap, _, by rw [List.length_append], Nat.zero_le _, setRow_heap w g cur _ el _ hg, by rw [List.length_append]; exact hroom, hcm, ?_, ?_⟩⟩, fun g' hg' => by cases hg'; exact hSg' g rfl⟩⟩
          · simp only [List.size_toArray, List.length_append, List.length_take, List.length_drop, Array.length_toList]
            omega
          · rw [htake, ← hlen, List.flatten_append]
            exact List.take_left
        · have holds : ∀ j u, ls.flatten[j]? = some u → w.cell? ((⟨g, 0, none⟩ : Addr).add j) = some u := hown.cells (g := g) rfl
          have hrun := run_append_grow (P := P) w t ty el ie z ht hie hz ⟨g, 0, none⟩ ls.length cap _ hown.1 holds ⟨b2, o2, none⟩ ls2.length c2 _ hl2 hnews (by omega) (by omega) (growslice_fits (by omega) hbb)
          refine ⟨_, _, hrun, hs.replace i hi rfl ?_⟩
          have h5 := row_made (w := w.drew) (xs := ls.flatten ++ ls2.flatten) (rest := Builtin.zeroCells z.cells (grownCap w (ls.length + ls2.length) cap el - (ls.length + ls2.length))) (ls := ls ++ ls2) (e := el) (k := ie.size) (cap := grownCap w (ls.length + ls2.length) cap el) hall.1 hall.2 (by simp) (by rw [List.length_append]; exact grownCap_ge w _ _ _) (grownCap_le_maxLen w _ _ _ (by simp only [maxLen]; omega)) (by rw [size_zeroCells, hzs, List.length_append])
          rw [List.length_append] at h5
          simpa using h5
  obtain ⟨v', w', hrun, hO⟩ := key
  refine opW_val (w' := w') ?_ (h v' w' hO)
  rw [BigFrame.execOp_builtin]
  simp only [List.map_toArray, List.map_cons, List.map_nil, hx, hy, BigFrame.builtin_append, Sem.run_bind, hrun, Result.andThen_ok, Sem.run_pure]
theorem L_appN {t el k bytes n : Nat} {x y : Operand} {v v2 : Value} {ls ls2 ls' : List (List Value)} (hE : El P t el k bytes) (hs : Own w0 M w L) (i : Nat) (hi : L[i]? = some (row v ls el k)) (hx : e x = v) (hy : e y = v2) (hr : Rd w v2 k ls2)
    (h1 : ∀ l ∈ ls2, ∀ u ∈ l, u.oneCell' = true) (hb : (ls.length + ls2.length) * (bytes + 1) ≤ 140737488355328) (hl : ls ++ ls2 = ls') (hn : ls'.length = n) (h : ∀ a c w', Own w0 M w' (L.set i (row (.slice a n c) ls' el k)) → K (.slice a n c) w') :
    opW P (.call { callee := .builtin .append, args := #[x, y], argTypes := #[t, t] }) ty e w K := by
  subst hl
  subst hn
  refine L_app hE hs i hi hx hy hr h1 hb fun v' w' hs' => ?_
  obtain ⟨a, c, rfl⟩ := (hs'.rd i (by rw [List.getElem?_set_self (lt_of_get hi)])).len_eq
  exact h a c w' hs'
/-! ## slice literals -/
def penum (i : Nat) : List Value → List (Nat × Value)
  | [] => []
  | v :: l => (i, v) :: penum (i + 1) l
theorem spl_eq : ∀ (vs cs : List Value) (o : Nat), o + vs.length ≤ cs.length → spl cs o vs = cs.take o ++ vs ++ cs.drop (o + vs.length)
  | [], cs, o, _ => by simp [spl]
  | v :: vs, cs, o, h => by
    simp only [List.length_cons] at h
    unfold spl
    rw [spl_eq vs (cs.set o v) (o + 1) (by simp; omega)]
    have hol : o < cs.length := by omega
    have h1 : (cs.set o v).take (o + 1) = cs.take o ++ [v] := by
      apply List.ext_getElem?
      intro i
      rw [List.getElem?_take, List.getElem?_set, List.getElem?_append, List.getElem?_take]
      simp only [List.length_take]
      by_cases h3 : i < o
      · simp [h3, show i < o + 1 by omega, show o ≠ i by omega, show i < min o cs.length by omega]
      · by_cases h4 : i = o
        · subst h4; simp [hol, show min i cs.length = i by omega]
        · simp [show ¬ i < o + 1 by omega, show ¬ i < min o cs.length by omega]
          omega
    rw [h1, List.drop_set_of_lt (by omega)]
    simp only [List.length_cons, List.append_assoc, List.singleton_append]
    rw [show o + 1 + vs.length = o + (vs.length + 1) by omega]
theorem spl_whole {cs vs : List Value} (h : vs.length = cs.length) : spl cs 0 vs = vs := by
  rw [spl_eq _ _ _ (by omega)]
  simp [h]
theorem spl_pre {A B R : List Value} (h : B.length = A.length) : spl (A ++ R) 0 B = B ++ R := by
  rw [spl_eq _ _ _ (by simp; omega)]
  simp [h]
theorem fill_enum {k : Nat} : ∀ (vals : List Value) (i : Nat) (cs : List Value), (∀ v ∈ vals, v.cells.toList.length = k) → (i + vals.length) * k ≤ cs.length →
    Instr.fill (fun i => some (i * k, k)) cs.toArray (penum i vals) = some (cs.take (i * k) ++ (vals.map fun v => v.cells.toList).flatten ++ cs.drop ((i + vals.length) * k)).toArray
  | [], i, cs, _, _ => by simp [penum, Instr.fill]
  | v :: vals, i, cs, hv, hl => by
    have hvk := hv v (by simp)
    have hl' : i * k + k ≤ cs.length := Nat.le_trans (by rw [← Nat.succ_mul]; exact Nat.mul_le_mul_right _ (by simp)) hl
    have hvs : v.cells.size = k := by simpa using hvk
    unfold penum Instr.fill
    dsimp only
    rw [if_neg (by simp [hvs]; omega)]
    have h3 := foldl_spl v.cells.toList cs (i * k) 0
    rw [Nat.add_zero] at h3
    have h4 : (v.cells.zipIdx.foldl (fun cs (c, j) => cs.setIfInBounds (i * k + j) c) cs.toArray) = (spl cs (i * k) v.cells.toList).toArray := by
      rw [← h3]
      conv => lhs; rw [← Array.foldl_toList]
      rw [Array.toList_zipIdx]
    rw [h4, fill_enum vals (i + 1) _ (fun v hv' => hv v (by simp [hv'])) (by rw [spl_len]; rw [List.length_cons] at hl; rw [show i + 1 + vals.length = i + (vals.length + 1) by omega]; exact hl)]
    have e1 : (i + 1) * k = i * k + v.cells.toList.length := by rw [Nat.add_mul, hvk]; omega
    rw [spl_eq _ _ _ (by rw [hvk]; exact hl')]
    have hti : (cs.take (i * k)).length = i * k := by rw [List.length_take]; omega
    congr 2
    rw [show (i + 1) * k = (cs.take (i * k) ++ v.cells.toList).length by rw [List.length_append, hti, e1]]
    rw [List.take_left, List.drop_append]
    have hd : (cs.take (i * k) ++ v.cells.toList).length ≤ (i + 1 + vals.length) * k := by
      rw [List.length_append, hti, ← e1]; exact Nat.mul_le_mul_right _ (by omega)
    rw [List.drop_eq_nil_of_le hd, List.nil_append, List.drop_drop]
    simp only [List.length_append, hti, List.map_cons, List.flatten_cons, List.append_assoc, List.length_cons]
    rw [← e1]
    have e2 : (i + 1) * k + ((i + 1 + vals.length) * k - (i + 1) * k) = (i + (vals.length + 1)) * k := by
      have : (i + 1) * k ≤ (i + 1 + vals.length) * k := Nat.mul_le_mul_right _ (by omega)
      rw [show i + (vals.length + 1) = i + 1 + vals.length by omega]; omega
    rw [e2]
theorem L_bs {t el k bytes n : Nat} {ps : List (Nat × Operand)} {vals : List Value} {ls : List (List Value)} (hE : El P t el k bytes) (hv : ps.map (fun (p : Nat × Operand) => (p.1, e p.2)) = penum 0 vals) (hls : vals.map (fun v => v.cells.toList) = ls) (hn : vals.length = n)
    (hk : ∀ l ∈ ls, l.length = k) (h1 : ∀ l ∈ ls, ∀ u ∈ l, u.oneCell' = true) (hm : n * k ≤ 16777216) (hs : Own w0 M w L)
    (h : ∀ b w', Own w0 M w' (L ++ [row (.slice (some ⟨b, 0, none⟩) n n) ls el k]) → K (.slice (some ⟨b, 0, none⟩) n n) w') : opW P (.buildSlice t n ps.toArray) ty e w K := by
  obtain ⟨ht, ie, z, hie, hz, rfl, rfl, hzs, hk0⟩ := hE
  subst hls
  have hvk : ∀ v ∈ vals, v.cells.toList.length = ie.size := fun v hv => hk _ (List.mem_map.2 ⟨v, hv, rfl⟩)
  have hlsn : (vals.map fun v => v.cells.toList).length = n := by simpa using hn
  have hsz : ∀ c : List Value, c.length = n * ie.size → Instr.fill (fun i => some (i * ie.size, ie.size)) c.toArray (penum 0 vals) = some (vals.map fun v => v.cells.toList).flatten.toArray := by
    intro c hc
    rw [fill_enum vals 0 c hvk (by rw [Nat.zero_add, hn]; omega)]
    simp [hn, ← hc]
  have hrun : (Instr.buildSlice t n (ps.toArray.map fun (i, x) => (i, e x))).run P w = .ok (.slice (some ⟨w.heap.size, 0, none⟩) n n) (w.alloc (.cells (vals.map fun v => v.cells.toList).flatten.toArray el)) := by
    have hp : (ps.toArray.map fun (i, x) => (i, e x)).toList = penum 0 vals := by rw [← hv]; simp
    by_cases hp0 : n * ie.size = 0
    · have hn0 : n = 0 := by
        rcases Nat.mul_eq_zero.1 hp0 with h | h
        · exact h
        · omega
      subst hn0
      have hv0 : vals = [] := List.eq_nil_of_length_eq_zero hn
      subst hv0
      have hps : ps = [] := by simpa [penum] using hv
      subst hps
      simp [Instr.buildSlice, run_underlying ht, sizeOf, typeInfo, hie, Instr.fill, newRow]
      rw [show (Array.map (fun _ : Nat => (default : Value)) (Array.range 0)) = #[] from Array.eq_empty_of_size_eq_zero (by simp)]
    · have hc : ((Array.range (n * ie.size)).map (z.cells[· % z.cells.size]!)).toList.length = n * ie.size := by simp
      have hf := hsz _ hc
      simp only [Array.toArray_toList] at hf
      exact run_buildSlice w t el n _ _ ie z ht hie hz (by omega) hp0 (by rw [hp]; exact hf)
  refine opW_val (w' := w.alloc (.cells (vals.map fun v => v.cells.toList).flatten.toArray el)) ?_ (h w.heap.size _ (hs.new _ _ ?_))
  · simp only [execOp, Sem.run_bind, hrun, Result.andThen_ok, Sem.run_pure]
  · have h5 := row_made (w := w) (xs := (vals.map fun v => v.cells.toList).flatten) (rest := #[]) (ls := vals.map fun v => v.cells.toList) (e := el) (k := ie.size) (cap := n) hk h1 rfl (by omega) (by simp only [maxLen]; have : n ≤ n * ie.size := Nat.le_mul_of_pos_right _ hk0; omega) (by simp [hlsn])
    rw [hlsn] at h5
    simpa using h5
end

/-! ## plain lists in rows -/
def gd {α : Type} [Inhabited α] (l : List α) (i : Nat) : α := l.getD i default
theorem gd_at {α : Type} [Inhabited α] {enc : α → List Value} {l : List α} {i : Nat} (h : i < l.length) : (l.map enc)[i]? = some (enc (gd l i)) := by
  simp [gd, h]
theorem gd_get {α : Type} [Inhabited α] {l : List α} {i : Nat} (h : i < l.length) : l[i]? = some (gd l i) := by
  simp [gd, h]
theorem gd_mem {α : Type} [Inhabited α] {l : List α} {i : Nat} (h : i < l.length) : gd l i ∈ l := List.mem_of_getElem? (gd_get h)
theorem one_nil : ∀ v ∈ ([] : List Value), v.oneCell' = true := by simp
theorem one_cons {x : Value} {l : List Value} (hx : x.oneCell' = true) (h : ∀ v ∈ l, v.oneCell' = true) : ∀ v ∈ x :: l, v.oneCell' = true := by
  intro v hv; rcases List.mem_cons.1 hv with rfl | hv
  · exact hx
  · exact h v hv
theorem one_app {l m : List Value} (h1 : ∀ v ∈ l, v.oneCell' = true) (h2 : ∀ v ∈ m, v.oneCell' = true) : ∀ v ∈ l ++ m, v.oneCell' = true := by
  intro v hv; rcases List.mem_append.1 hv with hv | hv
  · exact h1 v hv
  · exact h2 v hv
theorem one_map {α : Type} {enc : α → List Value} (he : ∀ x, ∀ v ∈ enc x, v.oneCell' = true) (l : List α) : ∀ m ∈ l.map enc, ∀ u ∈ m, u.oneCell' = true := by
  intro m hm
  obtain ⟨x, _, rfl⟩ := List.mem_map.1 hm
  exact he x
theorem len_map {α : Type} {enc : α → List Value} {k : Nat} (he : ∀ x, (enc x).length = k) (l : List α) : ∀ m ∈ l.map enc, m.length = k := by
  intro m hm
  obtain ⟨x, _, rfl⟩ := List.mem_map.1 hm
  exact he x
instance : Inhabited Dot := ⟨⟨0, 0⟩⟩
def ic (k : IntKind) (x : Int) : List Value := [.int k x]
theorem ic_one (k : IntKind) (x : Int) : ∀ v ∈ ic k x, v.oneCell' = true := by intro v hv; simp [ic] at hv; subst hv; rfl
def bc (b : Bool) : List Value := [.bool b]
theorem bc_one (b : Bool) : ∀ v ∈ bc b, v.oneCell' = true := by intro v hv; simp [bc] at hv; subst hv; rfl
def dv (d : Dot) : Value := .agg (dc d).toArray
def uv (_ : Unit) : Value := .agg #[]
end Go.Vx
