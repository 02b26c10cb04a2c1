/- Maps. -/
import Derived.Test.YtnanhhiofnohbaaVxH
import Derived.Maps.RangeRun
import Derived.Maps.OwnSet
namespace Go.Vx
open Go.RowKit

/-! ## lists of keys and values -/
section
variable {κ ν : Type} [DecidableEq κ]
def lfind (k : κ) : List (κ × ν) → Nat → Option (Nat × ν)
  | [], _ => none
  | (a, b) :: l, i => if k = a then some (i, b) else lfind k l (i + 1)
def mget (k : κ) : List (κ × ν) → Option ν
  | [] => none
  | (a, b) :: l => if k = a then some b else mget k l
def mput (k : κ) (v : ν) : List (κ × ν) → List (κ × ν)
  | [] => [(k, v)]
  | (a, b) :: l => if k = a then (k, v) :: l else (a, b) :: mput k v l
def mdel (k : κ) : List (κ × ν) → List (κ × ν)
  | [] => []
  | (a, b) :: l => if k = a then l else (a, b) :: mdel k l
theorem lfind_get (k : κ) : ∀ (l : List (κ × ν)) (i : Nat), (lfind k l i).map (·.2) = mget k l
  | [], _ => rfl
  | (a, b) :: l, i => by unfold lfind mget; split <;> simp [lfind_get k l]
theorem lfind_none (k : κ) : ∀ (l : List (κ × ν)) (i : Nat), lfind k l i = none → mget k l = none ∧ (∀ v, mput k v l = l ++ [(k, v)]) ∧ mdel k l = l
  | [], _, _ => ⟨rfl, fun _ => rfl, rfl⟩
  | (a, b) :: l, i, h => by
    unfold lfind at h
    split at h
    · cases h
    · rename_i hk
      obtain ⟨h1, h2, h3⟩ := lfind_none k l (i + 1) h
      simp [mget, mput, mdel, hk, h1, h2, h3]
theorem lfind_some (k : κ) : ∀ (l : List (κ × ν)) (i j : Nat) (b : ν), lfind k l i = some (j, b) → i ≤ j ∧ l[j - i]? = some (k, b) ∧ mget k l = some b ∧ (∀ v, mput k v l = l.set (j - i) (k, v)) ∧ mdel k l = l.eraseIdx (j - i)
  | [], _, _, _, h => by cases h
  | (a, b') :: l, i, j, b, h => by
    unfold lfind at h
    split at h
    · rename_i hk
      cases h
      subst hk
      simp [mget, mput, mdel]
    · rename_i hk
      obtain ⟨h0, h1, h2, h3, h4⟩ := lfind_some k l (i + 1) j b h
      obtain ⟨d, rfl⟩ : ∃ d, j = i + 1 + d := ⟨j - (i + 1), by omega⟩
      have e1 : i + 1 + d - i = d + 1 := by omega
      have e2 : i + 1 + d - (i + 1) = d := by omega
      rw [e2] at h1 h3 h4
      rw [e1]
      simp [mget, mput, mdel, hk, h1, h2, h3, h4]
      omega
end

/-! ## keys -/
/-- what is asked of a map's key type -/
structure KeyOk (P : Program) (kt : TypeId) {κ : Type} [DecidableEq κ] (enc : κ → Value) : Prop where
  chk : ∀ b k w, (Instr.checkKey b 10000 kt (enc k)).run P w = .ok () w
  find : ∀ (k : κ) (ks : List κ) (es : List MapEntry) w, es.map (·.key) = ks.map enc → (Instr.findKey kt (enc k) es).run P w = .ok ((lfind k (ks.zip (es.map (·.val))) 0)) w
  bits : ∀ k, Instr.sameBits 10000 (enc k) (enc k) = true
theorem run_findAsking {P : Program} {kt : TypeId} {κ : Type} [DecidableEq κ] {enc : κ → Value} (heq : ∀ a b w, (Op.equal kt (enc a) (enc b)).run P w = .ok (decide (a = b)) w) (k : κ) :
    ∀ (ks : List κ) (es : List MapEntry) (i : Nat) w, es.map (·.key) = ks.map enc → (Instr.findAsking kt (enc k) es i).run P w = .ok (lfind k (ks.zip (es.map (·.val))) i) w
  | [], es, i, w, h => by
    have : es = [] := by simpa using h
    subst this
    simp [Instr.findAsking, lfind]
  | a :: ks, [], i, w, h => by simp at h
  | a :: ks, e :: es, i, w, h => by
    simp only [List.map_cons, List.cons.injEq] at h
    simp only [Instr.findAsking, Sem.run_bind, h.1, heq, Result.andThen_ok, List.map_cons, List.zip_cons_cons, lfind]
    by_cases hk : k = a
    · simp [hk]
    · simp only [hk, decide_false, Bool.false_eq_true, if_false]
      exact run_findAsking heq k ks es (i + 1) w h.2
/-- keys that are structs of plain parts -/
theorem KeyOk_agg {P : Program} {kt D : Nat} {fs : Array Field} {κ : Type} [DecidableEq κ] {enc : κ → List Value} (ht : P.underlying kt = some (.struct fs)) (hD : Nat.ble D 10000 = true)
    (heq : ∀ a b, EqF P D kt (.agg (enc a).toArray) (.agg (enc b).toArray) (decide (a = b))) (hc : ∀ b k w, (Instr.checkKey b 10000 kt (.agg (enc k).toArray)).run P w = .ok () w) (hb : ∀ k, Instr.sameBits 10000 (.agg (enc k).toArray) (.agg (enc k).toArray) = true) :
    KeyOk P kt (fun k => .agg (enc k).toArray) where
  chk := hc
  bits := hb
  find := fun k ks es w h => by
    have h1 : ∀ a b w, (Op.equal kt (.agg (enc a).toArray) (.agg (enc b).toArray)).run P w = .ok (decide (a = b)) w := fun a b w => by
      have := (heq a b).up (Nat.le_of_ble_eq_true hD) 0 w
      simpa [Op.equal, Op.maxDepth] using this
    unfold Instr.findKey
    simp only [Sem.run_bind, run_underlying ht, Result.andThen_ok]
    cases es with
    | nil =>
      have : ks = [] := by simpa using h.symm
      subst this
      simp [Instr.findNow, lfind]
    | cons e es =>
      have : Instr.findNow (.struct fs) (.agg (enc k).toArray) (e :: es) 0 = none := by
        unfold Instr.findNow
        have : Instr.sameNow (.struct fs) (.agg (enc k).toArray) e.key = none := rfl
        rw [this]
      rw [this]
      exact run_findAsking (enc := fun k => .agg (enc k).toArray) h1 k ks (e :: es) 0 w h
theorem findNow_int {kd : IntKind} {j : IntKind} (k : Int) : ∀ (ks : List Int) (es : List MapEntry) (i : Nat), es.map (·.key) = ks.map (Value.int j) → Instr.findNow (.int kd) (.int j k) es i = some (lfind k (ks.zip (es.map (·.val))) i)
  | [], es, i, h => by
    have : es = [] := by simpa using h
    subst this
    simp [Instr.findNow, lfind]
  | a :: ks, [], i, h => by simp at h
  | a :: ks, e :: es, i, h => by
    simp only [List.map_cons, List.cons.injEq] at h
    unfold Instr.findNow
    rw [h.1]
    simp only [Instr.sameNow, if_true, List.map_cons, List.zip_cons_cons, lfind]
    by_cases hk : k = a
    · simp [hk]
    · have : (k == a) = false := by simpa using hk
      simp only [this, hk, if_false]
      exact findNow_int k ks es (i + 1) h.2
theorem KeyOk_int {P : Program} {kt : Nat} {kd : IntKind} (ht : Ud P kt (.int kd)) (j : IntKind) : KeyOk P kt (Value.int j) where
  chk := fun b k w => by
    show (Instr.checkKey b (9999 + 1) kt (.int j k)).run P w = _
    generalize 9999 = n
    simp only [Instr.checkKey, Sem.run_bind, ht w, Result.andThen_ok, Sem.run_pure]
  bits := fun k => by
    generalize 10000 = n
    simp [Instr.sameBits]
  find := fun k ks es w h => by
    unfold Instr.findKey
    simp only [Sem.run_bind, ht w, Result.andThen_ok, findNow_int k ks es 0 h, Sem.run_pure]

/-! ## the map in memory -/
/-- entries as a list of keys and values -/
structure Ents {κ ν : Type} (ke : κ → Value) (ve : ν → Value) (l : List (κ × ν)) (es : Array MapEntry) (clock : Nat) : Prop where
  kv : es.toList.map (fun e => (e.key, e.val)) = l.map (fun p => (ke p.1, ve p.2))
  inc : es.toList.Pairwise (fun a b => a.born < b.born)
  old : ∀ e ∈ es.toList, e.born < clock
/-- a map that can be read -/
def MapF {κ ν : Type} (w : World) (r : Nat) (ke : κ → Value) (ve : ν → Value) (l : List (κ × ν)) : Prop := ∃ es clock, w.heap[r]? = some (.map es clock) ∧ Ents ke ve l es clock
/-- a map of one's own -/
def mapR {κ ν : Type} (r : Nat) (ke : κ → Value) (ve : ν → Value) (l : List (κ × ν)) : Res :=
  ⟨fun w S => S r ∧ MapF w r ke ve l, fun _ _ _ hw ⟨h1, es, clock, h2, h3⟩ => ⟨h1, es, clock, (hw r h1).trans h2, h3⟩⟩
section
variable {κ ν : Type} {ke : κ → Value} {ve : ν → Value} {l : List (κ × ν)} {r : Nat} {w0 w : World} {M : Nat → Prop} {L : List Res}
theorem Own.mapf (hs : Own w0 M w L) (i : Nat) (hi : L[i]? = some (mapR r ke ve l)) : MapF w r ke ve l := by
  obtain ⟨S, ⟨_, h⟩, _⟩ := hs.get i hi
  exact h
theorem MapF.own (h : MapF w0 r ke ve l) (hs : Own w0 M w L) (hm : ¬ M r) : MapF w r ke ve l := by
  obtain ⟨es, clock, h2, h3⟩ := h
  exact ⟨es, clock, (hs.old r (Array.getElem?_eq_some_iff.1 h2).1 hm).trans h2, h3⟩
theorem Ents.keys {es : Array MapEntry} {clock : Nat} (h : Ents ke ve l es clock) : es.toList.map (·.key) = (l.map (·.1)).map ke := by
  have := congrArg (List.map Prod.fst) h.kv
  simpa [List.map_map, Function.comp_def] using this
theorem Ents.vals {es : Array MapEntry} {clock : Nat} (h : Ents ke ve l es clock) : es.toList.map (·.val) = (l.map (·.2)).map ve := by
  have := congrArg (List.map Prod.snd) h.kv
  simpa [List.map_map, Function.comp_def] using this
theorem Ents.len {es : Array MapEntry} {clock : Nat} (h : Ents ke ve l es clock) : es.size = l.length := by
  have := congrArg List.length h.kv
  simpa using this
theorem Ents.nil : Ents ke ve [] #[] 0 := ⟨rfl, by simp, by simp⟩
theorem lfind_map [DecidableEq κ] (k : κ) : ∀ (l : List (κ × ν)) (i : Nat), lfind k ((l.map (·.1)).zip ((l.map (·.2)).map ve)) i = (lfind k l i).map fun p => (p.1, ve p.2)
  | [], _ => rfl
  | (a, b) :: l, i => by
    simp only [List.map_cons, List.zip_cons_cons, lfind]
    split
    · rfl
    · exact lfind_map k l (i + 1)
theorem Ents.find [DecidableEq κ] {P : Program} {kt : Nat} {es : Array MapEntry} {clock : Nat} (h : Ents ke ve l es clock) (hk : KeyOk P kt ke) (k : κ) (w : World) : (Instr.findKey kt (ke k) es.toList).run P w = .ok ((lfind k l 0).map fun p => (p.1, ve p.2)) w := by
  rw [hk.find k (l.map (·.1)) es.toList w h.keys, h.vals, lfind_map]
theorem Ents.push {es : Array MapEntry} {clock : Nat} (h : Ents ke ve l es clock) (k : κ) (v : ν) : Ents ke ve (l ++ [(k, v)]) (es.push { key := ke k, val := ve v, born := clock }) (clock + 1) := by
  refine ⟨by simp [h.kv], ?_, ?_⟩
  · rw [Array.toList_push, List.pairwise_append]
    exact ⟨h.inc, by simp, fun a ha b hb => by simp at hb; subst hb; exact h.old a ha⟩
  · intro e he
    rw [Array.toList_push, List.mem_append] at he
    rcases he with he | he
    · have := h.old e he; omega
    · simp at he; subst he; simp
theorem Ents.setAt {es : Array MapEntry} {clock : Nat} (h : Ents ke ve l es clock) (i : Nat) (k : κ) (v : ν) (f : MapEntry → MapEntry) (hf : ∀ e, (f e).key = ke k ∧ (f e).val = ve v ∧ (f e).born = e.born) : Ents ke ve (l.set i (k, v)) (es.modify i f) clock := by
  have hb : (es.modify i f).toList.map (·.born) = es.toList.map (·.born) := by
    apply List.ext_getElem?
    intro j
    simp only [List.getElem?_map, Array.getElem?_toList, Array.getElem?_modify]
    split
    · rename_i hij; subst hij
      cases es[i]? <;> simp [(hf _).2.2]
    · rfl
  refine ⟨?_, ?_, ?_⟩
  · have := h.kv
    apply List.ext_getElem?
    intro j
    have hj := congrArg (·[j]?) this
    simp only [List.getElem?_map, Array.getElem?_toList] at hj
    simp only [List.getElem?_map, Array.getElem?_toList, Array.getElem?_modify, List.getElem?_set]
    have hl := h.len
    by_cases hij : i = j
    · subst hij
      by_cases hil : i < l.length
      · have : i < es.size := by omega
        simp [hil, this, (hf _).1, (hf _).2.1]
      · have : ¬ i < es.size := by omega
        simp [hil, this]
    · simp only [if_neg hij]
      exact hj
  · have h1 : (es.toList.map (·.born)).Pairwise (· < ·) := by rw [List.pairwise_map]; exact h.inc
    rw [← hb, List.pairwise_map] at h1
    exact h1
  · intro e he
    have h2 : e.born ∈ (es.modify i f).toList.map (·.born) := List.mem_map.2 ⟨e, he, rfl⟩
    rw [hb] at h2
    obtain ⟨e', he', h3⟩ := List.mem_map.1 h2
    rw [← h3]; exact h.old e' he'
theorem Ents.erase {es : Array MapEntry} {clock : Nat} (h : Ents ke ve l es clock) (i : Nat) : Ents ke ve (l.eraseIdx i) (es.eraseIdxIfInBounds i) clock := by
  have e1 : (es.eraseIdxIfInBounds i).toList = es.toList.eraseIdx i := by
    unfold Array.eraseIdxIfInBounds
    split
    · simp
    · rename_i hi
      rw [List.eraseIdx_of_length_le (by simpa using hi)]
  refine ⟨?_, ?_, ?_⟩
  · rw [e1]
    have he : ∀ {α β : Type} (f : α → β) (m : List α) (j : Nat), (m.eraseIdx j).map f = (m.map f).eraseIdx j := by
      intro α β f m
      induction m with
      | nil => intro j; simp
      | cons a m ih => intro j; cases j <;> simp [ih]
    rw [he, h.kv, he]
  · rw [e1]; exact h.inc.sublist (List.eraseIdx_sublist _ _)
  · intro e he
    rw [e1] at he
    exact h.old e ((List.eraseIdx_sublist _ _).subset he)
end

/-! ## the operations -/
open Go.ChangeMaps (setBlock)
theorem run_setObj {P : Program} {w : World} {r : Nat} {es : Array MapEntry} {cl : Nat} (hr : w.heap[r]? = some (.map es cl)) (o' : Obj) : (setObj r o').run P w = .ok () (setBlock w r o') := by
  simp [setObj, Sem.run, hr, setBlock]
theorem run_getObj {P : Program} {w : World} {r : Nat} {es : Array MapEntry} {cl : Nat} (hr : w.heap[r]? = some (.map es cl)) : (getObj r).run P w = .ok (.map es cl) w := by
  simp [getObj, Sem.run, hr]
theorem setBlock_size (w : World) (r : Nat) (o : Obj) : (setBlock w r o).heap.size = w.heap.size := by simp [setBlock]
theorem setBlock_at {w : World} {r : Nat} {o0 : Obj} (hr : w.heap[r]? = some o0) (o : Obj) : (setBlock w r o).heap[r]? = some o := by
  have := (Array.getElem?_eq_some_iff.1 hr).1
  simp [setBlock, this]
theorem setBlock_ne (w : World) (r c : Nat) (o : Obj) (h : c ≠ r) : (setBlock w r o).heap[c]? = w.heap[c]? := by
  simp only [setBlock]
  rw [Array.getElem?_setIfInBounds_ne (fun e => h e.symm)]
section
variable {P : Program} {ty : TypeId} {e : Operand → Value} {w : World} {K : Value → World → Prop} {w0 : World} {M : Nat → Prop} {L : List Res}
variable {κ ν : Type} [DecidableEq κ] {ke : κ → Value} {ve : ν → Value} {l : List (κ × ν)} {r kt el t : Nat}
theorem run_lookup {z : Value} (c : Bool) (ht : Ud P t (.map kt el)) (hk : KeyOk P kt ke) (hz : Zv P el z) (hm : MapF w r ke ve l) (k : κ) :
    (Instr.lookup t (.map (some r)) (ke k) c).run P w = .ok (if c then .tuple #[((mget k l).map ve).getD z, .bool (mget k l).isSome] else ((mget k l).map ve).getD z) w := by
  obtain ⟨es, clock, hr, hE⟩ := hm
  have hf := hE.find hk k w
  simp only [Instr.lookup, Sem.run_bind, ht w, Result.andThen_ok, run_getObj hr, Sem.run_pure, hk.chk, hf]
  rw [← lfind_get k l 0]
  cases lfind k l 0 with
  | none => simp [hz w]
  | some p => simp
theorem L_lookup {x y : Operand} {z : Value} {k : κ} (ht : Ud P t (.map kt el)) (hk : KeyOk P kt ke) (hz : Zv P el z) (hm : MapF w r ke ve l) (hx : e x = .map (some r)) (hy : e y = ke k) (h : K (((mget k l).map ve).getD z) w) : opW P (.lookup t x y false) ty e w K := by
  refine opW_val (w' := w) ?_ h
  simp only [execOp, hx, hy, Sem.run_bind, run_lookup false ht hk hz hm k, Result.andThen_ok, Sem.run_pure, Bool.false_eq_true, if_false]
theorem L_lookupOk {x y : Operand} {z : Value} {k : κ} (ht : Ud P t (.map kt el)) (hk : KeyOk P kt ke) (hz : Zv P el z) (hm : MapF w r ke ve l) (hx : e x = .map (some r)) (hy : e y = ke k) (h : K (.tuple #[((mget k l).map ve).getD z, .bool (mget k l).isSome]) w) : opW P (.lookup t x y true) ty e w K := by
  refine opW_val (w' := w) ?_ h
  simp only [execOp, hx, hy, Sem.run_bind, run_lookup true ht hk hz hm k, Result.andThen_ok, Sem.run_pure, if_true]
theorem L_lookupNil {x y : Operand} {z : Value} {k : κ} (ht : Ud P t (.map kt el)) (hk : KeyOk P kt ke) (hz : Zv P el z) (hx : e x = .map none) (hy : e y = ke k) (h : K (.tuple #[z, .bool false]) w) : opW P (.lookup t x y true) ty e w K := by
  refine opW_val (w' := w) ?_ h
  have hf := (Ents.nil (ke := ke) (ve := fun v : Value => v)).find hk k w
  have hf' : (Instr.findKey kt (ke k) []).run P w = .ok none w := hf
  simp only [execOp, hx, hy, Instr.lookup, Sem.run_bind, ht w, Result.andThen_ok, Sem.run_pure, hk.chk, hf', hz w, if_true]
omit [DecidableEq κ] in
theorem L_lenM {x : Operand} {n : Nat} (ht : Ud P t (.map kt el)) (hm : MapF w r ke ve l) (hn : l.length = n) (hx : e x = .map (some r)) (h : K (.int .i64 n) w) : opW P (.call { callee := .builtin .len, args := #[x], argTypes := #[t] }) ty e w K := by
  refine opW_val (w' := w) ?_ h
  obtain ⟨es, clock, hr, hE⟩ := hm
  rw [BigFrame.execOp_builtin]
  simp only [List.map_toArray, List.map_cons, List.map_nil, hx, BigFrame.builtin_len, Builtin.len_, Sem.run_bind, ht w, Result.andThen_ok, Sem.run_pure, List.getElem?_toArray, List.getElem?_cons_zero, goInt, run_getObj hr, hE.len, hn]
omit [DecidableEq κ] in
theorem L_makeMap {x : Option Operand} (hx : x = none) (hs : Own w0 M w L) (ke : κ → Value) (ve : ν → Value) (h : ∀ r w', Own w0 M w' (L ++ [mapR r ke ve []]) → K (.map (some r)) w') : opW P (.makeMap t x) ty e w K := by
  subst hx
  refine opW_val (w' := w.alloc (.map #[] 0)) ?_ (h w.heap.size _ (hs.new _ _ ⟨rfl, #[], 0, _root_.Go.heap_alloc_new w _, Ents.nil⟩))
  simp only [execOp, Option.map_none, Instr.makeMap, Sem.run_bind, run_newObj, Result.andThen_ok, Sem.run_pure]
  rfl
omit [DecidableEq κ] in
theorem Own.setMap {l' : List (κ × ν)} {es es' : Array MapEntry} {clock clock' : Nat} (hs : Own w0 M w L) (i : Nat) (hi : L[i]? = some (mapR r ke ve l)) (hr : w.heap[r]? = some (.map es clock)) (hE : Ents ke ve l' es' clock') : Own w0 M (setBlock w r (.map es' clock')) (L.set i (mapR r ke ve l')) := by
  refine hs.change i (b := r) hi (setBlock_size _ _ _) rfl rfl rfl (fun c hc => setBlock_ne _ _ _ _ hc) ?_
  rintro S ⟨h1, _⟩
  exact ⟨h1, h1, es', clock', setBlock_at hr _, hE⟩
theorem L_mapSet {x y z : Operand} {k : κ} {v : ν} (ht : Ud P t (.map kt el)) (hk : KeyOk P kt ke) (hs : Own w0 M w L) (i : Nat) (hi : L[i]? = some (mapR r ke ve l)) (hx : e x = .map (some r)) (hy : e y = ke k) (hz : e z = ve v)
    (h : ∀ w', Own w0 M w' (L.set i (mapR r ke ve (mput k v l))) → K undef w') : opW P (.mapUpdate t x y z) ty e w K := by
  obtain ⟨es, clock, hr, hE⟩ := hs.mapf i hi
  have hf := hE.find hk k w
  cases hl : lfind k l 0 with
  | none =>
    rw [hl] at hf
    have h2 := (lfind_none k l 0 hl).2.1 v
    refine opW_skip (w' := setBlock w r (.map (es.push { key := ke k, val := ve v, born := clock }) (clock + 1))) ?_ (h _ ?_)
    · simp only [execOp, hx, hy, hz, Instr.mapUpdate, Sem.run_bind, ht w, Result.andThen_ok, run_getObj hr, hk.chk, hf, Option.map_none, run_setObj hr, Sem.run_pure]
    · rw [h2]; exact hs.setMap i hi hr (hE.push k v)
  | some p =>
    obtain ⟨j, b⟩ := p
    rw [hl] at hf
    obtain ⟨_, h1, _, h3, _⟩ := lfind_some k l 0 j b hl
    rw [Nat.sub_zero] at h1 h3
    have hkey : (es[j]?).map (·.key) = some (ke k) := by
      have := congrArg (·[j]?) hE.keys
      simp only [List.getElem?_map, Array.getElem?_toList, h1, Option.map_some] at this
      simpa using this
    refine opW_skip (w' := setBlock w r (.map (es.modify j fun e => { e with key := ke k, val := ve v }) clock)) ?_ (h _ ?_)
    · simp only [execOp, hx, hy, hz, Instr.mapUpdate, Sem.run_bind, ht w, Result.andThen_ok, run_getObj hr, hk.chk, hf, Option.map_some, hkey, Option.getD_some, Instr.keyThatStays, hk.bits, if_true, Sem.run_pure, run_setObj hr]
    · rw [h3 v]; exact hs.setMap i hi hr (hE.setAt j k v _ fun _ => ⟨rfl, rfl, rfl⟩)
theorem L_mapDel {x y : Operand} {k : κ} (ht : Ud P t (.map kt el)) (hk : KeyOk P kt ke) (hs : Own w0 M w L) (i : Nat) (hi : L[i]? = some (mapR r ke ve l)) (hx : e x = .map (some r)) (hy : e y = ke k)
    (h : ∀ w', Own w0 M w' (L.set i (mapR r ke ve (mdel k l))) → K (.tuple #[]) w') : opW P (.call { callee := .builtin .delete, args := #[x, y], argTypes := #[t, kt] }) ty e w K := by
  obtain ⟨es, clock, hr, hE⟩ := hs.mapf i hi
  have hf := hE.find hk k w
  cases hl : lfind k l 0 with
  | none =>
    rw [hl] at hf
    have h2 := (lfind_none k l 0 hl).2.2
    refine opW_val (w' := setBlock w r (.map es clock)) ?_ (h _ ?_)
    · rw [BigFrame.execOp_builtin]
      simp only [List.map_toArray, List.map_cons, List.map_nil, hx, hy, BigFrame.builtin_delete, Builtin.delete_, Sem.run_bind, ht w, Result.andThen_ok, Sem.run_pure, List.getElem?_toArray, List.getElem?_cons_zero, List.getElem?_cons_succ, run_getObj hr, hk.chk, hf, Option.map_none, run_setObj hr]
    · rw [h2]; exact hs.setMap i hi hr hE
  | some p =>
    obtain ⟨j, b⟩ := p
    rw [hl] at hf
    obtain ⟨_, h1, _, _, h3⟩ := lfind_some k l 0 j b hl
    rw [Nat.sub_zero] at h1 h3
    refine opW_val (w' := setBlock w r (.map (es.eraseIdxIfInBounds j) clock)) ?_ (h _ ?_)
    · rw [BigFrame.execOp_builtin]
      simp only [List.map_toArray, List.map_cons, List.map_nil, hx, hy, BigFrame.builtin_delete, Builtin.delete_, Sem.run_bind, ht w, Result.andThen_ok, Sem.run_pure, List.getElem?_toArray, List.getElem?_cons_zero, List.getElem?_cons_succ, run_getObj hr, hk.chk, hf, Option.map_some, run_setObj hr]
    · rw [h3]; exact hs.setMap i hi hr (hE.erase j)
/-! ## going through a map -/
/-- the entries that are left -/
def left (es : Array MapEntry) (seen : Array Nat) : List MapEntry := es.toList.filter fun e => !seen.contains e.born
/-- a walk through the map 'es' at r, of which 'seen' came -/
def iterR (it r : Nat) (clock : Nat) (seen : Array Nat) : Res := obj it (.mapIter (some r) clock seen clock)
omit [DecidableEq κ] in
theorem L_range {x : Operand} {es : Array MapEntry} {clock : Nat} (ht : Ud P t (.map kt el)) (hr : w.heap[r]? = some (.map es clock)) (hs : Own w0 M w L) (hx : e x = .map (some r)) (h : ∀ it w', Own w0 M w' (L ++ [iterR it r clock #[]]) → K (.pointer (some ⟨it, 0, none⟩)) w') : opW P (.range t x) ty e w K := by
  refine opW_val (w' := w.alloc (.mapIter (some r) clock #[] clock)) ?_ (h w.heap.size _ (hs.new _ _ ⟨rfl, _root_.Go.heap_alloc_new w _⟩))
  simp only [execOp, hx, Instr.range, Sem.run_bind, ht w, Result.andThen_ok, Sem.run_pure, run_getObj hr, run_newObj]
  rfl
omit [DecidableEq κ] in
theorem L_next {x : Operand} {es : Array MapEntry} {clock it : Nat} {seen : Array Nat} (hr : w.heap[r]? = some (.map es clock)) (hold : ∀ x ∈ es.toList, x.born < clock) (hs : Own w0 M w L) (i : Nat) (hi : L[i]? = some (iterR it r clock seen)) (hx : e x = .pointer (some ⟨it, 0, none⟩))
    (h0 : left es seen = [] → K (.tuple #[.bool false]) w) (h1 : ∀ a ∈ left es seen, ∀ w', Own w0 M w' (L.set i (iterR it r clock (seen.push a.born))) → K (.tuple #[.bool true, a.key, a.val]) w') : opW P (.next x false) ty e w K := by
  have hit := hs.get_obj i hi
  rcases run_next_at (P := P) w ty it r clock clock seen es clock hit hr hold (Nat.le_refl _) with ⟨h2, h3⟩ | ⟨a, ha, w1, hw1, h3⟩
  · refine opW_val (w' := w) ?_ (h0 ?_)
    · simp only [execOp, hx, Sem.run_bind, h3, Result.andThen_ok, Sem.run_pure]
    · have : (leftOf es seen) = #[] := Array.eq_empty_of_size_eq_zero h2
      have h5 := congrArg Array.toList this
      simpa [leftOf, left] using h5
  · refine opW_val (w' := setBlock w1 it (.mapIter (some r) clock (seen.push a.born) clock)) ?_ (h1 a (by simpa [leftOf, left] using ha) _ ?_)
    · simp only [execOp, hx, Sem.run_bind, h3, Result.andThen_ok, Sem.run_pure]
    · have hs1 : Own w0 M w1 L := by rcases hw1 with rfl | rfl; exact hs; exact hs.drew
      have hit1 : w1.heap[it]? = some (.mapIter (some r) clock seen clock) := by rcases hw1 with rfl | rfl; exact hit; exact hit
      refine hs1.change i (b := it) hi (setBlock_size _ _ _) rfl rfl rfl (fun c hc => setBlock_ne _ _ _ _ hc) ?_
      rintro S ⟨h6, _⟩
      exact ⟨h6, h6, setBlock_at hit1 _⟩
omit [DecidableEq κ] in
theorem L_entry {x : Operand} {es : Array MapEntry} {clock it : Nat} {seen : Array Nat} {a : MapEntry} (hr : w.heap[r]? = some (.map es clock)) (hinc : es.toList.Pairwise (fun a b => a.born < b.born)) (ha : a ∈ es.toList) (hs : Own w0 M w L) (i : Nat) (hi : L[i]? = some (iterR it r clock (seen.push a.born))) (hx : e x = .pointer (some ⟨it, 0, none⟩))
    (h : K (.tuple #[a.key, a.val]) w) : opW P (.entry x) ty e w K := by
  have hit := hs.get_obj i hi
  refine opW_val (w' := w) ?_ h
  have hn : (es.toList.map (·.born)).Nodup := by
    rw [List.Nodup, List.pairwise_map]
    exact hinc.imp fun h => Nat.ne_of_lt h
  simp only [execOp, hx, Sem.run_bind, run_entry_at (P := P) w it r clock seen es clock a hit hr ha hn, Result.andThen_ok, Sem.run_pure]
/-- what is left, step by step -/
theorem left_none (es : Array MapEntry) : left es #[] = es.toList := by simp [left]
theorem left_push {es : Array MapEntry} (hinc : es.toList.Pairwise (fun a b => a.born < b.born)) {seen : Array Nat} {a : MapEntry} (ha : a ∈ left es seen) : (left es seen).Perm (a :: left es (seen.push a.born)) := by
  unfold left at *
  rw [List.mem_filter] at ha
  obtain ⟨ha1, ha2⟩ := ha
  revert ha2
  show (fun e : MapEntry => !seen.contains e.born) a = true → _
  intro ha2
  have hg : (fun e : MapEntry => !(seen.push a.born).contains e.born) = fun e => (!seen.contains e.born) && !(e.born == a.born) := by
    funext e
    rw [Array.contains_push, Bool.not_or]
  rw [hg]
  clear hg
  revert ha2
  show _ → ((es.toList.filter fun e => !seen.contains e.born).Perm (a :: es.toList.filter fun e => (fun e : MapEntry => !seen.contains e.born) e && !(e.born == a.born)))
  generalize (fun e : MapEntry => !seen.contains e.born) = f
  intro ha2
  have key : ∀ (m : List MapEntry), m.Pairwise (fun a b => a.born < b.born) → a ∈ m → (m.filter f).Perm (a :: m.filter fun e => f e && !(e.born == a.born)) := by
    intro m
    induction m with
    | nil => intro _ h; cases h
    | cons b m ih =>
      intro hp hm
      rw [List.pairwise_cons] at hp
      rcases List.mem_cons.1 hm with rfl | hm
      · have e1 : (m.filter fun e => f e && !(e.born == a.born)) = m.filter f := by
          apply List.filter_congr
          intro x hx
          have := hp.1 x hx
          have h4 : (x.born == a.born) = false := by simp; omega
          simp [h4]
        simp only [List.filter_cons, ha2, if_true, beq_self_eq_true, Bool.not_true, Bool.and_false, Bool.false_eq_true, if_false, e1]
        exact List.Perm.refl _
      · have hlt := hp.1 a hm
        have h4 : (b.born == a.born) = false := by simp; omega
        have := ih hp.2 hm
        simp only [List.filter_cons, h4, Bool.not_false, Bool.and_true]
        split
        · exact (List.Perm.cons b this).trans (List.Perm.swap a b _)
        · exact this
  exact key es.toList hinc ha1
end
end Go.Vx
