/- A function with a range over a function in it. -/
import Derived.Test.YtnanhhiofnohbaaVxK
import Derived.RangeFuncRecord
namespace Go.Vx
open Go.RowKit

/-! ## code that may leave a mark on what is deferred -/
abbrev StD := List Deferred → St
def postD (n : Nat) (N R : StD) : Exit → Act → World → Prop
  | .normal, a, w => ∃ ds ρ, a = frd n ds ρ ∧ N ds ρ w
  | .ret, a, w => ∃ ds ρ, a = frd n ds ρ ∧ R ds ρ w
  | _, _, _ => False
def Wd (κ : Cx) (P : Program) (n : Nat) (c : Code) (N R : StD) (ρ : Env) (w : World) : Prop := c.wpIn (FW κ) 0 P (postD n N R) (frd n κ.ds ρ) w
def noX : Nat → St := fun _ _ _ => False
section
variable {κ : Cx} {P : Program} {n : Nat} {N R : StD} {ρ : Env} {w : World}
theorem Wd_of {c : Code} (h : W κ P n c (N κ.ds) (R κ.ds) noX ρ w) : Wd κ P n c N R ρ w :=
  wpIn_mono h (fun e a w => by
    cases e with
    | normal => exact fun ⟨ρ, e, h⟩ => ⟨_, ρ, e, h⟩
    | ret => exact fun ⟨ρ, e, h⟩ => ⟨_, ρ, e, h⟩
    | exit i => exact fun ⟨ρ, e, h⟩ => h.elim
    | _ => exact fun h => h.elim)
theorem Wd_seqR {c1 c2 : Code} (h : W κ P n c1 (fun ρ w => Wd κ P n c2 N R ρ w) (R κ.ds) noX ρ w) : Wd κ P n (.seq c1 c2) N R ρ w := by
  refine wpIn_seq (wpIn_mono h (fun e a w hq => ?_))
  cases e with
  | normal => obtain ⟨ρ, rfl, h⟩ := hq; exact h
  | ret => obtain ⟨ρ, e, h⟩ := hq; exact ⟨_, ρ, e, h⟩
  | exit i => obtain ⟨ρ, e, h⟩ := hq; exact h.elim
  | _ => exact hq.elim
theorem Wd_seqL {c1 c2 : Code} (h : Wd κ P n c1 (fun ds ρ w => Wd ⟨κ.rd, ds⟩ P n c2 N R ρ w) R ρ w) : Wd κ P n (.seq c1 c2) N R ρ w := by
  refine wpIn_seq (wpIn_mono h (fun e a w hq => ?_))
  cases e with
  | normal => obtain ⟨ds, ρ, rfl, h⟩ := hq; exact h
  | ret => exact hq
  | _ => exact hq.elim
theorem Wd_block {i : Nat} {c : Code} (h : Wd κ P n c N R ρ w) : Wd κ P n (.block i c) N R ρ w := by
  refine wpIn_block (wpIn_mono h (fun e a w hq => ?_))
  cases e with
  | exit j => exact hq.elim
  | _ => exact hq
/-- the frame of a round -/
theorem round_frame (n : Nat) (ρ : Env) (p : Nat) (v : Value) : ({ tmps := (Array.ofFn (n := n) fun i => ρ i).setIfInBounds p v, defers := [] } : Act) = frd n [] (upd ρ p v) := put_frd n [] ρ (some p) v
/-- the record of a loop over a function -/
def recOf (fn : FuncId) (n : Nat) (ρ : Env) (p : Nat) (assign body : Code) (d : Nat) : Loop := { state := .ready, pending := none, fn, tmps := Array.ofFn (n := n) fun i => ρ i, params := #[p], assign, body, defers := d }
/-- an object that is no row is turned -/
theorem Own.put' {w0 w : World} {M : Nat → Prop} {L : List Res} (h : Own w0 M w L) (i : Nat) {b : Nat} {o : Obj} (o' : Obj) (hi : L[i]? = some (obj b o)) : Own w0 M (w.putObj b o') (L.set i (obj b o')) := by
  refine h.change i (b := b) hi (by simp) rfl rfl rfl (fun c hc => World.putObj_heap_other hc) ?_
  rintro S ⟨h1, h2⟩
  exact ⟨h1, h1, World.putObj_heap_same (Array.getElem?_eq_some_iff.1 h2).1⟩
/-- what a round starts with -/
def rec0 (l fn n : Nat) (ρ : Env) (p : Nat) (assign body : Code) (d : Nat) (st : LoopState) : Res := obj l (.loop { recOf fn n ρ p assign body d with state := st })
theorem yieldC_of {l fn p d : Nat} {assign body : Code} {ok : List Value → Value → Prop} {Rx : List Value → Res}
    (hround : ∀ pre x w S, ok pre x → Own w S w [Rx pre, rec0 l fn n ρ p assign body d .ready] →
      W ⟨some l, []⟩ P n assign (fun ρ1 w1 => ∃ Lx, Own w S w1 ([Rx pre, rec0 l fn n ρ p assign body d .ready] ++ Lx) ∧ ∀ w2, Own w S w2 ([Rx pre, rec0 l fn n ρ p assign body d .busy] ++ Lx) →
        W ⟨some l, []⟩ P n body (fun _ w3 => Own w S w3 [Rx (pre ++ [x]), rec0 l fn n ρ p assign body d .busy]) (fun _ _ => False) noX ρ1 w2) (fun _ _ => False) noX (upd ρ p x) w) :
    YieldC P l (fun pre => star [Rx pre, rec0 l fn n ρ p assign body d .ready]) ok := by
  intro pre x w S hok hR hlt
  have hs := Own.open hR hlt
  have hl : w.heap[l]? = some (.loop { recOf fn n ρ p assign body d with state := .ready }) := hs.get_obj 1 rfl
  refine ⟨fn, _, assign, body, run_yield hl rfl, roundIn_of_wpIn trivial ?_⟩
  have hh := hround pre x w S hok hs
  have e1 : ({ tmps := ((#[p].zip #[x]).foldl (fun (tmps : Array Value) (y : Nat × Value) => tmps.setIfInBounds y.1 y.2) (Array.ofFn (n := n) fun i => ρ i)), defers := [] } : Act) = frd n [] (upd ρ p x) := by
    rw [← round_frame]; simp
  show assign.wpIn (FW ⟨some l, []⟩) 0 P _ _ w
  have e2 : ({ tmps := (({ recOf fn n ρ p assign body d with state := .ready } : Loop).params.zip #[x]).foldl (fun (tmps : Array Value) (y : Nat × Value) => tmps.setIfInBounds y.1 y.2) ({ recOf fn n ρ p assign body d with state := .ready } : Loop).tmps, defers := [] } : Act) = frd n [] (upd ρ p x) := e1
  rw [show (({ recOf fn n ρ p assign body d with state := .ready } : Loop).params.zip #[x]).foldl (fun (tmps : Array Value) (y : Nat × Value) => match y with | (t, a) => tmps.setIfInBounds t a) ({ recOf fn n ρ p assign body d with state := .ready } : Loop).tmps = (frd n [] (upd ρ p x)).tmps from congrArg Act.tmps e2]
  refine wpIn_mono hh (fun e a w1 hq => ?_)
  cases e with
  | normal =>
    obtain ⟨ρ1, rfl, Lx, hs1, hbody⟩ := hq
    have hl1 : w1.heap[l]? = some (.loop { recOf fn n ρ p assign body d with state := .ready }) := hs1.get_obj 1 rfl
    refine ⟨_, run_beginRound hl1 rfl, ?_⟩
    refine wpIn_mono (F := FW ⟨some l, []⟩) (hbody _ (hs1.put' 1 _ rfl)) (fun e a w3 hq => ?_)
    cases e with
    | normal =>
      obtain ⟨ρ2, rfl, hs3⟩ := hq
      have hl3 : w3.heap[l]? = some (.loop { recOf fn n ρ p assign body d with state := .busy }) := hs3.get_obj 1 rfl
      refine ⟨_, _, run_endRound none hl3, rfl, ?_⟩
      exact (hs3.put' 1 _ rfl).shut
    | ret => obtain ⟨ρ2, _, h⟩ := hq; exact h.elim
    | exit j => obtain ⟨ρ2, _, h⟩ := hq; exact h.elim
    | _ => exact hq.elim
  | ret => obtain ⟨ρ2, _, h⟩ := hq; exact h.elim
  | exit j => obtain ⟨ρ2, _, h⟩ := hq; exact h.elim
  | _ => exact hq.elim
/-- 'for x := range f { .. }', where every round goes to its end. -/
theorem Wd_rangeFunc {g : Operand} {p f : Nat} {assign body : Code} {caps : List Value} {ok : List Value → Value → Prop} {L : List Res} {w0 : World} {M : Nat → Prop} {G : List Value → Prop} (hrd : κ.rd = none) (hg : ev n ρ g = .func (.func f) #[] caps.toArray) (hf : En P f)
    (hs : Own w0 M w L) (i : Nat) (Rx : List Value → Res) (hi : L[i]? = some (Rx []))
    (hround : ∀ l fn d pre x w S, ok pre x → Own w S w [Rx pre, rec0 l fn n ρ p assign body d .ready] →
      W ⟨some l, []⟩ P n assign (fun ρ1 w1 => ∃ Lx, Own w S w1 ([Rx pre, rec0 l fn n ρ p assign body d .ready] ++ Lx) ∧ ∀ w2, Own w S w2 ([Rx pre, rec0 l fn n ρ p assign body d .busy] ++ Lx) →
        W ⟨some l, []⟩ P n body (fun _ w3 => Own w S w3 [Rx (pre ++ [x]), rec0 l fn n ρ p assign body d .busy]) (fun _ _ => False) noX ρ1 w2) (fun _ _ => False) noX (upd ρ p x) w)
    (hcall : ∀ l w1 R S, (∃ L1, Own w0 M w1 L1) → (∀ b, S b → b < w1.heap.size) → (∀ b, S b → b < w0.heap.size → M b) → (R []).holds w1 S → YieldC P l R ok →
      Calls P f ([Value.func (.yield l) #[] #[]] ++ caps).toArray w1 fun e w2 => ∃ v xs, e = .returned v ∧ G xs ∧ Own w1 S w2 [R xs])
    (hN : ∀ xs d w', G xs → Own w0 M w' (L.set i (Rx xs) ++ [obj d (.deferred (some []))]) → N ({ target := .collected d, args := #[] } :: κ.ds) ρ w') :
    Wd κ P n (.rangeFunc g #[p] assign body) N R ρ w := by
  refine wpIn_rangeFunc ?_
  intro fn _
  have hro : (FW κ).round = none := hrd
  rw [hro]
  -- the block for what is deferred, and the record
  have h1 := hs.new (.deferred (some [])) (obj w.heap.size (.deferred (some []))) ⟨rfl, _root_.Go.heap_alloc_new w _⟩
  have h2 := h1.new (.loop (recOf fn n ρ p assign body w.heap.size)) (obj (w.alloc (.deferred (some []))).heap.size (.loop (recOf fn n ρ p assign body w.heap.size))) ⟨rfl, _root_.Go.heap_alloc_new _ _⟩
  have hsz : (w.alloc (.deferred (some []))).heap.size = w.heap.size + 1 := by simp
  rw [hsz] at h2
  have hil := lt_of_get hi
  refine ⟨w.heap.size + 1, [{ target := .collected w.heap.size, args := #[] }], ((w.alloc (.deferred (some []))).alloc (.loop (recOf fn n ρ p assign body w.heap.size))), { target := .fn (.func f) caps.toArray, args := #[.func (.yield (w.heap.size + 1)) #[] #[]] }, ((w.alloc (.deferred (some []))).alloc (.loop (recOf fn n ρ p assign body w.heap.size))), f, ([Value.func (.yield (w.heap.size + 1)) #[] #[]] ++ caps).toArray, ((w.alloc (.deferred (some []))).alloc (.loop (recOf fn n ρ p assign body w.heap.size))), run_enterLoop_outer _ _ _ _ _, ?_, fun _ _ => trivial, ?_, fun h => by simp [FW, Fence.wide] at h, ?_⟩
  · have : (frd n κ.ds ρ).eval g = .func (.func f) #[] caps.toArray := by rw [eval_frd]; exact hg
    simp only [resolve, this, Deferred.ofValue, Sem.run_pure, List.map_toArray, List.map_cons, List.map_nil]
    simp [Act.eval]
  · have := hf ([Value.func (.yield (w.heap.size + 1)) #[] #[]] ++ caps).toArray ((w.alloc (.deferred (some []))).alloc (.loop (recOf fn n ρ p assign body w.heap.size)))
    simp only [invoke]
    rw [show (#[Value.func (.yield (w.heap.size + 1)) #[] #[]] ++ caps.toArray) = ([Value.func (.yield (w.heap.size + 1)) #[] #[]] ++ caps).toArray by simp]
    exact this
  · -- the record goes to what is lent
    have h3 := h2.join i (L.length + 1) (by omega) (R := Rx []) (Q := rec0 (w.heap.size + 1) fn n ρ p assign body w.heap.size .ready) (by rw [List.append_assoc, List.getElem?_append_left hil]; exact hi) (by rw [List.getElem?_append_right (by simp)]; simp; rfl)
    have hi3 : (((L ++ [obj w.heap.size (.deferred (some []))] ++ [obj (w.heap.size + 1) (.loop (recOf fn n ρ p assign body w.heap.size))]).set (L.length + 1) emp).set i (star [Rx [], rec0 (w.heap.size + 1) fn n ρ p assign body w.heap.size .ready]))[i]? = some (star [Rx [], rec0 (w.heap.size + 1) fn n ρ p assign body w.heap.size .ready]) := by
      rw [List.getElem?_set_self (by simp; omega)]
    obtain ⟨S, hS, hlt, hSM, back⟩ := h3.lend2 i hi3
    have hc := hcall (w.heap.size + 1) _ (fun pre => star [Rx pre, rec0 (w.heap.size + 1) fn n ρ p assign body w.heap.size .ready]) S ⟨_, h3⟩ hlt hSM hS (yieldC_of (hround _ _ _))
    refine CallsIn.mono (R := fun e w2 => ∃ v xs, e = .returned v ∧ G xs ∧ Own _ S w2 [star [Rx xs, rec0 (w.heap.size + 1) fn n ρ p assign body w.heap.size .ready]]) ((callsIn_wide (n := 0)).2 hc) ?_
    rintro e w2 ⟨v, xs, rfl, hG, ho⟩
    have h4 := back w2 _ [] ho
    rw [List.append_nil] at h4
    have h5 := h4.split i (R := Rx xs) (Rs := [rec0 (w.heap.size + 1) fn n ρ p assign body w.heap.size .ready]) (by rw [List.getElem?_set_self (by simp; omega)])
    have hl5 := h5.get_obj (L.length + 2) (b := w.heap.size + 1) (o := .loop { recOf fn n ρ p assign body w.heap.size with state := .ready }) (by rw [List.getElem?_append_right (by simp)]; simp; rfl)
    have h6 := (h5.put' (L.length + 2) (b := w.heap.size + 1) (o := .loop { recOf fn n ρ p assign body w.heap.size with state := .ready }) (.loop { recOf fn n ρ p assign body w.heap.size with state := .exhausted }) (by rw [List.getElem?_append_right (by simp)]; simp; rfl)).take (L.length + 1)
    refine ⟨none, _, run_endLoop hl5 (by intro h; cases h), ⟨_, ρ, rfl, hN xs w.heap.size _ hG ?_⟩⟩
    have e1 : List.take (L.length + 1) ((((((L ++ [obj w.heap.size (.deferred (some []))] ++ [obj (w.heap.size + 1) (.loop (recOf fn n ρ p assign body w.heap.size))]).set (L.length + 1) emp).set i (star [Rx [], rec0 (w.heap.size + 1) fn n ρ p assign body w.heap.size .ready])).set i (star [Rx xs, rec0 (w.heap.size + 1) fn n ρ p assign body w.heap.size .ready])).set i (Rx xs) ++ [rec0 (w.heap.size + 1) fn n ρ p assign body w.heap.size .ready]).set (L.length + 2) (obj (w.heap.size + 1) (.loop { recOf fn n ρ p assign body w.heap.size with state := .exhausted }))) = L.set i (Rx xs) ++ [obj w.heap.size (.deferred (some []))] := by
      apply List.ext_getElem?
      intro k
      rw [List.getElem?_take]
      by_cases hk : k < L.length + 1
      · rw [if_pos hk, List.getElem?_set_ne (by omega), List.getElem?_append_left (by simp; omega)]
        by_cases hki : i = k
        · subst hki
          rw [List.getElem?_set_self (by simp; omega), List.getElem?_append_left (by simpa using hil), List.getElem?_set_self hil]
        · rw [List.getElem?_set_ne hki, List.getElem?_set_ne hki, List.getElem?_set_ne hki, List.getElem?_set_ne (by omega), List.getElem?_append_left (by simp; omega)]
          by_cases hkl : k < L.length
          · rw [List.getElem?_append_left hkl, List.getElem?_append_left (by simpa using hkl), List.getElem?_set_ne hki]
          · rw [List.getElem?_append_right (by omega), List.getElem?_append_right (by simp; omega)]
            simp
      · rw [if_neg hk, List.getElem?_eq_none (by simp; omega)]
    rw [e1] at h6
    exact h6
/-- what is deferred, at a function's end: nothing, or the mark of a loop -/
def Ends (P : Program) (fn : Func) (n : Nat) (Rp : Ending → World → Prop) (ds : List Deferred) (ρ : Env) (w : World) : Prop :=
  (ds = [] ∧ ∃ v, (results fn (fr n ρ).tmps).run P w = .ok v w ∧ Rp (.returned v) w) ∨
  ∃ d, ds = [{ target := .collected d, args := #[] }] ∧ ∃ w', (Instr.takeDeferred d).run P w = .ok [] w' ∧ ∃ v, (results fn (fr n ρ).tmps).run P w' = .ok v w' ∧ Rp (.returned v) w'
theorem calls_of_Wd {f : FuncId} {fn : Func} {c : Code} {args : Array Value} {Rp : Ending → World → Prop} (hf : P.funcs[f]? = some fn) (hb : fn.body = some c) (hn : fn.ntmps = n) (ha : Nat.ble args.size n = true)
    (h : Wd c0 P n c (Ends P fn n Rp) (Ends P fn n Rp) (fun i => args.getD i undef) w) : Calls P f args w Rp := by
  subst hn
  refine (callsIn_wide (n := 0)).1 (callsIn_of_wp_marks hf hb trivial ?_ rfl)
  rw [start_fr _ _ (Nat.le_of_ble_eq_true ha)]
  have key : ∀ ds ρ w, Ends P fn fn.ntmps Rp ds ρ w → LeavesInM Fence.wide 0 P fn (frd fn.ntmps ds ρ).tmps Rp (frd fn.ntmps ds ρ).defers .returning w := by
    rintro ds ρ w (⟨rfl, v, hv, hR⟩ | ⟨d, rfl, w', ht, v, hv, hR⟩)
    · exact ⟨v, hv, hR⟩
    · exact ⟨by simp, .inl ⟨d, w', rfl, ht, v, hv, hR⟩⟩
  refine wpIn_mono (F := Fence.wide) h (fun e a w hq => ?_)
  cases e with
  | normal => obtain ⟨ds, ρ, rfl, h⟩ := hq; exact key _ _ _ h
  | ret => obtain ⟨ds, ρ, rfl, h⟩ := hq; exact key _ _ _ h
  | _ => exact hq.elim
theorem ends_mark {fn : Func} {Rp : Ending → World → Prop} {d : Nat} {w0 : World} {M : Nat → Prop} {L : List Res} {V : Value} (hs : Own w0 M w L) (i : Nat) (hi : L[i]? = some (obj d (.deferred (some []))))
    (hv : ∀ w', (results fn (fr n ρ).tmps).run P w' = .ok V w') (h : ∀ w', Own w0 M w' (L.set i (obj d (.deferred none))) → Rp (.returned V) w') : Ends P fn n Rp [{ target := .collected d, args := #[] }] ρ w :=
  .inr ⟨d, rfl, _, run_takeDeferred (hs.get_obj i hi), V, hv _, h _ (hs.put' i _ hi)⟩
end
end Go.Vx
namespace Go.Vx
open Go.RowKit
theorem Own.at {w0 w : World} {M : Nat → Prop} {L : List Res} (hs : Own w0 M w L) {r : Nat} {o : Obj} (h : w0.heap[r]? = some o) (hm : ¬ M r) : w.heap[r]? = some o :=
  (hs.old r (Array.getElem?_eq_some_iff.1 h).1 hm).trans h
section
variable {P : Program} {ty : TypeId} {e : Operand → Value} {w : World} {K : Value → World → Prop} {w0 : World} {M : Nat → Prop} {L : List Res} {r : Nat}
theorem L_entryK {x : Operand} {es : Array MapEntry} {clock it : Nat} {seen : Array Nat} {a : MapEntry} {V : Value} (hr : w.heap[r]? = some (.map es clock)) (hinc : es.toList.Pairwise (fun a b => a.born < b.born)) (ha : a ∈ es.toList) (hV : a.key = V) (hs : Own w0 M w L) (i : Nat) (hi : L[i]? = some (iterR it r clock (seen.push a.born))) (hx : e x = .pointer (some ⟨it, 0, none⟩))
    (h : K (.tuple #[V, a.val]) w) : opW P (.entry x) ty e w K := by
  subst hV
  exact L_entry hr hinc ha hs i hi hx h
end
theorem left_mem {es : Array MapEntry} {seen : Array Nat} {a : MapEntry} (h : a ∈ left es seen) : a ∈ es.toList := (List.mem_filter.1 h).1
theorem ents_key {κ ν : Type} {ke : κ → Value} {ve : ν → Value} {l : List (κ × ν)} {es : Array MapEntry} {clock : Nat} (h : Ents ke ve l es clock) {a : MapEntry} (ha : a ∈ es.toList) : ∃ k, k ∈ l.map (·.1) ∧ a.key = ke k := by
  have : a.key ∈ es.toList.map (·.key) := List.mem_map.2 ⟨a, ha, rfl⟩
  rw [h.keys] at this
  obtain ⟨k, hk, he⟩ := List.mem_map.1 this
  exact ⟨k, hk, he.symm⟩
/-- one step of a walk through a map -/
theorem keys_step {κ ν : Type} {ke : κ → Value} {ve : ν → Value} {l : List (κ × ν)} {es : Array MapEntry} {clock : Nat} (h : Ents ke ve l es clock) {seen : Array Nat} {pre : List κ} {a : MapEntry} {k : κ} (ha : a ∈ left es seen) (hk : a.key = ke k)
    (hp : ((left es seen).map (·.key) ++ pre.map ke).Perm ((l.map (·.1)).map ke)) : ((left es (seen.push a.born)).map (·.key) ++ (pre ++ [k]).map ke).Perm ((l.map (·.1)).map ke) ∧ (left es (seen.push a.born)).length < (left es seen).length ∧ pre.length < l.length := by
  have h1 := left_push h.inc ha
  have h2 := h1.length_eq
  have h3 := hp.length_eq
  simp only [List.length_cons, List.length_append, List.length_map] at h2 h3
  refine ⟨?_, by omega, by omega⟩
  refine List.Perm.trans ?_ hp
  have h4 := (h1.map (·.key)).append_right (pre.map ke)
  refine List.Perm.trans ?_ h4.symm
  simp only [List.map_append, List.map_cons, List.map_nil, List.cons_append, hk]
  rw [← List.append_assoc]
  exact List.perm_append_singleton _ _
end Go.Vx
namespace Go.Vx
open Go.RowKit
/-- a slice in a box that grows -/
def accR {α : Type} (N bx T E k : Nat) (enc : α → List Value) (val : α → Value) (pre : List Value) : Res :=
  exR fun x : { x : List α × Option Addr × Nat // x.1.map val = pre ∧ pre.length ≤ N } => star [blk bx [.slice x.1.2.1 x.1.1.length x.1.2.2] T, row (.slice x.1.2.1 x.1.1.length x.1.2.2) (x.1.1.map enc) E k]
def okS {α : Type} (val : α → Value) (N : Nat) (pre : List Value) (x : Value) : Prop := (∃ d : α, x = val d) ∧ pre.length < N
/-- what a function that hands values on does -/
def Gives (P : Program) (f : Nat) (caps : List Value) (ok : List Value → Value → Prop) (G : List Value → Prop) (w0 : World) : Prop :=
  ∀ l w1 R S, (∃ L1, Own w0 no w1 L1) → (∀ b, S b → b < w1.heap.size) → (∀ b, S b → b < w0.heap.size → False) → (R []).holds w1 S → YieldC P l R ok →
    Calls P f ([Value.func (.yield l) #[] #[]] ++ caps).toArray w1 fun e w2 => ∃ v xs, e = .returned v ∧ G xs ∧ Own w1 S w2 [R xs]
end Go.Vx
namespace Go.Vx
open Go.RowKit
/-- what is asked of a sort: g answers an order; 'srt l m': m is l, sorted -/
def SortC {α : Type} (P : Program) (f g : Nat) (enc : α → List Value) (T k : Nat) (srt : List α → List α → Prop) : Prop :=
  ∀ w S a c l, (row (.slice a (List.length l) c) (l.map enc) T k).holds w S → (∀ b, S b → b < w.heap.size) → l.length < 4611686018427387904 →
    Calls P f #[.slice a l.length c, .func (.func g) #[] #[]] w fun e w' => ∃ x : { m : List α // srt l m }, e = .returned (.tuple #[]) ∧ Own w S w' [row (.slice a l.length c) (x.1.map enc) T k] ∧ True
end Go.Vx
