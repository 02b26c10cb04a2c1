/- Several resources as one; functions that are values; ranges over functions. -/
import Derived.Test.YtnanhhiofnohbaaVxJ
namespace Go.Vx
open Go.RowKit

/-- dots as keys -/
theorem KeyOk_dot {P : Program} {kt : Nat} {f1 f2 : Field} {k1 k2 : IntKind} (ht : P.underlying kt = some (.struct #[f1, f2])) (h1 : f1.name ≠ "_") (h2 : f2.name ≠ "_") (o1 : f1.offset = 0) (o2 : f2.offset = 1)
    (s1 : T1 P f1.type) (s2 : T1 P f2.type) (u1 : Ud P f1.type (.int k1)) (u2 : Ud P f2.type (.int k2))
    (heq : ∀ a b, EqF P 2 kt (.agg (dc a).toArray) (.agg (dc b).toArray) (decide (a = b))) : KeyOk P kt dv := by
  refine KeyOk_agg (D := 2) (enc := dc) ht rfl heq ?_ ?_
  · intro b k w
    show (Instr.checkKey b (9998 + 1 + 1) kt _).run P w = _
    generalize 9998 = n
    have e1 : ∀ (t : Nat) (kk : IntKind) (x : Int), Ud P t (.int kk) → (Instr.checkKey b (n + 1) t (.int kk x)).run P w = .ok () w := by
      intro t kk x hu
      simp only [Instr.checkKey, Sem.run_bind, hu w, Result.andThen_ok, Sem.run_pure]
    have e1' : ∀ (t : Nat) (kk kx : IntKind) (x : Int), Ud P t (.int kk) → (Instr.checkKey b (n + 1) t (.int kx x)).run P w = .ok () w := by
      intro t kk kx x hu
      simp only [Instr.checkKey, Sem.run_bind, hu w, Result.andThen_ok, Sem.run_pure]
    have p1 : (part f1.type (dc k).toArray f1.offset).run P w = .ok (.int .u8 k.rep) w := by rw [o1]; exact PartF_one s1 rfl w
    have p2 : (part f2.type (dc k).toArray f2.offset).run P w = .ok (.int .u32 k.seq) w := by rw [o2]; exact PartF_one s2 rfl w
    unfold Instr.checkKey
    simp only [Sem.run_bind, run_underlying ht, Result.andThen_ok]
    rw [← Array.forIn_toList]
    simp only [List.forIn_cons, List.forIn_nil, ne_eq, h1, h2, not_false_eq_true, if_true, Sem.run_bind, p1, p2, Result.andThen_ok, e1' _ _ _ _ u1, e1' _ _ _ _ u2, Sem.run_pure]
  · intro k
    show Instr.sameBits (9999 + 1) _ _ = true
    generalize 9999 = n
    simp [Instr.sameBits, dc]
/-! ## resources together -/
def star (L : List Res) : Res :=
  ⟨fun w S => ∃ T : Nat → Nat → Prop, (∀ k (R : Res), L[k]? = some R → R.holds w (T k)) ∧ (∀ k k' b, T k b → T k' b → k = k') ∧ ∀ b, S b ↔ ∃ k, k < L.length ∧ T k b, by
    rintro w w' S hw ⟨T, h1, h2, h3⟩
    refine ⟨T, fun k R hk => R.loc w w' _ (fun b hb => hw b ((h3 b).2 ⟨k, lt_of_get hk, hb⟩)) (h1 k R hk), h2, h3⟩⟩
def exR {α : Type} (f : α → Res) : Res := ⟨fun w S => ∃ a, (f a).holds w S, fun w w' S hw ⟨a, h⟩ => ⟨a, (f a).loc w w' S hw h⟩⟩
section
variable {w0 w : World} {M : Nat → Prop} {L : List Res}
/-- where one is lent all, one has its parts -/
theorem Own.open {S : Nat → Prop} (h : (star L).holds w S) (hlt : ∀ b, S b → b < w.heap.size) : Own w S w L := by
  obtain ⟨T, h1, h2, h3⟩ := h
  refine ⟨rfl, ⟨rfl, Nat.le_refl _⟩, rfl, Nat.le_refl _, fun _ _ _ => rfl, fun k b => k < L.length ∧ T k b, fun k R hk => ?_, fun k b hb => hlt b ((h3 b).2 ⟨k, hb⟩), fun k k' b hb hb' => h2 k k' b hb.2 hb'.2, fun k b hb _ => (h3 b).2 ⟨k, hb⟩⟩
  have hl := lt_of_get hk
  have e : (fun b => k < L.length ∧ T k b) = T k := by funext b; simp [hl]
  show R.holds w (fun b => k < L.length ∧ T k b)
  rw [e]
  exact h1 k R hk
theorem Own.shut (h : Own w0 M w L) : Own w0 M w [star L] := by
  obtain ⟨a, b, c, d, e, S, f, g, i, j⟩ := h
  refine ⟨a, b, c, d, e, fun k b => k = 0 ∧ ∃ k', k' < L.length ∧ S k' b, fun k R hk => ?_, fun k b ⟨_, k', _, hb⟩ => g k' b hb, fun k k' b hb hb' => hb.1.trans hb'.1.symm, fun k b ⟨_, k', _, hb⟩ hlt => j k' b hb hlt⟩
  cases k with
  | succ k => simp at hk
  | zero =>
    simp at hk
    subst hk
    exact ⟨S, f, i, fun b => by simp⟩
theorem Own.unshut (h : Own w0 M w [star L]) : Own w0 M w L := by
  obtain ⟨a, b, c, d, e, S, f, g, i, j⟩ := h
  obtain ⟨T, h1, h2, h3⟩ := f 0 _ rfl
  refine ⟨a, b, c, d, e, fun k b => k < L.length ∧ T k b, fun k R hk => ?_, fun k b hb => g 0 b ((h3 b).2 ⟨k, hb⟩), fun k k' b hb hb' => h2 k k' b hb.2 hb'.2, fun k b hb hlt => j 0 b ((h3 b).2 ⟨k, hb⟩) hlt⟩
  have hl := lt_of_get hk
  have e : (fun b => k < L.length ∧ T k b) = T k := by funext b; simp [hl]
  show R.holds w (fun b => k < L.length ∧ T k b)
  rw [e]
  exact h1 k R hk
theorem Own.pack {α : Type} {f : α → Res} (a : α) (h : Own w0 M w [f a]) : Own w0 M w [exR f] := h.conv 0 rfl fun _ h => ⟨a, h⟩
theorem Own.unpack {α : Type} {f : α → Res} {L : List Res} (i : Nat) (h : Own w0 M w L) (hi : L[i]? = some (exR f)) : ∃ a, Own w0 M w (L.set i (f a)) := by
  obtain ⟨a, b, c, d, e, S, g, r⟩ := h
  obtain ⟨x, hx⟩ := g i _ hi
  refine ⟨x, a, b, c, d, e, S, fun k Q hk => ?_, r⟩
  rw [List.getElem?_set] at hk
  by_cases hki : i = k
  · subst hki
    simp [lt_of_get hi] at hk
    subst hk
    exact hx
  · rw [if_neg hki] at hk; exact g k Q hk
end
/-- a resource that one is lent, at the beginning of a function -/
theorem Own.lent {R : Res} {w : World} {S : Nat → Prop} (h : R.holds w S) (hlt : ∀ b, S b → b < w.heap.size) : Own w S w [R] := Own.start1 h hlt
/-- two resources in place of one at i: the first stays there, the others come behind -/
theorem Own.split {w0 w : World} {M : Nat → Prop} {L : List Res} (h : Own w0 M w L) (i : Nat) {R : Res} {Rs : List Res} (hi : L[i]? = some (star (R :: Rs))) : Own w0 M w (L.set i R ++ Rs) := by
  obtain ⟨S, hS, hlt, back⟩ := h.lend i hi
  exact back w R Rs (Own.open hS hlt)
/-- resource j is put to resource i -/
theorem Own.join {w0 w : World} {M : Nat → Prop} {L : List Res} (h : Own w0 M w L) (i j : Nat) (hij : i ≠ j) {R Q : Res} (hi : L[i]? = some R) (hj : L[j]? = some Q) : Own w0 M w ((L.set j emp).set i (star [R, Q])) := by
  obtain ⟨a, b, c, d, e, S, f, g, i', j'⟩ := h
  refine ⟨a, b, c, d, e, fun k b => if k = i then S i b ∨ S j b else if k = j then False else S k b, fun k T hk => ?_, fun k b hb => ?_, fun k k' b hb hb' => ?_, fun k b hb hlt => ?_⟩
  · rw [List.getElem?_set] at hk
    by_cases hki : i = k
    · subst hki
      have hil := lt_of_get hi
      simp [hil] at hk
      subst hk
      show (star [R, Q]).holds w (fun b => if i = i then S i b ∨ S j b else if i = j then False else S i b)
      simp only [if_true]
      refine ⟨fun k => if k = 0 then S i else if k = 1 then S j else fun _ => False, fun k T hk => ?_, fun k k' b hb hb' => ?_, fun b => ?_⟩
      · match k with
        | 0 => simp at hk; subst hk; exact f i _ hi
        | 1 => simp at hk; subst hk; exact f j _ hj
        | k + 2 => simp at hk
      · match k, k' with
        | 0, 0 => rfl
        | 1, 1 => rfl
        | 0, 1 => exact absurd (i' i j b hb hb') hij
        | 1, 0 => exact absurd (i' i j b hb' hb) hij
        | k + 2, _ => simp at hb
        | 0, k + 2 => simp at hb'
        | 1, k + 2 => simp at hb'
      · constructor
        · rintro (h | h)
          · exact ⟨0, by simp, by simpa using h⟩
          · exact ⟨1, by simp, by simpa using h⟩
        · rintro ⟨k, hk, h⟩
          match k with
          | 0 => exact .inl (by simpa using h)
          | 1 => exact .inr (by simpa using h)
          | k + 2 => simp at h
    · rw [if_neg hki, List.getElem?_set] at hk
      have hki' : ¬ k = i := fun e => hki e.symm
      show T.holds w (fun b => if k = i then S i b ∨ S j b else if k = j then False else S k b)
      simp only [if_neg hki']
      by_cases hkj : j = k
      · subst hkj
        simp [lt_of_get hj] at hk
        subst hk
        trivial
      · rw [if_neg hkj] at hk
        have hkj' : ¬ k = j := fun e => hkj e.symm
        simp only [if_neg hkj']
        exact f k T hk
  · dsimp only at hb
    split at hb
    · rcases hb with h | h
      · exact g _ _ h
      · exact g _ _ h
    · split at hb
      · exact hb.elim
      · exact g _ _ hb
  · dsimp only at hb hb'
    split at hb <;> split at hb'
    · omega
    · split at hb'
      · exact hb'.elim
      · rcases hb with h | h
        · have := i' _ _ _ h hb'; omega
        · have := i' _ _ _ h hb'; omega
    · split at hb
      · exact hb.elim
      · rcases hb' with h | h
        · have := i' _ _ _ h hb; omega
        · have := i' _ _ _ h hb; omega
    · split at hb
      · exact hb.elim
      · split at hb'
        · exact hb'.elim
        · exact i' _ _ _ hb hb'
  · dsimp only at hb
    split at hb
    · rcases hb with h | h
      · exact j' _ _ h hlt
      · exact j' _ _ h hlt
    · split at hb
      · exact hb.elim
      · exact j' _ _ hb hlt

/-! ## functions that are values -/
section
variable {P : Program} {ty : TypeId} {e : Operand → Value} {w : World} {K : Value → World → Prop} {w0 : World} {M : Nat → Prop} {L : List Res}
theorem L_makeFunc {f : FuncId} {xs ys : List Operand} {cs : List Value} (hxs : xs = []) (hc : ys.map e = cs) (h : K (.func (.func f) #[] cs.toArray) w) : opW P (.makeFunc (.func f) xs.toArray ys.toArray) ty e w K := by
  subst hxs hc
  refine opW_val (w' := w) ?_ h
  simp [execOp, Instr.makeFunc]
theorem L_fn {f : FuncId} {x : Operand} {xs : List Operand} {vs cs : List Value} {ats : Array TypeId} (hf : En P f) (hx : e x = .func (.func f) #[] cs.toArray) (hv : xs.map e = vs) (h : Calls P f (vs ++ cs).toArray w fun r w' => ∃ v, r = .returned v ∧ K v w') :
    opW P (.call { callee := .value x, args := xs.toArray, argTypes := ats }) ty e w K := by
  refine opW_enter (f := f) (args := (vs ++ cs).toArray) ?_ h
  have hv' : xs.toArray.map e = vs.toArray := by rw [List.map_toArray, hv]
  have hf' := hf (vs ++ cs).toArray w
  simp only [execOp, resolve, hv', hx, Deferred.ofValue, Sem.run_bind, Sem.run_pure, Result.andThen_ok, invoke, List.append_toArray, List.nil_append, hf']
theorem L_yield {l : Nat} {x : Operand} {xs : List Operand} {vs : List Value} {ats : Array TypeId} (hx : e x = .func (.yield l) #[] #[]) (hv : xs.map e = vs)
    (h : ∃ f tmps assign body, (Instr.yield l vs.toArray).run P w = .ok (.round l f tmps assign body) w ∧ RoundIn Fence.wide 0 P l f tmps assign body w fun r w' => ∃ v, r = .returned v ∧ K v w') :
    opW P (.call { callee := .value x, args := xs.toArray, argTypes := ats }) ty e w K := by
  obtain ⟨f, tmps, assign, body, h1, h2⟩ := h
  refine ⟨rfl, ?_⟩
  have hv' : xs.toArray.map e = vs.toArray := by rw [List.map_toArray, hv]
  have : (execOp e { dst := none, op := .call { callee := .value x, args := xs.toArray, argTypes := ats }, type := ty, pos := "", after := #[], guard := none }).run P w = .ok (.round l f tmps assign body) w := by
    simp only [execOp, resolve, hv', hx, Deferred.ofValue, Sem.run_bind, Sem.run_pure, Result.andThen_ok, invoke, Array.empty_append, h1]
  rw [this]
  exact h2
/-- what a call of the body of a range over a function does: it takes what is handed, and goes on -/
def YieldC (P : Program) (l : Nat) (R : List Value → Res) (ok : List Value → Value → Prop) : Prop :=
  ∀ pre x w S, ok pre x → (R pre).holds w S → (∀ b, S b → b < w.heap.size) → ∃ f tmps assign body, (Instr.yield l #[x]).run P w = .ok (.round l f tmps assign body) w ∧
    RoundIn Fence.wide 0 P l f tmps assign body w fun r w' => r = .returned (.bool true) ∧ Own w S w' [R (pre ++ [x])]
theorem L_yieldC {l : Nat} {x y : Operand} {v : Value} {ats : Array TypeId} {R : List Value → Res} {ok : List Value → Value → Prop} {pre : List Value} (hy : YieldC P l R ok) (hx : e x = .func (.yield l) #[] #[]) (hv : e y = v) (hok : ok pre v) (hs : Own w0 M w L) (i : Nat) (hi : L[i]? = some (R pre))
    (h : ∀ w', Own w0 M w' (L.set i (R (pre ++ [v]))) → K (.bool true) w') : opW P (.call { callee := .value x, args := #[y], argTypes := ats }) ty e w K := by
  obtain ⟨S, hR, hlt, hback⟩ := hs.lend i hi
  obtain ⟨f, tmps, assign, body, h1, h2⟩ := hy pre v w S hok hR hlt
  refine L_yield (xs := [y]) (vs := [v]) hx (by simp [hv]) ⟨f, tmps, assign, body, h1, h2.mono fun r w' ⟨hr, ho⟩ => ⟨_, hr, h w' ?_⟩⟩
  have := hback w' _ [] ho
  simpa using this
end
end Go.Vx
namespace Go.Vx
open Go.RowKit
/-! ## cells that are read -/
def CellsF (w : World) (b : Nat) (cs : List Value) : Prop := ∀ j u, cs[j]? = some u → w.cell? ⟨b, j, none⟩ = some u
section
variable {P : Program} {ty : TypeId} {e : Operand → Value} {w : World} {K : Value → World → Prop} {w0 : World} {M : Nat → Prop} {L : List Res}
theorem CellsF.own {b : Nat} {cs : List Value} (h : CellsF w0 b cs) (hs : Own w0 M w L) (hm : ¬ M b) : CellsF w b cs := fun j u hj => by
  have hc := h j u hj
  rw [hs.cell (p := ⟨b, j, none⟩) (World.block_lt_of_cell? _ _ hc) hm]; exact hc
theorem CellsF.own' {b : Nat} {cs : List Value} (h : CellsF w0 b cs) (hs : Own w0 no w L) : CellsF w b cs := h.own hs (fun h => h)
theorem MapF.own' {κ ν : Type} {ke : κ → Value} {ve : ν → Value} {l : List (κ × ν)} {r : Nat} (h : MapF w0 r ke ve l) (hs : Own w0 no w L) : MapF w r ke ve l := h.own hs (fun h => h)
theorem Own.cellsf (hs : Own w0 M w L) (i : Nat) {b : Nat} {cs : List Value} {T : TypeId} (hi : L[i]? = some (blk b cs T)) : CellsF w b cs := fun j u hj => by
  rw [cell_of_row w b j _ T _ (hs.get_blk i hi)]; simpa using hj
theorem L_ldF {t n : Nat} {x : Operand} {b : Nat} {cs : List Value} {V : Value} (ht : T1 P t) (hc : CellsF w b cs) (hx : e x = .pointer (some ⟨b, n, none⟩)) (hv : cs[n]? = some V) (h : K V w) : opW P (.load t x) ty e w K :=
  L_ldc ht (hc n V hv) hx h
theorem L_ldFA {t k n : Nat} {x : Operand} {b : Nat} {cs vs : List Value} (ht : TA P t k) (hc : CellsF w b cs) (hx : e x = .pointer (some ⟨b, n, none⟩)) (hl : vs.length = k) (hv : (cs.drop n).take k = vs) (h : K (.agg vs.toArray) w) : opW P (.load t x) ty e w K := by
  refine L_ldcA ht hl (fun j u hj => hc (n + j) u ?_) hx h
  subst hv
  rw [List.getElem?_take] at hj
  split at hj
  · simpa [List.getElem?_drop] using hj
  · cases hj
end
/-! ## a set of dots in memory -/
structure Grp where
  v : Vec
  l : List (Dot × Unit)
def gcs (r : Nat) (g : Grp) : List Value := vc g.v ++ [.map (some r)]
def gR (T b r : Nat) (g : Grp) : Res := star [blk b (gcs r g) T, mapR r dv uv g.l]
section
variable {w w0 : World} {M : Nat → Prop} {L : List Res} {T b r : Nat} {g : Grp}
theorem gR_open {S : Nat → Prop} (h : (gR T b r g).holds w S) : (CellsF w b (gcs r g) ∧ MapF w r dv uv g.l) ∧ S b ∧ S r ∧ b ≠ r := by
  obtain ⟨T', h1, h2, h3⟩ := h
  have hb := h1 0 _ rfl
  have hm := h1 1 _ rfl
  refine ⟨⟨fun j u hj => ?_, hm.2⟩, (h3 b).2 ⟨0, by simp, hb.1⟩, (h3 r).2 ⟨1, by simp, hm.1⟩, fun e => ?_⟩
  · rw [cell_of_row w b j _ T _ hb.2]; simpa using hj
  · have := h2 0 1 b hb.1 (by rw [e]; exact hm.1)
    omega
theorem Own.gcells (hs : Own w0 M w L) (i : Nat) (hi : L[i]? = some (gR T b r g)) : CellsF w b (gcs r g) := by
  obtain ⟨S, h, _⟩ := hs.get i hi
  exact (gR_open h).1.1
theorem Own.gmap (hs : Own w0 M w L) (i : Nat) (hi : L[i]? = some (gR T b r g)) : MapF w r dv uv g.l := by
  obtain ⟨S, h, _⟩ := hs.get i hi
  exact (gR_open h).1.2
end
end Go.Vx
namespace Go.Vx
section
variable {P : Program} {ty : TypeId} {e : Operand → Value} {w : World} {K : Value → World → Prop} {κ : Type} [DecidableEq κ] {ke : κ → Value} {l : List (κ × Unit)} {r kt el t : Nat}
theorem uv_getD (o : Option Unit) : (o.map uv).getD (.agg #[]) = .agg #[] := by cases o <;> rfl
theorem L_lookupOkU {x y : Operand} {k : κ} (ht : Ud P t (.map kt el)) (hk : KeyOk P kt ke) (hz : Zv P el (.agg #[])) (hm : MapF w r ke uv l) (hx : e x = .map (some r)) (hy : e y = ke k) (h : K (.tuple #[.agg #[], .bool (mget k l).isSome]) w) : opW P (.lookup t x y true) ty e w K :=
  L_lookupOk ht hk hz hm hx hy (by rw [uv_getD]; exact h)
end
end Go.Vx
