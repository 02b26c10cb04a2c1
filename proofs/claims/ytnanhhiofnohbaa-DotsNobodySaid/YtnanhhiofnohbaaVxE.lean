/- Calls by their contracts; composite values. -/
import Derived.Test.YtnanhhiofnohbaaVxC
namespace Go.Vx
open Go.RowKit
section
variable {P : Program} {ty : TypeId} {e : Operand → Value} {w : World} {K : Value → World → Prop} {w0 : World} {M : Nat → Prop} {L : List Res}

/-- a call that answers a value and leaves nothing behind that is wanted -/
theorem L_callP {f : FuncId} {xs : List Operand} {vs : List Value} {ats : Array TypeId} {V : Value} (hf : En P f) (hef : e (.func f) = .func (.func f) #[] #[]) (hv : xs.map e = vs)
    (hc : Calls P f vs.toArray w fun r w' => r = .returned V ∧ Own w no w' []) (hs : Own w0 M w L) (h : ∀ w', Own w0 M w' L → K V w') :
    opW P (.call { callee := .value (.func f), args := xs.toArray, argTypes := ats }) ty e w K :=
  L_callN hf hef (by rw [List.map_toArray, hv]) (hc.mono fun r w' ⟨hr, ho⟩ => ⟨V, hr, h w' (hs.call0 ho)⟩)
/-- a call that answers something, with memory of its own -/
theorem L_callX {α : Type} {f : FuncId} {xs : List Operand} {vs : List Value} {ats : Array TypeId} {V : α → Value} {Lo : α → List Res} {F : α → World → Prop} (hf : En P f) (hef : e (.func f) = .func (.func f) #[] #[]) (hv : xs.map e = vs)
    (hc : Calls P f vs.toArray w fun r w' => ∃ x, r = .returned (V x) ∧ Own w no w' (Lo x) ∧ F x w') (hs : Own w0 M w L) (h : ∀ x w', Own w0 M w' (L ++ Lo x) → F x w' → K (V x) w') :
    opW P (.call { callee := .value (.func f), args := xs.toArray, argTypes := ats }) ty e w K :=
  L_callN hf hef (by rw [List.map_toArray, hv]) (hc.mono fun r w' ⟨x, hr, ho, hF⟩ => ⟨V x, hr, h x w' (hs.call ho) hF⟩)
/-- a call that changes what resource i is -/
theorem L_callB {α : Type} {f : FuncId} {xs : List Operand} {vs : List Value} {ats : Array TypeId} {V : α → Value} {R : Res} {R' : α → Res} {Lo : α → List Res} {F : α → World → Prop} (hf : En P f) (hef : e (.func f) = .func (.func f) #[] #[]) (hv : xs.map e = vs)
    (hs : Own w0 M w L) (i : Nat) (hi : L[i]? = some R)
    (hc : ∀ S, R.holds w S → (∀ b, S b → b < w.heap.size) → Calls P f vs.toArray w fun r w' => ∃ x, r = .returned (V x) ∧ Own w S w' (R' x :: Lo x) ∧ F x w') (h : ∀ x w', Own w0 M w' (L.set i (R' x) ++ Lo x) → F x w' → K (V x) w') :
    opW P (.call { callee := .value (.func f), args := xs.toArray, argTypes := ats }) ty e w K := by
  obtain ⟨S, hR, hlt, hback⟩ := hs.lend i hi
  exact L_callN hf hef (by rw [List.map_toArray, hv]) ((hc S hR hlt).mono fun r w' ⟨x, hr, ho, hF⟩ => ⟨V x, hr, h x w' (hback w' _ _ ho) hF⟩)

/-! ## composite values -/
def fillB (pl : List (Nat × Nat)) : List Value → List (Nat × Value) → Option (List Value)
  | cs, [] => some cs
  | cs, (i, v) :: rest =>
    match pl[i]? with
    | none => none
    | some (off, size) => cond (Nat.beq v.cells.toList.length size && Nat.ble (off + size) cs.length) (fillB pl (spl cs off v.cells.toList) rest) none
theorem spl_len : ∀ (vs cs : List Value) (o : Nat), (spl cs o vs).length = cs.length
  | [], _, _ => rfl
  | v :: vs, cs, o => by unfold spl; rw [spl_len vs]; simp
theorem foldl_spl : ∀ (vs : List Value) (cs : List Value) (o j : Nat), ((vs.zipIdx j).foldl (fun (cs : Array Value) (x : Value × Nat) => cs.setIfInBounds (o + x.2) x.1) cs.toArray) = (spl cs (o + j) vs).toArray
  | [], _, _, _ => rfl
  | v :: vs, cs, o, j => by
    simp only [List.zipIdx_cons, List.foldl_cons, spl, List.setIfInBounds_toArray]
    rw [foldl_spl vs (cs.set (o + j) v) o (j + 1)]
    rfl
theorem fill_of {pl : List (Nat × Nat)} {place : Nat → Option (Nat × Nat)} (hp : ∀ (i : Nat) p, pl[i]? = some p → place i = some p) : ∀ (vs : List (Nat × Value)) (cs cs' : List Value), fillB pl cs vs = some cs' → Instr.fill place cs.toArray vs = some cs'.toArray
  | [], cs, cs', h => by simp only [fillB] at h; cases h; rfl
  | (i, v) :: rest, cs, cs', h => by
    simp only [fillB] at h
    cases hpl : pl[i]? with
    | none => rw [hpl] at h; cases h
    | some p =>
      obtain ⟨off, size⟩ := p
      rw [hpl] at h
      dsimp only at h
      cases hb : (Nat.beq v.cells.toList.length size && Nat.ble (off + size) cs.length) with
      | false => rw [hb] at h; cases h
      | true =>
        rw [hb] at h
        simp only [cond_true] at h
        rw [Bool.and_eq_true] at hb
        have h1 : v.cells.size = size := by have := Nat.eq_of_beq_eq_true hb.1; simpa using this
        have h2 := Nat.le_of_ble_eq_true hb.2
        unfold Instr.fill
        rw [hp i _ hpl]
        dsimp only
        rw [if_neg (by simp [h1]; omega)]
        have h3 := foldl_spl v.cells.toList cs off 0
        have h4 : (v.cells.zipIdx.foldl (fun cs (c, j) => cs.setIfInBounds (off + j) c) cs.toArray) = (spl cs off v.cells.toList).toArray := by
          rw [Nat.add_zero] at h3
          rw [← h3]
          conv => lhs; rw [← Array.foldl_toList]
          rw [Array.toList_zipIdx]
        rw [h4]
        exact fill_of hp rest _ _ h
/-- how a struct is built -/
def Bt (P : Program) (t : Nat) (pl : List (Nat × Nat)) (z : List Value) : Prop := ∀ vs cs, fillB pl z vs = some cs → P.built t vs = some cs.toArray
theorem Bt_struct {t : Nat} {pl : List (Nat × Nat)} {z : List Value} {it : TypeInfo} {zv : Value} {fields : Array Field} (hi : P.info? t = some it) (hz : it.zero = some zv) (hzc : zv.cells = z.toArray) (hu : P.underlying t = some (.struct fields))
    (hp : fields.toList.mapM (fun f => (P.info? f.type).map fun i => (f.offset, i.size)) = some pl) : Bt P t pl z := by
  intro vs cs h
  unfold Program.built
  rw [hi, hu]
  dsimp only
  rw [hz, hp]
  dsimp only
  rw [hzc]
  exact fill_of (fun i p hip => by simpa using hip) vs z cs h
theorem Bt_array {t n el : Nat} {k : Nat} {pl : List (Nat × Nat)} {z : List Value} {it ie : TypeInfo} {zv : Value} (hi : P.info? t = some it) (hz : it.zero = some zv) (hzc : zv.cells = z.toArray) (hu : P.underlying t = some (.array n el))
    (he : P.info? el = some ie) (hk : ie.size = k) (hpl : pl = (List.range n).map fun i => (i * k, k)) : Bt P t pl z := by
  intro vs cs h
  unfold Program.built
  rw [hi, hu]
  dsimp only
  rw [hz, he]
  dsimp only
  rw [hzc, hk]
  refine fill_of (fun i p hip => ?_) vs z cs h
  subst hpl
  rw [List.getElem?_map] at hip
  cases hr : (List.range n)[i]? with
  | none => rw [hr] at hip; cases hip
  | some j =>
    rw [hr] at hip
    have : j = i := by
      have := List.getElem?_eq_some_iff.1 hr
      obtain ⟨h1, h2⟩ := this
      simpa using h2.symm
    subst this
    simpa using hip
theorem L_build {t : Nat} {pl : List (Nat × Nat)} {z cs : List Value} {ps : List (Nat × Operand)} {vs : List (Nat × Value)} (hb : Bt P t pl z) (hv : ps.map (fun (p : Nat × Operand) => (p.1, e p.2)) = vs) (hf : fillB pl z vs = some cs) (h : K (.agg cs.toArray) w) : opW P (.build t ps.toArray) ty e w K := by
  refine opW_val (w' := w) ?_ h
  have h1 : (ps.toArray.map fun (i, x) => (i, e x)).toList = vs := by rw [← hv]; simp
  simp only [execOp, Sem.run_bind, run_build w t _ cs.toArray (by rw [h1]; exact hb vs cs hf), Result.andThen_ok, Sem.run_pure]
end
end Go.Vx
