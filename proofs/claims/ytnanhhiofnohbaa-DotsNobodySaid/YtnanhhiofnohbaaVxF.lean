/- The shapes in which a region of any order, a loop and a function are handed over by the program that writes the walks. -/
import Derived.Test.YtnanhhiofnohbaaVxE
namespace Go.Vx
open Go.RowKit
section
variable {κ : Cx} {P : Program} {n : Nat} {N R : St} {X : Nat → St} {ρ : Env} {w : World}

theorem calls_of_Wn {f : FuncId} {fn : Func} {c : Code} {args : Array Value} {Rp : Ending → World → Prop} (hf : P.funcs[f]? = some fn) (hb : fn.body = some c) (hn : fn.ntmps = n) (ha : Nat.ble args.size n = true)
    (h : W c0 P n c (fun ρ w => ∃ v, (results fn (fr n ρ).tmps).run P w = .ok v w ∧ Rp (.returned v) w) (fun ρ w => ∃ v, (results fn (fr n ρ).tmps).run P w = .ok v w ∧ Rp (.returned v) w) (fun _ _ _ => False)
      (fun i => args.getD i undef) w) : Calls P f args w Rp := by
  subst hn
  exact calls_of_W hf hb (Nat.le_of_ble_eq_true ha) h

/-- one resource alone -/
theorem Own.only {w0 w : World} {M : Nat → Prop} {L : List Res} (h : Own w0 M w L) (i : Nat) {R : Res} (hi : L[i]? = some R) : Own w0 M w [R] := by
  obtain ⟨a, b, c, d, e, S, f, g, i', j⟩ := h
  refine ⟨a, b, c, d, e, fun k b => k = 0 ∧ S i b, fun k Q hk => ?_, fun k b h => g i b h.2, fun k k' b h h' => h.1.trans h'.1.symm, fun k b h => j i b h.2⟩
  cases k with
  | succ k => simp at hk
  | zero =>
    simp at hk
    subst hk
    have e1 : (fun b => (0 : Nat) = 0 ∧ S i b) = S i := by funext b; simp
    show R.holds w (fun b => (0 : Nat) = 0 ∧ S i b)
    rw [e1]; exact f i R hi
/-! ## regions -/
abbrev Deps := List (List Nat)
def Step (P : Program) (n : Nat) (l : List Oper) (ρ0 : Env) (ds : List Nat) (dl : Deps) (Inv : (Nat → Bool) → St) (i : Nat) (o : Oper) : Prop :=
  ∀ (D : Nat → Bool) (ρ : Env) (w : World), D i = false → (∀ j ∈ (dl[i]?).getD [], D j = true) → (∀ j e, dl[j]? = some e → D j = true → ∀ k ∈ e, D k = true) → (∀ t, t ∉ ds → ρ t = ρ0 t) → Inv D ρ w →
    (Region.wanted o (yielded l.toArray (fr n ρ).tmps) = true ∧ opW P o.op o.type (ev n ρ) w (fun v w' => Inv (mark D i) (updO ρ o.dst v) w')) ∨
    (Region.wanted o (yielded l.toArray (fr n ρ).tmps) = false ∧ Inv (mark D i) (updO ρ o.dst undef) w)
def Steps' (P : Program) (n : Nat) (l : List Oper) (ρ0 : Env) (ds : List Nat) (dl : Deps) (Inv : (Nat → Bool) → St) : Nat → List Oper → Prop
  | _, [] => True
  | k, o :: m => Step P n l ρ0 ds dl Inv k o ∧ Steps' P n l ρ0 ds dl Inv (k + 1) m
def upto (len : Nat) (D : Nat → Bool) : Nat → Bool := fun j => Nat.blt j len && D j
theorem upto_mark (len i : Nat) (D : Nat → Bool) (h : i < len) : upto len (mark D i) = mark (upto len D) i := by
  funext j
  unfold upto mark
  rw [beq_eq]
  by_cases hj : j = i
  · subst hj; simp [h, blt_eq]
  · simp [hj]
theorem rising_lt {l : List Oper} (hrise : rising l = true) {j : Nat} {o : Oper} (hj : l[j]? = some o) {i : Nat} (hi : i ∈ deps o) : i < j := by
  unfold rising at hrise
  rw [List.all_eq_true] at hrise
  have := hrise (o, j) (by rw [List.mem_zipIdx_iff_getElem?]; exact hj)
  simp only [List.all_eq_true] at this
  have h2 := this i hi
  rw [blt_eq] at h2
  exact of_decide_eq_true h2
theorem lt_of_get {α : Type} {l : List α} {j : Nat} {o : α} (hj : l[j]? = some o) : j < l.length := by
  rcases Nat.lt_or_ge j l.length with h | h
  · exact h
  · rw [List.getElem?_eq_none h] at hj; cases hj
theorem steps_conv {l : List Oper} {ρ0 : Env} {ds : List Nat} {dl : Deps} {Inv : (Nat → Bool) → St} (hrise : rising l = true) (hds : dsts l = ds) (hdl : l.map deps = dl) : ∀ (m : List Oper) (k : Nat), (∀ j, m[j]? = l[k + j]?) → Steps' P n l ρ0 ds dl Inv k m →
    AllSteps P n l ρ0 (fun D => Inv (upto l.length D)) k m
  | [], _, _, _ => trivial
  | o :: m, k, hm, h => by
    have h0 : l[k]? = some o := by simpa using (hm 0).symm
    have hk : k < l.length := lt_of_get h0
    have hm' : ∀ j, m[j]? = l[k + 1 + j]? := fun j => by
      have := hm (j + 1)
      simp only [List.getElem?_cons_succ] at this
      rw [this]; congr 1; omega
    refine ⟨?_, steps_conv hrise hds hdl m (k + 1) hm' h.2⟩
    intro D ρ w hD hd hdc hf hI
    have hdlk : dl[k]? = some (deps o) := by rw [← hdl, List.getElem?_map, h0]; rfl
    have hup : ∀ j, j < l.length → D j = true → upto l.length D j = true := by
      intro j hj hd
      unfold upto
      rw [blt_eq]
      simp [hj, hd]
    show (Region.wanted o (yielded l.toArray (fr n ρ).tmps) = true ∧ opW P o.op o.type (ev n ρ) w fun v w' => Inv (upto l.length (mark D k)) (updO ρ o.dst v) w') ∨ (Region.wanted o (yielded l.toArray (fr n ρ).tmps) = false ∧ Inv (upto l.length (mark D k)) (updO ρ o.dst undef) w)
    rw [upto_mark _ _ _ hk]
    refine h.1 (upto l.length D) ρ w (by unfold upto; rw [hD]; simp) ?_ ?_ (by rw [← hds]; exact hf) hI
    · rw [hdlk]
      intro j hj
      exact hup j (Nat.lt_trans (rising_lt hrise h0 hj) hk) (hd j hj)
    · intro j e he hj i hi
      rw [← hdl, List.getElem?_map] at he
      cases hlj : l[j]? with
      | none => rw [hlj] at he; cases he
      | some o' =>
        rw [hlj] at he
        simp only [Option.map_some, Option.some.injEq] at he
        subst he
        have hDj : D j = true := by unfold upto at hj; simp at hj; exact hj.2
        exact hup i (Nat.lt_trans (rising_lt hrise hlj hi) (lt_of_get hlj)) (hdc j o' hlj hDj i hi)
theorem upto_false (len : Nat) : upto len (fun _ => false) = fun _ => false := by funext j; simp [upto]
theorem W_inv2 {id : Nat} {l : List Oper} (ds : List Nat) (dl : Deps) (Inv : (Nat → Bool) → St) (hrise : rising l = true) (hds : dsts l = ds) (hdl : l.map deps = dl) (h0 : Inv (fun _ => false) ρ w) (hs : Steps' P n l ρ ds dl Inv 0 l)
    (he : ∀ ρ' w' D, (∀ j, Nat.blt j l.length = true → D j = true) → (∀ t, t ∉ ds → ρ' t = ρ t) → Inv D ρ' w' → N ρ' w') : W κ P n (.region id l.toArray false) N R X ρ w := by
  refine W_inv hrise (fun D => Inv (upto l.length D)) ?_ (by rw [upto_false]; exact h0) (stepsAll (steps_conv hrise hds hdl l 0 (by simp) hs)) ?_
  · intro D D' ρ w h hI
    have : upto l.length D = upto l.length D' := by
      funext j
      unfold upto
      rw [blt_eq]
      by_cases hj : j < l.length
      · simp [hj, h j hj]
      · simp [hj]
    rw [← this]; exact hI
  · intro ρ' w' hf hI
    exact he ρ' w' _ (fun j hj => by unfold upto; rw [hj]; rfl) (by rw [← hds]; exact hf) hI
theorem W_draw2 {id : Nat} {l : List Oper} (hm : P.follows .mixedOrders = true) (ds : List Nat) (dl : Deps) (Inv : (Nat → Bool) → St) (hrise : rising l = true) (hds : dsts l = ds) (hdl : l.map deps = dl) (h0 : Inv (fun _ => false) ρ w.drew) (hs : Steps' P n l ρ ds dl Inv 0 l)
    (he : ∀ ρ' w' D, (∀ j, Nat.blt j l.length = true → D j = true) → (∀ t, t ∉ ds → ρ' t = ρ t) → Inv D ρ' w' → N ρ' w') : W κ P n (.region id l.toArray true) N R X ρ w := by
  refine W_draw hm hrise (fun D => Inv (upto l.length D)) ?_ (by rw [upto_false]; exact h0) (stepsAll (steps_conv hrise hds hdl l 0 (by simp) hs)) ?_
  · intro D D' ρ w h hI
    have : upto l.length D = upto l.length D' := by
      funext j
      unfold upto
      rw [blt_eq]
      by_cases hj : j < l.length
      · simp [hj, h j hj]
      · simp [hj]
    rw [← this]; exact hI
  · intro ρ' w' hf hI
    exact he ρ' w' _ (fun j hj => by unfold upto; rw [hj]; rfl) (by rw [← hds]; exact hf) hI
/-- what waits for an operation that has not come is not done -/
theorem doneC {D : Nat → Bool} {dl : Deps} (hdc : ∀ j e, dl[j]? = some e → D j = true → ∀ k ∈ e, D k = true) {j : Nat} {e : List Nat} (he : dl[j]? = some e) (hj : D j = true) {k : Nat} (hk : e.any (Nat.beq k) = true) : D k = true := by
  refine hdc j e he hj k ?_
  rw [List.any_eq_true] at hk
  obtain ⟨x, hx, hb⟩ := hk
  rw [Nat.eq_of_beq_eq_true hb]; exact hx
theorem notYetD {dl : Deps} {D : Nat → Bool} (hdc : ∀ j e, dl[j]? = some e → D j = true → ∀ k ∈ e, D k = true) {i j : Nat} {e : List Nat} (hj : dl[j]? = some e) (hm : e.any (Nat.beq i) = true) (hD : D i = false) : D j = false := by
  cases h : D j with
  | false => rfl
  | true =>
    rw [List.any_eq_true] at hm
    obtain ⟨x, hx, hb⟩ := hm
    rw [beq_eq] at hb
    have := of_decide_eq_true hb
    subst this
    have := hdc j e hj h i hx
    rw [hD] at this; cases this
theorem doneD {dl : Deps} {D : Nat → Bool} {i : Nat} (hd : ∀ j ∈ (dl[i]?).getD [], D j = true) (j : Nat) (h : ((dl[i]?).getD []).any (Nat.beq j) = true) : D j = true := by
  rw [List.any_eq_true] at h
  obtain ⟨x, hx, hb⟩ := h
  rw [beq_eq] at hb
  have := of_decide_eq_true hb
  subst this
  exact hd _ hx
theorem outD {ds : List Nat} {ρ ρ0 : Env} (hf : ∀ t, t ∉ ds → ρ t = ρ0 t) (t : Nat) (h : ds.any (Nat.beq t) = false) : ρ t = ρ0 t := by
  refine hf t fun hm => ?_
  rw [List.any_eq_false] at h
  exact h t hm (by simp)
theorem condT {α : Type} {g : Bool} {a b : α} (h : g = true) : cond g a b = a := by subst h; rfl
theorem condF {α : Type} {g : Bool} {a b : α} (h : g = false) : cond g a b = b := by subst h; rfl
/-- whether a guarded operation is carried out -/
theorem wantG {l : List Oper} {o : Oper} {j : Nat} {want G T : Bool} (ho : o.guard = some (j, want)) (h : gv n ρ l j = cond G (.bool T) undef) : Region.wanted o (yielded l.toArray (fr n ρ).tmps) = (G && (T == want)) := by
  unfold Region.wanted
  rw [ho]
  dsimp only
  rw [yielded_fr, h]
  cases G with
  | false => simp [undef]
  | true => cases T <;> cases want <;> rfl
theorem wantG1 {l : List Oper} {o : Oper} {j : Nat} {want T : Bool} (ho : o.guard = some (j, want)) (h : gv n ρ l j = .bool T) : Region.wanted o (yielded l.toArray (fr n ρ).tmps) = (T == want) := by
  have := wantG (G := true) ho h
  simpa using this

theorem wantG0 {l : List Oper} {o : Oper} {j : Nat} {want : Bool} (ho : o.guard = some (j, want)) (h : gv n ρ l j = undef) : Region.wanted o (yielded l.toArray (fr n ρ).tmps) = false := by
  have := wantG (G := false) (T := true) ho (by simpa using h)
  simpa using this
/-- guarded operations whose test is known -/
theorem RW_gy {all l : List Oper} {K : St} {dst : Option Tmp} {op : Op} {ty : TypeId} {pos : String} {after : Array Edge} {j : Nat} {want : Bool} (hg : gv n ρ all j = .bool want)
    (h : opW P op ty (ev n ρ) w (fun v w' => RW P n all K l (updO ρ dst v) w')) : RW P n all K ({ dst, op, type := ty, pos, after, guard := some (j, want) } :: l) ρ w :=
  .inl ⟨by rw [wantG1 (j := j) (want := want) rfl hg]; cases want <;> rfl, h⟩
theorem RW_gn {all l : List Oper} {K : St} {dst : Option Tmp} {op : Op} {ty : TypeId} {pos : String} {after : Array Edge} {j : Nat} {want T : Bool} (hg : gv n ρ all j = .bool T) (ht : (T == want) = false)
    (h : RW P n all K l (updO ρ dst undef) w) : RW P n all K ({ dst, op, type := ty, pos, after, guard := some (j, want) } :: l) ρ w :=
  .inr ⟨by rw [wantG1 (j := j) (want := want) rfl hg]; exact ht, h⟩
theorem opW_to {op : Op} {ty : TypeId} {e : Operand → Value} {K : Value → World → Prop} {V V' : Value} (h : opW P op ty e w (fun v w' => v = V ∧ w' = w)) (hV : V = V') (hk : K V' w) : opW P op ty e w K :=
  opW_mono h fun v w' ⟨a, b⟩ => by subst a; subst b; rw [hV]; exact hk
/-! ## loops -/
theorem W_loopI {c : Code} (I : Env → Nat → St) (h0 : ∃ k, I ρ k ρ w) (hr : ∀ k ρ' w', I ρ k ρ' w' → W κ P n c (fun ρ'' w'' => ∃ k', k' < k ∧ I ρ k' ρ'' w'') R X ρ' w') : W κ P n (.loop c) N R X ρ w :=
  let ⟨k, h0⟩ := h0; W_loop (I ρ) k h0 hr
end
/-- the block of a pointer -/
def aOf : Value → Option Addr
  | .slice a _ _ => a
  | _ => none
def cOf : Value → Nat
  | .slice _ _ c => c
  | _ => 0
def bOf : Value → Nat
  | .pointer (some a) => a.block
  | .slice (some a) _ _ => a.block
  | _ => 0
theorem Own.put {w0 w : World} {M : Nat → Prop} {L : List Res} {R : Res} (h : Own w0 M w (L ++ [R])) (k : Nat) (hk : k < L.length) : Own w0 M w (L.set k R) := by
  obtain ⟨a, b, c, d, e, S, f, g, i, j⟩ := h
  refine ⟨a, b, c, d, e, fun m b => (m ≠ k ∧ m < L.length ∧ S m b) ∨ (m = k ∧ S L.length b), ?_, ?_, ?_, ?_⟩
  · intro m Q hm
    rw [List.getElem?_set] at hm
    by_cases hkm : k = m
    · subst hkm
      simp [hk] at hm
      subst hm
      have := f L.length R (by simp)
      have e1 : (fun b => (k ≠ k ∧ k < L.length ∧ S k b) ∨ (k = k ∧ S L.length b)) = S L.length := by funext b; simp
      show R.holds w (fun b => (k ≠ k ∧ k < L.length ∧ S k b) ∨ (k = k ∧ S L.length b))
      rw [e1]; exact this
    · rw [if_neg hkm] at hm
      have hml : m < L.length := lt_of_get hm
      have := f m Q (by rw [List.getElem?_append, if_pos hml]; exact hm)
      have e1 : (fun b => (m ≠ k ∧ m < L.length ∧ S m b) ∨ (m = k ∧ S L.length b)) = S m := by
        funext b
        apply propext
        constructor
        · rintro (⟨_, _, h⟩ | ⟨h, _⟩)
          · exact h
          · exact absurd h.symm hkm
        · exact fun h => .inl ⟨fun e => hkm e.symm, hml, h⟩
      show Q.holds w (fun b => (m ≠ k ∧ m < L.length ∧ S m b) ∨ (m = k ∧ S L.length b))
      rw [e1]; exact this
  · rintro m b (⟨_, _, h⟩ | ⟨_, h⟩)
    · exact g m b h
    · exact g _ b h
  · rintro m m' b (⟨h1, h2, h3⟩ | ⟨h1, h3⟩) (⟨h4, h5, h6⟩ | ⟨h4, h6⟩)
    · exact i m m' b h3 h6
    · have := i m _ b h3 h6; omega
    · have := i m' _ b h6 h3; omega
    · omega
  · rintro m b (⟨_, _, h⟩ | ⟨_, h⟩) hb
    · exact j m b h hb
    · exact j _ b h hb

theorem mapc {e : Operand → Value} {x : Operand} {v : Value} {l : List Operand} {vs : List Value} (h : e x = v) (t : l.map e = vs) : (x :: l).map e = v :: vs := by rw [List.map_cons, h, t]
theorem mapb {e : Operand → Value} {i : Nat} {x : Operand} {v : Value} {l : List (Nat × Operand)} {vs : List (Nat × Value)} (h : e x = v) (t : l.map (fun (p : Nat × Operand) => (p.1, e p.2)) = vs) : ((i, x) :: l).map (fun (p : Nat × Operand) => (p.1, e p.2)) = (i, v) :: vs := by rw [List.map_cons, t]; simp only [h]
theorem not_t {b : Bool} (h : (!b) = true) : b = false := by cases b <;> first | rfl | cases h
theorem not_f {b : Bool} (h : (!b) = false) : b = true := by cases b <;> first | rfl | cases h
theorem and_l {a b : Bool} (h : (a && b) = true) : a = true := by cases a <;> first | rfl | cases h
theorem and_r {a b : Bool} (h : (a && b) = true) : b = true := by cases a <;> cases b <;> first | rfl | cases h
theorem and_mk {a b : Bool} (h : a = true) (h' : b = true) : (a && b) = true := by subst h; subst h'; rfl
theorem beqT {a b : Bool} (h : a = b) : (a == b) = true := by subst h; cases a <;> rfl
theorem or_l {a b : Bool} (h : (a || b) = false) : a = false := by cases a <;> first | rfl | cases h
theorem or_r {a b : Bool} (h : (a || b) = false) : b = false := by cases a <;> cases b <;> first | rfl | cases h
/-! ## bounds, and cells at a computed place -/
section
variable {x : Int}
theorem wr_i64 (h0 : -9223372036854775808 ≤ x) (h1 : x ≤ 9223372036854775807) : IntKind.i64.wrap x = x := IntWalk.i64_in _ ⟨h0, h1⟩
theorem wr_u8 (h0 : 0 ≤ x) (h1 : x ≤ 255) : IntKind.u8.wrap x = x := IntWalk.u8_in _ ⟨h0, h1⟩
theorem wr_u16 (h0 : 0 ≤ x) (h1 : x ≤ 65535) : IntKind.u16.wrap x = x := IntWalk.u16_in _ ⟨h0, h1⟩
theorem wr_u32 (h0 : 0 ≤ x) (h1 : x ≤ 4294967295) : IntKind.u32.wrap x = x := IntWalk.u32_in _ ⟨h0, h1⟩
theorem wr_u64 (h0 : 0 ≤ x) (h1 : x ≤ 18446744073709551615) : IntKind.u64.wrap x = x := IntWalk.u64_in _ ⟨h0, h1⟩
theorem wm_u32 (x : Int) : IntKind.u32.wrap x = x % 4294967296 := by rw [IntKind.wrap_u32]
theorem wm_u8 (x : Int) : IntKind.u8.wrap x = x % 256 := by rw [IntKind.wrap_u8]
theorem wm_u16 (x : Int) : IntKind.u16.wrap x = x % 65536 := by rfl
end
end Go.Vx
