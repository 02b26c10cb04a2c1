/- A part of a proof: what functions of the program compute, and plain facts on that. -/
import Derived.Test.YthejeobcehpdcaaGreatDoorScriptNobodyP2
import Derived.Laws.Externs
set_option linter.unusedVariables false
set_option linter.unusedSectionVars false
set_option linter.unusedSimpArgs false
namespace Go.Ce
open Go.RowKit Go.Vx
variable [Tok]
theorem beqC_cons {a b : AV} {l m : List AV} {r : Bool} (h : beqC (a :: l) (b :: m) = some r) : ∃ x y, beqS a b = some x ∧ beqC l m = some y ∧ r = (x && y) := by
  have h : (beqS a b).bind (fun x => (beqC l m).map fun y => x && y) = some r := h
  obtain ⟨x, hx, h⟩ := bind_some h
  obtain ⟨y, hy, h⟩ := map_some h
  exact ⟨x, y, hx, hy, h.symm⟩
theorem beqC_split : ∀ (k : Nat) {l m : List AV} {r : Bool}, beqC l m = some r → ∃ x y, beqC (l.take k) (m.take k) = some x ∧ beqC (l.drop k) (m.drop k) = some y ∧ r = (x && y)
  | 0, l, m, r, h => ⟨true, r, by simp; rfl, by simpa using h, by simp⟩
  | k + 1, [], [], r, h => by
    cases h
    exact ⟨true, true, rfl, rfl, rfl⟩
  | k + 1, [], _ :: _, r, h => by cases h
  | k + 1, _ :: _, [], r, h => by cases h
  | k + 1, a :: l, b :: m, r, h => by
    obtain ⟨x, y, h1, h2, h3⟩ := beqC_cons h
    obtain ⟨u, v, h4, h5, h6⟩ := beqC_split k h2
    refine ⟨x && u, v, ?_, h5, by rw [h3, h6, Bool.and_assoc]⟩
    show (beqS a b).bind (fun x => (beqC (l.take k) (m.take k)).map fun y => x && y) = _
    rw [h1, h4]; rfl
def Eqp (P : Program) (D t : Nat) (sh : List Nat) : Prop := ∀ (σ : Sig) (xs ys : List AV) (vs us : List Value) (r : Bool) (off : Nat), RelL σ xs vs → RelL σ ys us → ((xs.drop off).take sh.length).map shp = sh → ((ys.drop off).take sh.length).map shp = sh →
  beqC ((xs.drop off).take sh.length) ((ys.drop off).take sh.length) = some r → ∃ v u, PartF P t vs off v ∧ PartF P t us off u ∧ EqF P D t v u r
def Eqa (P : Program) (D t : Nat) (sh : List Nat) : Prop := ∀ (σ : Sig) (xs ys : List AV) (vs us : List Value) (r : Bool), RelL σ xs vs → RelL σ ys us → xs.map shp = sh → ys.map shp = sh → beqC xs ys = some r → EqF P D t (.agg vs.toArray) (.agg us.toArray) r
theorem Eqp.up {P : Program} {D D' t : Nat} {sh : List Nat} (h : Eqp P D t sh) (hd : D ≤ D') : Eqp P D' t sh := fun σ xs ys vs us r off h1 h2 h3 h4 h5 => by
  obtain ⟨v, u, a, b, c⟩ := h σ xs ys vs us r off h1 h2 h3 h4 h5
  exact ⟨v, u, a, b, c.up hd⟩
theorem one_at {σ : Sig} {xs : List AV} {vs : List Value} {off s : Nat} (h1 : RelL σ xs vs) (h : ((xs.drop off).take 1).map shp = [s]) : ∃ a v, (xs.drop off).take 1 = [a] ∧ shp a = s ∧ vs[off]? = some v ∧ Rel σ a v := by
  have hl : off < xs.length := by
    rcases Nat.lt_or_ge off xs.length with h2 | h2
    · exact h2
    · rw [List.drop_eq_nil_of_le h2] at h; cases h
  have d1 : (xs.drop off).take 1 = [xs[off]] := by rw [List.drop_eq_getElem_cons hl]; rfl
  obtain ⟨v, hv, rv⟩ := h1.at (List.getElem?_eq_getElem hl)
  rw [d1] at h
  exact ⟨_, v, d1, by simpa using h, hv, rv⟩
theorem shp_int {a : AV} {k : IntKind} (h : shp a = kd k) : ∃ x, a = .i k x := by
  cases a
  case i j x => exact ⟨x, by rw [kd_inj h]⟩
  all_goals (cases k <;> cases h)
theorem beq_one {a b : AV} {r : Bool} (h : beqC [a] [b] = some r) : beqS a b = some r := by
  obtain ⟨x, y, h6, h7, h8⟩ := beqC_cons h
  have h7 : some true = some y := h7
  cases h7
  rw [h6, h8]; simp
theorem Eqp_int {P : Program} {t : Nat} {k : IntKind} (ht : T1 P t) (hu : Ud P t (.int k)) : Eqp P 1 t [kd k] := by
  intro σ xs ys vs us r off h1 h2 h3 h4 h5
  obtain ⟨a, v, e1, e2, e3, e4⟩ := one_at h1 h3
  obtain ⟨b, u, f1, f2, f3, f4⟩ := one_at h2 h4
  obtain ⟨x, rfl⟩ := shp_int e2
  obtain ⟨y, rfl⟩ := shp_int f2
  cases e4; cases f4
  have h5 : beqC ((xs.drop off).take 1) ((ys.drop off).take 1) = some r := h5
  rw [e1, f1] at h5
  have h6 := beq_one h5
  have h6 : cond (Nat.beq (kd k) (kd k)) (some (eqI x y)) none = some r := h6
  rw [Nat.beq_refl, cond_true, eqI_eq] at h6
  cases h6
  exact ⟨_, _, PartF_one ht e3, PartF_one ht f3, EqF_int hu⟩
theorem Eqp_agg {P : Program} {D t : Nat} {sh : List Nat} (ht : TA P t sh.length) (h : Eqa P D t sh) : Eqp P D t sh := by
  intro σ xs ys vs us r off h1 h2 h3 h4 h5
  have l1 : ((vs.drop off).take sh.length).length = sh.length := by
    rw [((h1.drop off).take sh.length).len]
    have := congrArg List.length h3
    simpa using this
  have l2 : ((us.drop off).take sh.length).length = sh.length := by
    rw [((h2.drop off).take sh.length).len]
    have := congrArg List.length h4
    simpa using this
  exact ⟨_, _, PartF_agg ht l1 rfl, PartF_agg ht l2 rfl, h σ _ _ _ _ r ((h1.drop off).take _) ((h2.drop off).take _) h3 h4 h5⟩
inductive FsS (P : Program) (D : Nat) : Nat → List Field → List Nat → Prop where
  | nil {off : Nat} : FsS P D off [] []
  | cons {off : Nat} {f : Field} {fs : List Field} {sh sh' : List Nat} (h1 : f.offset = off) (h2 : f.name ≠ "_") (h3 : Eqp P D f.type sh) (h4 : FsS P D (off + sh.length) fs sh') : FsS P D off (f :: fs) (sh ++ sh')
theorem FsS.more {P : Program} {D off : Nat} {f : Field} {fs : List Field} {sh sh' tot : List Nat} (h3 : Eqp P D f.type sh) (ht : tot = sh ++ sh') (h1 : f.offset = off) (h2 : f.name ≠ "_") (h4 : FsS P D (off + sh.length) fs sh') : FsS P D off (f :: fs) tot := by
  subst ht; exact .cons h1 h2 h3 h4
theorem map_app {l : List AV} {s s' : List Nat} (h : l.map shp = s ++ s') : (l.take s.length).map shp = s ∧ (l.drop s.length).map shp = s' := by
  rw [List.map_take, List.map_drop, h]
  exact ⟨List.take_left' rfl, List.drop_left' rfl⟩
theorem FsS.eqs {P : Program} {D off : Nat} {fs : List Field} {sh : List Nat} (h : FsS P D off fs sh) : ∀ {σ : Sig} {xs ys : List AV} {vs us : List Value} {r : Bool}, RelL σ xs vs → RelL σ ys us → (xs.drop off).map shp = sh → (ys.drop off).map shp = sh → beqC (xs.drop off) (ys.drop off) = some r → EqFs P D vs us fs r := by
  induction h with
  | nil =>
    intro σ xs ys vs us r h1 h2 h3 h4 h5
    rw [List.map_eq_nil_iff.1 h3, List.map_eq_nil_iff.1 h4] at h5
    cases h5
    exact .nil
  | @cons off f fs sh sh' e1 e2 e3 _ ih =>
    intro σ xs ys vs us r h1 h2 h3 h4 h5
    obtain ⟨x, y, q1, q2, rfl⟩ := beqC_split sh.length h5
    obtain ⟨a1, a2⟩ := map_app h3
    obtain ⟨b1, b2⟩ := map_app h4
    obtain ⟨v, u, p1, p2, p3⟩ := e3 σ xs ys vs us x off h1 h2 a1 b1 q1
    rw [List.drop_drop] at a2 b2 q2
    rw [List.drop_drop] at q2
    refine .cons e2 (by rw [e1]; exact p1) (by rw [e1]; exact p2) p3 (ih h1 h2 a2 b2 q2)
theorem Eqa_struct {P : Program} {D t : Nat} {fs : Array Field} {sh : List Nat} (ht : P.underlying t = some (.struct fs)) (hp : P.stoodInHeld t = false) (h : FsS P D 0 fs.toList sh) : Eqa P (D + 1) t sh := by
  intro σ xs ys vs us r h1 h2 h3 h4 h5
  exact EqF_struct ht hp (h.eqs (σ := σ) (xs := xs) (ys := ys) h1 h2 (by simpa using h3) (by simpa using h4) (by simpa using h5))
theorem beqC_all {k : IntKind} : ∀ {l m : List AV} {r : Bool}, (∀ a ∈ l, shp a = kd k) → (∀ a ∈ m, shp a = kd k) → beqC l m = some r → l.length = m.length ∧ (r = true ↔ ∀ (i : Nat) (a b : AV), l[i]? = some a → m[i]? = some b → beqS a b = some true)
  | [], [], r, _, _, h => by cases h; simp
  | [], _ :: _, r, _, _, h => by cases h
  | _ :: _, [], r, _, _, h => by cases h
  | a :: l, b :: m, r, h1, h2, h => by
    obtain ⟨x, y, e1, e2, rfl⟩ := beqC_cons h
    obtain ⟨i1, i2⟩ := beqC_all (fun a ha => h1 a (by simp [ha])) (fun a ha => h2 a (by simp [ha])) e2
    refine ⟨by simp [i1], ?_⟩
    rw [Bool.and_eq_true, i2]
    constructor
    · rintro ⟨rfl, h3⟩ i a' b' ha hb
      cases i with
      | zero => simp at ha hb; subst ha; subst hb; exact e1
      | succ i => exact h3 i a' b' (by simpa using ha) (by simpa using hb)
    · intro h3
      refine ⟨?_, fun i a' b' ha hb => h3 (i + 1) a' b' (by simpa using ha) (by simpa using hb)⟩
      have := h3 0 a b (by simp) (by simp)
      rw [e1] at this
      simpa using this
theorem Eqa_arr {P : Program} {t n el : Nat} {ie : TypeInfo} {k : IntKind} (ht : P.underlying t = some (.array n el)) (hi : P.info? el = some ie) (hk : P.cellsOf el = 1) (h1 : T1 P el) (hu : Ud P el (.int k)) : Eqa P 2 t (List.replicate n (kd k)) := by
  intro σ xs ys vs us r r1 r2 s1 s2 hb
  have l1 : xs.length = n := by have := congrArg List.length s1; simpa using this
  have l2 : ys.length = n := by have := congrArg List.length s2; simpa using this
  have m1 : ∀ a ∈ xs, shp a = kd k := fun a ha => by
    have : shp a ∈ xs.map shp := List.mem_map.2 ⟨a, ha, rfl⟩
    rw [s1] at this
    exact (List.mem_replicate.1 this).2
  have m2 : ∀ a ∈ ys, shp a = kd k := fun a ha => by
    have : shp a ∈ ys.map shp := List.mem_map.2 ⟨a, ha, rfl⟩
    rw [s2] at this
    exact (List.mem_replicate.1 this).2
  obtain ⟨_, hall⟩ := beqC_all m1 m2 hb
  have at1 : ∀ i, i < n → ∃ x, xs[i]? = some (.i k x) ∧ vs[i]? = some (.int k x) := fun i hi => by
    have e := List.getElem?_eq_getElem (l := xs) (i := i) (by omega)
    obtain ⟨x, hx⟩ := shp_int (m1 _ (List.getElem_mem (l := xs) (n := i) (by omega)))
    obtain ⟨v, hv, rv⟩ := r1.at e
    rw [hx] at e rv
    cases rv
    exact ⟨x, e, hv⟩
  have at2 : ∀ i, i < n → ∃ x, ys[i]? = some (.i k x) ∧ us[i]? = some (.int k x) := fun i hi => by
    have e := List.getElem?_eq_getElem (l := ys) (i := i) (by omega)
    obtain ⟨x, hx⟩ := shp_int (m2 _ (List.getElem_mem (l := ys) (n := i) (by omega)))
    obtain ⟨v, hv, rv⟩ := r2.at e
    rw [hx] at e rv
    cases rv
    exact ⟨x, e, hv⟩
  let X := fun (l : List AV) (i : Nat) => (match l[i]? with | some (.i _ x) => x | _ => 0 : Int)
  have eX : ∀ {l : List AV} {i : Nat} {x : Int}, l[i]? = some (.i k x) → X l i = x := fun {l i x} h => by
    show (match l[i]? with | some (.i _ x) => x | _ => 0) = x
    rw [h]
  have e : r = allB (fun i => decide (X xs i = X ys i)) n := by
    rw [Bool.eq_iff_iff, hall]
    simp only [allB, List.all_eq_true, List.mem_range, decide_eq_true_iff]
    constructor
    · intro h i hi
      obtain ⟨x, a1, _⟩ := at1 i hi
      obtain ⟨y, b1, _⟩ := at2 i hi
      have := h i _ _ a1 b1
      have this : cond (Nat.beq (kd k) (kd k)) (some (eqI x y)) none = some true := this
      rw [Nat.beq_refl, cond_true, eqI_eq] at this
      rw [eX a1, eX b1]
      simpa using this
    · intro h i a b ha hb'
      have hi : i < n := by have := lt_of_get ha; omega
      obtain ⟨x, a1, _⟩ := at1 i hi
      obtain ⟨y, b1, _⟩ := at2 i hi
      have := h i hi
      rw [eX a1, eX b1] at this
      rw [a1] at ha; rw [b1] at hb'
      cases ha; cases hb'
      show cond (Nat.beq (kd k) (kd k)) (some (eqI x y)) none = some true
      rw [Nat.beq_refl, cond_true, eqI_eq, decide_eq_true this]
  rw [e]
  refine EqF_array ht hi hk (us := fun i => .int k (X xs i)) (vs := fun i => .int k (X ys i)) (fun i hi => ?_) (fun i hi => ?_) (fun i _ => EqF_int hu)
  · obtain ⟨x, a1, a2⟩ := at1 i hi
    exact PartF_one h1 (by rw [Nat.mul_one, a2, eX a1])
  · obtain ⟨x, a1, a2⟩ := at2 i hi
    exact PartF_one h1 (by rw [Nat.mul_one, a2, eX a1])
theorem eqsOk_of {P : Program} {D t : Nat} {sh : List Nat} (hg : P.eqGuardType P.depth t = false) (h : Eqa P D t sh) (hD : Nat.ble D 10000 = true) : EqsOk P t sh := by
  intro σ xs ys vs us r h1 h2 h3 h4 h5
  refine ⟨hg, fun w => ?_⟩
  have := (h σ xs ys vs us r h1 h2 h3 h4 h5).up (Nat.le_of_ble_eq_true hD) 0 w
  simpa only [Nat.add_zero, Op.equal, Op.maxDepth] using this
noncomputable def cfgOf (types : List TypeInfo) (funcs : List Func) (es : List (Nat × List Nat)) (hk : Nat → List AV → Mem → Option (List (AV × Mem)) := fun _ _ _ => none) (bop : BinOp → Nat → IntKind → Int → Option AV := fun _ _ _ _ => none) (tlen : Nat → Option AV := fun _ => none) (tk : TokT := noTok) (kys : Nat → Bool := fun _ => false) : Cfg :=
  ⟨(Tr.ofL types 0 .lf).get, (Tr.ofL funcs 0 .lf).get, fun t => (es.find? fun e => Nat.beq e.1 t).map Prod.snd, hk, bop, tlen, tk, kys⟩
omit [Tok] in
theorem info_of {P : Program} {t : Nat} {i : TypeInfo} (h : P.types[t]? = some i) : P.info? t = some i := by
  have ht : t < P.types.size := by
    rcases Nat.lt_or_ge t P.types.size with h2 | h2
    · exact h2
    · rw [Array.getElem?_eq_none h2] at h; cases h
  unfold Tables.info?
  rw [if_pos ht]
  exact h
structure TabOk (P : Program) (es : List (Nat × List Nat)) : Prop where
  info : ∀ t i, (Tr.ofL P.types.toList 0 .lf).get t = some i → P.info? t = some i
  fn : ∀ f fn, (Tr.ofL P.funcs.toList 0 .lf).get f = some fn → P.funcs[f]? = some fn
  en : ∀ f fn c, (Tr.ofL P.funcs.toList 0 .lf).get f = some fn → fn.body = some c → En P f
  eqs : ∀ e ∈ es, ∀ [Tok], EqsOk P e.1 e.2
  ext : ∀ f fn, (Tr.ofL P.funcs.toList 0 .lf).get f = some fn → fn.body = none → fn.name = "maps.clone" → ∀ t b es clock (w : World), w.heap[b]? = some (.map es clock) → (callFunc f #[.iface t (.map (some b))]).run P w = .ok (.value (.iface t (.map (some w.heap.size)))) (w.alloc (.map es clock))
  mixed : P.follows .mixedOrders = true
omit [Tok] in
theorem tab_ok {P : Program} {es : List (Nat × List Nat)} {fc : Nat} {fnc : Func} (hE : ∀ e ∈ es, ∀ [Tok], EqsOk P e.1 e.2) (hN : (P.funcs.toList.all fun fn => fn.body.isNone || !(fn.name == "runtime.NumGoroutine")) = true)
    (hX : (P.funcs.toList.zipIdx.all fun q => q.1.body.isSome || !(q.1.name == "maps.clone") || Nat.beq q.2 fc) = true) (hf : P.funcs[fc]? = some fnc) (hname : (fnc.name == "runtime.NumGoroutine") = false) (hb : fnc.body.isNone = true) (hn : Extern.findNext fnc = none) (he : Extern.find fnc = some Extern.MapsClone.clone) (hM : P.follows .mixedOrders = true) :
    TabOk P es := by
  have fnat : ∀ f fn, (Tr.ofL P.funcs.toList 0 .lf).get f = some fn → P.funcs[f]? = some fn := fun f fn h => by
    have := Tr.ofL_get (show (Tr.ofL P.funcs.toList 0 .lf).get f = some fn from h)
    rwa [Array.getElem?_toList] at this
  refine ⟨fun t i h => ?_, fnat, fun f fn c h hc => ?_, hE, fun f fn h hb' hnm t b es' clock w hw => ?_, hM⟩
  · have := Tr.ofL_get (show (Tr.ofL P.types.toList 0 .lf).get t = some i from h)
    rw [Array.getElem?_toList] at this
    exact info_of this
  · have hf := fnat f fn h
    have hmem : fn ∈ P.funcs.toList := List.mem_of_getElem? (by rw [Array.getElem?_toList]; exact hf)
    rw [List.all_eq_true] at hN
    have h2 := hN fn hmem
    rw [hc] at h2
    have h3 : (fn.name == "runtime.NumGoroutine") = false := by simpa using h2
    intro args w
    simp only [callFunc, Sem.run_bind, run_program, Result.andThen_ok, hf, h3, hc]
    simp
  · have hf' := fnat f fn h
    have hmem : (fn, f) ∈ P.funcs.toList.zipIdx := List.mem_zipIdx_iff_getElem?.2 (by rw [Array.getElem?_toList]; exact hf')
    rw [List.all_eq_true] at hX
    have h2 := hX _ hmem
    dsimp only at h2
    rw [hb', hnm] at h2
    have h3 : f = fc := by
      have : Nat.beq f fc = true := by simpa using h2
      exact Nat.eq_of_beq_eq_true this
    subst h3
    rw [run_callFunc_extern hf hname hb hn he]
    have e : Extern.MapsClone.clone #[.iface t (.map (some b))] = (getObj b >>= fun o => match o with
        | .map entries clock => (newObj (.map entries clock) >>= fun n => pure (.iface t (.map (some n))))
        | _ => stuck "maps.clone: a map expected") := rfl
    rw [e]
    simp [MapKept.run_getObj_map hw, Result.andThen, go_sem]
theorem cfg_ok {P : Program} {es : List (Nat × List Nat)} (T : TabOk P es) {hk : Nat → List AV → Mem → Option (List (AV × Mem))} {bop : BinOp → Nat → IntKind → Int → Option AV} {tlen : Nat → Option AV} {tk : TokT} {kys : Nat → Bool}
    (hb : ∀ op k j b a, bop op k j b = some a → ∃ p, Tok.v k = .int j p ∧ ∀ t, binA (cfgOf P.types.toList P.funcs.toList es hk bop tlen tk kys) op t (.i j p) (.i j b) = some a)
    (hl : ∀ k r, tlen k = some r → ∃ q l c, Tok.v k = .slice q l c ∧ ∀ σ, Rel σ r (.int .i64 (l : Int))) (ht : TkOk tk := by exact noTok_ok) (hkys : ∀ t, kys t = true → KeyOk P t dv := by exact fun _ h => (nomatch h)) : CfgOk (cfgOf P.types.toList P.funcs.toList es hk bop tlen tk kys) P := by
  refine ⟨T.info, T.fn, T.en, fun t sh h => ?_, T.ext, hb, hl, T.mixed, ht, hkys⟩
  have h : ((es.find? fun e => Nat.beq e.1 t).map Prod.snd) = some sh := h
  obtain ⟨e, h1, h2⟩ := map_some h
  have h3 := List.find?_some h1
  have h4 := T.eqs e (List.mem_of_find?_eq_some h1)
  rw [Nat.eq_of_beq_eq_true h3, h2] at h4
  exact h4
noncomputable def mem0 (g : Nat) (cs : List AV) (T : Nat) : Mem := ⟨(Tr.lf).put g (some (.row cs T 0 false)), 64, []⟩
def nums (k : IntKind) (l : List Nat) : List AV := l.map fun n => .i k (Int.ofNat n)
def numsV (k : IntKind) (l : List Nat) : List Value := l.map fun n => .int k (Int.ofNat n)
theorem nums_rel {σ : Sig} {k : IntKind} : ∀ l : List Nat, RelL σ (nums k l) (numsV k l)
  | [] => .nil
  | n :: l => .cons (.i k _) (nums_rel l)
theorem nums_det {σ : Sig} {k : IntKind} : ∀ {l : List Nat} {cs : List AV} {vs : List Value}, RelL σ cs vs → cs.map shp = (nums k l).map shp → beqC cs (nums k l) = some true → vs = numsV k l
  | [], _, _, .nil, _, _ => rfl
  | [], _, _, .cons _ _, h, _ => by simp [nums] at h
  | n :: l, _, _, .nil, h, _ => by simp [nums] at h
  | n :: l, _, _, .cons (a := a) (l := cs) h t, hs, hb => by
    have hs : shp a :: cs.map shp = kd k :: (nums k l).map shp := hs
    have hb : beqC (a :: cs) (.i k (Int.ofNat n) :: nums k l) = some true := hb
    obtain ⟨x, y, h1, h2, h3⟩ := beqC_cons hb
    obtain ⟨rfl, rfl⟩ : x = true ∧ y = true := by simpa using h3.symm
    simp only [List.cons.injEq] at hs
    obtain ⟨z, rfl⟩ := shp_int hs.1
    cases h
    have h1 : cond (Nat.beq (kd k) (kd k)) (some (eqI z (Int.ofNat n))) none = some true := h1
    rw [Nat.beq_refl, cond_true, eqI_eq] at h1
    have hz : z = Int.ofNat n := by simpa using h1
    rw [nums_det t hs.2 h2, hz]
    rfl
theorem no_hook {types : List TypeInfo} {funcs : List Func} {es : List (Nat × List Nat)} {bop : BinOp → Nat → IntKind → Int → Option AV} {tlen : Nat → Option AV} {tk : TokT} {kys : Nat → Bool} {P : Program} : HookOk (cfgOf types funcs es (fun _ _ _ => none) bop tlen tk kys) P :=
  by
  refine ⟨?_, fun B => ?_⟩
  · intro f args m outs h; cases h
  · intro f args m outs h; cases h
end Go.Ce
namespace Go.Ce
open Go.RowKit Go.Vx
variable [Tok]
noncomputable def isRow (m : Mem) (g : Nat) (cs : List AV) : Bool := match m.h.get g with
  | some (.row cs' _ 0 false) => beqL (cs'.map shp) (cs.map shp) && (match beqC cs' cs with | some b => b | none => false)
  | _ => false
noncomputable def trueB (g : Nat) (r : RL) : Bool := match r with
  | some [(.b true, m)] => m.d.all fun x => !(Nat.beq x g)
  | _ => false
theorem nums_eq {σ : Sig} {k : IntKind} : ∀ {l : List Nat} {vs : List Value}, RelL σ (nums k l) vs → vs = numsV k l
  | [], _, h => by cases h; rfl
  | n :: l, _, h => by
    have h2 : RelL σ (.i k (Int.ofNat n) :: nums k l) _ := h
    clear h
    cases h2 with | cons h t => ?_
    cases h
    rw [nums_eq t]; rfl
section
variable {B : Nat} {w0 w : World} {M : Nat → Prop} {σ : Sig} {fr : Nat → Res} {k : IntKind} {l : List Nat} {g T : Nat} {m : Mem}
theorem row_at (hh : m.h.get g = some (.row (nums k l) T 0 false)) (hq : Good B w0 M σ fr m.h.get w) {e : Nat} (hσ : σ g = some (g, e)) : w.heap[g]? = some (.cells (numsV k l).toArray T (0, 0)) := by
  obtain ⟨b, ee, ob, u1, u2, vs', rest, u3, u4, u5⟩ := hq.block hh rfl
  rw [hσ] at u1
  cases u1
  have u4 : rest = [] := by
    have : rest.length = 0 := u4
    exact List.length_eq_zero_iff.1 this
  subst u4
  rw [nums_eq u3, List.append_nil] at u5
  subst u5
  exact u2
theorem isRow_ok (h : isRow m g (nums k l) = true) (hq : Good B w0 M σ fr m.h.get w) {e : Nat} (hσ : σ g = some (g, e)) : ∃ T, w.heap[g]? = some (.cells (numsV k l).toArray T (0, 0)) := by
  unfold isRow at h
  split at h
  · rename_i cs' T' hh
    rw [Bool.and_eq_true, beqL_eq, decide_eq_true_iff] at h
    obtain ⟨hsh, hb⟩ := h
    have hb : beqC cs' (nums k l) = some true := by
      split at hb
      · rename_i b hb'; rw [hb', hb]
      · cases hb
    obtain ⟨b, ee, ob, u1, u2, vs', rest, u3, u4, u5⟩ := hq.block hh rfl
    rw [hσ] at u1
    cases u1
    have u4 : rest = [] := by
      have : rest.length = 0 := u4
      exact List.length_eq_zero_iff.1 this
    subst u4
    rw [nums_det u3 hsh hb, List.append_nil] at u5
    subst u5
    exact ⟨T', u2⟩
  · cases h
end
theorem run_law {C : Cfg} {P : Program} (HC : CfgOk C P) (HH : HookOk C P) {f fuel g T : Nat} {k : IntKind} {l : List Nat} {fn : Func} {c : Code} {args : List AV} {vs : List Value} (hf : C.fn f = some fn) (hc : fn.body = some c) (hg : g < 64) (hargs : ∀ σ, RelL σ args vs)
    (h : trueB g (callA C (exec C fuel) f args (mem0 g (nums k l) T)) = true)
    {w : World} (hI : Tok.I w (· = g)) (hw : w.heap[g]? = some (.cells (numsV k l).toArray T (0, 0))) : Calls P f vs.toArray w (fun e w' => e = .returned (.bool true) ∧ Own w no w' []) := by
  unfold trueB at h
  split at h
  · rename_i m hm
    have hlt : g < w.heap.size := by
      rcases Nat.lt_or_ge g w.heap.size with h | h
      · exact h
      · rw [Array.getElem?_eq_none h] at hw; cases hw
    let σ : Sig := fun x => if x < 64 then some (x, 0) else none
    have hσ : ∀ x, x < 64 → σ x = some (x, 0) := fun x hx => if_pos hx
    have hget : ∀ x, (mem0 g (nums k l) T).h.get x = if x = g then some (.row (nums k l) T 0 false) else none := fun x => by
      show ((Tr.lf (α := AB)).put g (some (.row (nums k l) T 0 false))).get x = _
      rw [Tr.get_put, Tr.get_lf]
    have own : Own w (· = g) w (LH (m.c + 64) (resA σ (fun _ => emp) (mem0 g (nums k l) T).h.get)) := by
      refine ⟨rfl, ⟨rfl, Nat.le_refl _⟩, rfl, Nat.le_refl _, fun _ _ _ => rfl, fun x b => x = g ∧ b = g, fun x R hR => ?_, fun x b hx => by rw [hx.2]; exact hlt, fun x x' b h h' => h.1.trans h'.1.symm, fun x b h _ => h.2⟩
      obtain ⟨_, rfl⟩ := LH_getR hR
      by_cases hx : x = g
      · subst hx
        have e : (mem0 x (nums k l) T).h.get x = some (.row (nums k l) T 0 false) := by rw [hget, if_pos rfl]
        unfold resA
        rw [e]
        refine ⟨x, 0, _, hσ x hg, ⟨rfl, rfl⟩, hw, numsV k l, [], nums_rel l, rfl, ?_⟩
        simp
      · have e : (mem0 g (nums k l) T).h.get x = none := by rw [hget, if_neg hx]
        unfold resA
        rw [e]
        trivial
    have hpre : Pre (m.c + 64) w (· = g) σ (fun _ => emp) (mem0 g (nums k l) T) w m.c := by
      refine ⟨fun x hx => ⟨0, hσ x hx⟩, ⟨own, fun x blk hx => ?_⟩, fun x h1 h2 => ?_, by omega⟩
      · rw [hget] at hx
        split at hx
        · rename_i e; omega
        · cases hx
      · have h1 : 64 ≤ x := h1
        refine ⟨if_neg (by omega), rfl, ?_⟩
        rw [hget, if_neg (by omega)]
    haveI : Inv w (· = g) := ⟨hI⟩
    have := run_ok HC HH fuel (B := m.c + 64) f args (mem0 g (nums k l) T) _ hm hpre (fun o ho => by simp at ho; subst ho; exact Nat.le_refl _) (hargs σ)
    rw [HC.en f fn c hf hc] at this
    refine Calls.mono this fun e w' hq => ?_
    obtain ⟨v, rfl, o, ho, σ', q1, q2, q3, q4⟩ := hq
    simp at ho
    subst ho
    cases q1
    refine ⟨rfl, ?_⟩
    have hnd : g ∉ m.d := fun hx => by
      rw [List.all_eq_true] at h
      have := h g hx
      rw [Nat.beq_refl] at this
      cases this
    have hh : m.h.get g = some (.row (nums k l) T 0 false) := by
      have e1 := q3.old g (show g < 64 from hg) hnd
      rw [hget, if_pos rfl] at e1
      exact e1
    have u2 := row_at hh q4 (q2.le _ _ (hσ g hg))
    have o := q4.own
    refine ⟨o.os, o.tape, o.output, o.size, fun b hb _ => ?_, fun _ _ => False, by simp, fun _ _ h => h.elim, fun _ _ _ h => h.elim, fun _ _ h => h.elim⟩
    by_cases hbg : b = g
    · subst hbg; rw [u2, hw]
    · exact o.old b hb hbg
  · cases h
noncomputable def hookT (fA g : Nat) (cs : List AV) (next : Nat → List AV → Mem → RL) (f : Nat) (args : List AV) (m : Mem) : RL :=
  cond (Nat.beq f fA && Nat.beq args.length 0 && isRow m g cs) (some [(.b true, m)]) (next f args m)
theorem hookT_ok {P : Program} {fA g : Nat} {k : IntKind} {l : List Nat} {next : Nat → List AV → Mem → RL} (hg : g < 64) (hen : En P fA) (hr : ∀ (T : Nat) (w : World), w.heap[g]? = some (.cells (numsV k l).toArray T (0, 0)) → Calls P fA #[] w (fun e w' => e = .returned (.bool true) ∧ Own w no w' []))
    (h1 : CfCm next) (h2 : ∀ B, CallOk P B next) : CfCm (hookT fA g (nums k l) next) ∧ ∀ B, CallOk P B (hookT fA g (nums k l) next) := by
  refine ⟨fun f args m outs h => ?_, fun B => ?_⟩
  · unfold hookT at h
    rcases cond_iff2.1 h with ⟨_, h⟩ | ⟨_, h⟩
    · cases h; exact ⟨by simp, fun o ho => by simp at ho; subst ho; exact Nat.le_refl _⟩
    · exact h1 _ _ _ _ h
  · intro f args m outs h w0 M _ σ fr w hi vs hp hb hargs
    unfold hookT at h
    rcases cond_iff2.1 h with ⟨hc, h⟩ | ⟨_, h⟩
    · cases h
      rw [Bool.and_eq_true, Bool.and_eq_true] at hc
      obtain ⟨⟨c1, c2⟩, c3⟩ := hc
      have c1 := Nat.eq_of_beq_eq_true c1
      subst c1
      have c2 : args = [] := List.length_eq_zero_iff.1 (Nat.eq_of_beq_eq_true c2)
      subst c2
      cases hargs
      obtain ⟨e, he⟩ := hp.gl g hg
      obtain ⟨T, hw⟩ := isRow_ok c3 hp.good he
      rw [hen #[] w]
      refine Calls.mono (hr T w hw) fun e w' ⟨he, ho⟩ => ⟨_, he, _, List.mem_cons_self, σ, .b _, SLe.refl _ _ _, MLe.refl _, ?_⟩
      exact ⟨hp.good.own.call0 ho, hp.good.bd⟩
    · exact h2 B _ _ _ _ h hp hb hargs
theorem none_ok {P : Program} : CfCm (fun _ _ _ => none) ∧ ∀ B, CallOk P B (fun _ _ _ => none) := by
  refine ⟨?_, fun B => ?_⟩
  · intro f args m outs h; cases h
  · intro f args m outs h; cases h
end Go.Ce
