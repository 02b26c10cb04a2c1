/- A frame as a function of its slots, the code's rules over it, and the rule for regions that are run in any order. -/
import Derived.WalkKit
import Derived.OrdersIn
import Derived.RangeFuncIn
import Derived.RangeFuncLeaves
import Derived.AtR
namespace Go.Vx
open Go.RowKit

/-! ## frames -/
abbrev Env := Nat → Value
def upd (ρ : Env) (d : Nat) (v : Value) : Env := fun t => cond (Nat.beq t d) v (ρ t)
def updO (ρ : Env) : Option Nat → Value → Env
  | none, _ => ρ
  | some d, v => upd ρ d v
def ev (n : Nat) (ρ : Env) : Operand → Value
  | .tmp t => cond (Nat.blt t n) (ρ t) undef
  | .const v => v
  | .global g => .pointer (some ⟨g, 0, none⟩)
  | .func f => .func (.func f) #[] #[]
/-- where a frame stands: in a round of a range over a function or not; what it has deferred -/
structure Cx where
  rd : Option Nat
  ds : List Deferred
abbrev c0 : Cx := ⟨none, []⟩
def FW (κ : Cx) : Fence := { Fence.wide with round := κ.rd }
def frd (n : Nat) (ds : List Deferred) (ρ : Env) : Act := { tmps := Array.ofFn (n := n) fun i => ρ i, defers := ds }
abbrev fr (n : Nat) (ρ : Env) : Act := frd n [] ρ

theorem beq_eq (a b : Nat) : Nat.beq a b = decide (a = b) := by
  by_cases h : a = b
  · subst h; simp
  · have : Nat.beq a b = false := by
      cases hb : Nat.beq a b with
      | false => rfl
      | true => exact absurd (Nat.eq_of_beq_eq_true hb) h
    simp [this, h]
theorem blt_eq (a b : Nat) : Nat.blt a b = decide (a < b) := by
  by_cases h : a < b
  · simp [Nat.blt, h, Nat.ble_eq]; omega
  · have : Nat.blt a b = false := by
      cases hb : Nat.blt a b with
      | false => rfl
      | true => simp [Nat.blt, Nat.ble_eq] at hb; omega
    simp [this, h]

theorem upd_eq (ρ : Env) (d : Nat) (v : Value) (t : Nat) : upd ρ d v t = if t = d then v else ρ t := by
  unfold upd; rw [beq_eq]; by_cases h : t = d <;> simp [h]

theorem eval_frd (n : Nat) (ds : List Deferred) (ρ : Env) (x : Operand) : (frd n ds ρ).eval x = ev n ρ x := by
  cases x with
  | tmp t =>
    show (Array.ofFn (n := n) fun i => ρ i).getD t undef = _
    unfold ev
    by_cases h : t < n
    · simp [h, blt_eq]
    · simp [h, blt_eq]
  | _ => rfl
theorem eval_fr (n : Nat) (ρ : Env) (x : Operand) : (fr n ρ).eval x = ev n ρ x := eval_frd n [] ρ x
theorem evalF_frd (n : Nat) (ds : List Deferred) (ρ : Env) : (frd n ds ρ).eval = ev n ρ := funext (eval_frd n ds ρ)
theorem put_frd (n : Nat) (ds : List Deferred) (ρ : Env) (d : Option Nat) (v : Value) : (frd n ds ρ).put d v = frd n ds (updO ρ d v) := by
  cases d with
  | none => rfl
  | some d =>
    show ({ tmps := (Array.ofFn (n := n) fun i => ρ i).setIfInBounds d v, defers := ds } : Act) = _
    unfold frd updO
    congr 1
    apply Array.ext
    · simp
    · intro i h1 h2
      have e1 : ((Array.ofFn (n := n) fun i => ρ i).setIfInBounds d v)[i]'h1 = if i = d then v else ρ i := by
        rw [Array.getElem_setIfInBounds (by simpa using h1)]
        by_cases h : d = i
        · subst h; simp
        · rw [if_neg h, if_neg (fun e => h e.symm)]; simp
      rw [e1, Array.getElem_ofFn]
      exact (upd_eq ρ d v i).symm
theorem start_fr (n : Nat) (args : Array Value) (h : args.size ≤ n) :
    ({ tmps := args ++ Array.replicate (n - args.size) undef, defers := [] } : Act) = fr n (fun i => args.getD i undef) := by
  unfold fr frd
  congr 1
  apply Array.ext
  · simp; omega
  · intro i h1 h2
    simp at h1
    simp only [Array.getElem_ofFn, Array.getElem_append]
    by_cases hi : i < args.size
    · simp [hi]
    · simp [hi]

/-! ## the code's rules -/
abbrev St := Env → World → Prop
def post (κ : Cx) (n : Nat) (N R : St) (X : Nat → St) : Exit → Act → World → Prop
  | .normal, a, w => ∃ ρ, a = frd n κ.ds ρ ∧ N ρ w
  | .ret, a, w => ∃ ρ, a = frd n κ.ds ρ ∧ R ρ w
  | .exit i, a, w => ∃ ρ, a = frd n κ.ds ρ ∧ X i ρ w
  | _, _, _ => False
def W (κ : Cx) (P : Program) (n : Nat) (c : Code) (N R : St) (X : Nat → St) (ρ : Env) (w : World) : Prop := c.wpIn (FW κ) 0 P (post κ n N R X) (frd n κ.ds ρ) w

section
variable {κ : Cx} {P : Program} {n : Nat} {N R : St} {X : Nat → St} {ρ : Env} {w : World}

theorem W_mono {c : Code} {N' R' : St} {X' : Nat → St} (h : W κ P n c N R X ρ w) (hN : ∀ ρ w, N ρ w → N' ρ w) (hR : ∀ ρ w, R ρ w → R' ρ w) (hX : ∀ i ρ w, X i ρ w → X' i ρ w) : W κ P n c N' R' X' ρ w :=
  wpIn_mono h (fun e a w => by
    cases e with
    | normal => exact fun ⟨ρ, e, h⟩ => ⟨ρ, e, hN _ _ h⟩
    | ret => exact fun ⟨ρ, e, h⟩ => ⟨ρ, e, hR _ _ h⟩
    | exit i => exact fun ⟨ρ, e, h⟩ => ⟨ρ, e, hX _ _ _ h⟩
    | _ => exact id)

theorem W_seq {c1 c2 : Code} (h : W κ P n c1 (fun ρ w => W κ P n c2 N R X ρ w) R X ρ w) : W κ P n (.seq c1 c2) N R X ρ w := by
  refine wpIn_seq (wpIn_mono h (fun e a w hq => ?_))
  cases e with
  | normal => obtain ⟨ρ, rfl, h⟩ := hq; exact h
  | ret => exact hq
  | exit i => exact hq
  | _ => exact hq
theorem W_skip (h : N ρ w) : W κ P n .skip N R X ρ w := wpIn_skip ⟨ρ, rfl, h⟩
theorem W_ret (h : R ρ w) : W κ P n .ret N R X ρ w := wpIn_ret ⟨ρ, rfl, h⟩
theorem W_exit {i : Nat} (h : X i ρ w) : W κ P n (.exit i) N R X ρ w := wpIn_exit ⟨ρ, rfl, h⟩
theorem W_cond {c : Operand} {x y : Code} {t : Bool} (hc : ev n ρ c = .bool t) (ht : t = true → W κ P n x N R X ρ w) (hf : t = false → W κ P n y N R X ρ w) : W κ P n (.cond c x y) N R X ρ w := by
  refine wpIn_cond_split (t := t) (by rw [eval_frd]; exact hc) ht hf
theorem W_condT {c : Operand} {x y : Code} (hc : ev n ρ c = .bool true) (ht : W κ P n x N R X ρ w) : W κ P n (.cond c x y) N R X ρ w := W_cond hc (fun _ => ht) (fun h => by cases h)
theorem W_condF {c : Operand} {x y : Code} (hc : ev n ρ c = .bool false) (ht : W κ P n y N R X ρ w) : W κ P n (.cond c x y) N R X ρ w := W_cond hc (fun h => by cases h) (fun _ => ht)
def blockX (i : Nat) (N : St) (X : Nat → St) : Nat → St := fun j => cond (Nat.beq j i) N (X j)
theorem W_block {i : Nat} {c : Code} (h : W κ P n c N R (blockX i N X) ρ w) : W κ P n (.block i c) N R X ρ w := by
  refine wpIn_block (wpIn_mono h (fun e a w hq => ?_))
  cases e with
  | exit j =>
    obtain ⟨ρ, rfl, h⟩ := hq
    unfold blockX at h
    rw [beq_eq] at h
    by_cases hj : j = i
    · simp [hj] at h; simp only [Exit.inBlock, hj, if_true]; exact ⟨ρ, rfl, h⟩
    · simp [hj] at h; simp only [Exit.inBlock, hj, if_false]; exact ⟨ρ, rfl, h⟩
  | _ => exact hq
/-- A loop: what holds at its head, with a number that falls. -/
theorem W_loop {c : Code} (I : Nat → St) (k : Nat) (h0 : I k ρ w) (hr : ∀ k ρ w, I k ρ w → W κ P n c (fun ρ' w' => ∃ k', k' < k ∧ I k' ρ' w') R X ρ w) : W κ P n (.loop c) N R X ρ w := by
  intro b kk cs hro hb hroom
  have key : ∀ k ρ w, I k ρ w → ∃ e a' w', post κ n N R X e a' w' ∧ ArrivesIn (Machine.fenced P (FW κ)) P (lone (b.atR (frd n κ.ds ρ) (.code c :: .inLoop c :: kk)) cs w) b kk cs e a' w' := by
    intro k
    induction k using Nat.strongRecOn with
    | _ k ih =>
      intro ρ w hI
      obtain ⟨e, a1, w1, hq, harr⟩ := hr k ρ w hI b (.inLoop c :: kk) cs hro hb hroom
      cases e with
      | normal =>
        obtain ⟨ρ1, rfl, k', hk, hI1⟩ := hq
        obtain ⟨e2, a2, w2, hq2, harr2⟩ := ih k' hk ρ1 w1 hI1
        exact ⟨e2, a2, w2, hq2, .of_steps (StepsIn.trans harr (.one (fenced_calm hb hroom rfl) stepR_inLoop)) harr2⟩
      | exit id => exact ⟨.exit id, a1, w1, hq, .pass (x := .inLoop c) rfl (fun _ _ => .inl (by simp)) harr⟩
      | goto l => exact hq.elim
      | ret => exact ⟨.ret, a1, w1, hq, .pass (x := .inLoop c) rfl (fun _ _ => .inl (by simp)) harr⟩
      | panic ch => exact hq.elim
      | outgrown => exact hq.elim
  obtain ⟨e, a', w', hq, harr⟩ := key k ρ w h0
  exact ⟨e, a', w', hq, .of_steps (.one (fenced_calm hb hroom rfl) stepR_loop) harr⟩

/-! ## one operation -/
def opUpon (P : Program) (K : Value → World → Prop) : Result Next → Prop
  | .ok (.value v) w' => K v w'
  | .ok .skip w' => K undef w'
  | .ok (.enter f args) w' => Calls P f args w' fun e w'' => ∃ v, e = .returned v ∧ K v w''
  | .ok (.round l f tmps assign body) w' => RoundIn Fence.wide 0 P l f tmps assign body w' fun e w'' => ∃ v, e = .returned v ∧ K v w''
  | _ => False
def notDefer : Op → Bool
  | .defer _ => false
  | _ => true
def opW (P : Program) (op : Op) (ty : TypeId) (e : Operand → Value) (w : World) (K : Value → World → Prop) : Prop :=
  notDefer op = true ∧ opUpon P K ((execOp e { dst := none, op, type := ty, pos := "", after := #[], guard := none }).run P w)

theorem opW_mono {op : Op} {ty : TypeId} {e : Operand → Value} {K K' : Value → World → Prop} (h : opW P op ty e w K) (hk : ∀ v w, K v w → K' v w) : opW P op ty e w K' := by
  refine ⟨h.1, ?_⟩
  have h := h.2
  generalize (execOp e { dst := none, op, type := ty, pos := "", after := #[], guard := none }).run P w = r at *
  cases r with
  | ok x w' =>
    cases x <;> simp only [opUpon] at h ⊢ <;> first
      | exact hk _ _ h
      | exact h.mono fun e w'' ⟨v, he, hv⟩ => ⟨v, he, hk _ _ hv⟩
      | exact h
  | halt x w' => exact h

theorem execOp_bare (e : Operand → Value) (o : Oper) : execOp e o = execOp e { dst := none, op := o.op, type := o.type, pos := "", after := #[], guard := none } := rfl

theorem oper_wp_of {o : Oper} {Q : Exit → Act → World → Prop} {K : St}
    (h : opW P o.op o.type (ev n ρ) w (fun v w' => K (updO ρ o.dst v) w')) : o.wpIn (FW κ) 0 P (frd n κ.ds ρ) w (fun a w => ∃ ρ, a = frd n κ.ds ρ ∧ K ρ w) Q := by
  have hnd : ∀ c, o.op ≠ .defer c := fun c hc => by have := h.1; rw [hc] at this; cases this
  refine ⟨fun _ _ => trivial, ?_⟩
  rw [Oper.semAt_eq _ _ _ hnd, evalF_frd, execOp_bare]
  have h := h.2
  generalize (execOp (ev n ρ) { dst := none, op := o.op, type := o.type, pos := "", after := #[], guard := none }).run P w = r at *
  cases r with
  | ok x w' =>
    cases x <;> simp only [opUpon, Oper.uponIn] at h ⊢
    case value v => exact ⟨_, put_frd _ _ _ _ _, h⟩
    case skip => exact ⟨_, put_frd _ _ _ _ _, h⟩
    case enter f args =>
      refine ⟨fun h => by simp [FW, Fence.wide] at h, ?_⟩
      refine CallsIn.mono (R := fun e w'' => ∃ v, e = .returned v ∧ K (updO ρ o.dst v) w'') ?_ fun e w'' ⟨v, he, hv⟩ => ?_
      · exact (callsIn_wide (n := 0)).2 h
      · subst he
        exact ⟨_, put_frd _ _ _ _ _, hv⟩
    case round l f tmps assign body =>
      refine ⟨fun h => by simp [FW, Fence.wide] at h, ?_⟩
      refine RoundIn.mono (R := fun e w'' => ∃ v, e = .returned v ∧ K (updO ρ o.dst v) w'') ?_ fun e w'' ⟨v, he, hv⟩ => ?_
      · exact h
      · subst he
        exact ⟨_, put_frd _ _ _ _ _, hv⟩
  | halt x w' => exact h.elim

/-! ## guards -/
/-- what operation 'j' of a region has left, as a guard sees it -/
def gv (n : Nat) (ρ : Env) (ops : List Oper) (j : Nat) : Value :=
  match ops[j]? with
  | some o => match o.dst with | some d => cond (Nat.blt d n) (ρ d) undef | none => undef
  | none => undef
theorem yielded_fr (n : Nat) (ρ : Env) (ops : List Oper) (j : Nat) : yielded ops.toArray (frd n [] ρ).tmps j = (match gv n ρ ops j with | .bool b => some b | _ => none) := by
  unfold yielded gv
  simp only [List.getElem?_toArray]
  cases ops[j]? with
  | none => simp [undef]
  | some o =>
    cases hd : o.dst with
    | none => simp [hd, undef]
    | some d =>
      simp only [Option.bind_some, hd]
      show (match (Array.ofFn (n := n) fun i => ρ i)[d]? with | some (.bool b) => some b | _ => none) = _
      by_cases h : d < n
      · simp only [blt_eq, h, decide_true, cond_true]
        rw [show (Array.ofFn (n := n) fun i => ρ i)[d]? = some (ρ d) by simp [h]]
        cases ρ d <;> rfl
      · simp only [blt_eq, h, decide_false, cond_false]
        rw [show (Array.ofFn (n := n) fun i => ρ i)[d]? = none by simp [h]]
        simp [undef]

/-! ## a region in the text's order -/
def RW (P : Program) (n : Nat) (all : List Oper) (K : St) : List Oper → St
  | [], ρ, w => K ρ w
  | o :: l, ρ, w =>
    (Region.wanted o (yielded all.toArray (frd n [] ρ).tmps) = true ∧ opW P o.op o.type (ev n ρ) w (fun v w' => RW P n all K l (updO ρ o.dst v) w')) ∨
    (Region.wanted o (yielded all.toArray (frd n [] ρ).tmps) = false ∧ RW P n all K l (updO ρ o.dst undef) w)

theorem wpOps_of_RW {all : List Oper} {Q : Exit → Act → World → Prop} {K : St} (hK : ∀ ρ w, K ρ w → Q .normal (frd n κ.ds ρ) w) : ∀ (l : List Oper) (k : Nat) (ρ : Env) (w : World), (∀ j, l[j]? = all[k + j]?) → RW P n all K l ρ w →
    wpOpsIn (FW κ) 0 P all.toArray Q ((List.range l.length).map (k + ·)) (frd n κ.ds ρ) w
  | [], k, ρ, w, _, h => hK _ _ h
  | o :: l, k, ρ, w, hl, h => by
    have h0 : all[k]? = some o := by simpa using (hl 0).symm
    have hr : ((List.range (o :: l).length).map (k + ·)) = k :: ((List.range l.length).map (k + 1 + ·)) := by
      rw [List.length_cons, List.range_succ_eq_map]
      simp only [List.map_cons, List.map_map, Nat.add_zero]
      congr 1
      apply List.map_congr_left
      intro x _
      simp only [Function.comp]
      omega
    rw [hr]
    have hl' : ∀ j, l[j]? = all[k + 1 + j]? := fun j => by
      have := hl (j + 1)
      simp only [List.getElem?_cons_succ] at this
      rw [this]; congr 1; omega
    simp only [wpOpsIn, List.getElem?_toArray, h0]
    rcases h with ⟨hw, h⟩ | ⟨hw, h⟩
    · have hw' : Region.wanted o (yielded all.toArray (frd n κ.ds ρ).tmps) = true := hw
      simp only [hw', if_true]
      have := oper_wp_of (κ := κ) (o := o) (Q := Q) (K := fun ρ w => wpOpsIn (FW κ) 0 P all.toArray Q ((List.range l.length).map (k + 1 + ·)) (frd n κ.ds ρ) w)
        (opW_mono h fun v w' hv => wpOps_of_RW hK l (k + 1) _ _ hl' hv)
      exact Oper.wpIn_mono (fun a w ⟨ρ, e, h⟩ => by subst e; exact h) this
    · have hw' : Region.wanted o (yielded all.toArray (frd n κ.ds ρ).tmps) = false := hw
      simp only [hw', Bool.false_eq_true, if_false]
      rw [put_frd]
      refine ⟨fun _ _ => trivial, ?_⟩
      exact wpOps_of_RW hK l (k + 1) _ _ hl' h

theorem W_region {id : Nat} {l : List Oper} (h : RW P n l N l ρ w) : W κ P n (.region id l.toArray false) N R X ρ w := by
  refine wpIn_region ?_
  have := wpOps_of_RW (κ := κ) (P := P) (n := n) (all := l) (Q := post κ n N R X) (K := N) (fun ρ w h => ⟨ρ, rfl, h⟩) l 0 ρ w (by simp) h
  simpa using this

theorem RW_nil {all : List Oper} {K : St} (h : K ρ w) : RW P n all K [] ρ w := h
theorem RW_op {all l : List Oper} {K : St} {dst : Option Tmp} {op : Op} {ty : TypeId} {pos : String} {after : Array Edge}
    (h : opW P op ty (ev n ρ) w (fun v w' => RW P n all K l (updO ρ dst v) w')) : RW P n all K ({ dst, op, type := ty, pos, after, guard := none } :: l) ρ w :=
  .inl ⟨rfl, h⟩
/-- a guarded operation: both ways come to one assertion -/
theorem RW_gop {all l : List Oper} {K : St} {dst : Option Tmp} {op : Op} {ty : TypeId} {pos : String} {after : Array Edge} {j : Nat} {want g : Bool}
    (hg : gv n ρ all j = .bool g) (h1 : g = want → opW P op ty (ev n ρ) w (fun v w' => RW P n all K l (updO ρ dst v) w')) (h2 : g ≠ want → RW P n all K l (updO ρ dst undef) w) :
    RW P n all K ({ dst, op, type := ty, pos, after, guard := some (j, want) } :: l) ρ w := by
  by_cases h : g = want
  · refine .inl ⟨?_, h1 h⟩
    simp [Region.wanted, yielded_fr, hg, h]
  · refine .inr ⟨?_, h2 h⟩
    simp [Region.wanted, yielded_fr, hg, h]
/-- the guard's own operation was passed over -/
theorem RW_gskip {all l : List Oper} {K : St} {dst : Option Tmp} {op : Op} {ty : TypeId} {pos : String} {after : Array Edge} {j : Nat} {want : Bool}
    (hg : gv n ρ all j = undef) (h : RW P n all K l (updO ρ dst undef) w) :
    RW P n all K ({ dst, op, type := ty, pos, after, guard := some (j, want) } :: l) ρ w := by
  refine .inr ⟨?_, h⟩
  simp [Region.wanted, yielded_fr, hg, undef]

/-! ## a region in any order -/
def deps (o : Oper) : List Nat := (o.after.toList.filter fun e => Region.binds .any e).map (·.on)
/-- every operation waits for earlier ones alone -/
def rising (l : List Oper) : Bool := l.zipIdx.all fun (o, i) => (deps o).all (Nat.blt · i)
def dsts (l : List Oper) : List Nat := l.filterMap (·.dst)
def mark (D : Nat → Bool) (i : Nat) : Nat → Bool := fun j => cond (Nat.beq j i) true (D j)

/-- the step that is to be shown of operation 'o', number 'i' -/
def AnyStep (P : Program) (n : Nat) (l : List Oper) (ρ0 : Env) (Inv : (Nat → Bool) → St) (i : Nat) (o : Oper) : Prop :=
  ∀ (D : Nat → Bool) (ρ : Env) (w : World), D i = false → (∀ j ∈ deps o, D j = true) → (∀ j o', l[j]? = some o' → D j = true → ∀ k ∈ deps o', D k = true) → (∀ t, t ∉ dsts l → ρ t = ρ0 t) → Inv D ρ w →
    (Region.wanted o (yielded l.toArray (frd n [] ρ).tmps) = true ∧ opW P o.op o.type (ev n ρ) w (fun v w' => Inv (mark D i) (updO ρ o.dst v) w')) ∨
    (Region.wanted o (yielded l.toArray (frd n [] ρ).tmps) = false ∧ Inv (mark D i) (updO ρ o.dst undef) w)

def listedOf (a : Array Bool) : Nat → Bool := fun j => a.getD j true

theorem listed_set (a : Array Bool) (i : Nat) (hi : i < a.size) : ∀ j, j < a.size → listedOf (a.setIfInBounds i true) j = mark (listedOf a) i j := by
  intro j hj
  unfold listedOf mark
  rw [beq_eq]
  by_cases h : j = i
  · subst h; simp [hj]
  · simp [h, Array.getElem?_setIfInBounds_ne (fun e => h e.symm)]

theorem ready_nil_all {l : List Oper} (hr : rising l = true) (a : Array Bool) (ha : a.size = l.length) (h : Region.ready .any l.toArray a = []) : ∀ i, i < l.length → a.getD i true = true := by
  intro i
  induction i using Nat.strongRecOn with
  | _ i ih =>
    intro hi
    cases hv : a.getD i true with
    | true => rfl
    | false =>
      exfalso
      have hmem : i ∈ Region.ready .any l.toArray a := by
        unfold Region.ready
        simp only [List.mem_filter, List.mem_range, List.size_toArray, List.getElem?_toArray]
        refine ⟨hi, ?_⟩
        rw [hv, List.getElem?_eq_getElem hi]
        simp only [Bool.not_false, Option.map_some, Option.getD_some, Bool.true_and]
        rw [Array.all_eq_true']
        intro e he
        by_cases hb : Region.binds .any e = true
        · simp only [hb, Bool.not_true, Bool.false_or]
          have hlt : e.on < i := by
            unfold rising at hr
            rw [List.all_eq_true] at hr
            have := hr (l[i], i) (by rw [List.mem_zipIdx_iff_getElem?]; simp [hi])
            simp only [List.all_eq_true] at this
            have h2 := this e.on (by unfold deps; exact List.mem_map.2 ⟨e, List.mem_filter.2 ⟨Array.mem_toList_iff.2 he, hb⟩, rfl⟩)
            rw [blt_eq] at h2
            exact of_decide_eq_true h2
          have h3 := ih e.on hlt (by omega)
          have h4 : e.on < a.size := by omega
          simp [h4] at h3 ⊢
          exact h3
        · simp [hb]
      rw [h] at hmem
      cases hmem

theorem wpAny_of_inv {l : List Oper} {ρ0 : Env} {Inv : (Nat → Bool) → St} {Q : Exit → Act → World → Prop} (hrise : rising l = true)
    (hext : ∀ D D' ρ w, (∀ j, j < l.length → D j = D' j) → Inv D ρ w → Inv D' ρ w)
    (hs : ∀ i o, l[i]? = some o → AnyStep P n l ρ0 Inv i o)
    (he : ∀ ρ w, (∀ t, t ∉ dsts l → ρ t = ρ0 t) → Inv (fun _ => true) ρ w → Q .normal (frd n κ.ds ρ) w) :
    ∀ (fuel : Nat) (a : Array Bool) (ρ : Env) (w : World), a.size = l.length → (a.toList.filter (! ·)).length ≤ fuel → (∀ j o', l[j]? = some o' → listedOf a j = true → ∀ k ∈ deps o', listedOf a k = true) → (∀ t, t ∉ dsts l → ρ t = ρ0 t) → Inv (listedOf a) ρ w →
      wpAnyIn (FW κ) 0 P .any l.toArray Q fuel a (frd n κ.ds ρ) w := by
  have fin : ∀ (a : Array Bool) (ρ : Env) (w : World), a.size = l.length → (∀ t, t ∉ dsts l → ρ t = ρ0 t) → Inv (listedOf a) ρ w → Region.ready .any l.toArray a = [] → Q .normal (frd n κ.ds ρ) w := by
    intro a ρ w ha hf hI hnil
    refine he ρ w hf (hext _ _ ρ w (fun j hj => ?_) hI)
    exact ready_nil_all hrise a ha hnil j hj
  intro fuel
  induction fuel with
  | zero =>
    intro a ρ w ha hc _ hf hI
    have hall : ∀ i, i < a.size → a.getD i true = true := by
      intro i hi
      have h0 : a.toList.filter (! ·) = [] := List.length_eq_zero_iff.1 (by omega)
      rw [List.filter_eq_nil_iff] at h0
      have := h0 a[i] (by simp)
      simpa [hi] using this
    have hnil : Region.ready .any l.toArray a = [] := by
      unfold Region.ready
      rw [List.filter_eq_nil_iff]
      intro i hi
      simp only [List.mem_range, List.size_toArray] at hi
      rw [hall i (by omega)]
      simp
    exact ⟨hnil, fin a ρ w ha hf hI hnil⟩
  | succ fuel ih =>
    intro a ρ w ha hc hdc hf hI
    refine ⟨fun hnil => fin a ρ w ha hf hI hnil, fun i hi => ?_⟩
    unfold Region.ready at hi
    simp only [List.mem_filter, List.mem_range, List.size_toArray, List.getElem?_toArray, Bool.and_eq_true, Bool.not_eq_true'] at hi
    obtain ⟨hil, hun, hdep⟩ := hi
    have hoi : l[i]? = some l[i] := List.getElem?_eq_getElem hil
    rw [hoi] at hdep
    simp only [Option.map_some, Option.getD_some, Array.all_eq_true', Bool.or_eq_true, Bool.not_eq_true'] at hdep
    have hset : (a.setIfInBounds i true).size = l.length := by simp [ha]
    have hcount : ((a.setIfInBounds i true).toList.filter (! ·)).length ≤ fuel := by
      have hia : i < a.size := by omega
      have hai : a.toList[i]'(by simpa using hia) = false := by
        simp [hia] at hun
        simpa using hun
      have h1 : a.toList = a.toList.take i ++ false :: a.toList.drop (i + 1) := by
        conv => lhs; rw [← List.take_append_drop i a.toList]
        rw [List.drop_eq_getElem_cons (by simpa using hia), hai]
      have h2 : (a.setIfInBounds i true).toList = a.toList.take i ++ true :: a.toList.drop (i + 1) := by
        rw [Array.toList_setIfInBounds, List.set_eq_take_append_cons_drop, if_pos (by simpa using hia)]
      rw [h1] at hc
      rw [h2]
      simp [List.filter_append] at hc ⊢
      omega
    have hself : ∀ k ∈ deps l[i], listedOf a k = true := fun j hj => by
      unfold deps at hj
      obtain ⟨e, he1, rfl⟩ := List.mem_map.1 hj
      obtain ⟨he1, he2⟩ := List.mem_filter.1 he1
      rcases hdep e (Array.mem_toList_iff.1 he1) with h | h
      · rw [he2] at h; cases h
      · unfold listedOf
        by_cases hx : e.on < a.size
        · simp [hx] at h ⊢; exact h
        · simp [hx] at h
    have hstep := hs i l[i] hoi (listedOf a) ρ w hun hself hdc hf hI
    have hdc' : ∀ j o', l[j]? = some o' → listedOf (a.setIfInBounds i true) j = true → ∀ k ∈ deps o', listedOf (a.setIfInBounds i true) k = true := by
      have up : ∀ k, listedOf a k = true → listedOf (a.setIfInBounds i true) k = true := by
        intro k hk
        by_cases hkb : k < a.size
        · rw [listed_set a i (by omega) k hkb]; unfold mark; cases Nat.beq k i <;> simp [hk]
        · unfold listedOf; simp [hkb]
      intro j o' hj hl k hk
      have hjl : j < l.length := by
        rcases Nat.lt_or_ge j l.length with h | h
        · exact h
        · rw [List.getElem?_eq_none h] at hj; cases hj
      rw [listed_set a i (by omega) j (by omega)] at hl
      unfold mark at hl
      rw [beq_eq] at hl
      by_cases hji : j = i
      · subst hji
        rw [hoi] at hj
        cases hj
        exact up k (hself k hk)
      · simp [hji] at hl
        exact up k (hdc j o' hj hl k hk)
    have hfr : ∀ v, ∀ t, t ∉ dsts l → updO ρ l[i].dst v t = ρ0 t := by
      intro v t ht
      cases hd : l[i].dst with
      | none => exact hf t ht
      | some d =>
        show upd ρ d v t = _
        rw [upd_eq, if_neg]
        · exact hf t ht
        · intro e
          subst e
          exact ht (List.mem_filterMap.2 ⟨l[i], List.getElem_mem hil, hd⟩)
    unfold wpOpIn
    simp only [List.getElem?_toArray, hoi]
    rcases hstep with ⟨hw, h⟩ | ⟨hw, h⟩
    · have hw' : Region.wanted l[i] (yielded l.toArray (frd n κ.ds ρ).tmps) = true := hw
      simp only [hw', if_true]
      have := oper_wp_of (κ := κ) (o := l[i]) (Q := Q) (K := fun ρ w => wpAnyIn (FW κ) 0 P .any l.toArray Q fuel (a.setIfInBounds i true) (frd n κ.ds ρ) w)
        (opW_mono h fun v w' hv => ih _ _ _ hset hcount hdc' (hfr v) (hext _ _ _ _ (fun j hj => (listed_set a i (by omega) j (by omega)).symm) hv))
      exact Oper.wpIn_mono (fun a w ⟨ρ, e, h⟩ => by subst e; exact h) this
    · have hw' : Region.wanted l[i] (yielded l.toArray (frd n κ.ds ρ).tmps) = false := hw
      simp only [hw', Bool.false_eq_true, if_false]
      rw [put_frd]
      refine ⟨fun _ _ => trivial, ?_⟩
      exact ih _ _ _ hset hcount hdc' (hfr undef) (hext _ _ _ _ (fun j hj => (listed_set a i (by omega) j (by omega)).symm) h)

theorem W_draw {id : Nat} {l : List Oper} (hm : P.follows .mixedOrders = true) (hrise : rising l = true) (Inv : (Nat → Bool) → St)
    (hext : ∀ D D' ρ w, (∀ j, j < l.length → D j = D' j) → Inv D ρ w → Inv D' ρ w)
    (h0 : Inv (fun _ => false) ρ w.drew)
    (hs : ∀ i o, l[i]? = some o → AnyStep P n l ρ Inv i o)
    (he : ∀ ρ' w', (∀ t, t ∉ dsts l → ρ' t = ρ t) → Inv (fun _ => true) ρ' w' → N ρ' w') : W κ P n (.region id l.toArray true) N R X ρ w := by
  refine wpIn_region_any hm ?_
  refine wpAny_of_inv (n := n) (ρ0 := ρ) hrise hext hs (fun ρ' w' hf hI => ⟨ρ', rfl, he ρ' w' hf hI⟩) _ _ ρ _ (by simp) ?_ (fun j o' hj hl => ?_) (fun _ _ => rfl) (hext _ _ _ _ (fun j hj => ?_) h0)
  · rw [List.size_toArray, Array.toList_replicate]
    exact Nat.le_trans (List.length_filter_le _ _) (by simp)
  · exfalso
    have hjl : j < l.length := by
      rcases Nat.lt_or_ge j l.length with h | h
      · exact h
      · rw [List.getElem?_eq_none h] at hj; cases hj
    unfold listedOf at hl
    simp [hjl] at hl
  · unfold listedOf
    simp [hj]

/-- the text's order is one of them: a region that is run in order, shown by the same steps -/
theorem RW_of_inv {l : List Oper} {ρ0 : Env} {Inv : (Nat → Bool) → St} {K : St}
    (hs : ∀ i o, l[i]? = some o → AnyStep P n l ρ0 Inv i o) (hrise : rising l = true)
    (he : ∀ ρ w, (∀ t, t ∉ dsts l → ρ t = ρ0 t) → Inv (fun j => Nat.blt j l.length) ρ w → K ρ w)
    (hext : ∀ D D' ρ w, (∀ j, D j = D' j) → Inv D ρ w → Inv D' ρ w) :
    ∀ (m : List Oper) (k : Nat) (ρ : Env) (w : World), (∀ j, m[j]? = l[k + j]?) → k + m.length = l.length → (∀ t, t ∉ dsts l → ρ t = ρ0 t) → Inv (fun j => Nat.blt j k) ρ w → RW P n l K m ρ w
  | [], k, ρ, w, _, hk, hf, hI => by
    simp at hk
    subst hk
    exact he ρ w hf hI
  | o :: m, k, ρ, w, hm, hk, hf, hI => by
    have h0 : l[k]? = some o := by simpa using (hm 0).symm
    have hm' : ∀ j, m[j]? = l[k + 1 + j]? := fun j => by
      have := hm (j + 1)
      simp only [List.getElem?_cons_succ] at this
      rw [this]; congr 1; omega
    have hlt : ∀ j o', l[j]? = some o' → ∀ i ∈ deps o', i < j := by
      intro j o' hj i hi
      unfold rising at hrise
      rw [List.all_eq_true] at hrise
      have := hrise (o', j) (by rw [List.mem_zipIdx_iff_getElem?]; exact hj)
      simp only [List.all_eq_true] at this
      have h2 := this i hi
      rw [blt_eq] at h2
      exact of_decide_eq_true h2
    have hfr : ∀ v, ∀ t, t ∉ dsts l → updO ρ o.dst v t = ρ0 t := by
      intro v t ht
      cases hd : o.dst with
      | none => exact hf t ht
      | some d =>
        show upd ρ d v t = _
        rw [upd_eq, if_neg]
        · exact hf t ht
        · intro e
          subst e
          exact ht (List.mem_filterMap.2 ⟨o, List.mem_of_getElem? h0, hd⟩)
    have hmark : ∀ j, mark (fun j => Nat.blt j k) k j = Nat.blt j (k + 1) := by
      intro j
      show cond (Nat.beq j k) true (Nat.blt j k) = Nat.blt j (k + 1)
      rw [beq_eq, blt_eq, blt_eq]
      by_cases h : j = k
      · subst h; simp
      · simp [h]; omega
    have := hs k o h0 (fun j => Nat.blt j k) ρ w (by show Nat.blt k k = false; rw [blt_eq]; simp) (fun j hj => by show Nat.blt j k = true; rw [blt_eq]; simp [hlt k o h0 j hj])
      (fun j o' hj hl i hi => by
        have h1 := hlt j o' hj i hi
        have h2 : j < k := by rw [blt_eq] at hl; exact of_decide_eq_true hl
        show Nat.blt i k = true
        rw [blt_eq]; simp; omega) hf hI
    rcases this with ⟨hw, h⟩ | ⟨hw, h⟩
    · exact .inl ⟨hw, opW_mono h fun v w' hv => RW_of_inv hs hrise he hext m (k + 1) _ _ hm' (by simp at hk; omega) (hfr v) (hext _ _ _ _ hmark hv)⟩
    · exact .inr ⟨hw, RW_of_inv hs hrise he hext m (k + 1) _ _ hm' (by simp at hk; omega) (hfr undef) (hext _ _ _ _ hmark h)⟩
theorem W_inv {id : Nat} {l : List Oper} (hrise : rising l = true) (Inv : (Nat → Bool) → St)
    (hext : ∀ D D' ρ w, (∀ j, j < l.length → D j = D' j) → Inv D ρ w → Inv D' ρ w)
    (h0 : Inv (fun _ => false) ρ w)
    (hs : ∀ i o, l[i]? = some o → AnyStep P n l ρ Inv i o)
    (he : ∀ ρ' w', (∀ t, t ∉ dsts l → ρ' t = ρ t) → Inv (fun _ => true) ρ' w' → N ρ' w') : W κ P n (.region id l.toArray false) N R X ρ w :=
  W_region (RW_of_inv (ρ0 := ρ) (Inv := Inv) hs hrise (fun ρ' w' hf hI => he ρ' w' hf (hext _ _ _ _ (fun j hj => by show Nat.blt j l.length = true; rw [blt_eq]; simp [hj]) hI)) (fun D D' ρ w h => hext D D' ρ w fun j _ => h j) l 0 ρ w (by simp) (by simp) (fun _ _ => rfl)
    (hext _ _ _ _ (fun j _ => by show false = Nat.blt j 0; rw [blt_eq]; simp) h0))
/-- every step of a list, one by one -/
def AllSteps (P : Program) (n : Nat) (l : List Oper) (ρ0 : Env) (Inv : (Nat → Bool) → St) : Nat → List Oper → Prop
  | _, [] => True
  | k, o :: m => AnyStep P n l ρ0 Inv k o ∧ AllSteps P n l ρ0 Inv (k + 1) m
theorem steps_of_all {l : List Oper} {ρ0 : Env} {Inv : (Nat → Bool) → St} : ∀ (m : List Oper) (k : Nat), AllSteps P n l ρ0 Inv k m → ∀ j o, m[j]? = some o → AnyStep P n l ρ0 Inv (k + j) o
  | [], _, _, _, _, h => by simp at h
  | o :: m, k, h, j, o', hj => by
    cases j with
    | zero => simp at hj; subst hj; exact h.1
    | succ j =>
      have := steps_of_all m (k + 1) h.2 j o' (by simpa using hj)
      rw [show k + (j + 1) = k + 1 + j by omega]
      exact this
theorem stepsAll {l : List Oper} {ρ0 : Env} {Inv : (Nat → Bool) → St} (h : AllSteps P n l ρ0 Inv 0 l) : ∀ i o, l[i]? = some o → AnyStep P n l ρ0 Inv i o := fun i o ho => by
  have := steps_of_all l 0 h i o ho
  simpa using this
theorem notYet {l : List Oper} {D : Nat → Bool} (hdc : ∀ j o', l[j]? = some o' → D j = true → ∀ k ∈ deps o', D k = true) {i j : Nat} {o : Oper} (hj : l[j]? = some o) (hm : i ∈ deps o) (hD : D i = false) : D j = false := by
  cases h : D j with
  | false => rfl
  | true => have := hdc j o hj h i hm; rw [hD] at this; cases this

/-! ## the frame behind a piece of code of which some slots alone are known -/
def mix (ds : List Nat) (ρ1 ρ : Env) : Env := fun t => cond (ds.any (Nat.beq t)) (ρ1 t) (ρ t)
theorem mix_of {ds : List Nat} {ρ1 ρ : Env} (h : ∀ t, t ∉ ds → ρ1 t = ρ t) : ρ1 = mix ds ρ1 ρ := by
  funext t
  unfold mix
  cases hb : ds.any (Nat.beq t) with
  | true => rfl
  | false =>
    refine h t fun hm => ?_
    rw [List.any_eq_false] at hb
    exact hb t hm (by simp)
theorem upd_of {ρ1 ρ2 : Env} {d : Nat} {v : Value} (e : ρ1 = ρ2) (h : ρ1 d = v) : ρ1 = upd ρ2 d v := by
  funext t
  rw [upd_eq]
  split
  · rename_i hd; subst hd; exact h
  · rw [e]
/-- what a frame and another one agree on -/
def Agr (ds : List Nat) (ρ1 ρ : Env) : Prop := ∀ t, t ∉ ds → ρ1 t = ρ t
theorem Agr.refl (ds : List Nat) (ρ : Env) : Agr ds ρ ρ := fun _ _ => rfl
theorem Agr.upd {ds : List Nat} {ρ1 ρ : Env} (h : Agr ds ρ1 ρ) {d : Nat} {v : Value} (hd : ds.any (Nat.beq d) = true) : Agr ds (upd ρ1 d v) ρ := by
  intro t ht
  rw [upd_eq, if_neg]
  · exact h t ht
  · intro e
    subst e
    rw [List.any_eq_true] at hd
    obtain ⟨x, hx, he⟩ := hd
    rw [beq_eq] at he
    exact ht (of_decide_eq_true he ▸ hx)
theorem Agr.mix {ds es : List Nat} {ρ1 ρ2 ρ : Env} (h : Agr ds ρ1 ρ) (hd : es.all (fun d => ds.any (Nat.beq d)) = true) : Agr ds (mix es ρ2 ρ1) ρ := by
  intro t ht
  unfold Vx.mix
  cases hb : es.any (Nat.beq t) with
  | false => exact h t ht
  | true =>
    exfalso
    rw [List.any_eq_true] at hb
    obtain ⟨x, hx, he⟩ := hb
    rw [beq_eq] at he
    have hxt := of_decide_eq_true he
    subst hxt
    rw [List.all_eq_true] at hd
    have := hd t hx
    rw [List.any_eq_true] at this
    obtain ⟨y, hy, he⟩ := this
    rw [beq_eq] at he
    exact ht (of_decide_eq_true he ▸ hy)

/-! ## a call -/
theorem calls_of_W {f : FuncId} {fn : Func} {c : Code} {args : Array Value} {Rp : Ending → World → Prop} (hf : P.funcs[f]? = some fn) (hb : fn.body = some c) (hn : args.size ≤ fn.ntmps)
    (h : W c0 P fn.ntmps c (fun ρ w => ∃ v, (results fn (fr fn.ntmps ρ).tmps).run P w = .ok v w ∧ Rp (.returned v) w) (fun ρ w => ∃ v, (results fn (fr fn.ntmps ρ).tmps).run P w = .ok v w ∧ Rp (.returned v) w) (fun _ _ _ => False)
      (fun i => args.getD i undef) w) : Calls P f args w Rp := by
  refine (callsIn_wide (n := 0)).1 (callsIn_of_wp hf hb trivial ?_)
  rw [start_fr _ _ hn]
  refine wpIn_mono (F := Fence.wide) h (fun e a w hq => ?_)
  cases e with
  | normal => obtain ⟨ρ, rfl, v, hv, hR⟩ := hq; exact ⟨rfl, v, hv, hR⟩
  | ret => obtain ⟨ρ, rfl, v, hv, hR⟩ := hq; exact ⟨rfl, v, hv, hR⟩
  | exit i => obtain ⟨_, _, h⟩ := hq; exact h.elim
  | _ => exact hq.elim
end
end Go.Vx
