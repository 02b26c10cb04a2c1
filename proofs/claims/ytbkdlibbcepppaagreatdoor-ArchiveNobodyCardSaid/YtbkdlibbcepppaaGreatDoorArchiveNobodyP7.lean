/- A part of a proof: what functions of the program compute, and plain facts on that. -/
import Derived.Test.YtbkdlibbcepppaaGreatDoorArchiveNobodyP6
set_option linter.unusedVariables false
set_option linter.unusedSectionVars false
set_option linter.unusedSimpArgs false
namespace Go.Proofs
open Go Go.Vx Go.RowKit Go.Ce
namespace Ct
set_option maxRecDepth 1000000
structure Acx where
  kind : Int
  op : Opn
  vec : Vec
  st : Sta
  a1 : Option Addr
  c1 : Nat
  a2 : Option Addr
  c2 : Nat
  chg : Int
  n3 : Nat
  a3 : Option Addr
  c3 : Nat
  off : Int
def acxc (x : Acx) : List Value := [.int .u8 x.kind] ++ oc x.op ++ vc x.vec ++ (vc x.st.known ++ [(.slice x.a1 x.st.ents.length x.c1 : Value), (.slice x.a2 x.st.ticks.length x.c2 : Value)]) ++ [.int .u8 x.chg, .slice x.a3 x.n3 x.c3, .int .i64 x.off]
def acxI (x : Acx) (w : World) : Prop := Rd w (.slice x.a1 x.st.ents.length x.c1) 7 (x.st.ents.map cec) ∧ Rd w (.slice x.a2 x.st.ticks.length x.c2) 2 (x.st.ticks.map lsc)
abbrev tokA (x : Acx) : Tok := ⟨fun k => match k with | 61 => .int .i64 (x.st.ents.length : Int) | 62 => .int .i64 (x.st.ticks.length : Int) | 63 => .int .i64 (x.n3 : Int) | k => (acxc x).getD k (.bool false), fun w0 M => ∀ w : World, w0.heap.size ≤ w.heap.size → (∀ b, b < w0.heap.size → ¬ M b → w.heap[b]? = w0.heap[b]?) → acxI x w⟩
noncomputable def toks (n k : Nat) : List AV := (List.range' n k).map AV.tok
noncomputable def isTok (n : Nat) (a : AV) : Bool := match a with | .tok k => Nat.beq k n | _ => false
noncomputable def isToks (n : Nat) (l : List AV) : Bool := List.rec (fun _ => true) (fun a _ ih n => isTok n a && ih (Nat.succ n)) l n
noncomputable def isA (l : List AV) : Bool := match l with | [.ag cs] => isToks 40 cs && Nat.beq cs.length 18 | _ => false
noncomputable def hookTh (f : Nat) (args : List AV) (m : Mem) : RL := cond (Nat.beq f 68 && isA args) (some [(.ag (List.replicate 18 .any), m)]) none
noncomputable def bopA (r : Nat) (q1 q2 q3 : Bool) (op : BinOp) (k : Nat) (j : IntKind) (c : Int) : Option AV :=
  cond (Nat.beq k 0 && Nat.beq (kd j) 1 && eqI c 12) (match op with | .rem => some (.i .u8 (Int.ofNat r)) | _ => none)
    (cond (Nat.beq k 61 && Nat.beq (kd j) 6 && eqI c 60) (match op with | .leq => some (.b q1) | _ => none)
      (cond (Nat.beq k 62 && Nat.beq (kd j) 6 && eqI c 60) (match op with | .leq => some (.b q2) | _ => none)
        (cond (Nat.beq k 63 && Nat.beq (kd j) 6 && eqI c 50) (match op with | .leq => some (.b q3) | _ => none) none)))
noncomputable def tlenA (k : Nat) : Option AV := cond (Nat.beq k 56) (some (.tok 61)) (cond (Nat.beq k 57) (some (.tok 62)) (cond (Nat.beq k 59) (some (.tok 63)) none))
noncomputable def hookA (few : Bool) : Nat → List AV → Mem → RL := hookT 15 0 (nums .u32 half) (cond few hookTh (fun _ _ _ => none))
noncomputable def cfgA (r : Nat) (q1 q2 q3 : Bool) : Cfg := cfgOf Tryz.prog.types.toList Tryz.prog.funcs.toList eqsL (hookA (q1 && q2 && q3)) (bopA r q1 q2 q3) tlenA
noncomputable def runA (r : Nat) (q1 q2 q3 : Bool) (T : Nat) : Bool := trueB 0 (callA (cfgA r q1 q2 q3) (exec (cfgA r q1 q2 q3) 1000000) 4 [.ag (toks 0 61)] (mem0 0 (nums .u32 half) T))
theorem evA0 (T : Nat) : runA 0 true true true T = true := by kernel_rfl
theorem evA1 (T : Nat) : runA 1 true true true T = true := by kernel_rfl
theorem evA2 (T : Nat) : runA 2 true true true T = true := by kernel_rfl
theorem evA3 (T : Nat) : runA 3 true true true T = true := by kernel_rfl
theorem evA4 (T : Nat) : runA 4 true true true T = true := by kernel_rfl
theorem evA5 (T : Nat) : runA 5 true true true T = true := by kernel_rfl
theorem evA6 (T : Nat) : runA 6 true true true T = true := by kernel_rfl
theorem evA7 (T : Nat) : runA 7 true true true T = true := by kernel_rfl
theorem evA8 (T : Nat) : runA 8 true true true T = true := by kernel_rfl
theorem evA9 (T : Nat) : runA 9 true true true T = true := by kernel_rfl
theorem evA10 (T : Nat) : runA 10 true true true T = true := by kernel_rfl
theorem evA11 (T : Nat) : runA 11 true true true T = true := by kernel_rfl
theorem evA (T r : Nat) (h : r < 12) : runA r true true true T = true := by
  match r, h with
  | 0, _ => exact evA0 T
  | 1, _ => exact evA1 T
  | 2, _ => exact evA2 T
  | 3, _ => exact evA3 T
  | 4, _ => exact evA4 T
  | 5, _ => exact evA5 T
  | 6, _ => exact evA6 T
  | 7, _ => exact evA7 T
  | 8, _ => exact evA8 T
  | 9, _ => exact evA9 T
  | 10, _ => exact evA10 T
  | 11, _ => exact evA11 T
  | n + 12, h => exact absurd h (by omega)
theorem evN1 (T r : Nat) (q2 q3 : Bool) : runA r false q2 q3 T = true := by cases q2 <;> cases q3 <;> kernel_rfl
theorem evN2 (T r : Nat) (q3 : Bool) : runA r true false q3 T = true := by cases q3 <;> kernel_rfl
theorem evN3 (T r : Nat) : runA r true true false T = true := by kernel_rfl
theorem evAll (T r : Nat) (q1 q2 q3 : Bool) (hr : r < 12) : runA r q1 q2 q3 T = true := by
  cases q1
  · exact evN1 _ _ _ _
  · cases q2
    · exact evN2 _ _ _
    · cases q3
      · exact evN3 _ _
      · exact evA _ _ hr
theorem isToks_cons {n : Nat} {a : AV} {l : List AV} (h : isToks n (a :: l) = true) : a = .tok n ∧ isToks (n + 1) l = true := by
  have h : (isTok n a && isToks (n + 1) l) = true := h
  rw [Bool.and_eq_true] at h
  obtain ⟨h1, h2⟩ := h
  refine ⟨?_, h2⟩
  unfold isTok at h1
  split at h1
  · rw [Nat.eq_of_beq_eq_true h1]
  · cases h1
theorem isToks_eq [Tok] {σ : Sig} : ∀ {n : Nat} {cs : List AV} {us : List Value}, isToks n cs = true → RelL σ cs us → us = (List.range' n cs.length).map Tok.v
  | _, [], _, _, .nil => rfl
  | n, a :: cs, _, h, .cons h1 h2 => by
    obtain ⟨rfl, h3⟩ := isToks_cons h
    rw [isToks_eq h3 h2]
    cases h1
    simp [List.range'_succ]
theorem relL_any [Tok] {σ : Sig} : ∀ {vs : List Value}, (∀ v ∈ vs, v.cells = #[v]) → RelL σ (List.replicate vs.length .any) vs
  | [], _ => .nil
  | v :: vs, h => .cons (.any v (h v List.mem_cons_self)) (relL_any fun u hu => h u (List.mem_cons_of_mem _ hu))
theorem relL_toks [Tok] {σ : Sig} : ∀ {vs : List Value} {n : Nat}, (∀ v ∈ vs, v.cells = #[v]) → (∀ i (h : i < vs.length), Tok.v (n + i) = vs[i]) → RelL σ (toks n vs.length) vs
  | [], _, _, _ => .nil
  | v :: vs, n, h, hv => by
    have h0 : Tok.v n = v := hv 0 (by simp)
    have hc : (Tok.v n).cells = #[Tok.v n] := by rw [h0]; exact h v List.mem_cons_self
    have : toks n (v :: vs).length = .tok n :: toks (n + 1) vs.length := by
      simp [toks, List.range'_succ]
    rw [this]
    refine .cons (by rw [← h0]; exact .tok n hc) (relL_toks (fun u hu => h u (List.mem_cons_of_mem _ hu)) fun i hi => ?_)
    have := hv (i + 1) (by simp; omega)
    rw [show n + 1 + i = n + (i + 1) by omega, this]; rfl
theorem vc_cells (v : Vec) : ∀ u ∈ vc v, u.cells = #[u] := by
  repeat refine List.forall_mem_cons.2 ⟨rfl, ?_⟩
  exact fun _ h => by cases h
theorem acxc_one (x : Acx) : ∀ u ∈ acxc x, u.cells = #[u] := by
  repeat refine List.forall_mem_cons.2 ⟨rfl, ?_⟩
  exact fun _ h => by cases h
theorem tokA_v (x : Acx) (i : Nat) (h : i < 61) : (tokA x).v i = (acxc x).getD i (.bool false) := by
  show (match i with | 61 => Value.int .i64 (x.st.ents.length : Int) | 62 => .int .i64 (x.st.ticks.length : Int) | 63 => .int .i64 (x.n3 : Int) | k => (acxc x).getD k (.bool false)) = _
  split <;> first | omega | rfl
theorem hookTh_ok (x : Acx) (hle : x.st.ents.length ≤ 100000) (hlt : x.st.ticks.length ≤ 100000) : CfCm hookTh ∧ ∀ B, @CallOk (tokA x) Tryz.prog B hookTh := by
  letI := tokA x
  refine ⟨fun f args m outs h => ?_, fun B => ?_⟩
  · unfold hookTh at h
    obtain ⟨_, h⟩ := cond_iff.1 h
    cases h; exact ⟨by simp, fun o ho => by simp at ho; subst ho; exact Nat.le_refl _⟩
  · intro f args m outs h w0 M hI σ fr w hi vs hp hb hargs
    unfold hookTh at h
    obtain ⟨hc, h⟩ := cond_iff.1 h
    cases h
    rw [Bool.and_eq_true] at hc
    obtain ⟨c1, c2⟩ := hc
    have c1 := Nat.eq_of_beq_eq_true c1
    subst c1
    unfold isA at c2
    split at c2
    · rename_i cs
      rw [Bool.and_eq_true] at c2
      obtain ⟨c3, c4⟩ := c2
      have c4 := Nat.eq_of_beq_eq_true c4
      cases hargs with | cons h1 h2 => ?_
      cases h2
      cases h1 with | ag h1 => ?_
      rename_i us
      have e := isToks_eq c3 h1
      have e2 : us = vc x.st.known ++ [(.slice x.a1 x.st.ents.length x.c1 : Value), (.slice x.a2 x.st.ticks.length x.c2 : Value)] := by
        rw [e, c4]
        rfl
      subst e2
      obtain ⟨r1, r2⟩ := hI.ok w hp.good.own.size hp.good.own.old
      rw [Tryz.call68 _ w]
      refine Calls.mono (Tt.theirs_ok w x.st x.a1 x.c1 x.a2 x.c2 hle hlt r1 r2) fun e w' ⟨y, he, ho, _⟩ => ⟨_, he, _, List.mem_cons_self, σ, ?_, SLe.refl _ _ _, MLe.refl _, ?_⟩
      · refine .ag (show RelL σ (List.replicate 18 .any) _ from relL_any (vs := vc x.st.known ++ [(.slice y.1.1 x.st.ents.length y.1.2 : Value), (.slice y.2.1 x.st.ticks.length y.2.2 : Value)]) fun u hu => ?_)
        rcases List.mem_append.1 hu with h | h
        · exact vc_cells _ _ h
        · simp only [List.mem_cons, List.not_mem_nil, or_false] at h
          rcases h with rfl | rfl <;> rfl
      · exact ⟨hp.good.own.call0 (ho.take 0), hp.good.bd⟩
    · cases c2
theorem hookA_ok (x : Acx) (r : Nat) : @HookOk (tokA x) (cfgA r (decide (x.st.ents.length ≤ 60)) (decide (x.st.ticks.length ≤ 60)) (decide (x.n3 ≤ 50))) Tryz.prog := by
  letI := tokA x
  by_cases hf : (decide (x.st.ents.length ≤ 60) && decide (x.st.ticks.length ≤ 60) && decide (x.n3 ≤ 50)) = true
  · have hf' := hf
    simp only [Bool.and_eq_true, decide_eq_true_eq] at hf'
    obtain ⟨n1, n2⟩ := hookTh_ok x (by omega) (by omega)
    obtain ⟨h1, h2⟩ := hookT_ok (P := Tryz.prog) (g := 0) (k := .u32) (l := half) (fA := 15) (next := hookTh) (by decide) Tryz.call15 (fun T w hw => run_f15 T hw) n1 n2
    have e : (cfgA r (decide (x.st.ents.length ≤ 60)) (decide (x.st.ticks.length ≤ 60)) (decide (x.n3 ≤ 50))).hk = hookT 15 0 (nums .u32 half) hookTh := by
      show hookA _ = _
      rw [hf]; rfl
    exact ⟨by rw [e]; exact h1, by rw [e]; exact h2⟩
  · obtain ⟨h1, h2⟩ := hookT_ok (P := Tryz.prog) (g := 0) (k := .u32) (l := half) (fA := 15) (next := fun _ _ _ => none) (by decide) Tryz.call15 (fun T w hw => run_f15 T hw) (none_ok (P := Tryz.prog)).1 (none_ok (P := Tryz.prog)).2
    have e : (cfgA r (decide (x.st.ents.length ≤ 60)) (decide (x.st.ticks.length ≤ 60)) (decide (x.n3 ≤ 50))).hk = hookT 15 0 (nums .u32 half) (fun _ _ _ => none) := by
      show hookA _ = _
      rw [Bool.eq_false_iff.2 hf]; rfl
    exact ⟨by rw [e]; exact h1, by rw [e]; exact h2⟩
theorem leqI_eq (n m : Nat) : (!ltI (m : Int) (n : Int)) = decide (n ≤ m) := by
  rw [ltI_eq]
  by_cases h : n ≤ m
  · have : ¬ ((m : Int) < n) := by omega
    simp [h, this]
  · have : (m : Int) < n := by omega
    simp [h, this]
theorem cfgA_ok (x : Acx) (r : Nat) (hr : x.kind.tmod 12 = r) : @CfgOk (tokA x) (cfgA r (decide (x.st.ents.length ≤ 60)) (decide (x.st.ticks.length ≤ 60)) (decide (x.n3 ≤ 50))) Tryz.prog := by
  letI := tokA x
  refine cfg_ok tabOk (fun op k j b v h => ?_) (fun k r h => ?_)
  · unfold bopA at h
    rcases cond_iff2.1 h with ⟨hc, h1⟩ | ⟨_, h1⟩
    · rw [Bool.and_eq_true, Bool.and_eq_true, eqI_eq, decide_eq_true_iff] at hc
      obtain ⟨⟨c1, c2⟩, rfl⟩ := hc
      cases Nat.eq_of_beq_eq_true c1
      cases kd_inj (k := .u8) (Nat.eq_of_beq_eq_true c2)
      refine ⟨x.kind, rfl, fun t => ?_⟩
      cases op <;> first | (cases h1; done) | skip
      cases h1
      show some (AV.i .u8 (Int.tmod x.kind 12)) = _
      rw [hr]; rfl
    · rcases cond_iff2.1 h1 with ⟨hc, h2⟩ | ⟨_, h2⟩
      · rw [Bool.and_eq_true, Bool.and_eq_true, eqI_eq, decide_eq_true_iff] at hc
        obtain ⟨⟨c1, c2⟩, rfl⟩ := hc
        cases Nat.eq_of_beq_eq_true c1
        cases kd_inj (k := .i64) (Nat.eq_of_beq_eq_true c2)
        refine ⟨(x.st.ents.length : Int), rfl, fun t => ?_⟩
        cases op <;> first | (cases h2; done) | skip
        cases h2
        exact congrArg (fun q => some (AV.b q)) (leqI_eq x.st.ents.length 60)
      · rcases cond_iff2.1 h2 with ⟨hc, h3⟩ | ⟨_, h3⟩
        · rw [Bool.and_eq_true, Bool.and_eq_true, eqI_eq, decide_eq_true_iff] at hc
          obtain ⟨⟨c1, c2⟩, rfl⟩ := hc
          cases Nat.eq_of_beq_eq_true c1
          cases kd_inj (k := .i64) (Nat.eq_of_beq_eq_true c2)
          refine ⟨(x.st.ticks.length : Int), rfl, fun t => ?_⟩
          cases op <;> first | (cases h3; done) | skip
          cases h3
          exact congrArg (fun q => some (AV.b q)) (leqI_eq x.st.ticks.length 60)
        · obtain ⟨hc, h4⟩ := cond_iff.1 h3
          rw [Bool.and_eq_true, Bool.and_eq_true, eqI_eq, decide_eq_true_iff] at hc
          obtain ⟨⟨c1, c2⟩, rfl⟩ := hc
          cases Nat.eq_of_beq_eq_true c1
          cases kd_inj (k := .i64) (Nat.eq_of_beq_eq_true c2)
          refine ⟨(x.n3 : Int), rfl, fun t => ?_⟩
          cases op <;> first | (cases h4; done) | skip
          cases h4
          exact congrArg (fun q => some (AV.b q)) (leqI_eq x.n3 50)
  · unfold tlenA at h
    rcases cond_iff2.1 h with ⟨hc, h1⟩ | ⟨_, h1⟩
    · cases Nat.eq_of_beq_eq_true hc
      cases h1
      exact ⟨x.a1, x.st.ents.length, x.c1, rfl, fun σ => .tok 61 rfl⟩
    · rcases cond_iff2.1 h1 with ⟨hc, h2⟩ | ⟨_, h2⟩
      · cases Nat.eq_of_beq_eq_true hc
        cases h2
        exact ⟨x.a2, x.st.ticks.length, x.c2, rfl, fun σ => .tok 62 rfl⟩
      · obtain ⟨hc, h3⟩ := cond_iff.1 h2
        cases Nat.eq_of_beq_eq_true hc
        cases h3
        exact ⟨x.a3, x.n3, x.c3, rfl, fun σ => .tok 63 rfl⟩
theorem archNo_ok (T : Nat) (x : Acx) {w : World} (hk : 0 ≤ x.kind ∧ x.kind < 256) (hI : acxI x w) (hw : w.heap[0]? = some (.cells (numsV .u32 half).toArray T (0, 0))) : Calls Tryz.prog 4 #[.agg (acxc x).toArray] w (fun e w' => e = .returned (.bool true) ∧ Own w no w' []) := by
  letI := tokA x
  have hr : x.kind.tmod 12 = (((x.kind.tmod 12).toNat : Nat) : Int) := by
    have : x.kind.tmod 12 = x.kind % 12 := Int.tmod_eq_emod_of_nonneg hk.1
    omega
  have hr2 : (x.kind.tmod 12).toNat < 12 := by
    have : x.kind.tmod 12 = x.kind % 12 := Int.tmod_eq_emod_of_nonneg hk.1
    omega
  have hne : ∀ {α : Type} (l : List α) (en : α → List Value) (v : Value) (k : Nat), (∀ y : α, ∃ c r, en y = .int .u16 c :: r) → Rd w v k (l.map en) → l ≠ [] → bkS v ≠ 0 := by
    intro α l en v k hen hr hl h0
    cases l with
    | nil => exact hl rfl
    | cons y l =>
      obtain ⟨c, r, he⟩ := hen y
      have hc := hr.cell 0 0 (en y) (.int .u16 c) (by simp) (by rw [he]; rfl)
      rw [h0] at hc
      unfold World.cell? at hc
      rw [hw] at hc
      have hc2 : (numsV .u32 half)[Go.Vx.ofS v + 0 * k + 0]? = some (.int .u16 c) := by simpa using hc
      unfold numsV at hc2
      rw [List.getElem?_map] at hc2
      cases hx : half[Go.Vx.ofS v + 0 * k + 0]? with
      | none => rw [hx] at hc2; cases hc2
      | some z => rw [hx] at hc2; cases hc2
  have hkeep : ∀ {α : Type} (l : List α) (en : α → List Value) (v : Value) (k : Nat), (∀ y : α, ∃ c r, en y = .int .u16 c :: r) → Rd w v k (l.map en) → ∀ w' : World, w.heap.size ≤ w'.heap.size → (∀ b, b < w.heap.size → ¬ b = 0 → w'.heap[b]? = w.heap[b]?) → Rd w' v k (l.map en) := by
    intro α l en v k hen hr w' _ ho
    cases hl : l with
    | nil => subst hl; exact ⟨hr.len, hr.small, hr.shape, by simp, hr.room⟩
    | cons y m =>
      rw [← hl]
      have hb := hne l en v k hen hr (by rw [hl]; simp)
      refine ⟨hr.len, hr.small, hr.shape, fun i j l u hi hj => ?_, hr.room⟩
      have hc := hr.cell i j l u hi hj
      have hlt := World.block_lt_of_cell? _ _ hc
      unfold World.cell? at hc ⊢
      rw [ho _ hlt hb]
      exact hc
  exact run_law (fuel := 1000000) (args := [.ag (toks 0 61)]) (vs := [.agg (acxc x).toArray]) (cfgA_ok x _ hr) (hookA_ok x _) (show (cfgA _ _ _ _).fn 4 = some Tryz.f4 by kernel_rfl) rfl (by decide)
    (fun σ => .cons (.ag (relL_toks (vs := acxc x) (acxc_one x) fun i hi => by rw [Nat.zero_add]; exact (tokA_v x i hi).trans (by rw [List.getD_eq_getElem?_getD, List.getElem?_eq_getElem hi]; rfl))) .nil) (evAll T _ _ _ _ hr2)
    (fun w' h1 h2 => ⟨hkeep x.st.ents cec _ 7 (fun y => ⟨_, _, rfl⟩) hI.1 w' h1 h2, hkeep x.st.ticks lsc _ 2 (fun y => ⟨_, _, rfl⟩) hI.2 w' h1 h2⟩) hw
end Ct
end Go.Proofs
