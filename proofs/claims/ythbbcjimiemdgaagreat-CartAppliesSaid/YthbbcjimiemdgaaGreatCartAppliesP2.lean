/- A part of a proof: what functions of the program compute, and plain facts on that. -/
import Derived.Test.YthbbcjimiemdgaaGreatCartAppliesP1
import Derived.OpenShut
import Derived.ChangeArms
import Derived.ProofKit
import Derived.Deep.Slices
import Derived.KernelRfl
import Derived.Test.YthbbcjimiemdgaaGreatProg
import Derived.WideKeyEntry
import Derived.Laws.CopyRow
import Derived.Lib.AppendZeros
import Derived.Lib.Overlaps
import Derived.Laws.Externs
import Derived.Laws.Cover3
set_option linter.unusedVariables false
set_option linter.unusedSimpArgs false
namespace Go.Vx
structure Cen where
  cart : Int
  item : Int
  qty : Int
  kind : Int
  dot : Dot
  count : Int
  deriving DecidableEq
instance : Inhabited Cen := ⟨⟨0, 0, 0, 0, ⟨0, 0⟩, 0⟩⟩
def cec (e : Cen) : List Value := [.int .u16 e.cart, .int .u16 e.item, .int .u16 e.qty, .int .u8 e.kind, .int .u8 e.dot.rep, .int .u32 e.dot.seq, .int .u64 e.count]
theorem cec_one (e : Cen) : ∀ x ∈ cec e, x.oneCell' = true := by
  intro x hx; simp only [cec, List.mem_cons, List.not_mem_nil, or_false] at hx; rcases hx with h | h | h | h | h | h | h <;> subst h <;> rfl
structure Lst where
  cart : Int
  tick : Int
  deriving DecidableEq
instance : Inhabited Lst := ⟨⟨0, 0⟩⟩
def lsc (x : Lst) : List Value := [.int .u16 x.cart, .int .u32 x.tick]
theorem lsc_one (x : Lst) : ∀ y ∈ lsc x, y.oneCell' = true := by
  intro y hy; simp only [lsc, List.mem_cons, List.not_mem_nil, or_false] at hy; rcases hy with h | h <;> subst h <;> rfl
theorem dec_cen (a b : Cen) : (decide (a.cart = b.cart) && (decide (a.item = b.item) && (decide (a.qty = b.qty) && (decide (a.kind = b.kind) && (decide (a.dot = b.dot) && (decide (a.count = b.count) && true)))))) = decide (a = b) := by
  cases a; cases b; simp
theorem dec_lst (a b : Lst) : (decide (a.cart = b.cart) && (decide (a.tick = b.tick) && true)) = decide (a = b) := by
  cases a; cases b; simp
structure Sta where
  known : Vec
  ents : List Cen
  ticks : List Lst
def CenOk (e : Cen) : Prop := (0 ≤ e.cart ∧ e.cart < 65536) ∧ (0 ≤ e.item ∧ e.item < 65536) ∧ (0 ≤ e.qty ∧ e.qty < 65536) ∧ (0 ≤ e.kind ∧ e.kind < 256) ∧ DotOk e.dot ∧ (0 ≤ e.count ∧ e.count < 18446744073709551616)
def LstOk (x : Lst) : Prop := (0 ≤ x.cart ∧ x.cart < 65536) ∧ (0 ≤ x.tick ∧ x.tick < 4294967296)
def aheadB (a b : Cen) : Bool := if a.cart = b.cart then (if a.dot.rep = b.dot.rep then decide (a.dot.seq < b.dot.seq) else decide (a.dot.rep < b.dot.rep)) else decide (a.cart < b.cart)
def placeI (a b : Cen) : Int := orI [cmpI a.cart b.cart, cmpI a.dot.rep b.dot.rep, cmpI a.dot.seq b.dot.seq]
theorem ahead_iff (a b : Cen) : aheadB a b = true ↔ (a.cart < b.cart ∨ (a.cart = b.cart ∧ (a.dot.rep < b.dot.rep ∨ (a.dot.rep = b.dot.rep ∧ a.dot.seq < b.dot.seq)))) := by
  unfold aheadB
  split
  · split
    · rw [decide_eq_true_iff]; omega
    · rw [decide_eq_true_iff]; omega
  · rw [decide_eq_true_iff]; omega
theorem place_lt (a b : Cen) : placeI a b < 0 ↔ aheadB a b = true := by
  rw [ahead_iff]
  unfold placeI orI cmpI
  rcases Int.lt_trichotomy a.cart b.cart with h | h | h
  · simp [h]
  · rw [if_neg (by omega), if_neg (by omega)]
    rcases Int.lt_trichotomy a.dot.rep b.dot.rep with h2 | h2 | h2
    · simp [h, h2]
    · rw [if_neg (by omega), if_neg (by omega)]
      rcases Int.lt_trichotomy a.dot.seq b.dot.seq with h3 | h3 | h3
      · simp [h, h2, h3]
      · rw [if_neg (by omega), if_neg (by omega)]
        simp; omega
      · rw [if_neg (by omega), if_pos h3]
        simp; omega
    · rw [if_neg (by omega), if_pos h2]
      simp; omega
  · rw [if_neg (by omega), if_pos h]
    simp; omega
theorem ahead_trans {a b c : Cen} (h : aheadB a b = true) (g : aheadB b c = true) : aheadB a c = true := by rw [ahead_iff] at *; omega
theorem ahead_irrefl (a : Cen) : aheadB a a = false := by
  rw [Bool.eq_false_iff, ne_eq, ahead_iff]; omega
def RisE (l : List Cen) : Prop := l.Pairwise fun a b => aheadB a b = true
theorem risE_eq {l m : List Cen} (hl : RisE l) (hm : RisE m) (h : ∀ x, x ∈ l ↔ x ∈ m) : l = m := by
  induction l generalizing m with
  | nil =>
    cases m with
    | nil => rfl
    | cons b m => exact absurd ((h b).2 (by simp)) (by simp)
  | cons a l ih =>
    cases m with
    | nil => exact absurd ((h a).1 (by simp)) (by simp)
    | cons b m =>
      rw [RisE, List.pairwise_cons] at hl hm
      have hab : a = b := by
        rcases List.mem_cons.1 ((h a).1 (by simp)) with e | e
        · exact e
        · rcases List.mem_cons.1 ((h b).2 (by simp)) with e2 | e2
          · exact e2.symm
          · have := ahead_trans (hl.1 b e2) (hm.1 a e)
            rw [ahead_irrefl] at this; cases this
      subst hab
      congr 1
      refine ih hl.2 hm.2 fun x => ?_
      have hx := h x
      simp only [List.mem_cons] at hx
      constructor
      · intro hxl
        rcases hx.1 (.inr hxl) with e | e
        · subst e; have := hl.1 x hxl; rw [ahead_irrefl] at this; cases this
        · exact e
      · intro hxm
        rcases hx.2 (.inr hxm) with e | e
        · subst e; have := hm.1 x hxm; rw [ahead_irrefl] at this; cases this
        · exact e
def RisT (l : List Lst) : Prop := l.Pairwise fun a b => a.cart < b.cart
theorem risT_eq {l m : List Lst} (hl : RisT l) (hm : RisT m) (h : ∀ x, x ∈ l ↔ x ∈ m) : l = m := by
  induction l generalizing m with
  | nil =>
    cases m with
    | nil => rfl
    | cons b m => exact absurd ((h b).2 (by simp)) (by simp)
  | cons a l ih =>
    cases m with
    | nil => exact absurd ((h a).1 (by simp)) (by simp)
    | cons b m =>
      rw [RisT, List.pairwise_cons] at hl hm
      have hab : a = b := by
        rcases List.mem_cons.1 ((h a).1 (by simp)) with e | e
        · exact e
        · rcases List.mem_cons.1 ((h b).2 (by simp)) with e2 | e2
          · exact e2.symm
          · have h1 := hl.1 b e2; have h2 := hm.1 a e; omega
      subst hab
      congr 1
      refine ih hl.2 hm.2 fun x => ?_
      have hx := h x
      simp only [List.mem_cons] at hx
      constructor
      · intro hxl
        rcases hx.1 (.inr hxl) with e | e
        · subst e; have := hl.1 x hxl; omega
        · exact e
      · intro hxm
        rcases hx.2 (.inr hxm) with e | e
        · subst e; have := hm.1 x hxm; omega
        · exact e
def tickP (ts : List Lst) (c : Int) : Option Int := (ts.find? fun x => decide (x.cart = c)).map (·.tick)
def shapedB (e : Cen) : Bool := if e.kind = 1 then decide (1 ≤ e.qty) else if e.kind = 2 then true else decide (e.kind = 4) && (decide (e.item = 0) && decide (e.qty = 0))
def entB (s : Sta) (e : Cen) : Bool := (tickP s.ticks e.cart).isSome && shapedB e && hasB s.known e.dot && decide (1 ≤ e.count) && decide (e.count ≤ 16777217)
structure RightC (s : Sta) : Prop where
  known : rightB s.known 16 = true
  rt : RisT s.ticks
  tick : ∀ x ∈ s.ticks, x.tick ≤ 1073741824
  re : RisE s.ents
  ent : ∀ e ∈ s.ents, entB s e = true
  nd : (s.ents.map (·.dot)).Nodup
def laidO (e : Cen) : Opn := ⟨e.dot, e.kind, e.cart, e.item, e.qty, 0, vzero⟩
def entO (o : Opn) : Cen := ⟨o.cart, o.item, o.qty, o.kind, o.dot, cntO o⟩
theorem ends_laid (o x : Opn) : endsB o (laidO (entO x)) = endsB o x := rfl
def putE (e : Cen) : List Cen → List Cen
  | [] => [e]
  | x :: l => if aheadB e x = true then e :: x :: l else x :: putE e l
theorem mem_putE {e x : Cen} : ∀ {l : List Cen}, x ∈ putE e l ↔ x = e ∨ x ∈ l
  | [] => by simp [putE]
  | y :: l => by
    unfold putE; split
    · simp
    · rw [List.mem_cons, mem_putE, List.mem_cons]
      constructor
      · rintro (h | h | h)
        · exact .inr (.inl h)
        · exact .inl h
        · exact .inr (.inr h)
      · rintro (h | h | h)
        · exact .inr (.inl h)
        · exact .inl h
        · exact .inr (.inr h)
theorem ahead_total {a b : Cen} (h : a.dot ≠ b.dot) : aheadB a b = true ∨ aheadB b a = true := by
  have hd : ¬ (a.dot.rep = b.dot.rep ∧ a.dot.seq = b.dot.seq) := fun ⟨h1, h2⟩ => h (by cases ha : a.dot; cases hb : b.dot; rw [ha, hb] at h1 h2; simp_all)
  rw [ahead_iff, ahead_iff]; omega
theorem risE_put {e : Cen} : ∀ {l : List Cen}, RisE l → e.dot ∉ l.map (·.dot) → RisE (putE e l)
  | [], _, _ => by simp [putE, RisE]
  | x :: l, h, hn => by
    rw [List.map_cons, List.mem_cons] at hn
    have hx := List.pairwise_cons.1 h
    unfold putE; split
    · rename_i ha
      refine List.pairwise_cons.2 ⟨fun y hy => ?_, h⟩
      rcases List.mem_cons.1 hy with e1 | e1
      · subst e1; exact ha
      · exact ahead_trans ha (hx.1 y e1)
    · rename_i ha
      refine List.pairwise_cons.2 ⟨fun y hy => ?_, risE_put hx.2 fun hm => hn (.inr hm)⟩
      rcases mem_putE.1 hy with e1 | e1
      · subst e1
        rcases ahead_total (a := y) (b := x) (fun e2 => hn (.inl e2)) with g | g
        · exact absurd g ha
        · exact g
      · exact hx.1 y e1
def putT (c t : Int) : List Lst → List Lst
  | [] => [⟨c, t⟩]
  | x :: l => if x.cart = c then ⟨c, max x.tick t⟩ :: l else if c < x.cart then ⟨c, t⟩ :: x :: l else x :: putT c t l
theorem tickP_put {c t d : Int} : ∀ {l : List Lst}, RisT l → tickP (putT c t l) d = if d = c then some (match tickP l c with | none => t | some u => max u t) else tickP l d
  | [], _ => by
    unfold putT tickP
    by_cases h : d = c
    · subst h; simp
    · simp [h, show ¬ c = d from fun e => h e.symm]
  | x :: l, h => by
    have hx := List.pairwise_cons.1 h
    unfold putT
    split
    · rename_i hc
      by_cases hd : d = c
      · subst hd; simp [tickP, hc]
      · simp [tickP, hc, hd, show ¬ c = d from fun e => hd e.symm]
    · rename_i hc
      split
      · rename_i hlt
        have hno : tickP (x :: l) c = none := by
          unfold tickP
          rw [Option.map_eq_none_iff, List.find?_eq_none]
          intro y hy
          rcases List.mem_cons.1 hy with e1 | e1
          · subst e1; simpa using hc
          · have := hx.1 y e1; simp; omega
        by_cases hd : d = c
        · subst hd; rw [if_pos rfl, hno]; simp [tickP]
        · rw [if_neg hd]; simp [tickP, show ¬ c = d from fun e => hd e.symm]
      · have ih := tickP_put (c := c) (t := t) (d := d) hx.2
        by_cases hd : x.cart = d
        · subst hd
          rw [if_neg hc]; simp [tickP]
        · have e1 : tickP (x :: putT c t l) d = tickP (putT c t l) d := by simp [tickP, hd]
          have e2 : tickP (x :: l) d = tickP l d := by simp [tickP, hd]
          have e3 : tickP (x :: l) c = tickP l c := by simp [tickP, hc]
          rw [e1, ih, e2, e3]
theorem mem_putT {c t : Int} {x : Lst} : ∀ {l : List Lst}, x ∈ putT c t l → x.cart = c ∨ x ∈ l
  | [], h => by simp [putT] at h; subst h; exact .inl rfl
  | y :: l, h => by
    unfold putT at h
    split at h
    · rcases List.mem_cons.1 h with e | e
      · subst e; exact .inl rfl
      · exact .inr (by simp [e])
    · split at h
      · rcases List.mem_cons.1 h with e | e
        · subst e; exact .inl rfl
        · exact .inr e
      · rcases List.mem_cons.1 h with e | e
        · subst e; exact .inr (by simp)
        · rcases mem_putT e with g | g
          · exact .inl g
          · exact .inr (by simp [g])
theorem risT_put {c t : Int} : ∀ {l : List Lst}, RisT l → RisT (putT c t l)
  | [], _ => by simp [putT, RisT]
  | x :: l, h => by
    have hx := List.pairwise_cons.1 h
    unfold putT; split
    · rename_i hc
      exact List.pairwise_cons.2 ⟨fun y hy => by have := hx.1 y hy; show c < y.cart; omega, hx.2⟩
    · split
      · rename_i hlt
        refine List.pairwise_cons.2 ⟨fun y hy => ?_, h⟩
        rcases List.mem_cons.1 hy with e | e
        · subst e; exact hlt
        · have := hx.1 y e; show c < y.cart; omega
      · refine List.pairwise_cons.2 ⟨fun y hy => ?_, risT_put hx.2⟩
        rcases mem_putT hy with e | e
        · rw [e]; omega
        · exact hx.1 y e
theorem tick_mem {l : List Lst} (h : RisT l) (x : Lst) : x ∈ l ↔ tickP l x.cart = some x.tick := by
  induction l with
  | nil => simp [tickP]
  | cons y l ih =>
    have hy := List.pairwise_cons.1 h
    rw [List.mem_cons]
    by_cases he : y.cart = x.cart
    · have e1 : tickP (y :: l) x.cart = some y.tick := by simp [tickP, he]
      rw [e1]
      constructor
      · rintro (e | e)
        · subst e; rfl
        · have := hy.1 x e; omega
      · intro e
        left
        cases x; cases y
        simp at he e
        subst he; subst e; rfl
    · have e1 : tickP (y :: l) x.cart = tickP l x.cart := by simp [tickP, he]
      rw [e1, ← ih hy.2]
      constructor
      · rintro (e | e)
        · subst e; exact absurd rfl he
        · exact e
      · exact .inr
theorem ticks_eq {l m : List Lst} (hl : RisT l) (hm : RisT m) (h : ∀ c, tickP l c = tickP m c) : l = m :=
  risT_eq hl hm fun x => by rw [tick_mem hl, tick_mem hm, h]
end Go.Vx
namespace Go.Vx
def kindB (o : Opn) : Bool := if o.kind = 1 then decide (1 ≤ o.qty) else if o.kind = 2 then true else if o.kind = 3 then decide (o.qty = 0) else if o.kind = 4 ∨ o.kind = 5 then decide (o.item = 0) && decide (o.qty = 0) else false
def rightO (o : Opn) : Bool := decide (o.dot.rep < 16) && dotB o.dot && rightB o.ctx 16 && decide (vat o.ctx o.dot.rep.toNat = o.dot.seq - 1) && decide (o.tick ≤ 1073741824) && kindB o
def readyI (known : Vec) (o : Opn) : Int := if rightO o = false then 2 else if hasB known o.dot = true then 8 else if vle o.ctx known = false then 9 else 0
def knownL (l : List Opn) : Vec := l.foldl (fun v o => vset v o.dot.rep.toNat o.dot.seq) vzero
theorem knownL_snoc (l : List Opn) (o : Opn) : knownL (l ++ [o]) = vset (knownL l) o.dot.rep.toNat o.dot.seq := by unfold knownL; rw [List.foldl_append]; rfl
structure DotP (d : Dot) : Prop where
  r0 : 0 ≤ d.rep
  r1 : d.rep < 16
  s0 : 1 ≤ d.seq
  s1 : d.seq ≤ 1048576
theorem DotP.b {d : Dot} (h : DotP d) : dotB d = true := by
  obtain ⟨_, _, _, _⟩ := h
  simp [dotB]; omega
theorem has_iff {v : Vec} {d : Dot} (h : DotP d) : hasB v d = true ↔ d.seq ≤ vat v d.rep.toNat := by
  unfold hasB; rw [h.b, Bool.true_and, decide_eq_true_iff]
inductive Seq : List Opn → Prop
  | nil : Seq []
  | snoc {l : List Opn} {o : Opn} : Seq l → OpnOk o → rightO o = true → DotP o.dot → o.dot ∉ l.map (·.dot) → (∀ d, DotP d → hasB o.ctx d = true → d ∈ l.map (·.dot)) → Seq (l ++ [o])
theorem Seq.cut {l : List Opn} {o : Opn} (h : Seq (l ++ [o])) : Seq l ∧ OpnOk o ∧ rightO o = true ∧ DotP o.dot ∧ o.dot ∉ l.map (·.dot) ∧ ∀ d, DotP d → hasB o.ctx d = true → d ∈ l.map (·.dot) := by
  generalize hm : l ++ [o] = m at h
  cases h with
  | nil => simp at hm
  | snoc h1 h2 h3 h4 h5 h6 =>
    obtain ⟨e1, e2⟩ := List.append_inj' hm rfl
    simp at e2
    subst e1; subst e2
    exact ⟨h1, h2, h3, h4, h5, h6⟩
theorem Seq.dots {l : List Opn} (h : Seq l) : ∀ o ∈ l, DotP o.dot ∧ OpnOk o ∧ rightO o = true := by
  induction h with
  | nil => intro o ho; cases ho
  | snoc _ h2 h3 h4 _ _ ih =>
    intro o ho
    rcases List.mem_append.1 ho with h | h
    · exact ih o h
    · rw [List.mem_singleton.1 h]; exact ⟨h4, h2, h3⟩
theorem Seq.nodup {l : List Opn} (h : Seq l) : (l.map (·.dot)).Nodup := by
  induction h with
  | nil => simp
  | snoc _ _ _ _ h5 _ ih =>
    rw [List.map_append, List.nodup_append]
    exact ⟨ih, by simp, fun a ha b hb e => by simp at hb; subst hb; subst e; exact h5 ha⟩
theorem Seq.known {l : List Opn} (h : Seq l) : (∀ i, 0 ≤ vat (knownL l) i ∧ vat (knownL l) i ≤ 1048576) ∧ ∀ d, DotP d → (d.seq ≤ vat (knownL l) d.rep.toNat ↔ d ∈ l.map (·.dot)) := by
  induction h with
  | nil =>
    refine ⟨fun i => ?_, fun d hd => ?_⟩
    · show 0 ≤ vat vzero i ∧ vat vzero i ≤ _
      unfold vat vzero; split <;> omega
    · show d.seq ≤ vat vzero _ ↔ _
      have := hd.s0
      have h0 : vat vzero d.rep.toNat = 0 := by unfold vat vzero; split <;> rfl
      rw [h0]; simp; omega
  | @snoc l o h1 h2 h3 h4 h5 h6 ih =>
    have hr : o.dot.rep.toNat < 16 := by have := h4.r0; have := h4.r1; omega
    have hctx : vat o.ctx o.dot.rep.toNat = o.dot.seq - 1 := by
      unfold rightO at h3; simp only [Bool.and_eq_true, decide_eq_true_eq] at h3; exact h3.1.1.2
    have hlt : vat (knownL l) o.dot.rep.toNat < o.dot.seq := by
      have := (ih.2 o.dot h4).mp
      rcases Int.lt_or_le (vat (knownL l) o.dot.rep.toNat) o.dot.seq with g | g
      · exact g
      · exact absurd (this g) h5
    have hge : o.dot.seq - 1 ≤ vat (knownL l) o.dot.rep.toNat := by
      by_cases h0 : o.dot.seq = 1
      · have := (ih.1 o.dot.rep.toNat).1; omega
      · have hd : DotP ⟨o.dot.rep, o.dot.seq - 1⟩ := ⟨h4.r0, h4.r1, by have := h4.s0; show 1 ≤ o.dot.seq - 1; omega, by have := h4.s1; show o.dot.seq - 1 ≤ _; omega⟩
        exact (ih.2 _ hd).mpr (h6 _ hd ((has_iff hd).mpr (by show o.dot.seq - 1 ≤ vat o.ctx o.dot.rep.toNat; omega)))
    rw [knownL_snoc]
    refine ⟨fun i => ?_, fun d hd => ?_⟩
    · by_cases hi : i < 16
      · rw [vat_vset _ _ _ _ hi]; split
        · have := h4.s0; have := h4.s1; omega
        · exact ih.1 i
      · unfold vat; rw [dif_neg hi]; omega
    · have hdr : d.rep.toNat < 16 := by have := hd.r0; have := hd.r1; omega
      rw [vat_vset _ _ _ _ hdr, List.map_append, List.mem_append, ← ih.2 d hd]
      split
      · rename_i he
        have hrep : d.rep = o.dot.rep := by have := hd.r0; have := h4.r0; omega
        constructor
        · intro hle
          by_cases e : d.seq = o.dot.seq
          · right
            have : d = o.dot := by cases hdd : d; cases hoo : o.dot; rw [hdd, hoo] at hrep e; simp_all
            subst this; simp
          · left; rw [he]; omega
        · rintro (g | g)
          · rw [he] at g; omega
          · simp at g; subst g; exact Int.le_refl _
      · rename_i he
        constructor
        · exact .inl
        · rintro (g | g)
          · exact g
          · simp at g; subst g; exact absurd rfl he
theorem Seq.has {l : List Opn} (h : Seq l) {d : Dot} (hd : DotP d) : hasB (knownL l) d = true ↔ d ∈ l.map (·.dot) := by rw [has_iff hd]; exact h.known.2 d hd
def szero : Sta := ⟨vzero, [], []⟩
def applyE (s : Sta) (o : Opn) : Sta :=
  ⟨vset s.known o.dot.rep.toNat o.dot.seq, (if laysB o = true then putE (entO o) (s.ents.filter fun e => !endsB o (laidO e)) else s.ents.filter fun e => !endsB o (laidO e)), putT o.cart o.tick s.ticks⟩
def allE (l : List Opn) : Sta := l.foldl applyE szero
theorem allE_snoc (l : List Opn) (o : Opn) : allE (l ++ [o]) = applyE (allE l) o := by unfold allE; rw [List.foldl_append]; rfl
theorem allE_known (l : List Opn) : (allE l).known = knownL l := by
  refine snoc_ind (motive := fun l => (allE l).known = knownL l) rfl (fun l o ih => ?_) l
  rw [allE_snoc, knownL_snoc, ← ih]; rfl
theorem Seq.live_snoc {l : List Opn} {o : Opn} (h : Seq (l ++ [o])) : (∀ x, liveB (l ++ [o]) x = (liveB l x && !endsB o x)) ∧ liveB (l ++ [o]) o = laysB o := by
  obtain ⟨h1, h2, h3, h4, h5, h6⟩ := h.cut
  refine ⟨fun x => ?_, ?_⟩
  · unfold liveB; rw [List.any_append, List.any_cons, List.any_nil, Bool.or_false]
    cases laysB x <;> cases l.any (fun y => endsB y x) <;> cases endsB o x <;> rfl
  · unfold liveB
    have : ((l ++ [o]).any fun x => endsB x o) = false := by
      rw [List.any_eq_false]
      intro x hx he
      have hhas : hasB x.ctx o.dot = true := by
        unfold endsB at he; simp only [Bool.and_eq_true, decide_eq_true_eq] at he; exact he.1.2
      rcases List.mem_append.1 hx with g | g
      ·
        have key : ∀ {l : List Opn}, Seq l → ∀ x ∈ l, ∀ d, DotP d → hasB x.ctx d = true → d ∈ l.map (·.dot) := by
          intro l hl
          induction hl with
          | nil => intro x hx; cases hx
          | snoc _ _ _ _ _ g6 ih =>
            intro x hx d hd hh
            rw [List.map_append, List.mem_append]
            rcases List.mem_append.1 hx with q | q
            · exact .inl (ih x q d hd hh)
            · rw [List.mem_singleton.1 q] at hh; exact .inl (g6 d hd hh)
        exact h5 (key h1 x g o.dot h4 hhas)
      · rw [List.mem_singleton.1 g] at hhas; exact h5 (h6 _ h4 hhas)
    rw [this]; simp
theorem Seq.ents {l : List Opn} (h : Seq l) : RisE (allE l).ents ∧ ∀ e, e ∈ (allE l).ents ↔ ∃ o ∈ l, liveB l o = true ∧ e = entO o := by
  induction h with
  | nil => exact ⟨by simp [allE, szero, RisE], fun e => by simp [allE, szero]⟩
  | @snoc l o h1 h2 h3 h4 h5 h6 ih =>
    have hl := Seq.live_snoc (Seq.snoc h1 h2 h3 h4 h5 h6)
    rw [allE_snoc]
    have hfR : RisE ((allE l).ents.filter fun e => !endsB o (laidO e)) := List.Pairwise.sublist List.filter_sublist ih.1
    have hfm : ∀ e, e ∈ ((allE l).ents.filter fun e => !endsB o (laidO e)) ↔ ∃ x ∈ l, liveB (l ++ [o]) x = true ∧ e = entO x := by
      intro e
      rw [List.mem_filter, ih.2]
      constructor
      · rintro ⟨⟨x, hx, hlx, rfl⟩, hne⟩
        rw [ends_laid] at hne
        exact ⟨x, hx, by rw [hl.1, hlx, hne]; rfl, rfl⟩
      · rintro ⟨x, hx, hlx, rfl⟩
        rw [hl.1, Bool.and_eq_true] at hlx
        exact ⟨⟨x, hx, hlx.1, rfl⟩, by rw [ends_laid]; exact hlx.2⟩
    show RisE (if laysB o = true then _ else _) ∧ ∀ e, e ∈ (if laysB o = true then _ else _) ↔ _
    split
    · rename_i hly
      refine ⟨risE_put hfR ?_, fun e => ?_⟩
      · intro hm
        obtain ⟨e, he, hd⟩ := List.mem_map.1 hm
        obtain ⟨x, hx, _, rfl⟩ := (hfm e).1 he
        exact h5 (List.mem_map.2 ⟨x, hx, hd⟩)
      · rw [mem_putE, hfm]
        constructor
        · rintro (rfl | ⟨x, hx, g⟩)
          · exact ⟨o, by simp, by rw [hl.2, hly], rfl⟩
          · exact ⟨x, by simp [hx], g⟩
        · rintro ⟨x, hx, g⟩
          rcases List.mem_append.1 hx with q | q
          · exact .inr ⟨x, q, g⟩
          · rw [List.mem_singleton.1 q] at g; exact .inl g.2
    · rename_i hly
      refine ⟨hfR, fun e => ?_⟩
      rw [hfm]
      constructor
      · rintro ⟨x, hx, g⟩; exact ⟨x, by simp [hx], g⟩
      · rintro ⟨x, hx, g⟩
        rcases List.mem_append.1 hx with q | q
        · exact ⟨x, q, g⟩
        · rw [List.mem_singleton.1 q, hl.2] at g; exact absurd g.1 hly
def tmax (l : List Opn) (c : Int) : Option Int := l.foldl (fun a o => if o.cart = c then some (match a with | none => o.tick | some u => max u o.tick) else a) none
theorem tmax_snoc (l : List Opn) (o : Opn) (c : Int) : tmax (l ++ [o]) c = if o.cart = c then some (match tmax l c with | none => o.tick | some u => max u o.tick) else tmax l c := by unfold tmax; rw [List.foldl_append]; rfl
theorem allE_ticks (l : List Opn) : RisT (allE l).ticks ∧ ∀ c, tickP (allE l).ticks c = tmax l c := by
  refine snoc_ind (motive := fun l => RisT (allE l).ticks ∧ ∀ c, tickP (allE l).ticks c = tmax l c) ⟨by simp [allE, szero, RisT], fun c => rfl⟩ (fun l o ih => ?_) l
  rw [allE_snoc]
  refine ⟨risT_put ih.1, fun c => ?_⟩
  show tickP (putT _ _ _) c = _
  rw [tickP_put ih.1, tmax_snoc, ih.2, ih.2]
  by_cases h : c = o.cart
  · subst h; rw [if_pos rfl]; first | done | (first | rw [if_pos rfl] | skip); first | done | (cases tmax l o.cart <;> rfl)
  · rw [if_neg h, if_neg (fun e => h e.symm)]
theorem tmax_spec (l : List Opn) (c : Int) : (tmax l c = none ∧ ∀ o ∈ l, o.cart ≠ c) ∨ ∃ t, tmax l c = some t ∧ (∃ o ∈ l, o.cart = c ∧ o.tick = t) ∧ ∀ o ∈ l, o.cart = c → o.tick ≤ t := by
  refine snoc_ind (motive := fun l => (tmax l c = none ∧ ∀ o ∈ l, o.cart ≠ c) ∨ ∃ t, tmax l c = some t ∧ (∃ o ∈ l, o.cart = c ∧ o.tick = t) ∧ ∀ o ∈ l, o.cart = c → o.tick ≤ t) (.inl ⟨rfl, fun o ho => by cases ho⟩) (fun l a ih => ?_) l
  rw [tmax_snoc]
  by_cases hc : a.cart = c
  · right
    rw [if_pos hc]
    rcases ih with ⟨h1, h2⟩ | ⟨t, h1, ⟨o, ho, h3, h4⟩, h5⟩
    · refine ⟨a.tick, by rw [h1], ⟨a, by simp, hc, rfl⟩, fun o ho hoc => ?_⟩
      rcases List.mem_append.1 ho with g | g
      · exact absurd hoc (h2 o g)
      · rw [List.mem_singleton.1 g]; exact Int.le_refl _
    · refine ⟨max t a.tick, by rw [h1], ?_, fun o ho hoc => ?_⟩
      · rcases Int.le_total t a.tick with g | g
        · exact ⟨a, by simp, hc, by omega⟩
        · exact ⟨o, by simp [ho], h3, by omega⟩
      · rcases List.mem_append.1 ho with g | g
        · have := h5 o g hoc; omega
        · rw [List.mem_singleton.1 g]; omega
  · rw [if_neg hc]
    rcases ih with ⟨h1, h2⟩ | ⟨t, h1, ⟨o, ho, h3⟩, h5⟩
    · refine .inl ⟨h1, fun o ho => ?_⟩
      rcases List.mem_append.1 ho with g | g
      · exact h2 o g
      · rw [List.mem_singleton.1 g]; exact hc
    · refine .inr ⟨t, h1, ⟨o, by simp [ho], h3⟩, fun o ho hoc => ?_⟩
      rcases List.mem_append.1 ho with g | g
      · exact h5 o g hoc
      · rw [List.mem_singleton.1 g] at hoc; exact absurd hoc hc
end Go.Vx
namespace Go.Vx
theorem uniq_map {α β : Type} {f : α → β} : ∀ {l : List α}, (l.map f).Nodup → ∀ x ∈ l, ∀ y ∈ l, f x = f y → x = y
  | [], _, x, hx, _, _, _ => by cases hx
  | a :: l, h, x, hx, y, hy, e => by
    rw [List.map_cons, List.nodup_cons] at h
    rcases List.mem_cons.1 hx with p | p <;> rcases List.mem_cons.1 hy with q | q
    · rw [p, q]
    · subst p; exact absurd (List.mem_map.2 ⟨y, q, e.symm⟩) h.1
    · subst q; exact absurd (List.mem_map.2 ⟨x, p, e⟩) h.1
    · exact uniq_map h.2 x p y q e
theorem vat_ctx {o : Opn} (h : rightO o = true) (i : Nat) : vat o.ctx i ≤ 1048576 := by
  unfold rightO at h
  simp only [Bool.and_eq_true, decide_eq_true_eq] at h
  have h1 := h.1.1.1.2
  unfold rightB at h1
  simp only [Bool.and_eq_true, List.all_eq_true, List.mem_range] at h1
  by_cases hi : i < 16
  · have := h1.2 i hi
    unfold okAt at this
    simp at this
    omega
  · unfold vat; rw [dif_neg hi]; omega
theorem sum_le (f : Nat → Int) (b : Int) (h : ∀ i, 0 ≤ f i ∧ f i ≤ b) : ∀ n : Nat, 0 ≤ ((List.range n).map f).sum ∧ ((List.range n).map f).sum ≤ (n : Int) * b
  | 0 => by simp
  | n + 1 => by
    have ih := sum_le f b h n
    rw [List.range_succ, List.map_append, List.sum_append]
    have := h n
    simp only [List.map_cons, List.map_nil, List.sum_cons, List.sum_nil]
    have e : ((n + 1 : Nat) : Int) * b = (n : Int) * b + b := by rw [Int.natCast_add, Int.add_mul]; simp
    omega
theorem cnt_bd {o : Opn} (ho : OpnOk o) (h : rightO o = true) : 1 ≤ cntO o ∧ cntO o ≤ 16777217 := by
  have hv := ho.2.2.2.2.2.2
  have := sum_le (fun i => vat o.ctx i) 1048576 (fun i => ⟨by
    unfold vat; split
    · exact (hv _).1
    · omega, vat_ctx h i⟩) 16
  unfold cntO vsum
  omega
theorem lays_kind {o : Opn} : laysB o = true ↔ o.kind = 1 ∨ o.kind = 2 ∨ o.kind = 4 := by unfold laysB; simp [or_assoc]
theorem live_lays {l : List Opn} {o : Opn} (h : liveB l o = true) : laysB o = true := by unfold liveB at h; rw [Bool.and_eq_true] at h; exact h.1
theorem Seq.right {l : List Opn} (h : Seq l) : RightC (allE l) := by
  have hk := h.known
  have he := h.ents
  have ht := allE_ticks l
  have hd := h.dots
  refine ⟨?_, ht.1, fun x hx => ?_, he.1, fun e hm => ?_, ?_⟩
  · rw [allE_known]
    unfold rightB
    simp only [Bool.and_eq_true, List.all_eq_true, List.mem_range]
    refine ⟨by decide, fun i hi => ?_⟩
    have := hk.1 i
    unfold okAt; simp; omega
  · rw [tick_mem ht.1, ht.2] at hx
    rcases tmax_spec l x.cart with ⟨h1, _⟩ | ⟨t, h1, ⟨o, ho, _, h3⟩, _⟩
    · rw [h1] at hx; cases hx
    · rw [h1] at hx; cases hx
      have := (hd o ho).2.2
      unfold rightO at this
      simp only [Bool.and_eq_true, decide_eq_true_eq] at this
      rw [← h3]; exact this.1.2
  · obtain ⟨o, ho, hl, rfl⟩ := (he.2 e).1 hm
    have hdo := hd o ho
    have hc := cnt_bd hdo.2.1 hdo.2.2
    unfold entB
    simp only [Bool.and_eq_true, decide_eq_true_eq]
    refine ⟨⟨⟨⟨?_, ?_⟩, ?_⟩, hc.1⟩, hc.2⟩
    · rw [ht.2]
      rcases tmax_spec l o.cart with ⟨_, h2⟩ | ⟨t, h1, _⟩
      · exact absurd rfl (h2 o ho)
      · show (tmax l o.cart).isSome = true
        rw [h1]; rfl
    · have hr := hdo.2.2
      unfold rightO at hr
      simp only [Bool.and_eq_true] at hr
      have hkk := hr.2
      unfold kindB at hkk
      show shapedB (entO o) = true
      unfold shapedB entO
      rcases lays_kind.1 (live_lays hl) with g | g | g
      · simp [g] at hkk ⊢; exact hkk
      · simp [g]
      · simp [g] at hkk ⊢; exact hkk
    · rw [allE_known]
      exact (h.has hdo.1).2 (List.mem_map.2 ⟨o, ho, rfl⟩)
  · have hmap : (allE l).ents.map (·.dot) = (allE l).ents.map (·.dot) := rfl
    have hnd := h.nodup
    have hinj : ∀ a ∈ (allE l).ents, ∀ b ∈ (allE l).ents, a.dot = b.dot → a = b := by
      intro a ha b hb e
      obtain ⟨o, ho, _, rfl⟩ := (he.2 a).1 ha
      obtain ⟨p, hp, _, rfl⟩ := (he.2 b).1 hb
      rw [uniq_map hnd o ho p hp e]
    unfold List.Nodup
    rw [List.pairwise_map]
    have hne : (allE l).ents.Pairwise (· ≠ ·) := he.1.imp fun {a b} hab e => by subst e; rw [ahead_irrefl] at hab; cases hab
    rw [List.pairwise_iff_getElem] at hne ⊢
    intro i j hi hj hij e
    exact hne i j hi hj hij (hinj _ (List.getElem_mem hi) _ (List.getElem_mem hj) e)
theorem Seq.ext {l m : List Opn} (hl : Seq l) (hm : Seq m) (h : ∀ o, o ∈ l ↔ o ∈ m) : allE l = allE m := by
  have hdm : ∀ d, d ∈ l.map (·.dot) ↔ d ∈ m.map (·.dot) := fun d => by
    rw [List.mem_map, List.mem_map]
    constructor
    · rintro ⟨o, ho, e⟩; exact ⟨o, (h o).1 ho, e⟩
    · rintro ⟨o, ho, e⟩; exact ⟨o, (h o).2 ho, e⟩
  have hle : ∀ {l m : List Opn}, Seq l → Seq m → (∀ d, d ∈ l.map (·.dot) ↔ d ∈ m.map (·.dot)) → ∀ i, vat (knownL l) i ≤ vat (knownL m) i := by
    intro l m hl hm hd i
    by_cases hi : i < 16
    case neg => unfold vat; rw [dif_neg hi, dif_neg hi]; omega
    have b1 := hl.known.1 i
    have b2 := hm.known.1 i
    by_cases h0 : vat (knownL l) i = 0
    · omega
    · have hdp : DotP ⟨(i : Int), vat (knownL l) i⟩ := ⟨by show (0 : Int) ≤ (i : Int); omega, by show (i : Int) < 16; omega, by show 1 ≤ vat (knownL l) i; omega, b1.2⟩
      have := (hm.known.2 _ hdp).2 ((hd _).1 ((hl.known.2 _ hdp).1 (by show vat (knownL l) i ≤ vat (knownL l) ((i : Int)).toNat; rw [Int.toNat_natCast]; exact Int.le_refl _)))
      simpa using this
  have e1 : (allE l).known = (allE m).known := by
    rw [allE_known, allE_known]
    exact vec_ext fun i _ => Int.le_antisymm (hle hl hm hdm i) (hle hm hl (fun d => (hdm d).symm) i)
  have hlive : ∀ o, liveB l o = liveB m o := fun o => by
    unfold liveB
    have : (l.any fun x => endsB x o) = (m.any fun x => endsB x o) := by
      rw [Bool.eq_iff_iff, List.any_eq_true, List.any_eq_true]
      constructor
      · rintro ⟨x, hx, e⟩; exact ⟨x, (h x).1 hx, e⟩
      · rintro ⟨x, hx, e⟩; exact ⟨x, (h x).2 hx, e⟩
    rw [this]
  have e2 : (allE l).ents = (allE m).ents := risE_eq hl.ents.1 hm.ents.1 fun e => by
    rw [hl.ents.2, hm.ents.2]
    constructor
    · rintro ⟨o, ho, g, q⟩; exact ⟨o, (h o).1 ho, by rw [← hlive]; exact g, q⟩
    · rintro ⟨o, ho, g, q⟩; exact ⟨o, (h o).2 ho, by rw [hlive]; exact g, q⟩
  have e3 : (allE l).ticks = (allE m).ticks := ticks_eq (allE_ticks l).1 (allE_ticks m).1 fun c => by
    rw [(allE_ticks l).2, (allE_ticks m).2]
    rcases tmax_spec l c with ⟨h1, h2⟩ | ⟨t, h1, ⟨o, ho, h3, h4⟩, h5⟩ <;> rcases tmax_spec m c with ⟨g1, g2⟩ | ⟨u, g1, ⟨p, hp, g3, g4⟩, g5⟩
    · rw [h1, g1]
    · exact absurd g3 (h2 p ((h p).2 hp))
    · exact absurd h3 (g2 o ((h o).1 ho))
    · rw [h1, g1]
      have := h5 p ((h p).2 hp) g3
      have := g5 o ((h o).1 ho) h3
      congr 1; omega
  cases hx : allE l; cases hy : allE m
  rw [hx, hy] at e1 e2 e3
  simp at e1 e2 e3
  rw [e1, e2, e3]
def vjoin (a b : Vec) : Vec := fun i => max (a i) (b i)
theorem vat_join (a b : Vec) (i : Nat) : vat (vjoin a b) i = max (vat a i) (vat b i) := by
  unfold vat vjoin; split <;> simp
def keepA (b : Sta) (x : Cen) : Bool := (b.ents.any fun e => decide (e.dot = x.dot)) || !hasB b.known x.dot
def keepB (a : Sta) (x : Cen) : Bool := !(a.ents.any fun e => decide (e.dot = x.dot)) && !hasB a.known x.dot
def putAll (l : List Cen) : List Cen := l.foldl (fun m e => putE e m) []
def ticksM (s t : List Lst) : List Lst := t.foldl (fun m x => putT x.cart x.tick m) s
def mergeE (a b : Sta) : Sta := ⟨vjoin a.known b.known, putAll (a.ents.filter (keepA b) ++ b.ents.filter (keepB a)), ticksM a.ticks b.ticks⟩
theorem putAll_snoc (l : List Cen) (e : Cen) : putAll (l ++ [e]) = putE e (putAll l) := by unfold putAll; rw [List.foldl_append]; rfl
theorem putAll_ok (l : List Cen) : (l.map (·.dot)).Nodup → RisE (putAll l) ∧ ∀ x, x ∈ putAll l ↔ x ∈ l := by
  refine snoc_ind (motive := fun l => (l.map (·.dot)).Nodup → RisE (putAll l) ∧ ∀ x, x ∈ putAll l ↔ x ∈ l) (fun _ => ⟨by simp [putAll, RisE], fun x => by simp [putAll]⟩) (fun l e ih => ?_) l
  intro h
  rw [List.map_append, List.nodup_append] at h
  have ih := ih h.1
  rw [putAll_snoc]
  refine ⟨risE_put ih.1 fun hm => ?_, fun x => ?_⟩
  · obtain ⟨y, hy, e1⟩ := List.mem_map.1 hm
    exact h.2.2 _ (List.mem_map.2 ⟨y, (ih.2 y).1 hy, e1⟩) e.dot (by simp) rfl
  · rw [mem_putE, ih.2, List.mem_append, List.mem_singleton]; exact Or.comm
theorem ticksM_snoc (s t : List Lst) (x : Lst) : ticksM s (t ++ [x]) = putT x.cart x.tick (ticksM s t) := by unfold ticksM; rw [List.foldl_append]; rfl
end Go.Vx
namespace Go.Vx
theorem right_dot {o : Opn} (ho : OpnOk o) (h : rightO o = true) : DotP o.dot := by
  unfold rightO at h
  simp only [Bool.and_eq_true, decide_eq_true_eq] at h
  have h1 := h.1.1.1.1.1
  have h2 := dotB_spec h.1.1.1.1.2
  exact ⟨ho.1.1.1, h1, h2.2.1, h2.2.2⟩
theorem vle_at {a b : Vec} (h : vle a b = true) (i : Nat) : vat a i ≤ vat b i := by
  unfold vle at h
  rw [List.all_eq_true] at h
  by_cases hi : i < 16
  · simpa using h i (List.mem_range.2 hi)
  · unfold vat; rw [dif_neg hi, dif_neg hi]; exact Int.le_refl _
theorem ready_zero {known : Vec} {o : Opn} (h : readyI known o = 0) : rightO o = true ∧ hasB known o.dot = false ∧ vle o.ctx known = true := by
  unfold readyI at h
  split at h
  · omega
  · split at h
    · omega
    · split at h
      · omega
      · rename_i h1 h2 h3
        simp at h1 h2 h3
        exact ⟨h1, h2, h3⟩
theorem Seq.add {l : List Opn} {o : Opn} (h : Seq l) (ho : OpnOk o) (hr : readyI (knownL l) o = 0) : Seq (l ++ [o]) := by
  obtain ⟨h1, h2, h3⟩ := ready_zero hr
  have hd := right_dot ho h1
  refine Seq.snoc h ho h1 hd (fun hm => ?_) fun d hdp hh => ?_
  · rw [(h.has hd).2 hm] at h2; cases h2
  · refine (h.has hdp).1 ((has_iff hdp).2 (Int.le_trans ((has_iff hdp).1 hh) (vle_at h3 _)))
theorem Seq.ready {l : List Opn} {o : Opn} (h : Seq (l ++ [o])) : readyI (knownL l) o = 0 := by
  obtain ⟨h1, h2, h3, h4, h5, h6⟩ := h.cut
  unfold readyI
  rw [if_neg (by rw [h3]; decide), if_neg (fun g => h5 ((h1.has h4).1 g)), if_neg]
  rw [Bool.not_eq_false]
  refine vle_yes fun j hj => ?_
  have hb := vat_ctx h3 j
  have h0 := (h1.known.1 j).1
  by_cases hz : vat o.ctx j < 1
  · omega
  · have hdp : DotP ⟨(j : Int), vat o.ctx j⟩ := ⟨by show (0 : Int) ≤ (j : Int); omega, by show (j : Int) < 16; omega, by show 1 ≤ vat o.ctx j; omega, hb⟩
    have := (h1.known.2 _ hdp).2 (h6 _ hdp ((has_iff hdp).2 (by show vat o.ctx j ≤ vat o.ctx ((j : Int)).toNat; rw [Int.toNat_natCast]; exact Int.le_refl _)))
    simpa using this
def Down (l : List Opn) (p : Opn → Bool) : Prop := ∀ o ∈ l, p o = true → ∀ d, DotP d → hasB o.ctx d = true → ∃ q ∈ l, p q = true ∧ q.dot = d
theorem Seq.sub {l : List Opn} {p : Opn → Bool} (h : Seq l) (hp : Down l p) : Seq (l.filter p) := by
  have key : ∀ m : List Opn, Seq m → (∀ o ∈ m, o ∈ l) → Seq (m.filter p) := by
    intro m hm
    induction hm with
    | nil => intro _; exact Seq.nil
    | @snoc m o h1 h2 h3 h4 h5 h6 ih =>
      intro hin
      have ih := ih fun x hx => hin x (List.mem_append_left _ hx)
      rw [List.filter_append]
      by_cases hpo : p o = true
      · rw [List.filter_cons_of_pos hpo, List.filter_nil]
        refine Seq.snoc ih h2 h3 h4 (fun g => h5 ?_) fun d hd hh => ?_
        · obtain ⟨x, hx, e⟩ := List.mem_map.1 g
          exact List.mem_map.2 ⟨x, (List.mem_filter.1 hx).1, e⟩
        · obtain ⟨x, hx, e⟩ := List.mem_map.1 (h6 d hd hh)
          obtain ⟨q, hq, hpq, eq⟩ := hp o (hin o (by simp)) hpo d hd hh
          have := uniq_map h.nodup x (hin x (List.mem_append_left _ hx)) q hq (e.trans eq.symm)
          subst this
          exact List.mem_map.2 ⟨x, List.mem_filter.2 ⟨hx, hpq⟩, e⟩
      · rw [List.filter_cons_of_neg hpo, List.filter_nil, List.append_nil]; exact ih
  exact key l h fun _ h => h
end Go.Vx
namespace Go.Vx
def lessC (a b : Cen) : Bool := if a.count = b.count then (if a.dot.rep = b.dot.rep then decide (a.dot.seq < b.dot.seq) else decide (a.dot.rep < b.dot.rep)) else decide (a.count < b.count)
theorem lessC_iff (a b : Cen) : lessC a b = true ↔ (a.count < b.count ∨ (a.count = b.count ∧ (a.dot.rep < b.dot.rep ∨ (a.dot.rep = b.dot.rep ∧ a.dot.seq < b.dot.seq)))) := by
  unfold lessC
  split
  · split
    · rw [decide_eq_true_iff]; omega
    · rw [decide_eq_true_iff]; omega
  · rw [decide_eq_true_iff]; omega
def bestE (l : List Cen) : Option Cen := l.foldl (fun b x => match b with | none => some x | some y => if lessC y x = true then some x else some y) none
theorem bestE_snoc (l : List Cen) (x : Cen) : bestE (l ++ [x]) = match bestE l with | none => some x | some y => if lessC y x = true then some x else some y := by unfold bestE; rw [List.foldl_append]; rfl
theorem bestE_spec (l : List Cen) : (l = [] ∧ bestE l = none) ∨ ∃ e ∈ l, bestE l = some e ∧ ∀ x ∈ l, lessC e x = false := by
  refine snoc_ind (motive := fun l => (l = [] ∧ bestE l = none) ∨ ∃ e ∈ l, bestE l = some e ∧ ∀ x ∈ l, lessC e x = false) (.inl ⟨rfl, rfl⟩) (fun l a ih => ?_) l
  right
  rw [bestE_snoc]
  have irr : lessC a a = false := by rw [Bool.eq_false_iff, ne_eq, lessC_iff]; omega
  rcases ih with ⟨h1, h2⟩ | ⟨e, he, h2, h3⟩
  · rw [h2]; subst h1
    exact ⟨a, by simp, rfl, fun x hx => by simp at hx; subst hx; exact irr⟩
  · rw [h2]
    dsimp only
    split
    · rename_i hl
      refine ⟨a, by simp, rfl, fun x hx => ?_⟩
      rcases List.mem_append.1 hx with g | g
      · have := h3 x g
        rw [Bool.eq_false_iff, ne_eq, lessC_iff] at this ⊢
        rw [lessC_iff] at hl; omega
      · rw [List.mem_singleton.1 g]; exact irr
    · rename_i hl
      refine ⟨e, by simp [he], rfl, fun x hx => ?_⟩
      rcases List.mem_append.1 hx with g | g
      · exact h3 x g
      · rw [List.mem_singleton.1 g]; simpa using hl
theorem bestE_eq {l m : List Cen} (hn : (l.map (·.dot)).Nodup) (h : ∀ x, x ∈ l ↔ x ∈ m) : bestE l = bestE m := by
  rcases bestE_spec l with ⟨h1, h2⟩ | ⟨e, he, h2, h3⟩
  · subst h1
    have : m = [] := List.eq_nil_iff_forall_not_mem.2 fun x hx => by have := (h x).2 hx; cases this
    rw [this]
  · rcases bestE_spec m with ⟨g1, _⟩ | ⟨f, hf, g2, g3⟩
    · subst g1; have := (h e).1 he; cases this
    · rw [h2, g2]
      have a1 := h3 f ((h f).2 hf)
      have a2 := g3 e ((h e).1 he)
      rw [Bool.eq_false_iff, ne_eq, lessC_iff] at a1 a2
      have hd : e.dot = f.dot := by
        cases hx : e.dot; cases hy : f.dot
        rw [hx, hy] at a1 a2
        dsimp only at a1 a2
        simp only [Dot.mk.injEq]; omega
      rw [uniq_map hn e he f ((h f).2 hf) hd]
def ofItem (s : Sta) (c n : Int) : List Cen := s.ents.filter fun e => decide (e.cart = c) && (decide (e.item = n) && !decide (e.kind = 4))
def sumE (l : List Cen) : Int := l.foldl (fun a e => if e.kind = 1 then (a + e.qty) % 4294967296 else a) 0
def qtyL (l : List Cen) : Int := (sumE l + (match bestE (l.filter fun e => !decide (e.kind = 1)) with | none => 0 | some e => e.qty)) % 4294967296
def itemsE (s : Sta) (c : Int) : List Int := (s.ents.filter fun e => decide (e.cart = c) && !decide (e.kind = 4)).map (·.item)
def onceI (l : List Int) : List Int := sortI (l.foldl (fun m x => if x ∈ m then m else m ++ [x]) [])
theorem once_ok (l : List Int) : (onceI l).Pairwise (· < ·) ∧ ∀ x, x ∈ onceI l ↔ x ∈ l := by
  have key : ∀ l : List Int, (l.foldl (fun m x => if x ∈ m then m else m ++ [x]) []).Nodup ∧ ∀ x, x ∈ (l.foldl (fun m x => if x ∈ m then m else m ++ [x]) ([] : List Int)) ↔ x ∈ l := by
    refine snoc_ind ⟨by simp, fun x => by simp⟩ fun l a ih => ?_
    rw [List.foldl_append]
    show (if a ∈ _ then _ else _ : List Int).Nodup ∧ ∀ x, x ∈ (if a ∈ _ then _ else _ : List Int) ↔ _
    split
    · rename_i ha
      refine ⟨ih.1, fun x => ?_⟩
      rw [ih.2, List.mem_append, List.mem_singleton]
      constructor
      · exact .inl
      · rintro (g | g)
        · exact g
        · subst g; exact (ih.2 x).1 ha
    · rename_i ha
      refine ⟨?_, fun x => by rw [List.mem_append, ih.2, List.mem_append]⟩
      rw [List.nodup_append]
      exact ⟨ih.1, by simp, fun x hx y hy e => by simp at hy; subst hy; subst e; exact ha hx⟩
  refine ⟨sortI_rising (key l).1, fun x => ?_⟩
  unfold onceI
  rw [sortI_mem]; exact (key l).2 x
def viewS (s : Sta) (c : Int) : Vw :=
  ⟨c, (onceI (itemsE s c)).map fun n => ⟨n, qtyL (ofItem s c n)⟩, s.ents.any fun e => decide (e.cart = c) && decide (e.kind = 4), (tickP s.ticks c).getD 0⟩
def viewC (s : Sta) (c : Int) (r : Bool) : Vw := if r = true then viewS s c else ⟨c, [], false, 0⟩
end Go.Vx
namespace Go.Vx
def sumF (a : Int) (e : Cen) : Int := if e.kind = 1 then (a + e.qty) % 4294967296 else a
theorem sumF_perm {l m : List Cen} (hp : l.Perm m) : ∀ a, l.foldl sumF a = m.foldl sumF a := by
  induction hp with
  | nil => exact fun _ => rfl
  | cons x _ ih => exact fun a => ih _
  | swap x y l =>
    intro a
    simp only [List.foldl_cons]
    congr 1
    unfold sumF
    split <;> split <;> omega
  | trans _ _ ih1 ih2 => exact fun a => (ih1 a).trans (ih2 a)
theorem nodup_of_map {α β : Type} {f : α → β} {l : List α} (h : (l.map f).Nodup) : l.Nodup := by
  unfold List.Nodup at *
  rw [List.pairwise_map] at h
  exact h.imp fun hab e => hab (by rw [e])
theorem qtyL_ext {l m : List Cen} (hl : (l.map (·.dot)).Nodup) (hm : (m.map (·.dot)).Nodup) (h : ∀ x, x ∈ l ↔ x ∈ m) : qtyL l = qtyL m := by
  have hp : l.Perm m := (List.perm_ext_iff_of_nodup (nodup_of_map hl) (nodup_of_map hm)).2 h
  unfold qtyL
  rw [show sumE l = sumE m from sumF_perm hp 0]
  rw [bestE_eq (l := l.filter fun e => !decide (e.kind = 1)) (m := m.filter fun e => !decide (e.kind = 1)) (hl.sublist (List.filter_sublist.map _)) fun x => by rw [List.mem_filter, List.mem_filter, h]]
end Go.Vx
namespace Go.Vx
theorem sum_set : ∀ (n : Nat) (f : Nat → Int) (i : Nat) (x : Int), ((List.range n).map fun j => if j = i then x else f j).sum = ((List.range n).map f).sum + (if i < n then x - f i else 0)
  | 0, _, _, _ => by simp
  | n + 1, f, i, x => by
    rw [List.range_succ, List.map_append, List.sum_append, List.map_append, List.sum_append, sum_set n f i x]
    simp only [List.map_cons, List.map_nil, List.sum_cons, List.sum_nil]
    by_cases h : n = i
    · subst h; simp; omega
    · rw [if_neg h]
      by_cases h2 : i < n
      · rw [if_pos h2, if_pos (by omega)]; omega
      · rw [if_neg h2, if_neg (by omega)]; omega
theorem vsum_set {v : Vec} {i : Nat} {x : Int} (hi : i < 16) : vsum (vset v i x) = vsum v + (x - vat v i) := by
  unfold vsum
  have e : (List.range 16).map (fun j => vat (vset v i x) j) = (List.range 16).map fun j => if j = i then x else vat v j := by
    refine List.map_congr_left fun j hj => ?_
    rw [vat_vset _ _ _ _ (List.mem_range.1 hj)]
  rw [e, sum_set, if_pos hi]
theorem Seq.next {l : List Opn} {o : Opn} (h : Seq (l ++ [o])) : vat (knownL l) o.dot.rep.toNat = o.dot.seq - 1 := by
  obtain ⟨h1, h2, h3, h4, h5, h6⟩ := h.cut
  have hctx : vat o.ctx o.dot.rep.toNat = o.dot.seq - 1 := by
    unfold rightO at h3; simp only [Bool.and_eq_true, decide_eq_true_eq] at h3; exact h3.1.1.2
  have hlt : ¬ o.dot.seq ≤ vat (knownL l) o.dot.rep.toNat := fun g => h5 ((h1.known.2 o.dot h4).1 g)
  have h0 := (h1.known.1 o.dot.rep.toNat).1
  by_cases hz : o.dot.seq = 1
  · omega
  · have hd : DotP ⟨o.dot.rep, o.dot.seq - 1⟩ := ⟨h4.r0, h4.r1, by have := h4.s0; show 1 ≤ o.dot.seq - 1; omega, by have := h4.s1; show o.dot.seq - 1 ≤ _; omega⟩
    have := (h1.known.2 _ hd).2 (h6 _ hd ((has_iff hd).2 (by show o.dot.seq - 1 ≤ vat o.ctx o.dot.rep.toNat; omega)))
    have : o.dot.seq - 1 ≤ vat (knownL l) o.dot.rep.toNat := this
    omega
theorem Seq.sum {l : List Opn} (h : Seq l) : vsum (knownL l) = l.length := by
  induction h with
  | nil => rfl
  | @snoc l o h1 h2 h3 h4 h5 h6 ih =>
    have hn := Seq.next (Seq.snoc h1 h2 h3 h4 h5 h6)
    have hr : o.dot.rep.toNat < 16 := by have := h4.r0; have := h4.r1; omega
    rw [knownL_snoc, vsum_set hr, ih, hn, List.length_append, List.length_singleton]
    omega
end Go.Vx
namespace Go.Vx
def joinK (a b : Vec) (k : Nat) : Vec := fun i => if i.val < k then max (a i) (b i) else a i
theorem joinK_0 (a b : Vec) : joinK a b 0 = a := by funext i; simp [joinK]
theorem joinK_16 (a b : Vec) : joinK a b 16 = vjoin a b := by
  funext i
  have := i.isLt
  simp [joinK, vjoin]
theorem joinK_at {a b : Vec} {k : Nat} : vat (joinK a b k) k = vat a k := by
  unfold vat joinK
  split
  · simp
  · rfl
theorem joinK_step {a b : Vec} {k : Nat} (hk : k < 16) : vset (joinK a b k) k (max (vat (joinK a b k) k) (vat b k)) = joinK a b (k + 1) := by
  refine vec_ext fun j hj => ?_
  rw [vat_vset _ _ _ _ hj]
  split
  · rename_i e
    subst e
    rw [joinK_at]
    unfold vat joinK
    simp only [hj, dite_true]
    rw [if_pos (by omega)]
  · rename_i e
    unfold vat joinK
    simp only [hj, dite_true]
    by_cases h : j < k
    · rw [if_pos h, if_pos (by omega)]
    · rw [if_neg h, if_neg (by omega)]
theorem join_le (a b : Vec) : decide (vjoin a b = b) = vle a b := by
  by_cases h : vle a b = true
  · rw [h]
    refine decide_eq_true (vec_ext fun j hj => ?_)
    rw [vat_join]
    have := vle_at h j
    omega
  · rw [Bool.not_eq_true] at h
    rw [h]
    refine decide_eq_false fun e => ?_
    have : vle a b = true := vle_yes fun j _ => by
      have h2 := vat_join a b j
      rw [e] at h2; omega
    rw [this] at h; cases h
def rightOn (o : Opn) (n : Int) : Bool := decide (o.dot.rep < n) && dotB o.dot && rightB o.ctx n && decide (vat o.ctx o.dot.rep.toNat = o.dot.seq - 1) && decide (o.tick ≤ 1073741824) && kindB o
theorem rightOn_16 (o : Opn) : rightOn o 16 = rightO o := rfl
theorem rightB_n {v : Vec} {n : Int} (h : rightB v n = true) : 1 ≤ n ∧ n ≤ 16 := by
  unfold rightB at h
  simp only [Bool.and_eq_true, Bool.not_eq_true', Bool.or_eq_false_iff, decide_eq_false_iff_not] at h
  omega
theorem right_no {o : Opn} {n : Int} (h : (((!rightB o.ctx n || decide (n ≤ o.dot.rep)) || decide (1073741824 < o.tick)) || !kindB o) = true) : rightOn o n = false := by
  unfold rightOn
  simp only [Bool.or_eq_true, Bool.not_eq_true', decide_eq_true_eq] at h
  rcases h with ((h | h) | h) | h
  · rw [h]; simp
  · rw [decide_eq_false (by omega : ¬ o.dot.rep < n)]; simp
  · rw [decide_eq_false (by omega : ¬ o.tick ≤ 1073741824)]; simp
  · rw [h]; simp
theorem right_if {o : Opn} {n : Int} (h1 : rightB o.ctx n = true) (h2 : ¬ n ≤ o.dot.rep) (h3 : ¬ 1073741824 < o.tick) (h4 : kindB o = true) :
    rightOn o n = (decide (1 ≤ o.dot.seq) && decide (o.dot.seq ≤ 1048576) && decide (vat o.ctx o.dot.rep.toNat = o.dot.seq - 1)) := by
  have := rightB_n h1
  unfold rightOn dotB
  rw [h1, h4, decide_eq_true (by omega : o.dot.rep < n), decide_eq_true (by omega : o.tick ≤ 1073741824), decide_eq_true (by omega : o.dot.rep < 16)]
  simp
theorem rightR_no {o : Opn} {n : Int} (h : ((((decide (n < 1) || decide (16 < n)) || decide (n ≤ o.dot.rep)) || !dotB o.dot) || !rightB o.ctx n) = true) : rightOn o n = false := by
  unfold rightOn
  simp only [Bool.or_eq_true, Bool.not_eq_true', decide_eq_true_eq] at h
  rcases h with (((h | h) | h) | h) | h
  · rw [rightB_out (by simp [h])]; simp
  · rw [rightB_out (by simp [h])]; simp
  · rw [decide_eq_false (by omega : ¬ o.dot.rep < n)]; simp
  · rw [h]; simp
  · rw [h]; simp
theorem rightR_if {o : Opn} {n : Int} (h2 : ¬ n ≤ o.dot.rep) (h3 : dotB o.dot = true) (h1 : rightB o.ctx n = true) :
    rightOn o n = (decide (vat o.ctx o.dot.rep.toNat = o.dot.seq - 1) && decide (o.tick ≤ 1073741824) && kindB o) := by
  unfold rightOn
  rw [h1, h3, decide_eq_true (by omega : o.dot.rep < n)]
  simp
end Go.Vx
namespace Go.Vx
theorem oc_atO {o : Opn} {i : Int} (h0 : 0 ≤ i) (h : i < 16) : (oc o)[0 + 7 + i.toNat]? = some (.int .u32 (vat o.ctx i.toNat)) := by
  rw [show 0 + 7 + i.toNat = 7 + i.toNat by omega]
  exact oc_at (by omega)
end Go.Vx
namespace Go.Vx
theorem no_step2 {p : Nat → Bool} {k : Nat} (h : ∀ j : Nat, j < k → p j = false) (hk : p k = false) : ∀ j : Nat, j < k + 1 → p j = false := by
  intro j hj
  by_cases e : j = k
  · subst e; exact hk
  · exact h j (by omega)
end Go.Vx
namespace Go.Vx
open Go.RowKit Go.ChangeShapes Go.WideShapes Go.ChangeAt
def OpenT (P : Program) (t : TypeId) {α : Type} (en : α → List Value) (ok : α → Prop) : Prop :=
  ∀ (H : Type) (enc : TypeId × Value → H) (w : World) (base : Nat) (spare : Nat → Bool) (held : Bool) (fuel : Nat) (cs : List Value) (x : DataW H × List MemPlace), DataW.trod enc P w base spare held fuel t cs = some x → ∃ a, ok a ∧ cs = en a
def inK (k : IntKind) (a : Int) : Prop := (Lit.int k a).wf = true
theorem inK_u32 {a : Int} (h : inK .u32 a) : 0 ≤ a ∧ a < 4294967296 := by
  unfold inK at h
  simp [Lit.wf, IntKind.min, IntKind.max, IntKind.signed, IntKind.bits] at h
  omega
theorem inK_u16 {a : Int} (h : inK .u16 a) : 0 ≤ a ∧ a < 65536 := by
  unfold inK at h
  simp [Lit.wf, IntKind.min, IntKind.max, IntKind.signed, IntKind.bits] at h
  omega
theorem inK_u8 {a : Int} (h : inK .u8 a) : 0 ≤ a ∧ a < 256 := by
  unfold inK at h
  simp [Lit.wf, IntKind.min, IntKind.max, IntKind.signed, IntKind.bits] at h
  omega
theorem O_int {P : Program} {t : TypeId} {k : IntKind} (ht : P.underlying t = some (.int k)) : OpenT P t (ic k) (inK k) := by
  intro H enc w base spare held fuel cs x h
  obtain ⟨n, h1, _, h2⟩ := DataW.trod_int ht h
  exact ⟨n, h2, h1⟩
theorem O_vec {P : Program} {t el : TypeId} (ht : P.underlying t = some (.array 16 el)) (he : P.underlying el = some (.int .u32)) (hc : P.cellsOf el = 1) (hct : P.cellsOf t = 16) : OpenT P t vc VecOk := by
  intro H enc w base spare held fuel cs x h
  obtain ⟨xs, m, _, _, hl, hxl, hx⟩ := DataW.trod_array ht h
  rw [hct] at hl
  have each : ∀ i, i < 16 → ∃ a, inK .u32 a ∧ cs[i]? = some (.int .u32 a) := by
    intro i hi
    have h1 := hx i hi
    rw [hc, List.getElem?_eq_getElem (by omega)] at h1
    obtain ⟨a, ha, he⟩ := O_int he _ _ _ _ _ _ _ _ _ h1
    refine ⟨a, ha, ?_⟩
    have h2 : ((cs.drop (i * 1)).take 1)[0]? = some (.int .u32 a) := by rw [he]; rfl
    simpa [List.getElem?_take, List.getElem?_drop] using h2
  have each' : ∀ i : Fin 16, ∃ a, inK .u32 a ∧ cs[i.val]? = some (.int .u32 a) := fun i => each i.val i.isLt
  obtain ⟨v, hv⟩ := Classical.axiomOfChoice each'
  refine ⟨v, fun i => inK_u32 (hv i).1, ?_⟩
  apply List.ext_getElem?
  intro i
  by_cases hi : i < 16
  · rw [vc_at _ _ hi, (hv ⟨i, hi⟩).2]; simp [vat, hi]
  · rw [List.getElem?_eq_none (by omega), List.getElem?_eq_none (by rw [vc_len]; omega)]
theorem O_dot {P : Program} {t : TypeId} {f1 f2 : Field} (ht : P.underlying t = some (.struct #[f1, f2])) (o1 : f1.offset = 0) (o2 : f2.offset = 1) (u1 : P.underlying f1.type = some (.int .u8)) (u2 : P.underlying f2.type = some (.int .u32))
    (c1 : P.cellsOf f1.type = 1) (c2 : P.cellsOf f2.type = 1) (hct : P.cellsOf t = 2) : OpenT P t dc DotOk := by
  intro H enc w base spare held fuel cs x h
  obtain ⟨xs, m, _, _, hl, hxl, hx⟩ := DataW.trod_struct ht h
  rw [hct] at hl
  have h1 := hx 0 f1 rfl
  have h2 := hx 1 f2 rfl
  have hx2 : xs.length = 2 := by simpa using hxl
  rw [List.getElem?_eq_getElem (by omega)] at h1 h2
  rw [o1, c1] at h1
  rw [o2, c2] at h2
  obtain ⟨a, ha, e1⟩ := O_int u1 _ _ _ _ _ _ _ _ _ h1
  obtain ⟨b, hb, e2⟩ := O_int u2 _ _ _ _ _ _ _ _ _ h2
  match cs, hl with
  | [x, y], _ =>
    simp [ic] at e1 e2
    exact ⟨⟨a, b⟩, ⟨inK_u8 ha, inK_u32 hb⟩, by rw [e1, e2]; rfl⟩
theorem open_flat {P : Program} {t : TypeId} {α : Type} {en : α → List Value} {ok : α → Prop} (hO : OpenT P t en ok) {H : Type} {enc : TypeId × Value → H} {w : World} {base : Nat} {spare : Nat → Bool} {held : Bool} {v : Value} {d : DataW H} {ps : List MemPlace}
    (hv : ∃ cs : Array Value, v = .agg cs) (h : DataW.Trod enc P w base spare held t v d ps) : ∃ a, ok a ∧ v = .agg (en a).toArray := by
  obtain ⟨cs, rfl⟩ := hv
  obtain ⟨fuel, h⟩ := h
  obtain ⟨a, ha, he⟩ := hO _ _ _ _ _ _ _ _ _ h
  refine ⟨a, ha, ?_⟩
  have : cs.toList = en a := he
  rw [← this]
theorem wide_agg {P : Program} {t : TypeId} {w : World} {r : Reach} {base : Nat} {v : Value} (hs : (∃ fs, P.underlying t = some (.struct fs)) ∨ ∃ n e, P.underlying t = some (.array n e)) (h : Value.okWide P w r base t v) : ∃ cs : Array Value, v = .agg cs := by
  unfold Value.okWide at h
  rcases hs with ⟨fs, hs⟩ | ⟨n, e, hs⟩ <;> rw [hs] at h <;> exact ⟨_, h.choose_spec.1⟩
theorem open_rows {P : Program} {t e k : TypeId} {α : Type} {en : α → List Value} {ok : α → Prop} (ht : P.underlying t = some (.slice e)) (hO : OpenT P e en ok) (hk : ∀ x, (en x).length = k) (hc : P.cellsOf e = k) {H : Type} {enc : TypeId × Value → H} {w : World} {r : Reach} {b0 base : Nat} {spare : Nat → Bool} {held : Bool} {v : Value} {d : DataW H} {ps : List MemPlace}
    (hv : Value.okWide P w r b0 t v) (h : DataW.Trod enc P w base spare held t v d ps) : ∃ a c, ∃ l : List α, v = .slice a l.length c ∧ (∀ x ∈ l, ok x) ∧ Rd w (.slice a l.length c) k (l.map en) := by
  have hv0 := hv
  obtain ⟨a, len, cap, rfl⟩ := okWide_slice ht hv
  obtain ⟨fuel, h⟩ := h
  have h' : DataW.trod enc P w base spare held fuel t [.slice a len cap] = some (d, ps) := h
  rcases Go.Deep.open_slice ht h' with ⟨hcs, _⟩ | ⟨ad, len', cap', m, n, D, Pl, hcs, hb, hl, hm, hmm, hx, hall⟩
  · simp only [List.cons.injEq, Value.slice.injEq, and_true] at hcs
    obtain ⟨rfl, rfl, rfl⟩ := hcs
    exact ⟨none, 0, [], rfl, by simp, Rd.nil w k⟩
  · simp only [List.cons.injEq, Value.slice.injEq, and_true] at hcs
    obtain ⟨rfl, rfl, rfl⟩ := hcs
    have hrm : len ≤ cap := by
      have hv1 := hv0
      simp only [Value.okWide, ht, Cell.okWide, Cell.ok] at hv1
      exact hv1.1
    have hsp : ad.spot = none := by
      simp only [Value.okWide, ht, Cell.okWide, Cell.ok] at hv0
      exact hv0.2.2.2.1
    have hle : len ≤ m := by rw [hmm]; split <;> omega
    have each : ∀ i : Fin len, ∃ x : α, ok x ∧ ∀ j, j < k → w.cell? ((ad.add (i.val * k)).add j) = (en x)[j]? := by
      intro i
      obtain ⟨cs', h1, h2⟩ := hall i.val (by omega)
      rw [hc] at h1
      obtain ⟨_, _, h3⟩ := World.cells?_some h1
      obtain ⟨x, hox, rfl⟩ := hO _ _ _ _ _ _ _ _ _ h2
      exact ⟨x, hox, h3⟩
    obtain ⟨f, hf⟩ := Classical.axiomOfChoice each
    refine ⟨some ad, cap, List.ofFn f, by rw [List.length_ofFn], fun x hx => ?_, ?_⟩
    · obtain ⟨i, rfl⟩ := List.mem_ofFn.1 hx; exact (hf i).1
    · obtain ⟨b, o, sp⟩ := ad
      simp only at hsp
      subst hsp
      refine ⟨len_map hk _, by simp only [List.length_map, List.length_ofFn]; simp only [maxLen] at hm; omega, .inr ⟨b, o, cap, by rw [List.length_map]⟩, fun i j l u hi hj => ?_, by rw [List.length_map, List.length_ofFn]; exact hrm⟩
      have hi' := lt_of_get hi
      rw [List.length_map, List.length_ofFn] at hi'
      have e1 : l = en (f ⟨i, hi'⟩) := by
        rw [List.getElem?_map, List.getElem?_ofFn] at hi
        simp [hi'] at hi
        exact hi.symm
      subst e1
      have hjk : j < k := by have := lt_of_get hj; rw [hk] at this; exact this
      have h4 := (hf ⟨i, hi'⟩).2 j hjk
      rw [add_eq, add_eq] at h4
      show w.cell? ⟨b, o + i * k + j, none⟩ = some u
      rw [← hj]; exact h4
end Go.Vx
namespace Go.Proofs
open Go Go.Vx Go.RowKit
namespace Tt
theorem HM : Tryz.prog.follows .mixedOrders = true := by kernel_rfl
theorem S1_22 : T1 Tryz.prog 22 := ⟨Tryz.sizeOf22, Tryz.isAgg22⟩
theorem S1_3 : T1 Tryz.prog 3 := ⟨Tryz.sizeOf3, Tryz.isAgg3⟩
theorem S1_31 : T1 Tryz.prog 31 := ⟨Tryz.sizeOf31, Tryz.isAgg31⟩
theorem S1_5 : T1 Tryz.prog 5 := ⟨Tryz.sizeOf5, Tryz.isAgg5⟩
theorem SA_24 : TA Tryz.prog 24 16 := ⟨Tryz.sizeOf24, Tryz.isAgg24⟩
theorem SA_30 : TA Tryz.prog 30 2 := ⟨Tryz.sizeOf30, Tryz.isAgg30⟩
theorem SA_33 : TA Tryz.prog 33 23 := ⟨Tryz.sizeOf33, Tryz.isAgg33⟩
set_option maxRecDepth 20000 in
theorem EQ_24 (a b : Vec) : EqF Tryz.prog 2 24 (.agg (vc a).toArray) (.agg (vc b).toArray) (decide (a = b)) := EqF_vec Tryz.underlying24 Tryz.type22 rfl Tryz.runUnderlying22 ⟨Tryz.sizeOf22, Tryz.isAgg22⟩ a b
set_option maxRecDepth 20000 in
theorem EL_149 : El Tryz.prog 149 3 1 8 := ⟨Tryz.underlying149, _, _, Tryz.type3, rfl, rfl, rfl, rfl, by decide⟩
theorem EN_103 : En Tryz.prog 103 := Tryz.call103
theorem EN_104 : En Tryz.prog 104 := Tryz.call104
theorem EN_105 : En Tryz.prog 105 := Tryz.call105
theorem EN_109 : En Tryz.prog 109 := Tryz.call109
theorem EN_112 : En Tryz.prog 112 := Tryz.call112
theorem EN_128 : En Tryz.prog 128 := Tryz.call128
theorem EN_16 : En Tryz.prog 16 := Tryz.call16
theorem EN_33 : En Tryz.prog 33 := Tryz.call33
theorem EN_41 : En Tryz.prog 41 := Tryz.call41
theorem EN_44 : En Tryz.prog 44 := Tryz.call44
theorem EN_47 : En Tryz.prog 47 := Tryz.call47
theorem EN_50 : En Tryz.prog 50 := Tryz.call50
theorem EN_52 : En Tryz.prog 52 := Tryz.call52
theorem EN_53 : En Tryz.prog 53 := Tryz.call53
theorem EN_66 : En Tryz.prog 66 := Tryz.call66
theorem EN_69 : En Tryz.prog 69 := Tryz.call69
theorem EN_70 : En Tryz.prog 70 := Tryz.call70
theorem EN_73 : En Tryz.prog 73 := Tryz.call73
theorem EN_74 : En Tryz.prog 74 := Tryz.call74
theorem EN_75 : En Tryz.prog 75 := Tryz.call75
theorem EN_76 : En Tryz.prog 76 := Tryz.call76
theorem EN_77 : En Tryz.prog 77 := Tryz.call77
theorem EN_81 : En Tryz.prog 81 := Tryz.call81
theorem EN_84 : En Tryz.prog 84 := Tryz.call84
theorem EN_87 : En Tryz.prog 87 := Tryz.call87
theorem EN_91 : En Tryz.prog 91 := Tryz.call91
theorem FA_30_0 : FA Tryz.prog 30 0 0 := fun b o w => by simp [Instr.fieldAt, Instr.sureAddr, fieldPlace, add_eq]
theorem FA_30_1 : FA Tryz.prog 30 1 1 := fun b o w => by simp [Instr.fieldAt, Instr.sureAddr, fieldPlace, add_eq]
theorem FA_33_0 : FA Tryz.prog 33 0 0 := fun b o w => by simp [Instr.fieldAt, Instr.sureAddr, fieldPlace, add_eq]
theorem FA_33_1 : FA Tryz.prog 33 1 2 := fun b o w => by simp [Instr.fieldAt, Instr.sureAddr, fieldPlace, add_eq]
theorem FA_33_2 : FA Tryz.prog 33 2 3 := fun b o w => by simp [Instr.fieldAt, Instr.sureAddr, fieldPlace, add_eq]
theorem FA_33_3 : FA Tryz.prog 33 3 4 := fun b o w => by simp [Instr.fieldAt, Instr.sureAddr, fieldPlace, add_eq]
theorem FA_33_4 : FA Tryz.prog 33 4 5 := fun b o w => by simp [Instr.fieldAt, Instr.sureAddr, fieldPlace, add_eq]
theorem FA_33_5 : FA Tryz.prog 33 5 6 := fun b o w => by simp [Instr.fieldAt, Instr.sureAddr, fieldPlace, add_eq]
theorem FA_33_6 : FA Tryz.prog 33 6 7 := fun b o w => by simp [Instr.fieldAt, Instr.sureAddr, fieldPlace, add_eq]
theorem UD_149 : Ud Tryz.prog 149 (.slice 3) := Tryz.runUnderlying149
theorem UD_22 : Ud Tryz.prog 22 (.int .u32) := Tryz.runUnderlying22
theorem UD_24 : Ud Tryz.prog 24 (.array 16 22) := Tryz.runUnderlying24
theorem UD_3 : Ud Tryz.prog 3 (.int .i64) := Tryz.runUnderlying3
theorem UD_5 : Ud Tryz.prog 5 (.int .u8) := Tryz.runUnderlying5
theorem UD_54 : Ud Tryz.prog 54 (.int .u64) := Tryz.runUnderlying54
theorem ZV_24 : Zv Tryz.prog 24 (.agg (vc vzero).toArray) := Tryz.zeroValue24
theorem ZV_30 : Zv Tryz.prog 30 (.agg (dc (⟨0, 0⟩ : Dot)).toArray) := Tryz.zeroValue30
end Tt
end Go.Proofs
namespace Go.Vx
open Go.RowKit
theorem take_spl : ∀ (vs cs : List Value) (o N : Nat), (spl cs o vs).take N = spl (cs.take N) o vs
  | [], _, _, _ => rfl
  | v :: vs, cs, o, N => by
    unfold spl
    rw [take_spl vs (cs.set o v) (o + 1) N, List.take_set]
theorem flat_set : ∀ (m : List (List Value)) (k : Nat) (_ : ∀ l ∈ m, l.length = k) (j : Nat) (x : List Value) (_ : x.length = k) (_ : j < m.length), (m.set j x).flatten = spl m.flatten (j * k) x
  | [], _, _, _, _, _, hj => by simp at hj
  | a :: m, k, hm, j, x, hx, hj => by
    have ha := hm a (by simp)
    have hm' : ∀ l ∈ m, l.length = k := fun l h => hm l (by simp [h])
    have hfl : ∀ m : List (List Value), (∀ l ∈ m, l.length = k) → m.flatten.length = m.length * k := by
      intro m
      induction m with
      | nil => simp
      | cons a m ih =>
        intro hm
        rw [List.flatten_cons, List.length_append, ih (fun l hl => hm l (by simp [hl])), hm a (by simp), List.length_cons, Nat.add_mul]
        omega
    cases j with
    | zero =>
      rw [spl_eq _ _ _ (by rw [List.flatten_cons, List.length_append]; omega)]
      simp only [List.set_cons_zero, List.flatten_cons, Nat.zero_mul, List.take_zero, List.nil_append, Nat.zero_add]
      rw [hx, ← ha, List.drop_left]
    | succ j =>
      simp only [List.length_cons, Nat.add_lt_add_iff_right] at hj
      have hjk : (j + 1) * k ≤ m.length * k := Nat.mul_le_mul_right _ hj
      rw [Nat.add_mul] at hjk
      rw [List.set_cons_succ, List.flatten_cons, flat_set m k hm' j x hx hj]
      rw [spl_eq _ _ _ (by rw [hfl m hm']; omega), spl_eq _ _ _ (by rw [List.flatten_cons, List.length_append, hfl m hm', Nat.add_mul]; omega)]
      have e1 : (j + 1) * k = a.length + j * k := by rw [Nat.add_mul, ha]; omega
      have e2 : (j + 1) * k + x.length = a.length + (j * k + x.length) := by rw [e1]; omega
      rw [List.flatten_cons, e1, List.take_length_add_append]
      rw [show a.length + j * k + x.length = a.length + (j * k + x.length) by omega, List.drop_length_add_append]
      simp only [List.append_assoc]
section
variable {P : Program} {ty : TypeId} {e : Operand → Value} {w : World} {K : Value → World → Prop} {w0 : World} {M : Nat → Prop} {L : List Res}
theorem L_stE {α : Type} {t E k n : Nat} {enc : α → List Value} {x y : Operand} {v : Value} {l : List α} {z : α} {V : Value} (i : Nat) (ht : Sz P t k) (hs : Own w0 M w L) (j : Nat) (hk : L[j]? = some (row v (l.map enc) E k)) (hx : e x = .pointer (some ⟨bkS v, n, none⟩)) (hn : n = ofS v + i * k) (hi : i < l.length) (hy : e y = V)
    (hV : V.cells = (enc z).toArray) (hz : (enc z).length = k) (h1 : ∀ u ∈ enc z, u.oneCell' = true) (h : ∀ w', Own w0 M w' (L.set j (row v ((l.set i z).map enc) E k)) → K undef w') : opW P (.store t x y) ty e w K := by
  obtain ⟨S, ⟨⟨hl1, ho1⟩, hown, hSg⟩, hlt, _⟩ := hs.get j hk
  rcases hown.2 with ⟨hv, hn0⟩ | ⟨g, cap, cur, hv, h0g, hg, hnc, hcm, hcs, htake⟩
  · have h0 : l.length = 0 := by simpa using hn0
    omega
  · have hlen : (l.map enc).length = l.length := by simp
    subst hv
    have hn' : n = i * k := by rw [hn]; simp [ofS]
    subst hn'
    have hx' : e x = .pointer (some ⟨g, i * k, none⟩) := hx
    have hik : i * k + k ≤ l.length * k := by
      have := Nat.mul_le_mul_right k (show i + 1 ≤ l.length from hi)
      rw [Nat.add_mul] at this; omega
    have hcap : l.length * k ≤ cur.size := by rw [hcs]; exact Nat.mul_le_mul_right _ (by rw [← hlen]; exact hnc)
    have hrun := run_storeVar_mid (P := P) ht g (i * k) E V (enc z) cur.toList hV hz (w := w) (by simpa using hg) (by rw [hz, Array.length_toList]; omega) h1
    refine opW_skip (w' := w.setRow g (spl cur.toList (i * k) (enc z)).toArray) ?_ (h _ ?_)
    · simp only [execOp, hx', hy, Instr.storeAt, Instr.sureAddr, Sem.run_bind, Sem.run_pure, Result.andThen_ok, hrun]
    · refine hs.change j (b := g) hk (by simp) rfl rfl rfl (fun c hc => setRow_other w g c _ hc) ?_
      rintro S' ⟨_, hown', hSg'⟩
      have e1 : (l.set i z).map enc = (l.map enc).set i (enc z) := by rw [List.map_set]
      have hk1 : ∀ m ∈ (l.map enc).set i (enc z), m.length = k := by
        intro m hm
        rcases List.mem_or_eq_of_mem_set hm with h | h
        · exact hl1 m h
        · subst h; exact hz
      have hsl : ∀ cs : List Value, i * k + k ≤ cs.length → (spl cs (i * k) (enc z)).length = cs.length := fun cs hc => by
        rw [spl_eq _ _ _ (by omega)]
        simp only [List.length_append, List.length_take, List.length_drop]; omega
      refine ⟨hSg' g rfl, ?_⟩
      rw [e1]
      refine ⟨⟨hk1, ?_⟩, ⟨?_, .inr ⟨g, cap, _, by rw [List.length_set], h0g, setRow_heap w g cur _ E _ hg, by rw [List.length_set]; exact hnc, hcm, ?_, ?_⟩⟩, fun g' hg' => by cases hg'; exact hSg' g rfl⟩
      · intro m hm u hu
        rcases List.mem_or_eq_of_mem_set hm with h | h
        · exact ho1 m h u hu
        · subst h; exact h1 u hu
      · rw [flat_set _ k hl1 _ _ hz (by rw [hlen]; exact hi), List.length_set, hsl _ (by rw [hown.1, hlen]; exact hik)]; exact hown.1
      · rw [List.size_toArray, hsl _ (by rw [Array.length_toList]; omega)]; simpa using hcs
      · rw [flat_set _ k hl1 _ _ hz (by rw [hlen]; exact hi), ← htake, List.length_set]
        show (spl cur.toList (i * k) (enc z)).take _ = _
        rw [take_spl]
end
end Go.Vx
namespace Go.Vx
open Go.RowKit
theorem sla_zero (a : Option Addr) (c k : Nat) : sla a 0 c k = a := by
  unfold sla
  split
  · rfl
  · cases a with
    | none => rfl
    | some a =>
      cases a with
      | mk b o s => cases s <;> simp [Addr.add]
theorem sla_at {b o l m k : Nat} (h : l < m) : sla (some ⟨b, o, none⟩) l m k = some ⟨b, o + l * k, none⟩ := by
  unfold sla; rw [if_neg (by omega)]; simp only [Option.map_some, add_eq]
section
variable {P : Program} {ty : TypeId} {e : Operand → Value} {w : World} {K : Value → World → Prop} {w0 : World} {M : Nat → Prop} {L : List Res}
theorem L_capS {t el : Nat} {x : Operand} {a : Option Addr} {n c : Nat} (ht : Ud P t (.slice el)) (hx : e x = .slice a n c) (h : K (.int .i64 c) w) : opW P (.call { callee := .builtin .cap, args := #[x], argTypes := #[t] }) ty e w K := by
  refine opW_val (w' := w) ?_ h
  rw [BigFrame.execOp_builtin]
  simp only [List.map_toArray, List.map_cons, List.map_nil, hx, Go.builtin, Builtin.cap_, Sem.run_bind, ht w, Result.andThen_ok, Sem.run_pure, List.getElem?_toArray, List.getElem?_cons_zero, goInt]
theorem L_slV {t el k : Nat} {x : Operand} {lo hi : Option Operand} {a : Option Addr} {n c l h n' : Nat} (ht : P.underlying t = some (.slice el)) (hk : Sz P el k) (hnc : n ≤ c) (hx : e x = .slice a n c)
    (hlo : (lo = none ∧ l = 0) ∨ ∃ y j, lo = some y ∧ e y = .int j (l : Int)) (hhi : (hi = none ∧ h = n) ∨ ∃ y j, hi = some y ∧ e y = .int j (h : Int))
    (h1 : l ≤ h) (h2 : h ≤ c) (hn : n' = h - l) (hK : K (.slice (sla a l c k) n' (c - l)) w) : opW P (.slice t x lo hi none) ty e w K := by
  subst hn
  have hel : P.elem t = el := by simp [Program.elem, ht]
  have ht' : P.underlying t = some (.slice (P.elem t)) := by rw [hel]; exact ht
  have key : (Instr.slice t (.slice a n c) (lo.map e) (hi.map e) none).run P w = .ok (.slice (sla a l c k) (h - l) (c - l)) w := by
    have fin : ∀ l' h', l' = l → h' = h → ((sizeOf (P.elem t)).run P w).andThen (fun s w => .ok (sliced a l' h' c s) w) = Result.ok (.slice (sla a l c k) (h - l) (c - l)) w := by
      intro l' h' e1 e2
      subst e1; subst e2
      rw [hel, hk w]; rfl
    rcases hlo with ⟨rfl, rfl⟩ | ⟨yl, jl, rfl, hyl⟩ <;> rcases hhi with ⟨rfl, rfl⟩ | ⟨yh, jh, rfl, hyh⟩
    · rw [show (none : Option Operand).map e = none from rfl, run_slice_all w t a _ _ ht']; exact fin _ _ rfl rfl
    · simp only [Option.map_some, Option.map_none, hyh]; rw [run_slice_h w t a _ _ ht' _ _ (by omega) (by omega)]; exact fin _ _ rfl (by omega)
    · simp only [Option.map_some, Option.map_none, hyl]; rw [run_slice_l w t a _ _ ht' _ _ (by omega) (by omega)]; exact fin _ _ (by omega) rfl
    · simp only [Option.map_some, hyl, hyh]; rw [run_slice_lh w t a _ _ ht' _ _ _ _ (by omega) (by omega) (by omega)]; exact fin _ _ (by omega) (by omega)
  refine opW_val (w' := w) ?_ hK
  have hat : (Instr.sliceAt t (.slice a n c) (lo.map e) (hi.map e) none).run P w = .ok (.slice (sla a l c k) (h - l) (c - l)) w := by rw [run_sliceAt_slice w t _ _ _ _ ht']; exact key
  simp only [execOp, hx, Sem.run_bind, Option.map_none, hat, Result.andThen_ok, Sem.run_pure]
theorem flat_splice {k : Nat} (ls ms : List (List Value)) (hl : ∀ l ∈ ls, l.length = k) (hm : ∀ l ∈ ms, l.length = k) (cur : List Value) (p N : Nat) (hp : p ≤ ls.length) (hcur : cur.take (ls.length * k) = ls.flatten) (_ : (p + ms.length) * k ≤ cur.length) (hN : N = max ls.length (p + ms.length)) (hNc : ls.length * k ≤ cur.length) :
    (cur.take (p * k) ++ ms.flatten ++ cur.drop (p * k + ms.flatten.length)).take (N * k) = (ls.take p ++ ms ++ ls.drop (p + ms.length)).flatten := by
  have hmf := flat_len ms hm
  have hlf := flat_len ls hl
  have htp : ∀ l ∈ ls.take p, l.length = k := fun l h => hl l (List.mem_of_mem_take h)
  have e1 : cur.take (p * k) = (ls.take p).flatten := by
    have h1 : ls.flatten = (ls.take p).flatten ++ (ls.drop p).flatten := by rw [← List.flatten_append, List.take_append_drop]
    have h2 : (ls.take p).flatten.length = p * k := by rw [flat_len _ htp, List.length_take, Nat.min_eq_left hp]
    have h3 : cur.take (p * k) = (cur.take (ls.length * k)).take (p * k) := by rw [List.take_take, Nat.min_eq_left (Nat.mul_le_mul_right _ hp)]
    rw [h3, hcur, h1, List.take_left' h2]
  have hpk : (cur.take (p * k)).length = p * k := by
    rw [List.length_take]
    have := Nat.mul_le_mul_right k hp
    omega
  rw [List.flatten_append, List.flatten_append, ← e1]
  have hle : p * k + ms.flatten.length = (p + ms.length) * k := by rw [hmf, Nat.add_mul]
  rw [hle]
  have hN2 : N * k = (p + ms.length) * k + (N - (p + ms.length)) * k := by rw [← Nat.add_mul]; congr 1; omega
  rw [hN2]
  have hll : (cur.take (p * k) ++ ms.flatten).length = (p + ms.length) * k := by rw [List.length_append, hpk, hle]
  rw [← hll, List.take_length_add_append]
  congr 1
  have hdd : ∀ l ∈ ls.take (p + ms.length), l.length = k := fun l h => hl l (List.mem_of_mem_take h)
  by_cases hc : ls.length ≤ p + ms.length
  · rw [List.drop_eq_nil_of_le hc, show N - (p + ms.length) = 0 by omega]; simp
  · have hNl : N = ls.length := by omega
    have h1 : ls.flatten = (ls.take (p + ms.length)).flatten ++ (ls.drop (p + ms.length)).flatten := by rw [← List.flatten_append, List.take_append_drop]
    have h2 : (ls.take (p + ms.length)).flatten.length = (p + ms.length) * k := by rw [flat_len _ hdd, List.length_take, Nat.min_eq_left (by omega)]
    have h3 : (cur.take (ls.length * k)).drop ((p + ms.length) * k) = (ls.drop (p + ms.length)).flatten := by rw [hcur, h1, List.drop_left' h2]
    rw [List.drop_take] at h3
    rw [hll, ← h3, hNl, Nat.sub_mul]
theorem L_copyTo {t t2 E k bytes lo dl dc sl sc n n' c : Nat} {x y : Operand} {a sa : Option Addr} {ls ms ls' : List (List Value)} (hE : El P t E k bytes) (hs : Own w0 M w L) (j : Nat) (hj : L[j]? = some (row (.slice a n c) ls E k)) (hx : e x = .slice (sla a lo c k) dl dc) (hy : e y = .slice sa sl sc)
    (hm0 : ms.length = min sl dl) (hsrc : 0 < ms.length → ∃ ad, sa = some ad ∧ ∀ q u, ms.flatten[q]? = some u → w.cell? (ad.add q) = some u) (hlen : ∀ l ∈ ms, l.length = k) (hone : ∀ l ∈ ms, ∀ u ∈ l, u.oneCell' = true) (hfit : lo + ms.length ≤ c) (hlo : lo ≤ ls.length)
    (hl' : ls.take lo ++ ms ++ ls.drop (lo + ms.length) = ls') (hn' : ls'.length = n') (h : ∀ w', Own w0 M w' (L.set j (row (.slice a n' c) ls' E k)) → K (.int .i64 ms.length) w') :
    opW P (.call { callee := .builtin .copy, args := #[x, y], argTypes := #[t, t2] }) ty e w K := by
  have hm : ms.length = Nat.min sl dl := hm0
  subst hl'
  subst hn'
  obtain ⟨ht, ie, z, hie, hz, rfl, rfl, hzs, hk⟩ := hE
  obtain ⟨S, ⟨⟨hl1, ho1⟩, hown, hSg⟩, hlt, _⟩ := hs.get j hj
  rcases Nat.eq_zero_or_pos ms.length with h0 | h0
  · have hms : ms = [] := List.eq_nil_of_length_eq_zero h0
    subst hms
    have hmin : Nat.min sl dl = 0 := by simpa using hm.symm
    have hnl : n = ls.length := by
      rcases hown.2 with ⟨hv, hn0⟩ | ⟨g, cap, cur, hv, _⟩
      · cases hv; exact hn0.symm
      · cases hv; rfl
    have e1 : L.set j (row (.slice a (ls.take lo ++ [] ++ ls.drop (lo + ([] : List (List Value)).length)).length c) (ls.take lo ++ [] ++ ls.drop (lo + ([] : List (List Value)).length)) E ie.size) = L := by
      have : ls.take lo ++ [] ++ ls.drop (lo + ([] : List (List Value)).length) = ls := by simp
      rw [this, ← hnl]
      apply List.ext_getElem?
      intro m
      rw [List.getElem?_set]
      split
      · rename_i e; subst e; rw [if_pos (lt_of_get hj), hj]
      · rfl
    refine opW_val (w' := w) ?_ (h w (by rw [e1]; exact hs))
    rw [BigFrame.execOp_builtin]
    have hf : ∀ v, Sem.run P (Builtin.firstCells ie.size 0 (.slice v sl sc)) w = .ok #[] w := by
      intro v; cases v <;> simp [Builtin.firstCells, loadCells, loadCellsFrom, Sem.run]
    simp only [List.map_toArray, List.map_cons, List.map_nil, hx, hy, Go.builtin]
    cases sla a lo c ie.size <;> simp [Builtin.copy_, run_underlying ht, Builtin.lenOf, sizeOf, typeInfo, hie, hmin, hf, storeCells, goInt, Sem.run]
  · obtain ⟨ad, rfl, hcells⟩ := hsrc h0
    rcases hown.2 with ⟨hv, hn0⟩ | ⟨g, cap, cur, hv, h0g, hg, hnc, hcm, hcs, htake⟩
    · cases hv
      omega
    · cases hv
      have hloc : lo < c := by omega
      rw [sla_at hloc, Nat.zero_add] at hx
      have hmf := flat_len ms hlen
      have hfits : lo * ie.size + ms.flatten.length ≤ cur.size := by
        rw [hmf, ← Nat.add_mul, hcs]; exact Nat.mul_le_mul_right _ hfit
      have hld := run_loadCells_list (P := P) w ad ms.flatten hcells
      have hst := run_storeCells_at P g (lo * ie.size) E ms.flatten 0 cur w hg (by simpa using hfits) (fun v hv => by
        obtain ⟨l, hl, hvl⟩ := List.mem_flatten.1 hv
        exact hone l hl v hvl)
      have hld' : Sem.run P (loadCells ad (Nat.min sl dl * ie.size)) w = .ok ms.flatten.toArray w := by rw [← hm, ← hmf]; exact hld
      refine opW_val (w' := w.setRow g (cur.toList.take (lo * ie.size) ++ ms.flatten ++ cur.toList.drop (lo * ie.size + ms.flatten.length)).toArray) ?_ (h _ ?_)
      · rw [BigFrame.execOp_builtin]
        simp only [List.map_toArray, List.map_cons, List.map_nil, hx, hy, Go.builtin]
        simp [Builtin.copy_, run_underlying ht, Builtin.lenOf, Builtin.firstCells, sizeOf, typeInfo, hie, hld', hst, hm, goInt]
      · refine hs.change j (b := g) hj (by simp) rfl rfl rfl (fun b hb => setRow_other w g b _ hb) ?_
        rintro S' ⟨_, hown', hSg'⟩
        have hk1 : ∀ m ∈ ls.take lo ++ ms ++ ls.drop (lo + ms.length), m.length = ie.size := by
          intro m hm
          rcases List.mem_append.1 hm with h | h
          · rcases List.mem_append.1 h with h | h
            · exact hl1 m (List.mem_of_mem_take h)
            · exact hlen m h
          · exact hl1 m (List.mem_of_mem_drop h)
        have hlen' : (ls.take lo ++ ms ++ ls.drop (lo + ms.length)).length = max ls.length (lo + ms.length) := by
          simp only [List.length_append, List.length_take, List.length_drop]; omega
        have hcl : cur.toList.length = c * ie.size := by simpa using hcs
        have hsp := flat_splice ls ms hl1 hlen cur.toList lo (max ls.length (lo + ms.length)) hlo htake (by rw [hcl]; exact Nat.mul_le_mul_right _ hfit) rfl (by rw [hcl]; exact Nat.mul_le_mul_right _ hnc)
        refine ⟨hSg' g rfl, ⟨hk1, ?_⟩, ⟨by rw [flat_len _ hk1], .inr ⟨g, c, _, rfl, h0g, setRow_heap w g cur _ E _ hg, by rw [hlen']; omega, hcm, ?_, ?_⟩⟩, fun g' hg' => by cases hg'; exact hSg' g rfl⟩
        · intro m hm
          rcases List.mem_append.1 hm with h | h
          · rcases List.mem_append.1 h with h | h
            · exact ho1 m (List.mem_of_mem_take h)
            · exact hone m h
          · exact ho1 m (List.mem_of_mem_drop h)
        · rw [List.size_toArray]
          simp only [List.length_append, List.length_take, List.length_drop, hcl]
          rw [hcs] at hfits
          omega
        · rw [hlen', ← hsp]
theorem Rd.srcs {k : Nat} {sa : Option Addr} {n c : Nat} {ms : List (List Value)} (hr : Rd w (.slice sa n c) k ms) : 0 < ms.length → ∃ ad, sa = some ad ∧ ∀ q u, ms.flatten[q]? = some u → w.cell? (ad.add q) = some u := by
  intro h0
  obtain ⟨b, o, c', hv⟩ := hr.ptr h0
  cases hv
  exact ⟨_, rfl, hr.flat rfl⟩
theorem zeroCells_flat {z : List Value} : ∀ n : Nat, Builtin.zeroCells z.toArray n = (List.replicate n z).flatten.toArray := by
  intro n
  apply Array.ext'
  simp only [Builtin.zeroCells, Array.toList_map, Array.toList_range]
  rcases Nat.eq_zero_or_pos z.length with h0 | h0
  · have : z = [] := List.eq_nil_of_length_eq_zero h0
    subst this
    simp
  · apply List.ext_getElem?
    intro j
    have hlen : (List.replicate n z).flatten.length = n * z.length := by simp [List.length_flatten]
    by_cases hj : j < n * z.length
    · rw [List.getElem?_map, List.getElem?_range (by simpa using hj)]
      simp only [Option.map_some]
      have hi : j / z.length < n := Nat.div_lt_of_lt_mul (by rw [Nat.mul_comm]; exact hj)
      have hm : j % z.length < z.length := Nat.mod_lt _ h0
      have := flat_at (List.replicate n z) z.length (fun l hl => by rw [List.eq_of_mem_replicate hl]) (j / z.length) (j % z.length) z z[j % z.length] (by simp [hi]) (by simp [hm])
      rw [Nat.mul_comm, Nat.div_add_mod] at this
      rw [this]
      simp [hm]
    · rw [List.getElem?_eq_none (by simpa using hj), List.getElem?_eq_none (by rw [hlen]; omega)]
theorem L_appZ {t tn E k bytes n c i cnt : Nat} {kn : IntKind} {x y : Operand} {a : Option Addr} {zl : List Value} {ls ls' : List (List Value)} (hE : El P t E k bytes) (hn : P.underlying tn = some (.int kn)) (hz : Zv P E (.agg zl.toArray) ∨ ∃ v, zl = [v] ∧ Zv P E v ∧ v.cells = #[v]) (hs : Own w0 M w L) (hr : Rd w (.slice a n c) k ls) (hx : e x = .slice (sla a 0 c k) i c) (hy : e y = .int .i64 (cnt : Int))
    (hi : i ≤ ls.length) (h0 : 0 < ls.length) (hc : 0 < cnt) (hfull : c < i + cnt) (h1 : ∀ l ∈ ls, ∀ u ∈ l, u.oneCell' = true) (hz1 : ∀ u ∈ zl, u.oneCell' = true) (hzk : zl.length = k) (hb : (i + cnt) * (bytes + 1) ≤ 140737488355328) (hl : ls.take i ++ List.replicate cnt zl = ls') (n' : Nat) (hn' : ls'.length = n') (h : ∀ a c w', Own w0 M w' (L ++ [row (.slice a n' c) ls' E k]) → K (.slice a n' c) w') :
    opW P (.call { callee := .builtin .append, args := #[x, y], argTypes := #[t, tn] }) ty e w K := by
  subst hl
  subst hn'
  obtain ⟨ht, ie, z, hie, hzz, rfl, rfl, hzs, hk⟩ := hE
  rw [sla_zero] at hx
  have hzc : z.cells = zl.toArray := by
    have hval : ∀ V, Zv P E V → V = z := fun V hV => by
      have := hV w
      simp [zeroValue, typeInfo, hie, hzz, Sem.run] at this
      exact this.symm
    rcases hz with hz | ⟨v, e1, hz, hc⟩
    · rw [← hval _ hz]; rfl
    · rw [← hval _ hz, hc, e1]
  obtain ⟨b, o, c', hv⟩ := hr.ptr h0
  cases hv
  have hbn : i + cnt ≤ 140737488355328 := Nat.le_trans (Nat.le_mul_of_pos_right _ (by omega)) hb
  have hbb : (i + cnt) * ie.bytes ≤ 140737488355328 := Nat.le_trans (Nat.mul_le_mul_left _ (by omega)) hb
  have htk : ∀ l ∈ ls.take i, l.length = ie.size := fun l hl => hr.len l (List.mem_of_mem_take hl)
  have hlt : (ls.take i).length = i := by rw [List.length_take]; omega
  have hflt := flat_len _ htk
  have hold : ∀ q u, (ls.take i).flatten[q]? = some u → w.drew.cell? ((⟨b, o, none⟩ : Addr).add q) = some u := by
    intro q u hq
    have hfl : ls.flatten = (ls.take i).flatten ++ (ls.drop i).flatten := by rw [← List.flatten_append, List.take_append_drop]
    have : ls.flatten[q]? = some u := by rw [hfl, List.getElem?_append_left (lt_of_get hq)]; exact hq
    simpa using hr.flat rfl q u this
  have hfo := run_firstCells_some (P := P) w.drew ie.size i ⟨b, o, none⟩ i c (ls.take i).flatten (by rw [hflt, hlt]) hold
  have hw : IntKind.i64.wrap (cnt : Int) = cnt := by rw [IntKind.wrap_i64]; omega
  have hneg : ¬ ((cnt : Int) < 0) := by omega
  have hcz : cnt ≠ 0 := by omega
  have hns : ¬ (cnt * ie.size = 0) := Nat.mul_ne_zero hcz (by omega)
  have hneed : ¬ (i + cnt ≤ c) := by omega
  have h63 : ¬ (9223372036854775807 < ((i : Int) + (cnt : Int))) := by omega
  have h48 := growslice_fits hfull hbb
  have h48' : ¬ (281474976710656 < Builtin.nextslicecap (i + cnt) c * ie.bytes) := by omega
  have hcb : cnt * ie.bytes ≤ 140737488355328 := Nat.le_trans (Nat.mul_le_mul_right _ (by omega)) hbb
  have h48i : ¬ (281474976710656 < (cnt : Int) * (ie.bytes : Int)) := by rw [← Int.natCast_mul]; omega
  have hrun : (Builtin.append_ #[t, tn] ty #[.slice (some ⟨b, o, none⟩) i c, .int .i64 cnt]).run P w =
      .ok (.slice (some ⟨w.heap.size, 0, none⟩) (i + cnt) (grownCap w (i + cnt) c E)) (w.drew.alloc (.cells ((ls.take i).flatten.toArray ++ Builtin.zeroCells z.cells cnt ++ Builtin.zeroCells z.cells (grownCap w (i + cnt) c E - (i + cnt))) E)) := by
    simp [Builtin.append_, run_underlying ht, run_underlying hn, sizeOf, typeInfo, zeroValue, hie, hzz, asInt, asIntOf, hw, hcz, hneg, hns, hneed, h63, h48', h48i, Question.forced, hfo, newRow, grownCap]
  have hcells : (ls.take i).flatten.toArray ++ Builtin.zeroCells z.cells cnt = ((ls.take i) ++ List.replicate cnt zl).flatten.toArray := by
    rw [hzc, zeroCells_flat, List.flatten_append]; simp
  have h5 := row_made (w := w.drew) (xs := ((ls.take i) ++ List.replicate cnt zl).flatten) (rest := Builtin.zeroCells z.cells (grownCap w (i + cnt) c E - (i + cnt))) (ls := ls.take i ++ List.replicate cnt zl) (e := E) (k := ie.size) (cap := grownCap w (i + cnt) c E)
    (fun l hl => by rcases List.mem_append.1 hl with h | h; exact htk l h; rw [List.eq_of_mem_replicate h]; exact hzk) (fun l hl => by rcases List.mem_append.1 hl with h | h; exact h1 l (List.mem_of_mem_take h); rw [List.eq_of_mem_replicate h]; exact hz1) rfl
    (by rw [List.length_append, hlt, List.length_replicate]; exact grownCap_ge w _ _ _) (grownCap_le_maxLen w _ _ _ (by simp only [maxLen]; omega)) (by rw [size_zeroCells, hzs, List.length_append, hlt, List.length_replicate])
  have hnn : (ls.take i ++ List.replicate cnt zl).length = i + cnt := by rw [List.length_append, hlt, List.length_replicate]
  refine opW_val (w' := w.drew.alloc (.cells (((ls.take i) ++ List.replicate cnt zl).flatten.toArray ++ Builtin.zeroCells z.cells (grownCap w (i + cnt) c E - (i + cnt))) E)) ?_ (h (some ⟨w.heap.size, 0, none⟩) (grownCap w (i + cnt) c E) _ ?_)
  · rw [BigFrame.execOp_builtin]
    simp only [List.map_toArray, List.map_cons, List.map_nil, hx, hy, BigFrame.builtin_append, Sem.run_bind, hrun, Result.andThen_ok, Sem.run_pure, hnn, hcells]
  · exact hs.drew.new _ _ (by simpa using h5)
theorem L_clearT {t E k bytes n c i m cc : Nat} {x : Operand} {a : Option Addr} {ls : List (List Value)} (hE : El P t E k bytes) (hs : Own w0 M w L) (j : Nat) (hj : L[j]? = some (row (.slice a n c) ls E k)) (hx : e x = .slice (sla a i c k) m cc) (hi : i ≤ ls.length) (hm : m = ls.length - i)
    (hz1 : ∀ v, Zv P E v → ∀ u ∈ v.cells.toList, u.oneCell' = true) (h : ∀ w', Own w0 M w' (L.set j (row (.slice a i c) (ls.take i) E k)) → K (.tuple #[]) w') :
    opW P (.call { callee := .builtin .clear, args := #[x], argTypes := #[t] }) ty e w K := by
  obtain ⟨ht, ie, z, hie, hzz, rfl, rfl, hzs, hk⟩ := hE
  obtain ⟨S, ⟨⟨hl1, ho1⟩, hown, hSg⟩, hlt, _⟩ := hs.get j hj
  have hnl : n = ls.length := by
    rcases hown.2 with ⟨hv, hn0⟩ | ⟨g, cap, cur, hv, _⟩
    · cases hv; exact hn0.symm
    · cases hv; rfl
  rcases Nat.eq_zero_or_pos m with h0 | h0
  · refine opW_val (w' := w) ?_ (h w ?_)
    · rw [BigFrame.execOp_builtin]
      simp only [List.map_toArray, List.map_cons, List.map_nil, hx, h0, Go.builtin]
      cases sla a i c ie.size <;> simp [Builtin.clear_, run_underlying ht]
    · have e1 : L.set j (row (.slice a i c) (ls.take i) E ie.size) = L := by
        have hil : i = ls.length := by omega
        subst hil
        rw [List.take_length, ← hnl]
        apply List.ext_getElem?
        intro q
        rw [List.getElem?_set]
        split
        · rename_i e; subst e; rw [if_pos (lt_of_get hj), hj]
        · rfl
      rw [e1]; exact hs
  · rcases hown.2 with ⟨hv, hn0⟩ | ⟨g, cap, cur, hv, h0g, hg, hnc, hcm, hcs, htake⟩
    · omega
    · cases hv
      have hic : i < c := by omega
      rw [sla_at hic, Nat.zero_add] at hx
      have hzl : (Builtin.zeroCells z.cells m).toList.length = m * ie.size := by rw [Array.length_toList, size_zeroCells, hzs]
      have hZ : Zv P E z := fun w => by simp [zeroValue, typeInfo, hie, hzz, Sem.run]
      have hone := hz1 z hZ
      have hzm : ∀ v ∈ (Builtin.zeroCells z.cells m).toList, v.oneCell' = true := by
        have e1 := zeroCells_flat (z := z.cells.toList) m
        rw [Array.toArray_toList] at e1
        rw [e1]
        intro v hv
        obtain ⟨l, hl, hvl⟩ := List.mem_flatten.1 hv
        rw [List.eq_of_mem_replicate hl] at hvl
        exact hone v hvl
      have hfits : i * ie.size + (Builtin.zeroCells z.cells m).toList.length ≤ cur.size := by
        rw [hzl, ← Nat.add_mul, hcs]; exact Nat.mul_le_mul_right _ (by omega)
      have hst := run_storeCells_at P g (i * ie.size) E (Builtin.zeroCells z.cells m).toList 0 cur w hg (by simpa using hfits) hzm
      refine opW_val (w' := w.setRow g (cur.toList.take (i * ie.size) ++ (Builtin.zeroCells z.cells m).toList ++ cur.toList.drop (i * ie.size + (Builtin.zeroCells z.cells m).toList.length)).toArray) ?_ (h _ ?_)
      · rw [BigFrame.execOp_builtin]
        simp only [List.map_toArray, List.map_cons, List.map_nil, hx, Go.builtin]
        cases m with
        | zero => omega
        | succ m => simp [Builtin.clear_, run_underlying ht, hZ w, hst]
      · refine hs.change j (b := g) hj (by simp) rfl rfl rfl (fun b hb => setRow_other w g b _ hb) ?_
        rintro S' ⟨_, hown', hSg'⟩
        have hk1 : ∀ q ∈ ls.take i, q.length = ie.size := fun q hq => hl1 q (List.mem_of_mem_take hq)
        have hlen' : (ls.take i).length = i := by rw [List.length_take]; omega
        have hcl : cur.toList.length = c * ie.size := by simpa using hcs
        refine ⟨hSg' g rfl, ⟨hk1, fun q hq => ho1 q (List.mem_of_mem_take hq)⟩, ⟨by rw [flat_len _ hk1], .inr ⟨g, c, _, by rw [hlen'], h0g, setRow_heap w g cur _ E _ hg, by rw [hlen']; omega, hcm, ?_, ?_⟩⟩, fun g' hg' => by cases hg'; exact hSg' g rfl⟩
        · rw [List.size_toArray]
          simp only [List.length_append, List.length_take, List.length_drop, hcl]
          rw [hcs] at hfits
          omega
        · rw [hlen', List.append_assoc, List.take_append_of_le_length (by rw [List.length_take, hcl]; have := Nat.mul_le_mul_right ie.size (show i ≤ c by omega); omega), List.take_take, Nat.min_self]
          have h2 : (ls.take i).flatten.length = i * ie.size := by rw [flat_len _ hk1, hlen']
          have h3 : cur.toList.take (i * ie.size) = (cur.toList.take (ls.length * ie.size)).take (i * ie.size) := by rw [List.take_take, Nat.min_eq_left (Nat.mul_le_mul_right _ hi)]
          have hfl : ls.flatten = (ls.take i).flatten ++ (ls.drop i).flatten := by rw [← List.flatten_append, List.take_append_drop]
          rw [h3, htake, hfl, List.take_left' h2]
end
end Go.Vx
namespace Go.Vx
open Go.RowKit
def PlainR (w : World) (v : Value) : Prop := ∃ b n c cur T, v = .slice (some ⟨b, 0, none⟩) n c ∧ w.heap[b]? = some (.cells cur T (0, 0))
theorem PlainR.own {w0 w : World} {M : Nat → Prop} {L : List Res} {v : Value} (h : PlainR w0 v) (hs : Own w0 M w L) (hm : ¬ M (bkS v)) : PlainR w v := by
  obtain ⟨b, n, c, cur, T, rfl, hb⟩ := h
  refine ⟨b, n, c, cur, T, rfl, ?_⟩
  rw [hs.old b (Array.getElem?_eq_some_iff.1 hb).1 hm]
  exact hb
section
variable {P : Program} {ty : TypeId} {e : Operand → Value} {w : World} {K : Value → World → Prop} {w0 : World} {M : Nat → Prop} {L : List Res}
theorem Own.plain {n : Nat} {v : Value} {ls : List (List Value)} {E k : Nat} (hs : Own w0 M w L) (i : Nat) (hi : L[i]? = some (row v ls E k)) (h0 : 0 < ls.length) (hn : n = ls.length) : PlainR w v ∧ True := by
  obtain ⟨S, ⟨_, hown, hSg⟩, hlt, _⟩ := hs.get i hi
  rcases hown.2 with ⟨hv, hn0⟩ | ⟨g, cap, cur, hv, h0g, hg, _⟩
  · omega
  · exact ⟨⟨g, _, cap, cur, E, hv, hg⟩, trivial⟩
theorem Own.lendD (hs : Own w0 M w L) (i j : Nat) (hij : i ≠ j) {R : Res} (hi : L[i]? = some R) {v : Value} {ls : List (List Value)} {E k : Nat} (hj : L[j]? = some (row v ls E k)) (h0 : 0 < ls.length) :
    ∃ S, R.holds w S ∧ (∀ b, S b → b < w.heap.size) ∧ ¬ S (bkS v) ∧ PlainR w v ∧ ∀ w' R' L', Own w S w' (R' :: L') → Own w0 M w' (L.set i R' ++ L') := by
  obtain ⟨S, h1, h2, _, h4, h5⟩ := hs.lend3 i hi
  obtain ⟨Sj, hj1, hj2⟩ := h4 j (fun e => hij e.symm) _ hj
  have hp := (hs.plain j hj h0 rfl).1
  refine ⟨S, h1, h2, fun hb => hj2 _ hb ?_, hp, h5⟩
  obtain ⟨b, n, c, cur, T, rfl, _⟩ := hp
  exact hj1.2.2 b rfl
theorem L_callD {α : Type} {f : FuncId} {xs : List Operand} {vs : List Value} {ats : Array TypeId} {V : α → Value} {R : Res} {R' : α → Res} {Lo : α → List Res} {F : α → World → Prop} {v : Value} {ls : List (List Value)} {E k : Nat} (hf : En P f) (hef : e (.func f) = .func (.func f) #[] #[]) (hv : xs.map e = vs)
    (hs : Own w0 M w L) (i j : Nat) (hij : i ≠ j) (hi : L[i]? = some R) (hj : L[j]? = some (row v ls E k)) (h0 : 0 < ls.length)
    (hc : ∀ S, R.holds w S → (∀ b, S b → b < w.heap.size) → ¬ S (bkS v) → PlainR w v → Calls P f vs.toArray w fun r w' => ∃ x, r = .returned (V x) ∧ Own w S w' (R' x :: Lo x) ∧ F x w') (h : ∀ x w', Own w0 M w' (L.set i (R' x) ++ Lo x) → F x w' → K (V x) w') :
    opW P (.call { callee := .value (.func f), args := xs.toArray, argTypes := ats }) ty e w K := by
  obtain ⟨S, hR, hlt, hn, hp, hback⟩ := hs.lendD i j hij hi hj h0
  exact L_callN hf hef (by rw [List.map_toArray, hv]) ((hc S hR hlt hn hp).mono fun r w' ⟨x, hr, ho, hF⟩ => ⟨V x, hr, h x w' (hback w' _ _ ho) hF⟩)
theorem L_overA {f : FuncId} {fn : Func} {tS tR el k E lo m cc n c : Nat} {x y : Operand} {v : Value} {a : Option Addr} {ls : List (List Value)} {ats : Array TypeId} (hf : P.funcs[f]? = some fn) (hname : (fn.name == "runtime.NumGoroutine") = false) (hb : fn.body.isNone = true) (hn : Extern.findNext fn = none) (he : Extern.find fn = some (Extern.SlicesOverlaps.overlaps #[tS, tS] #[tR]))
    (ht : P.underlying tS = some (.slice el)) (hk : Sz P el k) (hef : e (.func f) = .func (.func f) #[] #[]) (hs : Own w0 M w L) (j : Nat) (hj : L[j]? = some (row (.slice a n c) ls E k)) (h0 : 0 < ls.length) (hk0 : 0 < k) (hx : e x = v) (hv : PlainR w v) (hM : ¬ M (bkS v)) (hvl : bkS v < w0.heap.size) (hlo : lo < c) (hy : e y = .slice (sla a lo c k) m cc)
    (h : K (.bool false) w) : opW P (.call { callee := .value (.func f), args := [x, y].toArray, argTypes := ats }) ty e w K := by
  obtain ⟨S, ⟨_, hown, hSg⟩, hlt, hSM⟩ := hs.get j hj
  obtain ⟨b, nv, cv, cur2, T2, rfl, hb2⟩ := hv
  rcases hown.2 with ⟨hv, hn0⟩ | ⟨g, cap, cur, hv, h0g, hg, hnc, hcm, hcs, _⟩
  · omega
  · cases hv
    have hgM : g < w0.heap.size → M g := fun h => hSM g (hSg g rfl) h
    have hne : b ≠ g := fun e => by subst e; exact hM (hgM hvl)
    rw [sla_at hlo, Nat.zero_add] at hy
    have hrun := Lib.run_overlaps_apart (P := P) w tS tR el ht k hk ⟨b, 0, none⟩ ⟨g, lo * k, none⟩ nv cv m cc hne T2 E cur2.size cur.size (by simp [World.shape?, hb2]) (by simp [World.shape?, hg])
      (by rw [hcs]; have : 0 < c * k := Nat.mul_pos (by omega) hk0; omega) (by simp [World.frozen?, hb2]) (by simp [World.frozen?, hb2])
    refine opW_val (w' := w) ?_ h
    simp only [execOp, resolve, List.map_toArray, List.map_cons, List.map_nil, hx, hy, hef, Deferred.ofValue, Sem.run_bind, Sem.run_pure, Result.andThen_ok, invoke, Array.empty_append, Array.append_empty]
    rw [run_callFunc_extern hf hname hb hn he]
    have e2 : (#[] ++ #[Value.slice (some ⟨b, 0, none⟩) nv cv, Value.slice (some ⟨g, lo * k, none⟩) m cc] ++ #[] : Array Value) = #[Value.slice (some ⟨b, 0, none⟩) nv cv, Value.slice (some ⟨g, lo * k, none⟩) m cc] := rfl
    simp [hrun]
end
end Go.Vx
namespace Go.Vx
theorem PlainR.lt {w : World} {v : Value} (h : PlainR w v) : bkS v < w.heap.size := by
  obtain ⟨b, n, c, cur, T, rfl, hb⟩ := h
  exact (Array.getElem?_eq_some_iff.1 hb).1
end Go.Vx
namespace Go.Vx
open Go.RowKit
section
variable {P : Program} {ty : TypeId} {e : Operand → Value} {w : World} {K : Value → World → Prop} {w0 : World} {M : Nat → Prop} {L : List Res}
theorem L_slN {t u d : TypeId} {x y : Operand} {a : Option Addr} {n c : Nat} (ht : P.underlying t = some (.slice d)) (hx : e x = .slice a n c) (hy : e y = .slice none 0 0) (h : K (.bool a.isNone) w) : opW P (.binOp .eql t x y u) ty e w K := by
  refine opW_val (w' := w) ?_ h
  simp only [execOp, hx, hy, eqGuard_at_slice, Sem.run_bind, Sem.run_pure, Result.andThen_ok, binOp, run_equal_slice_nil w t d a n c ht]
end
theorem Rd.isN {α : Type} {enc : α → List Value} {l : List α} {w : World} {a : Option Addr} {n c k : Nat} (h : Rd w (.slice a n c) k (l.map enc)) (ha : a.isNone = true) : l = [] := by
  rcases h.shape with ⟨_, h2⟩ | ⟨b, o, c', h2⟩
  · simpa using h2
  · cases h2; cases ha
end Go.Vx
namespace Go.Vx
theorem Zv_uniq {P : Program} {t : Nat} {v z : Value} (h : Zv P t v) (hz : Zv P t z) : v = z := by
  have h1 := h default
  rw [hz default] at h1
  cases h1; rfl
end Go.Vx
namespace Go.Vx
section
variable {α : Type} [Inhabited α]
def swL (l : List α) (i j : Nat) : List α := (l.set i (gd l j)).set j (gd l i)
theorem swL_len {l : List α} {i j : Nat} : (swL l i j).length = l.length := by simp [swL]
theorem swL_seg {A M B : List α} {x y : α} {i j : Nat} (hi : i = A.length) (hj : j = A.length + 1 + M.length) : swL (A ++ x :: (M ++ y :: B)) i j = A ++ y :: (M ++ x :: B) := by
  subst hi
  subst hj
  unfold swL gd
  have h1 : (A ++ x :: (M ++ y :: B))[A.length]? = some x := by simp
  have h2 : (A ++ x :: (M ++ y :: B))[A.length + 1 + M.length]? = some y := by
    rw [List.getElem?_append_right (by omega), show A.length + 1 + M.length - A.length = M.length + 1 by omega, List.getElem?_cons_succ, List.getElem?_append_right (by omega)]; simp
  rw [List.getD_eq_getElem?_getD, List.getD_eq_getElem?_getD, h1, h2]
  simp only [Option.getD_some]
  rw [List.set_append_right _ _ (by omega), Nat.sub_self, List.set_cons_zero, List.set_append_right _ _ (by omega), show A.length + 1 + M.length - A.length = M.length + 1 by omega, List.set_cons_succ, List.set_append_right _ _ (by omega), Nat.sub_self, List.set_cons_zero]
def swR (A U M V B : List α) (k : Nat) : List α := A ++ (V.take k ++ U.drop k) ++ M ++ (U.take k ++ V.drop k) ++ B
omit [Inhabited α] in
theorem swR_zero {A U M V B : List α} : swR A U M V B 0 = A ++ U ++ M ++ V ++ B := by simp [swR]
omit [Inhabited α] in
theorem swR_all {A U M V B : List α} (h : U.length = V.length) : swR A U M V B U.length = A ++ V ++ M ++ U ++ B := by
  unfold swR
  rw [List.take_length, List.drop_length, h, List.take_length, List.drop_length]; simp
theorem swR_next {A U M V B : List α} {k i j : Nat} (h : U.length = V.length) (hk : k < U.length) (hi : i = A.length + k) (hj : j = A.length + U.length + M.length + k) : swL (swR A U M V B k) i j = swR A U M V B (k + 1) := by
  have hu : U.drop k = U[k] :: U.drop (k + 1) := List.drop_eq_getElem_cons hk
  have hv : V.drop k = V[k]'(by omega) :: V.drop (k + 1) := List.drop_eq_getElem_cons (by omega)
  have hut : U.take (k + 1) = U.take k ++ [U[k]] := (List.take_append_getElem hk).symm
  have hvt : V.take (k + 1) = V.take k ++ [V[k]'(by omega)] := (List.take_append_getElem (by omega)).symm
  have e1 : swR A U M V B k = (A ++ V.take k) ++ U[k] :: ((U.drop (k + 1) ++ M ++ U.take k) ++ V[k]'(by omega) :: (V.drop (k + 1) ++ B)) := by
    unfold swR; rw [hu, hv]; simp only [List.append_assoc, List.cons_append]
  have e2 : swR A U M V B (k + 1) = (A ++ V.take k) ++ V[k]'(by omega) :: ((U.drop (k + 1) ++ M ++ U.take k) ++ U[k] :: (V.drop (k + 1) ++ B)) := by
    unfold swR; rw [hut, hvt]; simp only [List.append_assoc, List.cons_append, List.nil_append]
  rw [e1, e2]
  refine swL_seg ?_ ?_
  · rw [List.length_append, List.length_take]; omega
  · simp only [List.length_append, List.length_take, List.length_drop]; omega
end
end Go.Vx
namespace Go.Vx
section
variable {α : Type} [Inhabited α]
structure CmpO (cf : α → α → Int) : Prop where
  irr : ∀ x, ¬ cf x x < 0
  tot : ∀ x y, cf x y < 0 → ¬ cf y x < 0
  tr : ∀ x y z, ¬ cf y x < 0 → ¬ cf z y < 0 → ¬ cf z x < 0
def SrtL (cf : α → α → Int) (l : List α) : Prop := l.Pairwise fun x y => ¬ cf y x < 0
variable {cf : α → α → Int}
omit [Inhabited α] in
theorem srt_split {X Y : List α} (h : SrtL cf (X ++ Y)) : SrtL cf X ∧ SrtL cf Y ∧ ∀ x ∈ X, ∀ y ∈ Y, ¬ cf y x < 0 := List.pairwise_append.1 h
theorem gd_app_l {l m : List α} {i : Nat} (h : i < l.length) : gd (l ++ m) i = gd l i := by simp [gd, List.getElem?_append_left h]
theorem gd_app_r {l m : List α} {i : Nat} (h : l.length ≤ i) : gd (l ++ m) i = gd m (i - l.length) := by simp [gd, List.getElem?_append_right h]
theorem srt_gd {l : List α} (h : SrtL cf l) {i j : Nat} (hij : i < j) (hj : j < l.length) : ¬ cf (gd l j) (gd l i) < 0 := by
  have := List.pairwise_iff_getElem.1 h i j (by omega) hj hij
  simpa [gd, hj, show i < l.length by omega] using this
theorem mem_gd {l : List α} {x : α} (h : x ∈ l) : ∃ i, i < l.length ∧ gd l i = x := by
  obtain ⟨i, hi, rfl⟩ := List.mem_iff_getElem.1 h
  exact ⟨i, hi, by simp [gd, hi]⟩
def PermSeg (l l2 : List α) (a b : Nat) : Prop := ∃ A X Z B, l = A ++ X ++ B ∧ l2 = A ++ Z ++ B ∧ A.length = a ∧ a + X.length = b ∧ Z.Perm X
omit [Inhabited α] in
theorem PermSeg.len {l l2 : List α} {a b : Nat} (h : PermSeg l l2 a b) : l2.length = l.length := by
  obtain ⟨A, X, Z, B, rfl, rfl, _, _, hp⟩ := h
  simp [hp.length_eq]
omit [Inhabited α] in
theorem PermSeg.perm {l l2 : List α} {a b : Nat} (h : PermSeg l l2 a b) : l2.Perm l := by
  obtain ⟨A, X, Z, B, rfl, rfl, _, _, hp⟩ := h
  exact (hp.append_left A).append_right B
omit [Inhabited α] in
theorem cut3 (l : List α) {a b : Nat} (h : a ≤ b) (hb : b ≤ l.length) : l = l.take a ++ (l.take b).drop a ++ l.drop b ∧ (l.take a).length = a ∧ a + ((l.take b).drop a).length = b := by
  refine ⟨?_, by rw [List.length_take]; omega, by rw [List.length_drop, List.length_take]; omega⟩
  have e : l.take a = (l.take b).take a := by rw [List.take_take]; congr 1; omega
  rw [e, List.take_append_drop, List.take_append_drop]
omit [Inhabited α] in
theorem PermSeg.refl (l : List α) {a b : Nat} (h : a ≤ b) (hb : b ≤ l.length) : PermSeg l l a b := by
  obtain ⟨h1, h2, h3⟩ := cut3 l h hb
  exact ⟨_, _, _, _, h1, h1, h2, h3, List.Perm.refl _⟩
omit [Inhabited α] in
theorem app3_inj {A X B A2 X2 B2 : List α} (h : A ++ X ++ B = A2 ++ X2 ++ B2) (h1 : A.length = A2.length) (h2 : X.length = X2.length) : A = A2 ∧ X = X2 ∧ B = B2 := by
  rw [List.append_assoc, List.append_assoc] at h
  obtain ⟨e1, e2⟩ := List.append_inj h h1
  obtain ⟨e3, e4⟩ := List.append_inj e2 h2
  exact ⟨e1, e3, e4⟩
omit [Inhabited α] in
theorem PermSeg.trans {l m n : List α} {a b : Nat} (h : PermSeg l m a b) (g : PermSeg m n a b) : PermSeg l n a b := by
  obtain ⟨A, X, Z, B, rfl, rfl, ha, hb, hp⟩ := h
  obtain ⟨A2, X2, Z2, B2, e, rfl, ha2, hb2, hp2⟩ := g
  have hz := hp.length_eq
  obtain ⟨rfl, rfl, rfl⟩ := app3_inj e (by omega) (by omega)
  exact ⟨_, _, _, _, rfl, rfl, ha, hb, hp2.trans hp⟩
omit [Inhabited α] in
theorem PermSeg.wide {l m : List α} {a b a2 b2 : Nat} (h : PermSeg l m a b) (h1 : a2 ≤ a) (h2 : b ≤ b2) (h3 : b2 ≤ l.length) : PermSeg l m a2 b2 := by
  obtain ⟨A, X, Z, B, rfl, rfl, rfl, rfl, hp⟩ := h
  have hz := hp.length_eq
  simp only [List.length_append] at h3
  refine ⟨A.take a2, A.drop a2 ++ X ++ B.take (b2 - (A.length + X.length)), A.drop a2 ++ Z ++ B.take (b2 - (A.length + X.length)), B.drop (b2 - (A.length + X.length)), ?_, ?_, by rw [List.length_take]; omega, by simp only [List.length_append, List.length_drop, List.length_take]; omega, (hp.append_left _).append_right _⟩
  · have e1 := List.take_append_drop a2 A
    have e2 := List.take_append_drop (b2 - (A.length + X.length)) B
    calc A ++ X ++ B = (A.take a2 ++ A.drop a2) ++ X ++ (B.take (b2 - (A.length + X.length)) ++ B.drop (b2 - (A.length + X.length))) := by rw [e1, e2]
      _ = _ := by simp only [List.append_assoc]
  · have e1 := List.take_append_drop a2 A
    have e2 := List.take_append_drop (b2 - (A.length + X.length)) B
    calc A ++ Z ++ B = (A.take a2 ++ A.drop a2) ++ Z ++ (B.take (b2 - (A.length + X.length)) ++ B.drop (b2 - (A.length + X.length))) := by rw [e1, e2]
      _ = _ := by simp only [List.append_assoc]
theorem PermSeg.out {l m : List α} {a b i : Nat} (h : PermSeg l m a b) (hi : i < a ∨ b ≤ i) : gd m i = gd l i := by
  obtain ⟨A, X, Z, B, rfl, rfl, rfl, rfl, hp⟩ := h
  have hz := hp.length_eq
  rcases hi with hi | hi
  · rw [List.append_assoc, List.append_assoc, gd_app_l hi, gd_app_l hi]
  · rw [gd_app_r (by simp only [List.length_append]; omega), gd_app_r (by simp only [List.length_append]; omega)]
    simp only [List.length_append]; congr 1; omega
def OrdSeg (cf : α → α → Int) (l : List α) (a b : Nat) : Prop := ∀ i j, a ≤ i → i < j → j < b → ¬ cf (gd l j) (gd l i) < 0
theorem OrdSeg.out {l m : List α} {a b c d : Nat} (h : OrdSeg cf l a b) (g : PermSeg l m c d) (hd : b ≤ c ∨ d ≤ a) : OrdSeg cf m a b := by
  intro i j hi hij hj
  rw [g.out (by omega), g.out (by omega)]
  exact h i j hi hij hj
theorem OrdSeg.sub {l : List α} {a b c d : Nat} (h : OrdSeg cf l a b) (h1 : a ≤ c) (h2 : d ≤ b) : OrdSeg cf l c d := fun i j hi hij hj => h i j (by omega) hij (by omega)
theorem OrdSeg.small {l : List α} {a b : Nat} (h : b ≤ a + 1) : OrdSeg cf l a b := fun i j hi hij hj => by omega
theorem PermSeg.from {l m : List α} {a b i : Nat} (h : PermSeg l m a b) (h1 : a ≤ i) (h2 : i < b) : ∃ k, a ≤ k ∧ k < b ∧ gd m i = gd l k := by
  obtain ⟨A, X, Z, B, rfl, rfl, rfl, rfl, hp⟩ := h
  have hz := hp.length_eq
  have e1 : gd (A ++ Z ++ B) i = gd Z (i - A.length) := by rw [List.append_assoc, gd_app_r (by omega), gd_app_l (by omega)]
  have hm : gd Z (i - A.length) ∈ Z := gd_mem (by omega)
  obtain ⟨k, hk, e⟩ := mem_gd (hp.mem_iff.1 hm)
  refine ⟨A.length + k, by omega, by omega, ?_⟩
  rw [e1, ← e, List.append_assoc, gd_app_r (by omega), gd_app_l (by omega)]
  congr 1; omega
theorem ord_join {l : List α} {a m b : Nat} (h1 : OrdSeg cf l a m) (h2 : OrdSeg cf l m b) (h : ∀ i j, a ≤ i → i < m → m ≤ j → j < b → ¬ cf (gd l j) (gd l i) < 0) : OrdSeg cf l a b := by
  intro i j hi hij hj
  by_cases e : j < m
  · exact h1 i j hi hij e
  · by_cases e2 : i < m
    · exact h i j hi e2 (by omega) hj
    · exact h2 i j (by omega) hij hj
end
end Go.Vx
namespace Go.Vx
section
variable {α : Type} [Inhabited α] {cf : α → α → Int}
def swN (l : List α) (p q n : Nat) : List α := (List.range n).foldl (fun l k => swL l (p + k) (q + k)) l
theorem swN_zero (l : List α) (p q : Nat) : swN l p q 0 = l := rfl
theorem swN_succ (l : List α) (p q n : Nat) : swN l p q (n + 1) = swL (swN l p q n) (p + n) (q + n) := by unfold swN; rw [List.range_succ, List.foldl_append]; rfl
theorem swN_blocks {A U M V B : List α} (h : U.length = V.length) : swN (A ++ U ++ M ++ V ++ B) A.length (A.length + U.length + M.length) U.length = A ++ V ++ M ++ U ++ B := by
  have : ∀ k, k ≤ U.length → swN (A ++ U ++ M ++ V ++ B) A.length (A.length + U.length + M.length) k = swR A U M V B k := by
    intro k
    induction k with
    | zero => intro _; rw [swN_zero, swR_zero]
    | succ k ih =>
      intro hk
      rw [swN_succ, ih (by omega)]
      exact swR_next h (by omega) rfl (by omega)
  rw [this _ (Nat.le_refl _), swR_all h]
def RotSeg (l l2 : List α) (a m b : Nat) : Prop := ∃ A X Y B, l = A ++ X ++ Y ++ B ∧ l2 = A ++ Y ++ X ++ B ∧ A.length = a ∧ a + X.length = m ∧ m + Y.length = b
omit [Inhabited α] in
theorem RotSeg.perm {l l2 : List α} {a m b : Nat} (h : RotSeg l l2 a m b) : PermSeg l l2 a b := by
  obtain ⟨A, X, Y, B, rfl, rfl, ha, hm, hb⟩ := h
  exact ⟨A, X ++ Y, Y ++ X, B, by simp only [List.append_assoc], by simp only [List.append_assoc], ha, by simp only [List.length_append]; omega, List.perm_append_comm⟩
theorem RotSeg.at_l {l l2 : List α} {a m b i : Nat} (h : RotSeg l l2 a m b) (h1 : a ≤ i) (h2 : i < a + (b - m)) : gd l2 i = gd l (m + (i - a)) := by
  obtain ⟨A, X, Y, B, rfl, rfl, rfl, rfl, rfl⟩ := h
  have e1 : gd (A ++ Y ++ X ++ B) i = gd Y (i - A.length) := by rw [List.append_assoc, List.append_assoc, gd_app_r (by omega), gd_app_l (by omega)]
  have e2 : gd (A ++ X ++ Y ++ B) (A.length + X.length + (i - A.length)) = gd Y (i - A.length) := by
    rw [List.append_assoc, gd_app_r (by simp only [List.length_append]; omega), gd_app_l (by simp only [List.length_append]; omega)]
    simp only [List.length_append]; congr 1; omega
  rw [e1, e2]
theorem RotSeg.at_r {l l2 : List α} {a m b i : Nat} (h : RotSeg l l2 a m b) (h1 : a + (b - m) ≤ i) (h2 : i < b) : gd l2 i = gd l (i - (b - m)) := by
  obtain ⟨A, X, Y, B, rfl, rfl, rfl, rfl, rfl⟩ := h
  have e1 : gd (A ++ Y ++ X ++ B) i = gd X (i - A.length - Y.length) := by
    rw [List.append_assoc, gd_app_r (by simp only [List.length_append]; omega), gd_app_l (by simp only [List.length_append]; omega)]
    simp only [List.length_append]; congr 1; omega
  have e2 : gd (A ++ X ++ Y ++ B) (i - (A.length + X.length + Y.length - (A.length + X.length))) = gd X (i - A.length - Y.length) := by
    rw [List.append_assoc, List.append_assoc, gd_app_r (by omega), gd_app_l (by omega)]
    congr 1; omega
  rw [e1, e2]
omit [Inhabited α] in
theorem RotSeg.refl {l : List α} {a m b : Nat} (h1 : a ≤ m) (h2 : m ≤ b) (h3 : b ≤ l.length) (h : a = m ∨ m = b) : RotSeg l l a m b := by
  obtain ⟨e1, e2, e3⟩ := cut3 l h1 (Nat.le_trans h2 h3)
  obtain ⟨f1, f2, f3⟩ := cut3 l h2 h3
  obtain ⟨g1, g2, g3⟩ := cut3 l (Nat.le_trans h1 h2) h3
  rcases h with h | h
  · subst h
    exact ⟨_, [], _, _, by simpa using g1, by simpa using g1, g2, by simp, g3⟩
  · subst h
    exact ⟨_, _, [], _, by simpa using e1, by simpa using e1, e2, e3, by simp⟩
def RotTo (l t : List α) (m i j : Nat) : Prop := ∃ A U V B, l = A ++ U ++ V ++ B ∧ t = A ++ V ++ U ++ B ∧ A.length + U.length = m ∧ U.length = i ∧ V.length = j
omit [Inhabited α] in
theorem rotTo_start {l : List α} {a m b : Nat} (h1 : a ≤ m) (h2 : m ≤ b) (h3 : b ≤ l.length) : ∃ t, RotSeg l t a m b ∧ RotTo l t m (m - a) (b - m) := by
  obtain ⟨e1, e2, e3⟩ := cut3 l h1 (Nat.le_trans h2 h3)
  obtain ⟨f1, f2, f3⟩ := cut3 (l.drop m) (Nat.zero_le (b - m)) (by rw [List.length_drop]; omega)
  simp only [List.take_zero, List.drop_zero, List.nil_append, List.length_nil, Nat.zero_add] at f1 f2 f3
  refine ⟨l.take a ++ (l.drop m).take (b - m) ++ (l.take m).drop a ++ (l.drop m).drop (b - m), ⟨l.take a, (l.take m).drop a, (l.drop m).take (b - m), (l.drop m).drop (b - m), ?_, rfl, e2, e3, by omega⟩, ⟨l.take a, (l.take m).drop a, (l.drop m).take (b - m), (l.drop m).drop (b - m), ?_, rfl, by omega, by omega, by omega⟩⟩
  · rw [List.append_assoc _ _ (List.drop _ (List.drop m l)), ← f1]; exact e1
  · rw [List.append_assoc _ _ (List.drop _ (List.drop m l)), ← f1]; exact e1
theorem rotTo_gt {l t : List α} {m i j : Nat} (h : RotTo l t m i j) (hij : j < i) : RotTo (swN l (m - i) m j) t m (i - j) j := by
  obtain ⟨A, U, V, B, rfl, rfl, rfl, rfl, rfl⟩ := h
  have hu := List.take_append_drop V.length U
  have h1 : (U.take V.length).length = V.length := by rw [List.length_take]; omega
  have h2 : (U.drop V.length).length = U.length - V.length := List.length_drop
  refine ⟨A ++ V, U.drop V.length, U.take V.length, B, ?_, ?_, by rw [List.length_append]; omega, h2, h1⟩
  · have := swN_blocks (A := A) (U := U.take V.length) (M := U.drop V.length) (V := V) (B := B) h1
    rw [h1, h2, show A.length + V.length + (U.length - V.length) = A.length + U.length by omega] at this
    rw [show A.length + U.length - U.length = A.length by omega]
    rw [← this, List.append_assoc A (U.take V.length), hu]
  · rw [List.append_assoc (A ++ V) (U.take V.length), hu]
theorem rotTo_lt {l t : List α} {m i j : Nat} (h : RotTo l t m i j) (hij : i < j) : RotTo (swN l (m - i) (m + j - i) i) t m i (j - i) := by
  obtain ⟨A, U, V, B, rfl, rfl, rfl, rfl, rfl⟩ := h
  have hv := List.take_append_drop (V.length - U.length) V
  have h1 : (V.take (V.length - U.length)).length = V.length - U.length := by rw [List.length_take]; omega
  have h2 : (V.drop (V.length - U.length)).length = U.length := by rw [List.length_drop]; omega
  refine ⟨A, V.drop (V.length - U.length), V.take (V.length - U.length), U ++ B, ?_, ?_, by omega, h2, h1⟩
  · have := swN_blocks (A := A) (U := U) (M := V.take (V.length - U.length)) (V := V.drop (V.length - U.length)) (B := B) (by omega)
    rw [h1, show A.length + U.length + (V.length - U.length) = A.length + U.length + V.length - U.length by omega] at this
    rw [show A.length + U.length - U.length = A.length by omega, ← List.append_assoc, ← this, List.append_assoc (A ++ U) (V.take _), hv]
  · rw [← List.append_assoc, List.append_assoc A (V.take _), hv]
theorem rotTo_eq {l t : List α} {m i j : Nat} (h : RotTo l t m i j) (hij : i = j) : swN l (m - i) m i = t := by
  obtain ⟨A, U, V, B, rfl, rfl, rfl, rfl, rfl⟩ := h
  have := swN_blocks (A := A) (U := U) (M := []) (V := V) (B := B) hij
  simp only [List.append_nil, List.length_nil, Nat.add_zero] at this
  rw [show A.length + U.length - U.length = A.length by omega, this]
omit [Inhabited α] in
theorem rotTo_len {l t : List α} {m i j : Nat} (h : RotTo l t m i j) : m + j ≤ l.length ∧ i ≤ m := by
  obtain ⟨A, U, V, B, rfl, rfl, rfl, rfl, rfl⟩ := h
  simp only [List.length_append]; omega
theorem rot_up {l l1 : List α} {a k : Nat} (h : RotSeg l l1 a (a + 1) (k + 1)) (hk : k + 1 < l.length) : RotSeg l (swL l1 k (k + 1)) a (a + 1) (k + 2) := by
  obtain ⟨A, X, Y, B, rfl, rfl, rfl, hX, hY⟩ := h
  have hX1 : X.length = 1 := by omega
  obtain ⟨x, rfl⟩ := List.length_eq_one_iff.1 hX1
  simp only [List.length_append, List.length_cons, List.length_nil] at hk
  cases B with
  | nil => simp at hk; omega
  | cons y B =>
    refine ⟨A, [x], Y ++ [y], B, by simp only [List.append_assoc, List.cons_append, List.nil_append], ?_, rfl, hX, by simp only [List.length_append, List.length_cons, List.length_nil]; omega⟩
    have := swL_seg (A := A ++ Y) (M := []) (B := B) (x := x) (y := y) (i := k) (j := k + 1) (by rw [List.length_append]; omega) (by rw [List.length_append, List.length_nil]; omega)
    simp only [List.nil_append] at this
    rw [show A ++ Y ++ [x] ++ y :: B = A ++ Y ++ x :: y :: B by simp only [List.append_assoc, List.cons_append, List.nil_append], this]
    simp only [List.append_assoc, List.cons_append, List.nil_append]
theorem swL_comm {l : List α} {i j : Nat} : swL l i j = swL l j i := by
  unfold swL
  by_cases e : i = j
  · subst e; rfl
  · rw [List.set_comm _ _ e]
theorem rot_down {l l1 : List α} {k m : Nat} (h : RotSeg l l1 k m (m + 1)) (hk : 0 < k) : RotSeg l (swL l1 k (k - 1)) (k - 1) m (m + 1) := by
  have hlen := h.perm.len
  obtain ⟨A, X, Y, B, rfl, rfl, rfl, hX, hY⟩ := h
  have hY1 : Y.length = 1 := by omega
  obtain ⟨y, rfl⟩ := List.length_eq_one_iff.1 hY1
  obtain ⟨D, z, rfl⟩ : ∃ D z, A = D ++ [z] := ⟨A.dropLast, _, (List.dropLast_concat_getLast (l := A) (by intro e; subst e; simp at hk)).symm⟩
  rw [swL_comm]
  simp only [List.length_append, List.length_cons, List.length_nil] at hX ⊢
  refine ⟨D, z :: X, [y], B, by simp only [List.append_assoc, List.cons_append, List.nil_append], ?_, by omega, by simp only [List.length_cons]; omega, by simp⟩
  have := swL_seg (A := D) (M := []) (B := X ++ B) (x := z) (y := y) (i := D.length) (j := D.length + 1) rfl (by rw [List.length_nil])
  simp only [List.nil_append] at this
  rw [show D ++ [z] ++ [y] ++ X ++ B = D ++ z :: y :: (X ++ B) by simp only [List.append_assoc, List.cons_append, List.nil_append]]
  rw [show D.length + (0 + 1) - 1 = D.length by omega, show D.length + (0 + 1) = D.length + 1 by omega, this]
  simp only [List.append_assoc, List.cons_append, List.nil_append]
theorem sym_halves {l l2 : List α} {a s m e b : Nat} (hc : CmpO cf) (h1 : OrdSeg cf l a m) (h2 : OrdSeg cf l m b) (ha : a ≤ s) (hs : s ≤ m) (he : m ≤ e) (hb : e ≤ b) (hr : RotSeg l l2 s m e)
    (g1 : s = a ∨ e = b ∨ ¬ cf (gd l e) (gd l (s - 1)) < 0) (g2 : s = m ∨ e = m ∨ cf (gd l (e - 1)) (gd l s) < 0) :
    OrdSeg cf l2 a s ∧ OrdSeg cf l2 s (s + (e - m)) ∧ OrdSeg cf l2 (s + (e - m)) e ∧ OrdSeg cf l2 e b ∧ ∀ i j, a ≤ i → i < s + (e - m) → s + (e - m) ≤ j → j < b → ¬ cf (gd l2 j) (gd l2 i) < 0 := by
  have ho := hr.perm
  refine ⟨(h1.sub (Nat.le_refl _) hs).out ho (.inl (Nat.le_refl _)), ?_, ?_, (h2.sub he (Nat.le_refl _)).out ho (.inr (Nat.le_refl _)), ?_⟩
  · intro i j hi hij hj
    rw [hr.at_l hi (by omega), hr.at_l (by omega) hj]
    exact h2 _ _ (by omega) (by omega) (by omega)
  · intro i j hi hij hj
    rw [hr.at_r hi (by omega), hr.at_r (by omega) hj]
    exact h1 _ _ (by omega) (by omega) (by omega)
  · have le1 : ∀ i j, a ≤ i → i ≤ j → j < m → ¬ cf (gd l j) (gd l i) < 0 := fun i j hi hij hj => by
      rcases Nat.lt_or_eq_of_le hij with q | q
      · exact h1 i j hi q hj
      · subst q; exact hc.irr _
    have le2 : ∀ i j, m ≤ i → i ≤ j → j < b → ¬ cf (gd l j) (gd l i) < 0 := fun i j hi hij hj => by
      rcases Nat.lt_or_eq_of_le hij with q | q
      · exact h2 i j hi q hj
      · subst q; exact hc.irr _
    intro i j hi hi2 hj hj2
    by_cases c1 : i < s
    · rw [ho.out (.inl c1)]
      by_cases c2 : j < e
      · rw [hr.at_r hj c2]; exact le1 _ _ hi (by omega) (by omega)
      · rw [ho.out (.inr (by omega))]
        rcases g1 with g | g | g
        · omega
        · omega
        · exact hc.tr _ _ _ (le1 i (s - 1) hi (by omega) (by omega)) (hc.tr _ _ _ g (le2 e j (by omega) (by omega) hj2))
    · rw [hr.at_l (by omega) hi2]
      by_cases c2 : j < e
      · rw [hr.at_r hj c2]
        rcases g2 with g | g | g
        · omega
        · omega
        · exact hc.tr _ _ _ (le2 _ (e - 1) (by omega) (by omega) (by omega)) (hc.tr _ _ _ (hc.tot _ _ g) (le1 s _ (by omega) (by omega) (by omega)))
      · rw [ho.out (.inr (by omega))]; exact le2 _ _ (by omega) (by omega) hj2
def Merged (cf : α → α → Int) (l l2 : List α) (a b : Nat) : Prop := PermSeg l l2 a b ∧ OrdSeg cf l2 a b
theorem sym_done {l l2 l3 l4 : List α} {a mid b : Nat} (h2 : PermSeg l l2 a b) (h3 : Merged cf l2 l3 a mid) (h4 : Merged cf l3 l4 mid b) (ham : a ≤ mid) (hmb : mid ≤ b) (hb : b ≤ l.length)
    (hx : ∀ i j, a ≤ i → i < mid → mid ≤ j → j < b → ¬ cf (gd l2 j) (gd l2 i) < 0) : Merged cf l l4 a b := by
  have e2 := h2.len
  have e3 := h3.1.len
  refine ⟨(h2.trans (h3.1.wide (Nat.le_refl _) hmb (by omega))).trans (h4.1.wide ham (Nat.le_refl _) (by omega)), ord_join (h3.2.out h4.1 (.inl (Nat.le_refl _))) h4.2 ?_⟩
  intro i j hi hi2 hj hj2
  obtain ⟨k, k1, k2, ek⟩ := h4.1.from hj hj2
  rw [h4.1.out (.inl hi2), ek, h3.1.out (i := k) (.inr k1)]
  obtain ⟨q, q1, q2, eq⟩ := h3.1.from hi hi2
  rw [eq]
  exact hx q k q1 q2 k1 k2
theorem sym_up {l l2 : List α} {a b i : Nat} (hc : CmpO cf) (h2 : OrdSeg cf l (a + 1) b) (hi : a + 1 ≤ i) (hib : i ≤ b) (hbl : b ≤ l.length) (hr : RotSeg l l2 a (a + 1) i)
    (g1 : i = b ∨ ¬ cf (gd l i) (gd l a) < 0) (g2 : i = a + 1 ∨ cf (gd l (i - 1)) (gd l a) < 0) : Merged cf l l2 a b := by
  obtain ⟨_, k2, k3, k4, k5⟩ := sym_halves hc (OrdSeg.small (Nat.le_refl _)) h2 (Nat.le_refl a) (Nat.le_succ a) hi hib hr (.inl rfl) (by rcases g2 with g | g; exact .inr (.inl g); exact .inr (.inr g))
  refine ⟨hr.perm.wide (Nat.le_refl _) hib hbl, ord_join k2 (ord_join k3 k4 ?_) k5⟩
  intro p q hp hp2 hq hq2
  have ep : p = a + (i - (a + 1)) := by omega
  rw [hr.at_r hp hp2, hr.perm.out (.inr hq), show p - (i - (a + 1)) = a by omega]
  rcases g1 with g | g
  · omega
  · rcases Nat.lt_or_eq_of_le hq with e | e
    · exact hc.tr _ _ _ g (h2 i q (by omega) e hq2)
    · subst e; exact g
theorem sym_down {l l2 : List α} {a m i : Nat} (hc : CmpO cf) (h1 : OrdSeg cf l a m) (hi : a ≤ i) (him : i ≤ m) (hbl : m + 1 ≤ l.length) (hr : RotSeg l l2 i m (m + 1))
    (g1 : i = a ∨ ¬ cf (gd l m) (gd l (i - 1)) < 0) (g2 : i = m ∨ cf (gd l m) (gd l i) < 0) : Merged cf l l2 a (m + 1) := by
  obtain ⟨k1, k2, k3, _, k5⟩ := sym_halves hc h1 (OrdSeg.small (Nat.le_refl _)) hi him (Nat.le_succ m) (Nat.le_refl _) hr (.inr (.inl rfl)) (by rcases g2 with g | g; exact .inl g; exact .inr (.inr (by simpa using g)))
  refine ⟨hr.perm.wide hi (Nat.le_refl _) hbl, ord_join (ord_join k1 k2 ?_) k3 k5⟩
  intro p q hp hp2 hq hq2
  rw [hr.at_l hq hq2, hr.perm.out (.inl hp2), show m + (q - i) = m by omega]
  rcases g1 with g | g
  · omega
  · rcases Nat.lt_or_eq_of_le (show p ≤ i - 1 by omega) with e | e
    · exact hc.tr _ _ _ (h1 p (i - 1) hp e (by omega)) g
    · subst e; exact g
end
end Go.Vx
namespace Go.Vx
section
variable {α : Type} [Inhabited α] {f : α → Bool} {l : List α}
def posB (f : α → Bool) (l : List α) : Nat := (l.takeWhile f).length
def MonoB (f : α → Bool) (l : List α) : Prop := ∀ i j, i < j → j < l.length → f (gd l j) = true → f (gd l i) = true
omit [Inhabited α] in
theorem posB_len : posB f l ≤ l.length := by
  unfold posB
  induction l with
  | nil => simp
  | cons a l ih => rw [List.takeWhile_cons]; split <;> simp <;> omega
theorem posB_yes {i : Nat} (h : i < posB f l) : f (gd l i) = true := by
  unfold posB at h
  induction l generalizing i with
  | nil => simp at h
  | cons a l ih =>
    rw [List.takeWhile_cons] at h
    split at h
    · rename_i ha
      cases i with
      | zero => simpa [gd] using ha
      | succ i => have := ih (i := i) (by simpa using h); simpa [gd] using this
    · simp at h
theorem posB_at (h : posB f l < l.length) : f (gd l (posB f l)) = false := by
  unfold posB at h ⊢
  induction l with
  | nil => simp at h
  | cons a l ih =>
    rw [List.takeWhile_cons] at h ⊢
    split at h
    · rename_i ha
      rw [if_pos ha]
      have := ih (by simpa using h)
      simpa [gd] using this
    · rename_i ha
      rw [if_neg ha]
      simpa [gd] using ha
theorem posB_lt (hm : MonoB f l) {h : Nat} (hh : h < l.length) (hf : f (gd l h) = true) : h < posB f l := by
  rcases Nat.lt_or_ge h (posB f l) with g | g
  · exact g
  · have h1 := posB_at (f := f) (l := l) (by omega)
    rcases Nat.lt_or_eq_of_le g with e | e
    · have := hm _ _ e hh hf; rw [h1] at this; cases this
    · rw [e] at h1; rw [h1] at hf; cases hf
theorem posB_ge {h : Nat} (hf : f (gd l h) = false) : posB f l ≤ h := by
  rcases Nat.lt_or_ge h (posB f l) with g | g
  · rw [posB_yes g] at hf; cases hf
  · exact g
end
section
variable {α : Type} [Inhabited α] {p : α → Bool} {l : List α}
theorem take_snoc {k : Nat} (hk : k < l.length) : l.take (k + 1) = l.take k ++ [gd l k] := by
  rw [List.take_add_one]
  simp [gd, hk]
def fstB (p : α → Bool) (l : List α) : Int := if l.any p then ((posB (fun x => !p x) l : Nat) : Int) else -1
theorem fst_yes {k : Nat} (hk : k < l.length) (hno : ∀ j, j < k → p (gd l j) = false) (h : p (gd l k) = true) : fstB p l = (k : Int) := by
  unfold fstB
  have h1 : l.any p = true := List.any_eq_true.2 ⟨gd l k, gd_mem hk, h⟩
  rw [if_pos h1]
  have h2 : posB (fun x => !p x) l ≤ k := posB_ge (by rw [h]; rfl)
  rcases Nat.lt_or_eq_of_le h2 with g | g
  · have h3 := posB_at (f := fun x => !p x) (l := l) (by omega)
    rw [hno _ g] at h3; cases h3
  · rw [g]
theorem fst_no (hno : ∀ j, j < l.length → p (gd l j) = false) : fstB p l = -1 := by
  unfold fstB
  have h1 : l.any p = false := by
    rw [List.any_eq_false]
    intro x hx
    obtain ⟨i, hi, rfl⟩ := mem_gd hx
    rw [hno i hi]; simp
  rw [h1]; rfl
theorem fst_spec : (fstB p l = -1 ∧ l.filter (fun x => !p x) = l) ∨ ∃ k : Nat, fstB p l = (k : Int) ∧ k < l.length ∧ p (gd l k) = true ∧ (l.take k).filter (fun x => !p x) = l.take k := by
  unfold fstB
  by_cases h : l.any p = true
  · right
    obtain ⟨x, hx, hp⟩ := List.any_eq_true.1 h
    obtain ⟨i, hi, rfl⟩ := mem_gd hx
    have hle : posB (fun x => !p x) l ≤ i := posB_ge (by rw [hp]; rfl)
    have hlt : posB (fun x => !p x) l < l.length := by omega
    have hat := posB_at hlt
    refine ⟨posB (fun x => !p x) l, by rw [if_pos h], hlt, by simpa using hat, ?_⟩
    rw [List.filter_eq_self]
    intro x hx
    obtain ⟨j, hj, rfl⟩ := mem_gd hx
    have hjl : j < posB (fun x => !p x) l := by rw [List.length_take] at hj; omega
    have := posB_yes hjl
    have e : gd (l.take (posB (fun x => !p x) l)) j = gd l j := by simp [gd, hjl]
    rw [e]; exact this
  · left
    rw [Bool.not_eq_true] at h
    refine ⟨by rw [h]; rfl, ?_⟩
    rw [List.filter_eq_self]
    intro x hx
    rw [List.any_eq_false] at h
    simpa using h x hx
def Moved (p : α → Bool) (l m : List α) (i j : Nat) : Prop := m.length = l.length ∧ m.take i = (l.take j).filter (fun x => !p x) ∧ ∀ k, j ≤ k → gd m k = gd l k
theorem moved_start {k : Nat} (hk : k < l.length) (hp : p (gd l k) = true) (h : (l.take k).filter (fun x => !p x) = l.take k) : Moved p l l k (k + 1) := by
  refine ⟨rfl, ?_, fun _ _ => rfl⟩
  rw [take_snoc hk, List.filter_append, h]
  simp [hp]
theorem moved_skip {m : List α} {i j : Nat} (h : Moved p l m i j) (hj : j < l.length) (hp : p (gd m j) = true) : Moved p l m i (j + 1) := by
  rw [h.2.2 j (Nat.le_refl _)] at hp
  refine ⟨h.1, ?_, fun k hk => h.2.2 k (by omega)⟩
  rw [h.2.1, take_snoc hj, List.filter_append]
  simp [hp]
theorem moved_keep {m : List α} {i j : Nat} (h : Moved p l m i j) (hj : j < l.length) (hij : i < j) (hp : p (gd m j) = false) : Moved p l (m.set i (gd m j)) (i + 1) (j + 1) := by
  have hp' := hp
  rw [h.2.2 j (Nat.le_refl _)] at hp'
  refine ⟨by rw [List.length_set, h.1], ?_, fun k hk => ?_⟩
  · rw [take_snoc hj, List.filter_append, ← h.2.1]
    have hil : i < (m.set i (gd m j)).length := by rw [List.length_set, h.1]; omega
    rw [take_snoc hil]
    congr 1
    · rw [List.take_set_of_le (Nat.le_refl _)]
    · have : gd (m.set i (gd m j)) i = gd m j := by
        have : i < m.length := by rw [h.1]; omega
        simp [gd, this]
      rw [this, h.2.2 j (Nat.le_refl _)]
      simp [hp']
  · rw [← h.2.2 k (by omega)]
    simp [gd, show ¬ i = k by omega]
theorem moved_end {m : List α} {i j : Nat} (h : Moved p l m i j) (hj : l.length ≤ j) : m.take i = l.filter (fun x => !p x) := by
  rw [h.2.1, List.take_of_length_le hj]
end
end Go.Vx
namespace Go.Vx
open Go.RowKit
section
variable {P : Program} {ty : TypeId} {e : Operand → Value} {w : World} {K : Value → World → Prop}
theorem L_shrN {t u : TypeId} {x y : Operand} {k ky : IntKind} {a : Nat} (hx : e x = .int k ((a : Nat) : Int)) (hy : e y = .int ky 1) (h : K (.int k ((a / 2 : Nat) : Int)) w) : opW P (.binOp .shr t x y u) ty e w K := by
  refine L_shr hx hy (by decide) (by cases k <;> decide) ?_
  have : ((a : Nat) : Int) / 2 ^ (1 : Int).toNat = ((a / 2 : Nat) : Int) := by
    show ((a : Nat) : Int) / 2 ^ 1 = _
    omega
  rw [this]; exact h
end
section
variable {α : Type} [Inhabited α] {cf : α → α → Int}
theorem perm_sw_lt {l : List α} {i j : Nat} (hij : i < j) (hj : j < l.length) : PermSeg l (swL l i j) i (j + 1) := by
  have h1 : l = l.take i ++ gd l i :: ((l.drop (i + 1)).take (j - i - 1) ++ gd l j :: l.drop (j + 1)) := by
    have e1 : l.drop i = gd l i :: l.drop (i + 1) := by rw [List.drop_eq_getElem_cons (by omega)]; simp [gd, show i < l.length by omega]
    have e2 : l.drop j = gd l j :: l.drop (j + 1) := by rw [List.drop_eq_getElem_cons hj]; simp [gd, hj]
    have e3 : l.drop (i + 1) = (l.drop (i + 1)).take (j - i - 1) ++ l.drop j := by
      conv => lhs; rw [← List.take_append_drop (j - i - 1) (l.drop (i + 1))]
      rw [List.drop_drop]; congr 2; omega
    conv => lhs; rw [← List.take_append_drop i l, e1, e3, e2]
  have hlen : (l.take i).length = i := by rw [List.length_take]; omega
  have hmid : ((l.drop (i + 1)).take (j - i - 1)).length = j - i - 1 := by rw [List.length_take, List.length_drop]; omega
  have h2 : swL l i j = l.take i ++ gd l j :: ((l.drop (i + 1)).take (j - i - 1) ++ gd l i :: l.drop (j + 1)) := by
    have := swL_seg (A := l.take i) (M := (l.drop (i + 1)).take (j - i - 1)) (B := l.drop (j + 1)) (x := gd l i) (y := gd l j) (i := i) (j := j) hlen.symm (by rw [hlen, hmid]; omega)
    rw [← h1] at this
    exact this
  refine ⟨l.take i, gd l i :: ((l.drop (i + 1)).take (j - i - 1) ++ [gd l j]), gd l j :: ((l.drop (i + 1)).take (j - i - 1) ++ [gd l i]), l.drop (j + 1), ?_, ?_, hlen, ?_, ?_⟩
  · conv => lhs; rw [h1]
    simp only [List.append_assoc, List.cons_append, List.nil_append]
  · rw [h2]; simp only [List.append_assoc, List.cons_append, List.nil_append]
  · simp only [List.length_cons, List.length_append, hmid, List.length_nil]; omega
  · have h3 : (gd l j :: ((l.drop (i + 1)).take (j - i - 1) ++ [gd l i])).Perm (gd l j :: gd l i :: (l.drop (i + 1)).take (j - i - 1)) := List.Perm.cons _ List.perm_append_comm
    have h4 : (gd l i :: ((l.drop (i + 1)).take (j - i - 1) ++ [gd l j])).Perm (gd l i :: gd l j :: (l.drop (i + 1)).take (j - i - 1)) := List.Perm.cons _ List.perm_append_comm
    exact h3.trans ((List.Perm.swap _ _ _).trans h4.symm)
theorem swL_same {l : List α} {i : Nat} : swL l i i = l := by
  unfold swL gd
  apply List.ext_getElem?
  intro k
  rw [List.getElem?_set, List.getElem?_set]
  by_cases h : i = k
  · subst h
    by_cases hl : i < l.length
    · simp [hl]
    · simp [hl]
  · simp [h]
theorem perm_sw {l : List α} {i j a b : Nat} (h1 : a ≤ i) (h2 : i < b) (h3 : a ≤ j) (h4 : j < b) (hb : b ≤ l.length) : PermSeg l (swL l i j) a b := by
  rcases Nat.lt_trichotomy i j with h | h | h
  · exact (perm_sw_lt h (by omega)).wide h1 (by omega) hb
  · subst h; rw [swL_same]; exact PermSeg.refl l (by omega) hb
  · rw [swL_comm]; exact (perm_sw_lt h (by omega)).wide h3 (by omega) hb
theorem gd_sw {l : List α} {i j k : Nat} (hi : i < l.length) (hj : j < l.length) : gd (swL l i j) k = if k = j then gd l i else if k = i then gd l j else gd l k := by
  unfold swL
  have h1 : ∀ (l : List α) (i k : Nat) (x : α), i < l.length → gd (l.set i x) k = if k = i then x else gd l k := by
    intro l i k x hi
    unfold gd
    rw [List.getD_eq_getElem?_getD, List.getElem?_set]
    by_cases h : i = k
    · subst h; simp [hi]
    · rw [if_neg h, if_neg (fun e => h e.symm), List.getD_eq_getElem?_getD]
  rw [h1 _ _ _ _ (by rw [List.length_set]; exact hj), h1 _ _ _ _ hi]
def InsI (cf : α → α → Int) (m : List α) (a i j : Nat) : Prop := ∀ p q, a ≤ p → p < q → q ≤ i → q ≠ j → ¬ cf (gd m q) (gd m p) < 0
theorem ins_start {m : List α} {a i : Nat} (h : OrdSeg cf m a i) : InsI cf m a i i := fun p q hp hpq hq hne => h p q hp hpq (by omega)
theorem ins_next {m : List α} {a i j : Nat} (hc : CmpO cf) (h : InsI cf m a i j) (hj : a < j) (hji : j ≤ i) (hi : i < m.length) (ht : cf (gd m j) (gd m (j - 1)) < 0) : InsI cf (swL m j (j - 1)) a i (j - 1) := by
  intro p q hp hpq hq hne
  rw [gd_sw (by omega) (by omega), gd_sw (by omega) (by omega), if_neg hne]
  by_cases e1 : q = j
  · subst e1
    rw [if_pos rfl]
    by_cases e2 : p = q - 1
    · subst e2; rw [if_pos rfl]; exact hc.tot _ _ ht
    · rw [if_neg e2, if_neg (by omega)]; exact h p (q - 1) hp (by omega) (by omega) (by omega)
  · rw [if_neg e1]
    by_cases e2 : p = j - 1
    · rw [if_pos e2]; exact h j q (by omega) (by omega) hq (by omega)
    · rw [if_neg e2]
      by_cases e3 : p = j
      · rw [if_pos e3]; exact h (j - 1) q (by omega) (by omega) hq e1
      · rw [if_neg e3]; exact h p q hp hpq hq e1
theorem ins_end {m : List α} {a i j : Nat} (hc : CmpO cf) (h : InsI cf m a i j) (hja : a ≤ j) (hj : j = a ∨ ¬ cf (gd m j) (gd m (j - 1)) < 0) : OrdSeg cf m a (i + 1) := by
  intro p q hp hpq hq
  by_cases e : q = j
  · subst e
    rcases hj with hj | hj
    · omega
    · by_cases e2 : p = q - 1
      · subst e2; exact hj
      · exact hc.tr _ _ _ (h p (q - 1) hp (by omega) (by omega) (by omega)) hj
  · exact h p q hp hpq (by omega) e
end
end Go.Vx
namespace Go.Vx
section
variable {α : Type} [Inhabited α] {cf : α → α → Int}
def Blk (cf : α → α → Int) (m : List α) (s lim : Nat) : Prop := ∀ t, OrdSeg cf m (t * s) (min (t * s + s) lim)
theorem blk_zero {m : List α} {s : Nat} : Blk cf m s 0 := fun t => OrdSeg.small (by omega)
theorem blk_step {m m' : List α} {s t0 e : Nat} (h : Blk cf m s (t0 * s)) (hp : PermSeg m m' (t0 * s) e) (ho : OrdSeg cf m' (t0 * s) e) (he : e ≤ t0 * s + s) : Blk cf m' s e := by
  intro t
  rcases Nat.lt_trichotomy t t0 with g | g | g
  · have h1 : t * s + s ≤ t0 * s := by rw [← Nat.succ_mul]; exact Nat.mul_le_mul_right _ g
    have h2 := h t
    have e1 : min (t * s + s) (t0 * s) = t * s + s := by omega
    rw [e1] at h2
    exact (h2.out hp (.inl h1)).sub (Nat.le_refl _) (by omega)
  · subst g; exact ho.sub (Nat.le_refl _) (by omega)
  · have h1 : t0 * s + s ≤ t * s := by rw [← Nat.succ_mul]; exact Nat.mul_le_mul_right _ g
    exact OrdSeg.small (by omega)
def Mrg (cf : α → α → Int) (m : List α) (s t0 n : Nat) : Prop := (∀ t, t < t0 → OrdSeg cf m (t * (2 * s)) (min (t * (2 * s) + 2 * s) n)) ∧ ∀ t, 2 * t0 ≤ t → OrdSeg cf m (t * s) (min (t * s + s) n)
theorem mrg_start {m : List α} {s n : Nat} (h : Blk cf m s n) : Mrg cf m s 0 n := ⟨fun t ht => by omega, fun t _ => h t⟩
theorem two_mul_mul (t0 s : Nat) : (2 * t0) * s = t0 * (2 * s) := by rw [Nat.mul_comm 2 t0, Nat.mul_assoc]
theorem mrg_parts {m : List α} {s t0 n : Nat} (h : Mrg cf m s t0 n) : OrdSeg cf m (t0 * (2 * s)) (min (t0 * (2 * s) + s) n) ∧ OrdSeg cf m (t0 * (2 * s) + s) (min (t0 * (2 * s) + 2 * s) n) := by
  have h1 := h.2 (2 * t0) (Nat.le_refl _)
  have h2 := h.2 (2 * t0 + 1) (by omega)
  rw [two_mul_mul] at h1
  rw [Nat.add_mul, two_mul_mul, Nat.one_mul] at h2
  refine ⟨h1, ?_⟩
  rw [show t0 * (2 * s) + 2 * s = t0 * (2 * s) + s + s by omega]
  exact h2
theorem mrg_step {m m' : List α} {s t0 n e : Nat} (h : Mrg cf m s t0 n) (hp : PermSeg m m' (t0 * (2 * s)) e) (ho : OrdSeg cf m' (t0 * (2 * s)) e) (he : e = min (t0 * (2 * s) + 2 * s) n) : Mrg cf m' s (t0 + 1) n := by
  refine ⟨fun t ht => ?_, fun t ht => ?_⟩
  · rcases Nat.lt_or_eq_of_le (show t ≤ t0 by omega) with g | g
    · have h1 : t * (2 * s) + 2 * s ≤ t0 * (2 * s) := by rw [← Nat.succ_mul]; exact Nat.mul_le_mul_right _ g
      exact (h.1 t g).out hp (.inl (by omega))
    · subst g; rw [← he]; exact ho
  · have h1 : t0 * (2 * s) + 2 * s ≤ t * s := by
      have : (2 * (t0 + 1)) * s ≤ t * s := Nat.mul_le_mul_right _ ht
      rw [two_mul_mul, Nat.add_mul, Nat.one_mul] at this; exact this
    exact (h.2 t (by omega)).out hp (.inr (by omega))
theorem mrg_end {m : List α} {s t0 n : Nat} (h : Mrg cf m s t0 n) (hn : n ≤ t0 * (2 * s)) : Blk cf m (2 * s) n := by
  intro t
  rcases Nat.lt_or_ge t t0 with g | g
  · exact h.1 t g
  · have h1 : t0 * (2 * s) ≤ t * (2 * s) := Nat.mul_le_mul_right _ g
    exact OrdSeg.small (by omega)
theorem mrg_last {m : List α} {s t0 n : Nat} (h : Mrg cf m s t0 n) (hn : n ≤ t0 * (2 * s) + s) : Blk cf m (2 * s) n := by
  intro t
  rcases Nat.lt_trichotomy t t0 with g | g | g
  · exact h.1 t g
  · subst g; exact (mrg_parts h).1.sub (Nat.le_refl _) (by omega)
  · have h1 : t0 * (2 * s) + 2 * s ≤ t * (2 * s) := by rw [← Nat.succ_mul]; exact Nat.mul_le_mul_right _ g
    exact OrdSeg.small (by omega)
theorem blk_all {m : List α} {s n : Nat} (h : Blk cf m s n) (hs : n ≤ s) : OrdSeg cf m 0 n := by
  have := h 0
  rw [Nat.zero_mul, Nat.zero_add] at this
  exact this.sub (Nat.le_refl _) (by omega)
theorem ord_all {m : List α} {n : Nat} (h : OrdSeg cf m 0 n) (hn : m.length ≤ n) : SrtL cf m := by
  refine List.pairwise_iff_getElem.2 fun i j hi hj hij => ?_
  have := h i j (Nat.zero_le _) hij (by omega)
  simpa [gd, hi, hj] using this
omit [Inhabited α] in
theorem cmpO_key (key : α → Int) : CmpO (fun x y => cmpI (key x) (key y)) where
  irr x := by unfold cmpI; simp
  tot x y h := by
    unfold cmpI at *
    split at h
    · rename_i g; rw [if_neg (by omega), if_pos g]; omega
    · split at h <;> omega
  tr x y z h1 h2 := by
    unfold cmpI at *
    split at h1 <;> split at h2 <;> (try omega)
end
end Go.Vx
namespace Go.Vx
section
variable {α : Type}
def insL (l : List α) (i : Nat) (x : α) : List α := l.take i ++ [x] ++ l.drop i
theorem insL_len {l : List α} {i : Nat} {x : α} (hi : i ≤ l.length) : (insL l i x).length = l.length + 1 := by
  unfold insL; simp only [List.length_append, List.length_take, List.length_drop, List.length_cons, List.length_nil]; omega
theorem ins_end' {l : List α} {i : Nat} {x : α} (hi : i = l.length) : l ++ [x] = insL l i x := by
  subst hi; unfold insL; rw [List.take_length, List.drop_length, List.append_nil]
theorem ins_grow {l : List α} {x z : α} {i : Nat} (hi : i ≤ l.length) :
    (((l.take i ++ List.replicate (l.length + 1 - i) z).take i ++ [x] ++ (l.take i ++ List.replicate (l.length + 1 - i) z).drop (i + [x].length)).take (i + 1) ++ l.drop i ++ ((l.take i ++ List.replicate (l.length + 1 - i) z).take i ++ [x] ++ (l.take i ++ List.replicate (l.length + 1 - i) z).drop (i + [x].length)).drop (i + 1 + (l.drop i).length)) = insL l i x := by
  have h1 : (l.take i).length = i := by rw [List.length_take]; omega
  have e1 : (l.take i ++ List.replicate (l.length + 1 - i) z).take i = l.take i := List.take_left' h1
  rw [e1]
  have e2 : (l.take i ++ [x]).length = i + 1 := by rw [List.length_append, h1]; rfl
  have e3 : (l.take i ++ [x] ++ (l.take i ++ List.replicate (l.length + 1 - i) z).drop (i + [x].length)).take (i + 1) = l.take i ++ [x] := List.take_left' e2
  have e4 : (l.take i ++ [x] ++ (l.take i ++ List.replicate (l.length + 1 - i) z).drop (i + [x].length)).drop (i + 1 + (l.drop i).length) = [] := by
    apply List.drop_eq_nil_of_le
    rw [List.length_append, e2]
    simp only [List.length_append, List.length_drop, List.length_replicate, h1, List.length_cons, List.length_nil]
    omega
  rw [e3, e4, List.append_nil]
  rfl
theorem ins_room {l : List α} {x : α} {i : Nat} (hi : i < l.length) :
    ((l.take (i + 1) ++ l.drop i ++ l.drop (i + 1 + (l.drop i).length)).take i ++ [x] ++ (l.take (i + 1) ++ l.drop i ++ l.drop (i + 1 + (l.drop i).length)).drop (i + [x].length)) = insL l i x := by
  have h0 : l.drop (i + 1 + (l.drop i).length) = [] := List.drop_eq_nil_of_le (by rw [List.length_drop]; omega)
  rw [h0, List.append_nil]
  have h1 : (l.take (i + 1)).length = i + 1 := by rw [List.length_take]; omega
  unfold insL
  congr 1
  · congr 1
    rw [List.take_append_of_le_length (by omega), List.take_take, Nat.min_eq_left (by omega)]
  · rw [List.length_singleton, List.drop_left' h1]
end
end Go.Vx
namespace Go.Vx
section
variable {α : Type} [Inhabited α] {cf : α → α → Int}
def SymAt (P : Program) (f g E k : Nat) (enc : α → List Value) (cf : α → α → Int) (d : Nat) : Prop := ∀ (w : World) (S : Nat → Prop) (a : Option Addr) (N c : Nat) (l : List α) (lo mid hi : Nat), l.length = N → N ≤ 2305843009213693951 → hi - lo ≤ d → lo < mid → mid < hi → hi ≤ N → OrdSeg cf l lo mid → OrdSeg cf l mid hi →
  (row (.slice a N c) (l.map enc) E k).holds w S → (∀ b, S b → b < w.heap.size) → Calls P f #[.slice a N c, .int .i64 ((lo : Nat) : Int), .int .i64 ((mid : Nat) : Int), .int .i64 ((hi : Nat) : Int), .func (.func g) #[] #[]] w fun e w' => ∃ x : List α, e = .returned (.tuple #[]) ∧ Own w S w' [row (.slice a N c) (x.map enc) E k] ∧ (x.length = N ∧ Merged cf l x lo hi)
theorem sym_g1 {l : List α} {lo hi s s0 n e : Nat} (h : s = s0 ∨ ¬ cf (gd l (n - 1 - (s - 1))) (gd l (s - 1)) < 0) (h0 : s0 = lo ∨ n = hi + s0) (hs : s0 ≤ s) (he : e = n - s) : s = lo ∨ e = hi ∨ ¬ cf (gd l e) (gd l (s - 1)) < 0 := by
  by_cases hss : s = s0
  · rcases h0 with h0 | h0
    · exact .inl (by omega)
    · exact .inr (.inl (by omega))
  · rcases h with h | h
    · exact absurd h hss
    · rw [show n - 1 - (s - 1) = e by omega] at h; exact .inr (.inr h)
theorem sym_g2 {l : List α} {mid md s r0 n e : Nat} (h : s = r0 ∨ cf (gd l (n - 1 - s)) (gd l s) < 0) (h0 : r0 = mid ∨ r0 = md) (hn : n = md + mid) (he : e = n - s) (hsm : s ≤ md) : s = mid ∨ e = mid ∨ cf (gd l (e - 1)) (gd l s) < 0 := by
  rcases h with h | h
  · rcases h0 with h0 | h0
    · exact .inl (by omega)
    · exact .inr (.inl (by omega))
  · rw [show n - 1 - s = e - 1 by omega] at h; exact .inr (.inr h)
end
end Go.Vx
namespace Go.Proofs
open Go Go.Vx Go.RowKit
namespace Tt
theorem SA_59 : TA Tryz.prog 59 7 := ⟨Tryz.sizeOf59, Tryz.isAgg59⟩
theorem SA_87 : TA Tryz.prog 87 2 := ⟨Tryz.sizeOf87, Tryz.isAgg87⟩
set_option maxRecDepth 20000 in
theorem EL_36 : El Tryz.prog 36 59 7 24 := ⟨Tryz.underlying36, _, _, Tryz.type59, rfl, rfl, rfl, rfl, by decide⟩
set_option maxRecDepth 20000 in
theorem EL_37 : El Tryz.prog 37 87 2 8 := ⟨Tryz.underlying37, _, _, Tryz.type87, rfl, rfl, rfl, rfl, by decide⟩
theorem EN_110 : En Tryz.prog 110 := Tryz.call110
theorem EN_111 : En Tryz.prog 111 := Tryz.call111
theorem EN_127 : En Tryz.prog 127 := Tryz.call127
theorem EN_144 : En Tryz.prog 144 := Tryz.call144
theorem EN_72 : En Tryz.prog 72 := Tryz.call72
theorem EN_90 : En Tryz.prog 90 := Tryz.call90
theorem UD_127 : Ud Tryz.prog 127 (.int .u64) := Tryz.runUnderlying127
theorem UD_36 : Ud Tryz.prog 36 (.slice 59) := Tryz.runUnderlying36
theorem UD_37 : Ud Tryz.prog 37 (.slice 87) := Tryz.runUnderlying37
theorem UDR_3 : Tryz.prog.underlying 3 = some (.int .i64) := Tryz.underlying3
theorem UDR_36 : Tryz.prog.underlying 36 = some (.slice 59) := Tryz.underlying36
theorem UDR_37 : Tryz.prog.underlying 37 = some (.slice 87) := Tryz.underlying37
theorem ZV_59 : Zv Tryz.prog 59 (.agg (cec (⟨0, 0, 0, 0, (⟨0, 0⟩ : Dot), 0⟩ : Cen)).toArray) := Tryz.zeroValue59
theorem ZV_87 : Zv Tryz.prog 87 (.agg (lsc (⟨0, 0⟩ : Lst)).toArray) := Tryz.zeroValue87
end Tt
end Go.Proofs
namespace Go.Vx
theorem cmpI_neg {x y : Int} : cmpI x y < 0 ↔ x < y := by unfold cmpI; split <;> (try split) <;> omega
theorem cmpI_zero {x y : Int} : cmpI x y = 0 ↔ x = y := by unfold cmpI; split <;> (try split) <;> omega
theorem posB_cons {α : Type} {f : α → Bool} {x : α} {l : List α} : posB f (x :: l) = if f x = true then posB f l + 1 else 0 := by
  unfold posB; rw [List.takeWhile_cons]; split <;> simp
def befT (c : Int) (x : Lst) : Bool := decide (cmpI x.cart c < 0)
def posT (ts : List Lst) (c : Int) : Nat := posB (befT c) ts
theorem befT_iff {c : Int} {x : Lst} : befT c x = true ↔ x.cart < c := by unfold befT; rw [decide_eq_true_iff, cmpI_neg]
theorem ris_gd {ts : List Lst} (h : RisT ts) {i j : Nat} (hij : i < j) (hj : j < ts.length) : (gd ts i).cart < (gd ts j).cart := by
  have := List.pairwise_iff_getElem.1 h i j (by omega) hj hij
  simpa [gd, hj, show i < ts.length by omega] using this
theorem posT_mono {ts : List Lst} (h : RisT ts) (c : Int) : MonoB (befT c) ts := fun i j hij hj hf => by
  rw [befT_iff] at *
  have := ris_gd h hij hj; omega
theorem tickP_cons {x : Lst} {l : List Lst} {c : Int} : tickP (x :: l) c = if x.cart = c then some x.tick else tickP l c := by
  unfold tickP; by_cases h : x.cart = c <;> simp [h]
theorem tickP_above {ts : List Lst} {c : Int} (h : ∀ x ∈ ts, c < x.cart) : tickP ts c = none := by
  unfold tickP
  rw [Option.map_eq_none_iff, List.find?_eq_none]
  intro x hx
  have := h x hx
  simp; omega
theorem find_all {ts : List Lst} (h : RisT ts) (c : Int) : (posT ts c < ts.length ∧ (gd ts (posT ts c)).cart = c ∧ tickP ts c = some (gd ts (posT ts c)).tick) ∨ ((¬ (posT ts c < ts.length ∧ (gd ts (posT ts c)).cart = c)) ∧ tickP ts c = none) := by
  induction ts with
  | nil => right; simp [tickP, posT]
  | cons x l ih =>
    have hx := List.pairwise_cons.1 h
    unfold posT at *
    rw [posB_cons, tickP_cons]
    by_cases h1 : x.cart < c
    · rw [if_pos (befT_iff.2 h1), if_neg (by omega)]
      rcases ih hx.2 with ⟨a, b, d⟩ | ⟨a, d⟩
      · left; exact ⟨by simpa using a, by simpa [gd] using b, by simpa [gd] using d⟩
      · right; refine ⟨fun ⟨p, q⟩ => a ⟨by simpa using p, by simpa [gd] using q⟩, d⟩
    · rw [if_neg (fun h => h1 (befT_iff.1 h))]
      by_cases h2 : x.cart = c
      · left; rw [if_pos h2]; exact ⟨by simp, by simpa [gd] using h2, by simp [gd]⟩
      · right; rw [if_neg h2]
        refine ⟨fun ⟨_, q⟩ => h2 (by simpa [gd] using q), tickP_above fun y hy => ?_⟩
        have := hx.1 y hy; omega
theorem find_found {ts : List Lst} (h : RisT ts) (c : Int) : (decide (posT ts c < ts.length) && decide (cmpI (gd ts (posT ts c)).cart c = 0)) = (tickP ts c).isSome := by
  rcases find_all h c with ⟨a, b, d⟩ | ⟨a, d⟩
  · rw [d, decide_eq_true a, decide_eq_true (cmpI_zero.2 b)]; rfl
  · rw [d]
    by_cases h1 : posT ts c < ts.length
    · rw [decide_eq_false (p := cmpI _ _ = 0) (fun e => a ⟨h1, cmpI_zero.1 e⟩), Bool.and_false]; rfl
    · rw [decide_eq_false h1]; rfl
theorem find_at {ts : List Lst} (h : RisT ts) {c : Int} (hs : (tickP ts c).isSome = true) : posT ts c < ts.length ∧ (gd ts (posT ts c)).cart = c ∧ tickP ts c = some (gd ts (posT ts c)).tick := by
  rcases find_all h c with g | ⟨_, d⟩
  · exact g
  · rw [d] at hs; cases hs
theorem posT_le (ts : List Lst) (c : Int) : posT ts c ≤ ts.length := posB_len
theorem putT_ins {ts : List Lst} (h : RisT ts) {c t : Int} (hs : (tickP ts c).isSome = false) : putT c t ts = insL ts (posT ts c) ⟨c, t⟩ := by
  induction ts with
  | nil => rfl
  | cons x l ih =>
    have hx := List.pairwise_cons.1 h
    rw [tickP_cons] at hs
    unfold putT posT
    rw [posB_cons]
    by_cases h2 : x.cart = c
    · rw [if_pos h2] at hs; cases hs
    · rw [if_neg h2] at hs ⊢
      by_cases h1 : x.cart < c
      · rw [if_pos (befT_iff.2 h1), if_neg (by omega), ih hx.2 hs]; rfl
      · rw [if_neg (fun h => h1 (befT_iff.1 h)), if_pos (by omega)]; rfl
theorem putT_set {ts : List Lst} (h : RisT ts) {c t : Int} (hs : (tickP ts c).isSome = true) : putT c t ts = ts.set (posT ts c) ⟨c, max (gd ts (posT ts c)).tick t⟩ := by
  induction ts with
  | nil => simp [tickP] at hs
  | cons x l ih =>
    have hx := List.pairwise_cons.1 h
    rw [tickP_cons] at hs
    unfold putT posT
    rw [posB_cons]
    by_cases h2 : x.cart = c
    · rw [if_pos h2, if_neg (fun h => by have := befT_iff.1 h; omega)]; simp [gd]
    · rw [if_neg h2] at hs ⊢
      by_cases h1 : x.cart < c
      · rw [if_pos (befT_iff.2 h1), if_neg (by omega), ih hx.2 hs]; simp [gd, posT]
      · rw [tickP_above (fun y hy => by have := hx.1 y hy; omega)] at hs; cases hs
def badT (ts : List Lst) (i : Nat) : Bool := decide (1073741824 < (gd ts i).tick) || (decide (0 < i) && decide ((gd ts i).cart ≤ (gd ts (i - 1)).cart))
def badE (s : Sta) (i : Nat) : Bool := !entB s (gd s.ents i) || ((s.ents.take i).any fun x => decide (x.dot = (gd s.ents i).dot)) || (decide (0 < i) && !aheadB (gd s.ents (i - 1)) (gd s.ents i))
def rightS (s : Sta) : Bool := rightB s.known 16 && ((List.range s.ticks.length).all fun i => !badT s.ticks i) && (List.range s.ents.length).all fun i => !badE s i
theorem ris_of {ts : List Lst} {k : Nat} (hk : k ≤ ts.length) (h : ∀ i, i < k → badT ts i = false) : RisT (ts.take k) := by
  have key : ∀ j, j < k → ∀ i, i < j → (gd ts i).cart < (gd ts j).cart := by
    intro j
    induction j with
    | zero => intro _ i hi; omega
    | succ j ih =>
      intro hj i hi
      have h1 := h (j + 1) hj
      unfold badT at h1
      simp only [Bool.or_eq_false_iff, Bool.and_eq_false_iff, decide_eq_false_iff_not, Nat.add_sub_cancel] at h1
      have h2 : (gd ts j).cart < (gd ts (j + 1)).cart := by rcases h1.2 with g | g <;> omega
      rcases Nat.lt_or_eq_of_le (show i ≤ j by omega) with g | g
      · have := ih (by omega) i g; omega
      · subst g; exact h2
  refine List.pairwise_iff_getElem.2 fun i j hi hj hij => ?_
  rw [List.length_take] at hi hj
  have := key j (by omega) i hij
  rw [List.getElem_take, List.getElem_take]
  simpa [gd, show i < ts.length by omega, show j < ts.length by omega] using this
theorem rise_of {l : List Cen} (h : ∀ i, i < l.length → 0 < i → aheadB (gd l (i - 1)) (gd l i) = true) : RisE l := by
  have key : ∀ j, j < l.length → ∀ i, i < j → aheadB (gd l i) (gd l j) = true := by
    intro j
    induction j with
    | zero => intro _ i hi; omega
    | succ j ih =>
      intro hj i hi
      have h1 := h (j + 1) hj (by omega)
      rw [Nat.add_sub_cancel] at h1
      rcases Nat.lt_or_eq_of_le (show i ≤ j by omega) with g | g
      · exact ahead_trans (ih (by omega) i g) h1
      · subst g; exact h1
  refine List.pairwise_iff_getElem.2 fun i j hi hj hij => ?_
  simpa [gd, hi, hj] using key j hj i hij
theorem nodup_of {l : List Cen} (h : ∀ i, i < l.length → ((l.take i).any fun x => decide (x.dot = (gd l i).dot)) = false) : (l.map (·.dot)).Nodup := by
  refine List.pairwise_iff_getElem.2 fun i j hi hj hij => ?_
  rw [List.length_map] at hi hj
  have h1 := h j hj
  rw [List.any_eq_false] at h1
  rw [List.getElem_map, List.getElem_map]
  intro e
  refine h1 (l[i]) ?_ ?_
  · rw [List.mem_take_iff_getElem]; exact ⟨i, by omega, rfl⟩
  · rw [decide_eq_true_iff, e]; simp [gd, hj]
theorem rightS_of {s : Sta} (hk : rightB s.known 16 = true) (ht : ∀ i, i < s.ticks.length → badT s.ticks i = false) (he : ∀ i, i < s.ents.length → badE s i = false) : RightC s := by
  have he' : ∀ i, i < s.ents.length → entB s (gd s.ents i) = true ∧ ((s.ents.take i).any fun x => decide (x.dot = (gd s.ents i).dot)) = false ∧ (0 < i → aheadB (gd s.ents (i - 1)) (gd s.ents i) = true) := fun i hi => by
    have := he i hi
    unfold badE at this
    simp only [Bool.or_eq_false_iff, Bool.and_eq_false_iff, decide_eq_false_iff_not, Bool.not_eq_false'] at this
    refine ⟨this.1.1, this.1.2, fun h0 => ?_⟩
    rcases this.2 with g | g
    · exact absurd h0 g
    · exact g
  refine ⟨hk, ?_, ?_, rise_of fun i hi h0 => (he' i hi).2.2 h0, fun e hm => ?_, nodup_of fun i hi => (he' i hi).2.1⟩
  · have := ris_of (Nat.le_refl _) ht
    rwa [List.take_length] at this
  · intro x hx
    obtain ⟨i, hi, rfl⟩ := mem_gd hx
    have := ht i hi
    unfold badT at this
    simp only [Bool.or_eq_false_iff, decide_eq_false_iff_not] at this
    omega
  · obtain ⟨i, hi, rfl⟩ := mem_gd hm
    exact (he' i hi).1
theorem rightS_iff {s : Sta} : rightS s = true ↔ RightC s := by
  constructor
  · intro h
    unfold rightS at h
    simp only [Bool.and_eq_true, List.all_eq_true, List.mem_range, Bool.not_eq_true'] at h
    exact rightS_of h.1.1 h.1.2 h.2
  · intro h
    unfold rightS
    simp only [Bool.and_eq_true, List.all_eq_true, List.mem_range, Bool.not_eq_true']
    refine ⟨⟨h.known, fun i hi => ?_⟩, fun i hi => ?_⟩
    · unfold badT
      have h1 := h.tick _ (gd_mem hi)
      rw [decide_eq_false (by omega), Bool.false_or]
      by_cases h0 : 0 < i
      · have := ris_gd h.rt (show i - 1 < i by omega) hi
        rw [decide_eq_false (p := (gd s.ticks i).cart ≤ _) (by omega), Bool.and_false]
      · rw [decide_eq_false h0]; rfl
    · unfold badE
      have h1 := h.ent _ (gd_mem hi)
      rw [h1]
      have h2 : ((s.ents.take i).any fun x => decide (x.dot = (gd s.ents i).dot)) = false := by
        rw [List.any_eq_false]
        intro x hx
        obtain ⟨j, hj, rfl⟩ := List.mem_take_iff_getElem.1 hx
        rw [decide_eq_true_iff]
        intro e
        have hnd := List.pairwise_iff_getElem.1 h.nd j i (by rw [List.length_map]; omega) (by rw [List.length_map]; exact hi) (by omega)
        rw [List.getElem_map, List.getElem_map] at hnd
        apply hnd
        rw [e]; simp [gd, hi]
      rw [h2]
      by_cases h0 : 0 < i
      · have := List.pairwise_iff_getElem.1 h.re (i - 1) i (by omega) hi (by omega)
        have h3 : aheadB (gd s.ents (i - 1)) (gd s.ents i) = true := by simpa [gd, hi, show i - 1 < s.ents.length by omega] using this
        rw [h3]; simp
      · rw [decide_eq_false h0]; rfl
theorem right_badT {s : Sta} {i : Nat} (hi : i < s.ticks.length) (h : badT s.ticks i = true) : rightS s = false := by
  rw [← Bool.not_eq_true]
  intro hr
  unfold rightS at hr
  simp only [Bool.and_eq_true, List.all_eq_true, List.mem_range, Bool.not_eq_true'] at hr
  rw [hr.1.2 i hi] at h; cases h
theorem right_badE {s : Sta} {i : Nat} (hi : i < s.ents.length) (h : badE s i = true) : rightS s = false := by
  rw [← Bool.not_eq_true]
  intro hr
  unfold rightS at hr
  simp only [Bool.and_eq_true, List.all_eq_true, List.mem_range, Bool.not_eq_true'] at hr
  rw [hr.2 i hi] at h; cases h
theorem right_badK {s : Sta} (h : rightB s.known 16 = false) : rightS s = false := by unfold rightS; rw [h]; rfl
def seenE (l : List Cen) : List (Dot × Unit) := l.foldl (fun m e => mput e.dot () m) []
theorem seenE_snoc (l : List Cen) (e : Cen) : seenE (l ++ [e]) = mput e.dot () (seenE l) := by unfold seenE; rw [List.foldl_append]; rfl
theorem seenE_get (l : List Cen) (d : Dot) : (mget d (seenE l)).isSome = l.any fun x => decide (x.dot = d) := by
  refine snoc_ind (motive := fun l => (mget d (seenE l)).isSome = l.any fun x => decide (x.dot = d)) rfl (fun l e ih => ?_) l
  rw [seenE_snoc, mget_put, List.any_append, ← ih]
  by_cases h : e.dot = d
  · subst h; simp
  · rw [if_neg (fun e2 => h e2.symm)]; simp [h]
theorem seenE_next {l : List Cen} {k : Nat} (hk : k < l.length) : seenE (l.take (k + 1)) = mput (gd l k).dot () (seenE (l.take k)) := by rw [take_snoc hk, seenE_snoc]
end Go.Vx
namespace Go.Vx
def StaOk (s : Sta) : Prop := VecOk s.known ∧ (∀ e ∈ s.ents, CenOk e) ∧ ∀ x ∈ s.ticks, LstOk x
theorem place_ge (a b : Cen) : decide (0 ≤ placeI a b) = !aheadB a b := by
  by_cases h : aheadB a b = true
  · rw [h, decide_eq_false]
    · rfl
    · have := (place_lt a b).2 h; omega
  · rw [Bool.not_eq_true] at h
    rw [h, decide_eq_true]
    · rfl
    · rcases Int.lt_or_le (placeI a b) 0 with g | g
      · rw [(place_lt a b).1 g] at h; cases h
      · exact g
end Go.Vx
namespace Go.Vx
open Go.RowKit
theorem flat_setF {k : Nat} : ∀ (m : List (List Value)) (_ : ∀ l ∈ m, l.length = k) (j off : Nat) (vs a : List Value), m[j]? = some a → off + vs.length ≤ k → (m.set j (spl a off vs)).flatten = spl m.flatten (j * k + off) vs
  | [], _, j, _, _, _, h, _ => by simp at h
  | b :: m, hm, 0, off, vs, a, h, ho => by
    simp at h; subst h
    have hb := hm b (by simp)
    rw [List.set_cons_zero, List.flatten_cons, List.flatten_cons, spl_eq _ _ _ (by omega), spl_eq _ _ _ (by rw [List.length_append]; omega)]
    rw [Nat.zero_mul, Nat.zero_add, List.take_append_of_le_length (by omega), List.drop_append_of_le_length (by omega)]
    simp only [List.append_assoc]
  | b :: m, hm, j + 1, off, vs, a, h, ho => by
    simp only [List.getElem?_cons_succ] at h
    have hb := hm b (by simp)
    have hm' : ∀ l ∈ m, l.length = k := fun l hl => hm l (by simp [hl])
    have ih := flat_setF m hm' j off vs a h ho
    have hj := lt_of_get h
    have hfl := flat_len m hm'
    have hb2 : (j + 1) * k ≤ m.length * k := Nat.mul_le_mul_right _ hj
    rw [Nat.add_mul, Nat.one_mul] at hb2
    rw [List.set_cons_succ, List.flatten_cons, List.flatten_cons, ih, spl_eq _ _ _ (by omega), spl_eq _ _ _ (by rw [List.length_append]; rw [Nat.add_mul]; omega)]
    have e1 : (j + 1) * k + off = b.length + (j * k + off) := by rw [Nat.add_mul, hb]; omega
    rw [e1, List.take_length_add_append, show b.length + (j * k + off) + vs.length = b.length + (j * k + off + vs.length) by omega, List.drop_length_add_append]
    simp only [List.append_assoc]
section
variable {P : Program} {ty : TypeId} {e : Operand → Value} {w : World} {K : Value → World → Prop} {w0 : World} {M : Nat → Prop} {L : List Res}
theorem L_stF {α : Type} [Inhabited α] {t E k n c : Nat} {enc : α → List Value} {x y : Operand} {v : Value} {l : List α} {z : α} {V : Value} {vs : List Value} (i off : Nat) (ht : Sz P t c) (hs : Own w0 M w L) (j : Nat) (hk : L[j]? = some (row v (l.map enc) E k)) (hx : e x = .pointer (some ⟨bkS v, n, none⟩)) (hn : n = ofS v + i * k + off) (hi : i < l.length) (hy : e y = V)
    (hV : V.cells = vs.toArray) (hvc : vs.length = c) (hz : enc z = spl (enc (gd l i)) off vs) (hoff : off + vs.length ≤ k) (h1 : ∀ u ∈ enc z, u.oneCell' = true) (hv1 : ∀ u ∈ vs, u.oneCell' = true) (h : ∀ w', Own w0 M w' (L.set j (row v ((l.set i z).map enc) E k)) → K undef w') : opW P (.store t x y) ty e w K := by
  obtain ⟨S, ⟨⟨hl1, ho1⟩, hown, hSg⟩, hlt, _⟩ := hs.get j hk
  rcases hown.2 with ⟨hv, hn0⟩ | ⟨g, cap, cur, hv, h0g, hg, hnc, hcm, hcs, htake⟩
  · have h0 : l.length = 0 := by simpa using hn0
    omega
  · have hlen : (l.map enc).length = l.length := by simp
    subst hv
    have hn' : n = i * k + off := by rw [hn]; simp [ofS]
    subst hn'
    have hx' : e x = .pointer (some ⟨g, i * k + off, none⟩) := hx
    have hik : i * k + k ≤ l.length * k := by
      have := Nat.mul_le_mul_right k (show i + 1 ≤ l.length from hi)
      rw [Nat.add_mul] at this; omega
    have hcap : l.length * k ≤ cur.size := by rw [hcs]; exact Nat.mul_le_mul_right _ (by rw [← hlen]; exact hnc)
    have hrun := run_storeVar_mid (P := P) ht g (i * k + off) E V vs cur.toList hV hvc (w := w) (by simpa using hg) (by have : cur.toList.length = cur.size := Array.length_toList; omega) hv1
    refine opW_skip (w' := w.setRow g (spl cur.toList (i * k + off) vs).toArray) ?_ (h _ ?_)
    · simp only [execOp, hx', hy, Instr.storeAt, Instr.sureAddr, Sem.run_bind, Sem.run_pure, Result.andThen_ok, hrun]
    · refine hs.change j (b := g) hk (by simp) rfl rfl rfl (fun c hc => setRow_other w g c _ hc) ?_
      rintro S' ⟨_, hown', hSg'⟩
      have e1 : (l.set i z).map enc = (l.map enc).set i (spl (enc (gd l i)) off vs) := by rw [List.map_set, hz]
      have hgi : (l.map enc)[i]? = some (enc (gd l i)) := by simp [gd, hi]
      have hzl : (enc z).length = k := by
        have hgl := hl1 _ (List.mem_of_getElem? hgi)
        rw [hz, spl_eq _ _ _ (by omega)]
        simp only [List.length_append, List.length_take, List.length_drop]; omega
      have hk1 : ∀ m ∈ (l.map enc).set i (spl (enc (gd l i)) off vs), m.length = k := by
        intro m hm
        rcases List.mem_or_eq_of_mem_set hm with h | h
        · exact hl1 m h
        · subst h; rw [← hz]; exact hzl
      have hsl : ∀ cs : List Value, i * k + k ≤ cs.length → (spl cs (i * k + off) vs).length = cs.length := fun cs hc => by
        rw [spl_eq _ _ _ (by omega)]
        simp only [List.length_append, List.length_take, List.length_drop]; omega
      refine ⟨hSg' g rfl, ?_⟩
      rw [e1]
      refine ⟨⟨hk1, ?_⟩, ⟨?_, .inr ⟨g, cap, _, by rw [List.length_set], h0g, setRow_heap w g cur _ E _ hg, by rw [List.length_set]; exact hnc, hcm, ?_, ?_⟩⟩, fun g' hg' => by cases hg'; exact hSg' g rfl⟩
      · intro m hm u hu
        rcases List.mem_or_eq_of_mem_set hm with h | h
        · exact ho1 m h u hu
        · subst h; rw [← hz] at hu; exact h1 u hu
      · rw [flat_setF _ hl1 i off vs _ hgi hoff, List.length_set, hsl _ (by rw [hown.1, hlen]; exact hik)]; exact hown.1
      · rw [List.size_toArray, hsl _ (by have : cur.toList.length = cur.size := Array.length_toList; omega)]; simpa using hcs
      · rw [flat_setF _ hl1 i off vs _ hgi hoff, ← htake, List.length_set]
        show (spl cur.toList (i * k + off) vs).take _ = _
        rw [take_spl]
theorem Own.lendB (hs : Own w0 M w L) (i j : Nat) (hij : i ≠ j) {R : Res} (hi : L[i]? = some R) {b T : Nat} {cs : List Value} (hj : L[j]? = some (blk b cs T)) :
    ∃ S, R.holds w S ∧ (∀ b, S b → b < w.heap.size) ∧ ¬ S b ∧ ∀ w' R' L', Own w S w' (R' :: L') → Own w0 M w' (L.set i R' ++ L') := by
  obtain ⟨S, h1, h2, _, h4, h5⟩ := hs.lend3 i hi
  obtain ⟨Sj, hj1, hj2⟩ := h4 j (fun e => hij e.symm) _ hj
  exact ⟨S, h1, h2, fun hb => hj2 _ hb hj1.1, h5⟩
theorem L_callE {α : Type} {f : FuncId} {xs : List Operand} {vs : List Value} {ats : Array TypeId} {V : α → Value} {R : Res} {R' : α → Res} {Lo : α → List Res} {F : α → World → Prop} {b T : Nat} {cs : List Value} (hf : En P f) (hef : e (.func f) = .func (.func f) #[] #[]) (hv : xs.map e = vs)
    (hs : Own w0 M w L) (i j : Nat) (hij : i ≠ j) (hi : L[i]? = some R) (hj : L[j]? = some (blk b cs T))
    (hc : ∀ S, R.holds w S → (∀ b, S b → b < w.heap.size) → ¬ S b → CellsF w b cs → Calls P f vs.toArray w fun r w' => ∃ x, r = .returned (V x) ∧ Own w S w' (R' x :: Lo x) ∧ F x w') (h : ∀ x w', Own w0 M w' (L.set i (R' x) ++ Lo x) → F x w' → K (V x) w') :
    opW P (.call { callee := .value (.func f), args := xs.toArray, argTypes := ats }) ty e w K := by
  obtain ⟨S, hR, hlt, hn, hback⟩ := hs.lendB i j hij hi hj
  exact L_callN hf hef (by rw [List.map_toArray, hv]) ((hc S hR hlt hn (hs.cellsf j hj)).mono fun r w' ⟨x, hr, ho, hF⟩ => ⟨V x, hr, h x w' (hback w' _ _ ho) hF⟩)
end
def befE (e : Cen) (x : Cen) : Bool := decide (placeI x e < 0)
theorem befE_iff {e x : Cen} : befE e x = true ↔ aheadB x e = true := by unfold befE; rw [decide_eq_true_iff, place_lt]
theorem ris_gdE {l : List Cen} (h : RisE l) {i j : Nat} (hij : i < j) (hj : j < l.length) : aheadB (gd l i) (gd l j) = true := by
  have := List.pairwise_iff_getElem.1 h i j (by omega) hj hij
  simpa [gd, hj, show i < l.length by omega] using this
theorem posE_mono {l : List Cen} (h : RisE l) (e : Cen) : MonoB (befE e) l := fun i j hij hj hf => by
  rw [befE_iff] at *
  exact ahead_trans (ris_gdE h hij hj) hf
theorem putE_ins {e : Cen} : ∀ {l : List Cen}, e.dot ∉ l.map (·.dot) → putE e l = insL l (posB (befE e) l) e
  | [], _ => rfl
  | x :: l, hn => by
    rw [List.map_cons, List.mem_cons] at hn
    unfold putE
    rw [posB_cons]
    rcases ahead_total (a := e) (b := x) (fun h => hn (.inl h)) with h | h
    · have h2 : ¬ aheadB x e = true := fun g => by have := ahead_trans h g; rw [ahead_irrefl] at this; cases this
      rw [if_pos h, if_neg (fun g => h2 (befE_iff.1 g))]; rfl
    · have h2 : ¬ aheadB e x = true := fun g => by have := ahead_trans h g; rw [ahead_irrefl] at this; cases this
      rw [if_neg h2, if_pos (befE_iff.2 h), putE_ins (fun hm => hn (.inr hm))]; rfl
def applyI (s : Sta) (o : Opn) : Int := if rightS s = true then readyI s.known o else 2
def applyR (s : Sta) (o : Opn) : Sta := if applyI s o = 0 then applyE s o else szero
theorem lays_or (o : Opn) : ((decide (o.kind = 1) || decide (o.kind = 2)) || decide (o.kind = 4)) = laysB o := rfl
theorem readyI_dot {known : Vec} {o : Opn} (ho : OpnOk o) (h : readyI known o = 0) : DotP o.dot ∧ hasB known o.dot = false := ⟨right_dot ho (ready_zero h).1, (ready_zero h).2.1⟩
theorem fresh_dot {s : Sta} {o : Opn} (hr : RightC s) (h : hasB s.known o.dot = false) : o.dot ∉ s.ents.map (·.dot) := fun hm => by
  obtain ⟨e, he, hd⟩ := List.mem_map.1 hm
  have := hr.ent e he
  unfold entB at this
  simp only [Bool.and_eq_true] at this
  rw [hd] at this
  rw [this.1.1.2] at h; cases h
end Go.Vx
namespace Go.Vx
theorem Own.two {w0 w : World} {M : Nat → Prop} {L : List Res} (h : Own w0 M w L) (i j : Nat) (hij : i ≠ j) {R Q : Res} (hi : L[i]? = some R) (hj : L[j]? = some Q) : Own w0 M w [R, Q] := by
  obtain ⟨a, b, c, d, e, S, f, g, i', j'⟩ := h
  refine ⟨a, b, c, d, e, fun k b => (k = 0 ∧ S i b) ∨ (k = 1 ∧ S j b), fun k T hk => ?_, ?_, ?_, ?_⟩
  · match k with
    | 0 =>
      simp at hk; subst hk
      have e1 : (fun b => ((0 : Nat) = 0 ∧ S i b) ∨ ((0 : Nat) = 1 ∧ S j b)) = S i := by funext b; simp
      show R.holds w (fun b => ((0 : Nat) = 0 ∧ S i b) ∨ ((0 : Nat) = 1 ∧ S j b))
      rw [e1]; exact f i R hi
    | 1 =>
      simp at hk; subst hk
      have e1 : (fun b => ((1 : Nat) = 0 ∧ S i b) ∨ ((1 : Nat) = 1 ∧ S j b)) = S j := by funext b; simp
      show Q.holds w (fun b => ((1 : Nat) = 0 ∧ S i b) ∨ ((1 : Nat) = 1 ∧ S j b))
      rw [e1]; exact f j Q hj
    | k + 2 => simp at hk
  · rintro k b (⟨_, h⟩ | ⟨_, h⟩)
    · exact g i b h
    · exact g j b h
  · rintro k k' b (⟨h1, h2⟩ | ⟨h1, h2⟩) (⟨h3, h4⟩ | ⟨h3, h4⟩)
    · omega
    · exact absurd (i' i j b h2 h4) hij
    · exact absurd (i' i j b h4 h2) hij
    · omega
  · rintro k b (⟨_, h⟩ | ⟨_, h⟩) hb
    · exact j' i b h hb
    · exact j' j b h hb
end Go.Vx
namespace Go.Vx
theorem filt_dots {l : List Cen} {p : Cen → Bool} {d : Dot} (h : d ∈ (l.filter p).map (·.dot)) : d ∈ l.map (·.dot) := by
  obtain ⟨e, he, hd⟩ := List.mem_map.1 h
  exact List.mem_map.2 ⟨e, (List.mem_filter.1 he).1, hd⟩
end Go.Vx
namespace Go.Proofs
open Go Go.Vx Go.RowKit
namespace Tt
theorem S1_36 : T1 Tryz.prog 36 := ⟨Tryz.sizeOf36, Tryz.isAgg36⟩
theorem S1_37 : T1 Tryz.prog 37 := ⟨Tryz.sizeOf37, Tryz.isAgg37⟩
theorem S1_54 : T1 Tryz.prog 54 := ⟨Tryz.sizeOf54, Tryz.isAgg54⟩
theorem SA_39 : TA Tryz.prog 39 18 := ⟨Tryz.sizeOf39, Tryz.isAgg39⟩
theorem SA_98 : TA Tryz.prog 98 0 := ⟨Tryz.sizeOf98, Tryz.isAgg98⟩
set_option maxRecDepth 20000 in
theorem EQ_30 (a b : Dot) : EqF Tryz.prog 2 30 (.agg (dc a).toArray) (.agg (dc b).toArray) (decide (a = b)) := by
  rw [← dec_dot]
  exact EqF_struct Tryz.underlying30 Tryz.stoodInHeld30 (.cons (by decide) (PartF_one ⟨Tryz.sizeOf5, Tryz.isAgg5⟩ rfl) (PartF_one ⟨Tryz.sizeOf5, Tryz.isAgg5⟩ rfl) (EqF_int Tryz.runUnderlying5) (.cons (by decide) (PartF_one ⟨Tryz.sizeOf22, Tryz.isAgg22⟩ rfl) (PartF_one ⟨Tryz.sizeOf22, Tryz.isAgg22⟩ rfl) (EqF_int Tryz.runUnderlying22) .nil))
set_option maxRecDepth 20000 in
theorem BT_33 : Bt Tryz.prog 33 [(0, 2), (2, 1), (3, 1), (4, 1), (5, 1), (6, 1), (7, 16)] (oc (⟨(⟨0, 0⟩ : Dot), 0, 0, 0, 0, 0, vzero⟩ : Opn)) := Bt_struct Tryz.type33 rfl rfl Tryz.underlying33 (by kernel_rfl)
set_option maxRecDepth 20000 in
theorem BT_39 : Bt Tryz.prog 39 [(0, 16), (16, 1), (17, 1)] ((vc vzero) ++ [(.slice none 0 0 : Value), (.slice none 0 0 : Value) ]) := Bt_struct Tryz.type39 rfl rfl Tryz.underlying39 (by kernel_rfl)
set_option maxRecDepth 20000 in
theorem BT_59 : Bt Tryz.prog 59 [(0, 1), (1, 1), (2, 1), (3, 1), (4, 2), (6, 1)] (cec (⟨0, 0, 0, 0, (⟨0, 0⟩ : Dot), 0⟩ : Cen)) := Bt_struct Tryz.type59 rfl rfl Tryz.underlying59 (by kernel_rfl)
set_option maxRecDepth 20000 in
theorem BT_87 : Bt Tryz.prog 87 [(0, 1), (1, 1)] (lsc (⟨0, 0⟩ : Lst)) := Bt_struct Tryz.type87 rfl rfl Tryz.underlying87 (by kernel_rfl)
set_option maxRecDepth 20000 in
theorem BT_98 : Bt Tryz.prog 98 [] ([]) := Bt_struct Tryz.type98 rfl rfl Tryz.underlying98 (by kernel_rfl)
theorem EN_10 : En Tryz.prog 10 := Tryz.call10
theorem EN_27 : En Tryz.prog 27 := Tryz.call27
theorem EN_28 : En Tryz.prog 28 := Tryz.call28
theorem EN_29 : En Tryz.prog 29 := Tryz.call29
theorem EN_30 : En Tryz.prog 30 := Tryz.call30
theorem EN_31 : En Tryz.prog 31 := Tryz.call31
theorem EN_32 : En Tryz.prog 32 := Tryz.call32
theorem EN_34 : En Tryz.prog 34 := Tryz.call34
theorem EN_35 : En Tryz.prog 35 := Tryz.call35
theorem EN_36 : En Tryz.prog 36 := Tryz.call36
theorem EN_37 : En Tryz.prog 37 := Tryz.call37
theorem EN_45 : En Tryz.prog 45 := Tryz.call45
theorem EN_46 : En Tryz.prog 46 := Tryz.call46
theorem EN_57 : En Tryz.prog 57 := Tryz.call57
theorem EN_67 : En Tryz.prog 67 := Tryz.call67
theorem EN_71 : En Tryz.prog 71 := Tryz.call71
theorem EN_80 : En Tryz.prog 80 := Tryz.call80
theorem EN_82 : En Tryz.prog 82 := Tryz.call82
theorem EN_83 : En Tryz.prog 83 := Tryz.call83
theorem FA_39_0 : FA Tryz.prog 39 0 0 := fun b o w => by simp [Instr.fieldAt, Instr.sureAddr, fieldPlace, add_eq]
theorem FA_39_1 : FA Tryz.prog 39 1 16 := fun b o w => by simp [Instr.fieldAt, Instr.sureAddr, fieldPlace, add_eq]
theorem FA_39_2 : FA Tryz.prog 39 2 17 := fun b o w => by simp [Instr.fieldAt, Instr.sureAddr, fieldPlace, add_eq]
theorem FA_59_0 : FA Tryz.prog 59 0 0 := fun b o w => by simp [Instr.fieldAt, Instr.sureAddr, fieldPlace, add_eq]
theorem FA_59_1 : FA Tryz.prog 59 1 1 := fun b o w => by simp [Instr.fieldAt, Instr.sureAddr, fieldPlace, add_eq]
theorem FA_59_2 : FA Tryz.prog 59 2 2 := fun b o w => by simp [Instr.fieldAt, Instr.sureAddr, fieldPlace, add_eq]
theorem FA_59_3 : FA Tryz.prog 59 3 3 := fun b o w => by simp [Instr.fieldAt, Instr.sureAddr, fieldPlace, add_eq]
theorem FA_59_4 : FA Tryz.prog 59 4 4 := fun b o w => by simp [Instr.fieldAt, Instr.sureAddr, fieldPlace, add_eq]
theorem FA_59_5 : FA Tryz.prog 59 5 6 := fun b o w => by simp [Instr.fieldAt, Instr.sureAddr, fieldPlace, add_eq]
theorem FA_87_0 : FA Tryz.prog 87 0 0 := fun b o w => by simp [Instr.fieldAt, Instr.sureAddr, fieldPlace, add_eq]
theorem FA_87_1 : FA Tryz.prog 87 1 1 := fun b o w => by simp [Instr.fieldAt, Instr.sureAddr, fieldPlace, add_eq]
theorem FA_88_1 : FA Tryz.prog 88 1 1 := fun b o w => by simp [Instr.fieldAt, Instr.sureAddr, fieldPlace, add_eq]
theorem FA_88_2 : FA Tryz.prog 88 2 2 := fun b o w => by simp [Instr.fieldAt, Instr.sureAddr, fieldPlace, add_eq]
theorem FA_88_3 : FA Tryz.prog 88 3 3 := fun b o w => by simp [Instr.fieldAt, Instr.sureAddr, fieldPlace, add_eq]
set_option maxRecDepth 20000 in
theorem KO_30 : KeyOk Tryz.prog 30 dv := KeyOk_dot Tryz.underlying30 (by decide) (by decide) rfl rfl ⟨Tryz.sizeOf5, Tryz.isAgg5⟩ ⟨Tryz.sizeOf22, Tryz.isAgg22⟩ Tryz.runUnderlying5 Tryz.runUnderlying22 EQ_30
theorem UD_96 : Ud Tryz.prog 96 (.map 30 98) := Tryz.runUnderlying96
theorem ZV_33 : Zv Tryz.prog 33 (.agg (oc (⟨(⟨0, 0⟩ : Dot), 0, 0, 0, 0, 0, vzero⟩ : Opn)).toArray) := Tryz.zeroValue33
theorem ZV_39 : Zv Tryz.prog 39 (.agg ((vc vzero) ++ [(.slice none 0 0 : Value), (.slice none 0 0 : Value) ]).toArray) := Tryz.zeroValue39
theorem ZV_98 : Zv Tryz.prog 98 (.agg #[]) := Tryz.zeroValue98
end Tt
end Go.Proofs
namespace Go.Vx
def cv (e : Cen) : Value := .agg (cec e).toArray
def cz : Cen := ⟨0, 0, 0, 0, ⟨0, 0⟩, 0⟩
def dotsM (l : List Cen) : List (Dot × Cen) := l.foldl (fun m e => mput e.dot e m) []
theorem dotsM_snoc (l : List Cen) (e : Cen) : dotsM (l ++ [e]) = mput e.dot e (dotsM l) := by unfold dotsM; rw [List.foldl_append]; rfl
theorem dotsM_next {l : List Cen} {k : Nat} (hk : k < l.length) : dotsM (l.take (k + 1)) = mput (gd l k).dot (gd l k) (dotsM (l.take k)) := by rw [take_snoc hk, dotsM_snoc]
theorem dotsM_some (l : List Cen) (d : Dot) : (mget d (dotsM l)).isSome = l.any fun x => decide (x.dot = d) := by
  refine snoc_ind (motive := fun l => (mget d (dotsM l)).isSome = l.any fun x => decide (x.dot = d)) rfl (fun l e ih => ?_) l
  rw [dotsM_snoc, mget_put, List.any_append, ← ih]
  by_cases h : e.dot = d
  · subst h; simp
  · rw [if_neg (fun e2 => h e2.symm)]; simp [h]
theorem dotsM_mem {l : List Cen} {d : Dot} {y : Cen} : mget d (dotsM l) = some y → y ∈ l ∧ y.dot = d := by
  refine snoc_ind (motive := fun l => mget d (dotsM l) = some y → y ∈ l ∧ y.dot = d) (fun h => by cases h) (fun l e ih h => ?_) l
  rw [dotsM_snoc, mget_put] at h
  by_cases e2 : d = e.dot
  · rw [if_pos e2] at h
    cases h
    exact ⟨by simp, e2.symm⟩
  · rw [if_neg e2] at h
    have := ih h
    exact ⟨by simp [this.1], this.2⟩
def confB (b : Sta) (x : Cen) : Bool := b.ents.any fun y => decide (y.dot = x.dot) && !decide (y = x)
theorem conf_get {b : Sta} (hb : (b.ents.map (·.dot)).Nodup) (x : Cen) : ((mget x.dot (dotsM b.ents)).isSome && !decide ((mget x.dot (dotsM b.ents)).getD cz = x)) = confB b x := by
  cases hm : mget x.dot (dotsM b.ents) with
  | none =>
    have h1 := dotsM_some b.ents x.dot
    rw [hm] at h1
    have h2 : confB b x = false := by
      unfold confB
      rw [List.any_eq_false]
      intro y hy
      have h3 : (b.ents.any fun x_1 => decide (x_1.dot = x.dot)) = false := h1.symm
      rw [List.any_eq_false] at h3
      have := h3 y hy
      simp only [decide_eq_true_eq] at this
      simp [this]
    rw [h2]; rfl
  | some z =>
    obtain ⟨hz, hd⟩ := dotsM_mem hm
    show (true && !decide (z = x)) = confB b x
    unfold confB
    by_cases e : z = x
    · rw [decide_eq_true e]
      have : (b.ents.any fun y => decide (y.dot = x.dot) && !decide (y = x)) = false := by
        rw [List.any_eq_false]
        intro y hy
        by_cases h4 : y.dot = x.dot
        · have := uniq_map hb y hy z hz (h4.trans hd.symm)
          rw [this]; simp [e]
        · simp [h4]
      rw [this]; rfl
    · rw [decide_eq_false e]
      have : (b.ents.any fun y => decide (y.dot = x.dot) && !decide (y = x)) = true := List.any_eq_true.2 ⟨z, hz, by simp [hd, e]⟩
      rw [this]; rfl
def mergeI (a b : Sta) : Int := if (rightS a && rightS b) = false then 2 else if a.ents.any (confB b) = true then 5 else 0
def mergeR (a b : Sta) : Sta := if mergeI a b = 0 then mergeE a b else szero
theorem keepA_get (b : Sta) (x : Cen) : ((mget x.dot (dotsM b.ents)).isSome || !hasB b.known x.dot) = keepA b x := by unfold keepA; rw [dotsM_some]
theorem keepB_get (a : Sta) (x : Cen) : (!(mget x.dot (dotsM a.ents)).isSome && !hasB a.known x.dot) = keepB a x := by unfold keepB; rw [dotsM_some]
def srtE (l m : List Cen) : Prop := m.Perm l ∧ m.Pairwise fun x y => ¬ placeI y x < 0
theorem merge_nodup {a b : Sta} (ha : RightC a) (hb : RightC b) : ((a.ents.filter (keepA b) ++ b.ents.filter (keepB a)).map (·.dot)).Nodup := by
  rw [List.map_append, List.nodup_append]
  refine ⟨ha.nd.sublist (List.filter_sublist.map _), hb.nd.sublist (List.filter_sublist.map _), ?_⟩
  intro d hd e he h
  subst h
  obtain ⟨x, hx, rfl⟩ := List.mem_map.1 hd
  obtain ⟨y, hy, hxy⟩ := List.mem_map.1 he
  have hx1 := (List.mem_filter.1 hx).1
  have hy2 := (List.mem_filter.1 hy).2
  unfold keepB at hy2
  simp only [Bool.and_eq_true, Bool.not_eq_true', List.any_eq_false, decide_eq_true_eq] at hy2
  exact hy2.1 x hx1 hxy.symm
theorem srt_ris {m : List Cen} (hn : (m.map (·.dot)).Nodup) (h : m.Pairwise fun x y => ¬ placeI y x < 0) : RisE m := by
  refine List.pairwise_iff_getElem.2 fun i j hi hj hij => ?_
  have h1 := List.pairwise_iff_getElem.1 h i j hi hj hij
  have h2 := List.pairwise_iff_getElem.1 hn i j (by simpa using hi) (by simpa using hj) hij
  rw [List.getElem_map, List.getElem_map] at h2
  rcases ahead_total h2 with g | g
  · exact g
  · exact absurd ((place_lt _ _).2 g) h1
theorem srt_put {l m : List Cen} (hn : (l.map (·.dot)).Nodup) (h : srtE l m) : m = putAll l := by
  have hp := putAll_ok l hn
  have hm : (m.map (·.dot)).Nodup := (h.1.map _).nodup_iff.2 hn
  exact risE_eq (srt_ris hm h.2) hp.1 fun x => by rw [hp.2, h.1.mem_iff]
theorem ticksM_ris {s : List Lst} (hs : RisT s) : ∀ t : List Lst, RisT (ticksM s t) := by
  refine snoc_ind (motive := fun t => RisT (ticksM s t)) hs fun t x ih => ?_
  rw [ticksM_snoc]; exact risT_put ih
theorem ticksM_next {s t : List Lst} {k : Nat} (hk : k < t.length) : ticksM s (t.take (k + 1)) = putT (gd t k).cart (gd t k).tick (ticksM s (t.take k)) := by rw [take_snoc hk, ticksM_snoc]
theorem putT_len {c t : Int} : ∀ l : List Lst, (putT c t l).length ≤ l.length + 1
  | [] => by simp [putT]
  | x :: l => by
    unfold putT
    split
    · simp
    · split
      · simp
      · have := putT_len (c := c) (t := t) l; simp; omega
theorem ticksM_len {s : List Lst} : ∀ t : List Lst, (ticksM s t).length ≤ s.length + t.length := by
  refine snoc_ind (motive := fun t => (ticksM s t).length ≤ s.length + t.length) (Nat.le_refl _) fun t x ih => ?_
  rw [ticksM_snoc, List.length_append]
  have := putT_len (c := x.cart) (t := x.tick) (ticksM s t)
  simp; omega
theorem mergeR_eq {a b : Sta} {m : List Cen} (ha : RightC a) (hb : RightC b) (hc : a.ents.any (confB b) = false) (hm : srtE (a.ents.filter (keepA b) ++ b.ents.filter (keepB a)) m) : mergeI a b = 0 ∧ mergeR a b = ⟨vjoin a.known b.known, m, ticksM a.ticks b.ticks⟩ := by
  have h1 : mergeI a b = 0 := by unfold mergeI; rw [rightS_iff.2 ha, rightS_iff.2 hb, if_neg (by decide), if_neg (by rw [hc]; decide)]
  refine ⟨h1, ?_⟩
  unfold mergeR
  rw [if_pos h1, srt_put (merge_nodup ha hb) hm]; rfl
def ageI (a b : Cen) : Int := orI [cmpI a.count b.count, cmpI a.dot.rep b.dot.rep, cmpI a.dot.seq b.dot.seq]
theorem age_gt (a b : Cen) : decide (0 < ageI a b) = lessC b a := by
  rw [Bool.eq_iff_iff, decide_eq_true_iff, lessC_iff]
  unfold ageI orI cmpI
  rcases Int.lt_trichotomy a.count b.count with h | h | h
  · simp [h]; omega
  · rw [if_neg (by omega), if_neg (by omega)]
    rcases Int.lt_trichotomy a.dot.rep b.dot.rep with h2 | h2 | h2
    · simp [h, h2]; omega
    · rw [if_neg (by omega), if_neg (by omega)]
      rcases Int.lt_trichotomy a.dot.seq b.dot.seq with h3 | h3 | h3
      · simp [h, h2, h3]; omega
      · rw [if_neg (by omega), if_neg (by omega)]
        simp; omega
      · rw [if_neg (by omega), if_pos h3]
        simp; omega
    · rw [if_neg (by omega), if_pos h2]
      simp; omega
  · rw [if_neg (by omega), if_pos h]
    simp; omega
def setF (a e : Cen) : Cen := if e.kind = 1 then a else if lessC a e = true then e else a
theorem setF_best (l : List Cen) (h : ∀ e ∈ l, 1 ≤ e.count) : l.foldl setF cz = (bestE (l.filter fun e => !decide (e.kind = 1))).getD cz := by
  revert h
  refine snoc_ind (motive := fun l => (∀ e ∈ l, 1 ≤ e.count) → l.foldl setF cz = (bestE (l.filter fun e => !decide (e.kind = 1))).getD cz) (fun _ => rfl) (fun l e ih h => ?_) l
  have ih := ih fun x hx => h x (by simp [hx])
  have he := h e (by simp)
  rw [List.foldl_append, List.filter_append]
  show setF (l.foldl setF cz) e = _
  unfold setF
  by_cases hk : e.kind = 1
  · rw [if_pos hk]
    have : ([e].filter fun e => !decide (e.kind = 1)) = [] := by simp [hk]
    rw [this, List.append_nil]; exact ih
  · rw [if_neg hk]
    have : ([e].filter fun e => !decide (e.kind = 1)) = [e] := by simp [hk]
    rw [this, bestE_snoc]
    rw [show l.foldl (fun a e => if e.kind = 1 then a else if lessC a e = true then e else a) cz = l.foldl setF cz from rfl, ih]
    cases bestE (l.filter fun e => !decide (e.kind = 1)) with
    | none =>
      have : lessC cz e = true := by rw [lessC_iff]; left; show 0 < e.count; omega
      simp [this]
    | some y =>
      simp only [Option.getD_some]
      split <;> rfl
theorem sumE_snoc (l : List Cen) (e : Cen) : sumE (l ++ [e]) = if e.kind = 1 then (sumE l + e.qty) % 4294967296 else sumE l := by unfold sumE; rw [List.foldl_append]; rfl
theorem qtyL_set {l : List Cen} (h : ∀ e ∈ l, 1 ≤ e.count) : (sumE l + (l.foldl setF cz).qty) % 4294967296 = qtyL l := by
  unfold qtyL
  rw [setF_best l h]
  cases bestE (l.filter fun e => !decide (e.kind = 1)) <;> rfl
theorem setF_mem (l : List Cen) : l.foldl setF cz = cz ∨ l.foldl setF cz ∈ l := by
  refine snoc_ind (motive := fun l => l.foldl setF cz = cz ∨ l.foldl setF cz ∈ l) (.inl rfl) (fun l e ih => ?_) l
  rw [List.foldl_append]
  show setF (l.foldl setF cz) e = cz ∨ setF (l.foldl setF cz) e ∈ l ++ [e]
  unfold setF
  have key : l.foldl setF cz = cz ∨ l.foldl setF cz ∈ l ++ [e] := by rcases ih with h | h; exact .inl h; exact .inr (by simp [h])
  split
  · exact key
  · split
    · exact .inr (by simp)
    · exact key
def mineE (s : Sta) (c : Int) : List Cen := s.ents.filter fun e => decide (e.cart = c) && !decide (e.kind = 4)
def lineS (s : Sta) (c n : Int) : Line := ⟨n, qtyL (ofItem s c n)⟩
def Grps (Q R : List Cen) (I : List Int) : Prop := ∃ D, Q = D ++ R ∧ (∀ x ∈ D, ∀ y ∈ R, x.item < y.item) ∧ I.Pairwise (· < ·) ∧ ∀ i, i ∈ I ↔ ∃ x ∈ D, x.item = i
theorem grps_start (Q : List Cen) : Grps Q Q [] := ⟨[], by simp, by simp, List.Pairwise.nil, by simp⟩
theorem grps_step {Q R : List Cen} {I : List Int} {n : Nat} (h : Grps Q R I) (hs : SrtL (fun x y => cmpI x.item y.item) Q) (hn1 : 1 ≤ n) (hn : n ≤ R.length) (heq : ∀ j, j < n → (gd R j).item = (gd R 0).item) (hne : n = R.length ∨ (gd R n).item ≠ (gd R 0).item) :
    Grps Q (R.drop n) (I ++ [(gd R 0).item]) ∧ ∀ x, x ∈ R.take n ↔ x ∈ Q ∧ x.item = (gd R 0).item := by
  obtain ⟨D, hQ, hlt, hI, hm⟩ := h
  subst hQ
  have hR : SrtL (fun x y => cmpI x.item y.item) R := (srt_split hs).2.1
  have hle : ∀ i j, i ≤ j → j < R.length → (gd R i).item ≤ (gd R j).item := fun i j hij hj => by
    rcases Nat.lt_or_eq_of_le hij with g | g
    · have := srt_gd hR g hj
      rw [cmpI_neg] at this; omega
    · subst g; exact Int.le_refl _
  have htk : ∀ x ∈ R.take n, x.item = (gd R 0).item := fun x hx => by
    obtain ⟨j, hj, rfl⟩ := List.mem_take_iff_getElem.1 hx
    have := heq j (by omega)
    simpa [gd, show j < R.length by omega] using this
  have hdr : ∀ x ∈ R.drop n, (gd R 0).item < x.item := fun x hx => by
    obtain ⟨j, hj, rfl⟩ := mem_gd hx
    rw [List.length_drop] at hj
    have e : gd (R.drop n) j = gd R (n + j) := by simp [gd, List.getElem?_drop]
    rw [e]
    rcases hne with g | g
    · omega
    · have h1 := hle 0 n (Nat.zero_le _) (by omega)
      have h2 := hle n (n + j) (by omega) (by omega)
      omega
  have h0 : gd R 0 ∈ R := gd_mem (by omega)
  refine ⟨⟨D ++ R.take n, by rw [List.append_assoc, List.take_append_drop], ?_, ?_, ?_⟩, ?_⟩
  · intro x hx y hy
    rcases List.mem_append.1 hx with g | g
    · exact hlt x g y (List.mem_of_mem_drop hy)
    · rw [htk x g]; exact hdr y hy
  · rw [List.pairwise_append]
    refine ⟨hI, List.pairwise_singleton _ _, fun i hi j hj => ?_⟩
    rw [List.mem_singleton.1 hj]
    obtain ⟨x, hx, rfl⟩ := (hm i).1 hi
    exact hlt x hx _ h0
  · intro i
    rw [List.mem_append, hm, List.mem_singleton]
    constructor
    · rintro (⟨x, hx, e⟩ | e)
      · exact ⟨x, by simp [hx], e⟩
      · exact ⟨gd R 0, List.mem_append.2 (.inr (List.mem_take_iff_getElem.2 ⟨0, by omega, by simp [gd, show 0 < R.length by omega]⟩)), e.symm⟩
    · rintro ⟨x, hx, e⟩
      rcases List.mem_append.1 hx with g | g
      · exact .inl ⟨x, g, e⟩
      · exact .inr (by rw [← e]; exact htk x g)
  · intro x
    constructor
    · intro hx; exact ⟨List.mem_append.2 (.inr (List.mem_of_mem_take hx)), htk x hx⟩
    · rintro ⟨hx, e⟩
      rcases List.mem_append.1 hx with g | g
      · have := hlt x g _ h0; omega
      · rw [← List.take_append_drop n R] at g
        rcases List.mem_append.1 g with g | g
        · exact g
        · have := hdr x g; omega
theorem ris_uniq {l m : List Int} (hl : l.Pairwise (· < ·)) (hm : m.Pairwise (· < ·)) (h : ∀ x, x ∈ l ↔ x ∈ m) : l = m := by
  have hp : l.Perm m := (List.perm_ext_iff_of_nodup (hl.imp fun h => by omega) (hm.imp fun h => by omega)).2 h
  exact hp.eq_of_pairwise (le := fun a b => a ≤ b) (fun a b _ _ h1 h2 => Int.le_antisymm h1 h2) (hl.imp fun h => Int.le_of_lt h) (hm.imp fun h => Int.le_of_lt h)
theorem grps_end {s : Sta} {c : Int} {Q : List Cen} {I : List Int} (hp : Q.Perm (mineE s c)) (h : Grps Q [] I) : I.map (lineS s c) = (viewS s c).lines := by
  obtain ⟨D, hQ, _, hI, hm⟩ := h
  rw [List.append_nil] at hQ
  subst hQ
  have ho := once_ok (itemsE s c)
  have : I = onceI (itemsE s c) := ris_uniq hI ho.1 fun i => by
    rw [hm, ho.2]
    unfold itemsE
    rw [List.mem_map]
    constructor
    · rintro ⟨x, hx, e⟩; exact ⟨x, hp.mem_iff.1 hx, e⟩
    · rintro ⟨x, hx, e⟩; exact ⟨x, hp.mem_iff.2 hx, e⟩
  rw [this]; rfl
theorem grp_line {s : Sta} {c : Int} {Q G : List Cen} {n : Int} (hr : RightC s) (hp : Q.Perm (mineE s c)) (hG : G.Sublist Q) (hm : ∀ x, x ∈ G ↔ x ∈ Q ∧ x.item = n) : qtyL G = qtyL (ofItem s c n) := by
  have hQ : (Q.map (·.dot)).Nodup := (hp.map _).nodup_iff.2 (hr.nd.sublist (List.filter_sublist.map _))
  refine qtyL_ext (hQ.sublist (hG.map _)) (hr.nd.sublist (List.filter_sublist.map _)) fun x => ?_
  rw [hm, hp.mem_iff]
  unfold mineE ofItem
  rw [List.mem_filter, List.mem_filter]
  simp only [Bool.and_eq_true, decide_eq_true_eq]
  constructor
  · rintro ⟨⟨a, b, c⟩, d⟩; exact ⟨a, b, d, c⟩
  · rintro ⟨a, b, d, c⟩; exact ⟨⟨a, b, c⟩, d⟩
end Go.Vx
namespace Go.Vx
open Go.RowKit
def mOf : Value → Nat
  | .map (some r) => r
  | _ => 0
section
variable {P : Program} {ty : TypeId} {e : Operand → Value} {w : World} {K : Value → World → Prop}
theorem L_lookupOkV {κ ν : Type} [DecidableEq κ] {ke : κ → Value} {ve : ν → Value} {l : List (κ × ν)} {r kt el t : Nat} {x y : Operand} {z : ν} {k : κ} (ht : Ud P t (.map kt el)) (hk : KeyOk P kt ke) (hz : Zv P el (ve z)) (hm : MapF w r ke ve l) (hx : e x = .map (some r)) (hy : e y = ke k)
    (h : K (.tuple #[ve ((mget k l).getD z), .bool (mget k l).isSome]) w) : opW P (.lookup t x y true) ty e w K := by
  refine L_lookupOk (k := k) ht hk hz hm hx hy ?_
  cases hg : mget k l with
  | none => rw [hg] at h; exact h
  | some v => rw [hg] at h; exact h
end
section
variable {α : Type} [Inhabited α] {l X out : List α} {p : α → Bool} {k : Nat}
theorem filt_nextA_yes (h : out = X ++ (l.take k).filter p) (hk : k < l.length) (hp : p (gd l k) = true) : out ++ [gd l k] = X ++ (l.take (k + 1)).filter p := by
  rw [take_gd hk, List.filter_append, h, List.append_assoc]; simp [hp]
theorem filt_nextA_no (h : out = X ++ (l.take k).filter p) (hk : k < l.length) (hp : p (gd l k) = false) : out = X ++ (l.take (k + 1)).filter p := by
  rw [take_gd hk, List.filter_append, h]; simp [hp]
end
theorem conf_none {b : Sta} {l : List Cen} (h : ∀ j : Nat, j < l.length → confB b (gd l j) = false) : l.any (confB b) = false := by
  rw [List.any_eq_false]
  intro x hx
  obtain ⟨j, hj, rfl⟩ := mem_gd hx
  rw [h j hj]; decide
theorem conf_some {b : Sta} {l : List Cen} {k : Nat} (hk : k < l.length) (h : confB b (gd l k) = true) : l.any (confB b) = true := List.any_eq_true.2 ⟨_, gd_mem hk, h⟩
theorem mergeR_no {a b : Sta} (h : (rightS a && rightS b) = false) : mergeI a b = 2 ∧ mergeR a b = szero := by
  have h1 : mergeI a b = 2 := by unfold mergeI; rw [if_pos h]
  exact ⟨h1, by unfold mergeR; rw [h1, if_neg (by decide)]⟩
theorem mergeR_conf {a b : Sta} (ha : rightS a = true) (hb : rightS b = true) (h : a.ents.any (confB b) = true) : mergeI a b = 5 ∧ mergeR a b = szero := by
  have h1 : mergeI a b = 5 := by unfold mergeI; rw [ha, hb, if_neg (by decide), if_pos h]
  exact ⟨h1, by unfold mergeR; rw [h1, if_neg (by decide)]⟩
theorem mergeR_len {a b : Sta} {m : List Cen} (ha : RightC a) (hb : RightC b) (hc : a.ents.any (confB b) = false) (hm : srtE (a.ents.filter (keepA b) ++ b.ents.filter (keepB a)) m) {L : List Cen} (hL : L = a.ents.filter (keepA b) ++ b.ents.filter (keepB a)) : L.length = (mergeR a b).ents.length := by
  rw [(mergeR_eq ha hb hc hm).2, hL]; exact hm.1.length_eq.symm
end Go.Vx
namespace Go.Proofs
open Go Go.Vx Go.RowKit
namespace Tt
set_option maxRecDepth 20000 in
theorem EQ_59 (a b : Cen) : EqF Tryz.prog 3 59 (.agg (cec a).toArray) (.agg (cec b).toArray) (decide (a = b)) := by
  rw [← dec_cen]
  exact EqF_struct (D := 2) Tryz.underlying59 Tryz.stoodInHeld59 (.cons (by decide) (PartF_one ⟨Tryz.sizeOf31, Tryz.isAgg31⟩ rfl) (PartF_one ⟨Tryz.sizeOf31, Tryz.isAgg31⟩ rfl) ((EqF_int Tryz.runUnderlying31).up (by decide)) (.cons (by decide) (PartF_one ⟨Tryz.sizeOf31, Tryz.isAgg31⟩ rfl) (PartF_one ⟨Tryz.sizeOf31, Tryz.isAgg31⟩ rfl) ((EqF_int Tryz.runUnderlying31).up (by decide)) (.cons (by decide) (PartF_one ⟨Tryz.sizeOf31, Tryz.isAgg31⟩ rfl) (PartF_one ⟨Tryz.sizeOf31, Tryz.isAgg31⟩ rfl) ((EqF_int Tryz.runUnderlying31).up (by decide)) (.cons (by decide) (PartF_one ⟨Tryz.sizeOf5, Tryz.isAgg5⟩ rfl) (PartF_one ⟨Tryz.sizeOf5, Tryz.isAgg5⟩ rfl) ((EqF_int Tryz.runUnderlying5).up (by decide)) (.cons (by decide) (PartF_agg SA_30 rfl rfl) (PartF_agg SA_30 rfl rfl) ((EQ_30 _ _).up (by decide)) (.cons (by decide) (PartF_one ⟨Tryz.sizeOf54, Tryz.isAgg54⟩ rfl) (PartF_one ⟨Tryz.sizeOf54, Tryz.isAgg54⟩ rfl) ((EqF_int Tryz.runUnderlying54).up (by decide)) .nil))))))
theorem EN_26 : En Tryz.prog 26 := Tryz.call26
theorem EN_65 : En Tryz.prog 65 := Tryz.call65
theorem EN_68 : En Tryz.prog 68 := Tryz.call68
theorem UD_119 : Ud Tryz.prog 119 (.map 30 59) := Tryz.runUnderlying119
end Tt
end Go.Proofs
namespace Go.Vx
theorem sumE_yes {l : List Cen} {k : Nat} {s : Int} (h : s = sumE (l.take k)) (hk : k < l.length) (hy : (gd l k).kind = 1) : (s + (gd l k).qty) % 4294967296 = sumE (l.take (k + 1)) := by rw [take_snoc hk, sumE_snoc, if_pos hy, h]
theorem sumE_no {l : List Cen} {k : Nat} {s : Int} (h : s = sumE (l.take k)) (hk : k < l.length) (hn : ¬ (gd l k).kind = 1) : s = sumE (l.take (k + 1)) := by rw [take_snoc hk, sumE_snoc, if_neg hn, h]
theorem setF_next {l : List Cen} {k : Nat} {t : Cen} (h : t = (l.take k).foldl setF cz) (hk : k < l.length) : setF t (gd l k) = (l.take (k + 1)).foldl setF cz := by rw [take_snoc hk, List.foldl_append, ← h]; rfl
theorem setF_kind {t e : Cen} (h : e.kind = 1) : setF t e = t := by unfold setF; rw [if_pos h]
theorem setF_yes {t e : Cen} (h : ¬ e.kind = 1) (g : lessC t e = true) : setF t e = e := by unfold setF; rw [if_neg h, if_pos g]
theorem setF_no {t e : Cen} (h : ¬ e.kind = 1) (g : lessC t e = false) : setF t e = t := by unfold setF; rw [if_neg h, if_neg (by rw [g]; decide)]
theorem setF_qty {l : List Cen} (h : ∀ e ∈ l, CenOk e) : 0 ≤ (l.foldl setF cz).qty ∧ (l.foldl setF cz).qty < 65536 := by
  rcases setF_mem l with g | g
  · rw [g]; exact ⟨Int.le_refl _, by decide⟩
  · exact (h _ g).2.2.1
theorem anyT_next {α : Type} [Inhabited α] {l : List α} {p : α → Bool} {k : Nat} {b : Bool} (h : b = (l.take k).any p) (hk : k < l.length) : (b || p (gd l k)) = (l.take (k + 1)).any p := by
  rw [take_snoc hk, List.any_append, ← h]; simp
theorem grp_all {s : Sta} {c : Int} {Q R : List Cen} {I : List Int} {n : Nat} (hr : RightC s) (hp : Q.Perm (mineE s c)) (h : Grps Q R I) (hs : SrtL (fun x y => cmpI x.item y.item) Q) (hn1 : 1 ≤ n) (hn : n ≤ R.length) (heq : ∀ j, j < n → (gd R j).item = (gd R 0).item) (hne : n = R.length ∨ (gd R n).item ≠ (gd R 0).item) :
    Grps Q (R.drop n) (I ++ [(gd R 0).item]) ∧ lineS s c (gd R 0).item = ⟨(gd R 0).item, qtyL (R.take n)⟩ := by
  obtain ⟨h1, h2⟩ := grps_step h hs hn1 hn heq hne
  obtain ⟨D, hQ, _⟩ := h
  refine ⟨h1, ?_⟩
  unfold lineS
  rw [grp_line hr hp (by rw [hQ]; exact (List.take_sublist _ _).trans (List.sublist_append_right _ _)) h2]
theorem grps_sub {Q R : List Cen} {I : List Int} (h : Grps Q R I) : ∀ x ∈ R, x ∈ Q := by
  obtain ⟨D, hQ, _⟩ := h
  intro x hx; rw [hQ]; exact List.mem_append_right _ hx
theorem line_step {s : Sta} {c i : Int} {I : List Int} {o : List Line} {x : Line} (h : o = I.map (lineS s c)) (hx : lineS s c i = x) : o ++ [x] = (I ++ [i]).map (lineS s c) := by rw [List.map_append, ← h, List.map_singleton, hx]
theorem view_of {s : Sta} {c tk : Int} {ob : Bool} {o : List Line} {Q R : List Cen} {I : List Int} (hrt : rightS s = true) (htk : tk = (tickP s.ticks c).getD 0) (hob : ob = s.ents.any fun e => decide (e.cart = c) && decide (e.kind = 4)) (hp : Q.Perm (mineE s c)) (h : Grps Q R I) (hR : R.length = 0) (ho : o = I.map (lineS s c)) : viewC s c (rightS s) = ⟨c, o, ob, tk⟩ := by
  have : R = [] := List.length_eq_zero_iff.1 hR
  subst this
  unfold viewC
  rw [if_pos hrt, ho, grps_end hp h, hob, htk]; rfl
theorem tick_no {ts : List Lst} {c : Int} (h : (tickP ts c).isSome = false) : (0 : Int) = (tickP ts c).getD 0 := by
  cases hq : tickP ts c with
  | none => rfl
  | some v => rw [hq] at h; cases h
theorem mine_ent {s : Sta} {c : Int} {x : Cen} (hr : RightC s) (h : x ∈ mineE s c) : x ∈ s.ents ∧ 1 ≤ x.count := by
  have h1 := (List.mem_filter.1 h).1
  have h2 := hr.ent x h1
  unfold entB at h2
  simp only [Bool.and_eq_true, decide_eq_true_eq] at h2
  exact ⟨h1, h2.1.2⟩
def cartsS (s : Sta) : List Int := if rightS s = true then s.ticks.map (·.cart) else []
end Go.Vx
namespace Go.Proofs
open Go Go.Vx Go.RowKit
namespace Tt
theorem S1_4 : T1 Tryz.prog 4 := ⟨Tryz.sizeOf4, Tryz.isAgg4⟩
theorem S1_62 : T1 Tryz.prog 62 := ⟨Tryz.sizeOf62, Tryz.isAgg62⟩
theorem SA_64 : TA Tryz.prog 64 4 := ⟨Tryz.sizeOf64, Tryz.isAgg64⟩
theorem SA_74 : TA Tryz.prog 74 2 := ⟨Tryz.sizeOf74, Tryz.isAgg74⟩
set_option maxRecDepth 20000 in
theorem BT_64 : Bt Tryz.prog 64 [(0, 1), (1, 1), (2, 1), (3, 1)] ([.int .u16 0, .slice none 0 0, .bool false, .int .u32 0]) := Bt_struct Tryz.type64 rfl rfl Tryz.underlying64 (by kernel_rfl)
set_option maxRecDepth 20000 in
theorem BT_74 : Bt Tryz.prog 74 [(0, 1), (1, 1)] (lc (⟨0, 0⟩ : Line)) := Bt_struct Tryz.type74 rfl rfl Tryz.underlying74 (by kernel_rfl)
set_option maxRecDepth 20000 in
theorem EL_62 : El Tryz.prog 62 74 2 8 := ⟨Tryz.underlying62, _, _, Tryz.type74, rfl, rfl, rfl, rfl, by decide⟩
set_option maxRecDepth 20000 in
theorem EL_68 : El Tryz.prog 68 31 1 2 := ⟨Tryz.underlying68, _, _, Tryz.type31, rfl, rfl, rfl, rfl, by decide⟩
theorem EN_55 : En Tryz.prog 55 := Tryz.call55
theorem EN_56 : En Tryz.prog 56 := Tryz.call56
theorem EN_58 : En Tryz.prog 58 := Tryz.call58
theorem EN_92 : En Tryz.prog 92 := Tryz.call92
theorem FA_64_1 : FA Tryz.prog 64 1 1 := fun b o w => by simp [Instr.fieldAt, Instr.sureAddr, fieldPlace, add_eq]
theorem FA_64_2 : FA Tryz.prog 64 2 2 := fun b o w => by simp [Instr.fieldAt, Instr.sureAddr, fieldPlace, add_eq]
theorem FA_64_3 : FA Tryz.prog 64 3 3 := fun b o w => by simp [Instr.fieldAt, Instr.sureAddr, fieldPlace, add_eq]
theorem UD_31 : Ud Tryz.prog 31 (.int .u16) := Tryz.runUnderlying31
theorem ZV_64 : Zv Tryz.prog 64 (.agg #[.int .u16 0, .slice none 0 0, .bool false, .int .u32 0]) := Tryz.zeroValue64
theorem ZV_74 : Zv Tryz.prog 74 (.agg (lc (⟨0, 0⟩ : Line)).toArray) := Tryz.zeroValue74
end Tt
end Go.Proofs
namespace Go.Vx
theorem Own.put2 {w0 w : World} {M : Nat → Prop} {L : List Res} {R Q : Res} (h : Own w0 M w (L ++ [R, Q])) (k j : Nat) (hk : k < L.length) (hj : j < L.length) : Own w0 M w ((L.set j Q).set k R) := by
  have h1 : Own w0 M w ((L ++ [R]) ++ [Q]) := by rw [List.append_assoc]; exact h
  have h2 := h1.put j (by rw [List.length_append]; omega)
  rw [List.set_append, if_pos hj] at h2
  exact h2.put k (by rw [List.length_set]; exact hk)
section
variable {α : Type} [Inhabited α] {l m : List α}
theorem eqG_step {k : Nat} (h : ∀ j : Nat, j < k → gd l j = gd m j) (hk : gd l k = gd m k) : ∀ j : Nat, j < k + 1 → gd l j = gd m j := by
  intro j hj
  by_cases e : j = k
  · subst e; exact hk
  · exact h j (by omega)
theorem sameG_yes (hn : l.length = m.length) (h : ∀ j : Nat, j < l.length → gd l j = gd m j) : l = m := by
  apply List.ext_getElem hn
  intro j h1 h2
  have := h j h1
  simpa [gd, h1, h2] using this
end
theorem Seq.take {l : List Opn} (h : Seq l) : ∀ k, Seq (l.take k) := by
  induction h with
  | nil => intro k; rw [List.take_nil]; exact .nil
  | @snoc l o h1 h2 h3 h4 h5 h6 ih =>
    intro k
    rcases Nat.lt_or_ge l.length k with q | q
    · rw [List.take_of_length_le (by rw [List.length_append, List.length_singleton]; omega)]; exact .snoc h1 h2 h3 h4 h5 h6
    · rw [List.take_append_of_le_length q]; exact ih k
theorem putE_len {e : Cen} : ∀ {l : List Cen}, (putE e l).length = l.length + 1
  | [] => rfl
  | x :: l => by
    unfold putE; split
    · rfl
    · rw [List.length_cons, putE_len]; rfl
theorem applyE_len (s : Sta) (o : Opn) : (applyE s o).ents.length ≤ s.ents.length + 1 ∧ (applyE s o).ticks.length ≤ s.ticks.length + 1 := by
  have h1 := List.length_filter_le (fun e => !endsB o (laidO e)) s.ents
  refine ⟨?_, putT_len s.ticks⟩
  unfold applyE
  dsimp only
  split
  · rw [putE_len]; omega
  · omega
theorem putT_ok {c t : Int} (h : LstOk ⟨c, t⟩) : ∀ {l : List Lst}, (∀ x ∈ l, LstOk x) → ∀ x ∈ putT c t l, LstOk x
  | [], _, x, hx => by simp [putT] at hx; subst hx; exact h
  | y :: l, hl, x, hx => by
    have hy := hl y (by simp)
    have hl' : ∀ x ∈ l, LstOk x := fun z hz => hl z (by simp [hz])
    unfold putT at hx
    split at hx
    · rcases List.mem_cons.1 hx with g | g
      · subst g
        obtain ⟨h1, h2, h3⟩ := h
        obtain ⟨k1, k2, k3⟩ := hy
        dsimp only at h1 h2 h3
        exact ⟨h1, by show 0 ≤ max y.tick t; omega, by show max y.tick t < _; omega⟩
      · exact hl' x g
    · split at hx
      · rcases List.mem_cons.1 hx with g | g
        · subst g; exact h
        · exact hl x g
      · rcases List.mem_cons.1 hx with g | g
        · subst g; exact hy
        · exact putT_ok h hl' x g
theorem entO_ok {o : Opn} (h : OpnOk o) : CenOk (entO o) := by
  obtain ⟨h1, h2, h3, h4, h5, h6, h7⟩ := h
  have := vsum_bd h7
  exact ⟨h3, h4, h5, h2, h1, by show 0 ≤ cntO o; unfold cntO; omega, by show cntO o < _; unfold cntO; omega⟩
theorem applyE_ok {s : Sta} {o : Opn} (hs : StaOk s) (ho : OpnOk o) : StaOk (applyE s o) := by
  obtain ⟨h1, h2, h3⟩ := hs
  refine ⟨?_, ?_, ?_⟩
  · exact vset_ok h1 _ ho.1.2.1 ho.1.2.2
  · intro e he
    unfold applyE at he
    dsimp only at he
    split at he
    · rcases mem_putE.1 he with g | g
      · subst g; exact entO_ok ho
      · exact h2 e (List.mem_filter.1 g).1
    · exact h2 e (List.mem_filter.1 he).1
  · intro x hx
    exact putT_ok ⟨ho.2.2.1, ho.2.2.2.2.2.1⟩ h3 x hx
theorem szero_ok : StaOk szero := ⟨vzero_ok, (fun _ h => by cases h), (fun _ h => by cases h)⟩
theorem applyR_ok {s : Sta} {o : Opn} (hs : StaOk s) (ho : OpnOk o) : StaOk (applyR s o) := by
  unfold applyR; split
  · exact applyE_ok hs ho
  · exact szero_ok
theorem Seq.ok {l : List Opn} (h : Seq l) : StaOk (allE l) := by
  induction h with
  | nil => exact szero_ok
  | snoc h1 h2 h3 h4 h5 h6 ih => rw [allE_snoc]; exact applyE_ok ih h2
end Go.Vx
namespace Go.Proofs
open Go Go.Vx Go.RowKit
namespace Tt
theorem EN_38 : En Tryz.prog 38 := Tryz.call38
theorem EN_7 : En Tryz.prog 7 := Tryz.call7
theorem UD_62 : Ud Tryz.prog 62 (.slice 74) := Tryz.runUnderlying62
theorem UD_68 : Ud Tryz.prog 68 (.slice 31) := Tryz.runUnderlying68
theorem UDR_4 : Tryz.prog.underlying 4 = some (.bool) := Tryz.underlying4
end Tt
end Go.Proofs
namespace Go.Vx
def alO1 : Opn := ⟨⟨0, 1⟩, 1, 3, 4, 2, 5, vzero⟩
def alO2 : Opn := ⟨⟨0, 2⟩, 3, 3, 4, 0, 6, vset vzero 0 1⟩
def alS1 : Sta := ⟨vset vzero 0 1, [⟨3, 4, 2, 1, ⟨0, 1⟩, 1⟩], [⟨3, 5⟩]⟩
def alS2 : Sta := ⟨vset (vset vzero 0 1) 0 2, [], [⟨3, 6⟩]⟩
theorem alO1_ok : OpnOk alO1 := by
  refine ⟨⟨⟨by decide, by decide⟩, by decide, by decide⟩, ⟨by decide, by decide⟩, ⟨by decide, by decide⟩, ⟨by decide, by decide⟩, ⟨by decide, by decide⟩, ⟨by decide, by decide⟩, vzero_ok⟩
theorem alO2_ok : OpnOk alO2 := by
  refine ⟨⟨⟨by decide, by decide⟩, by decide, by decide⟩, ⟨by decide, by decide⟩, ⟨by decide, by decide⟩, ⟨by decide, by decide⟩, ⟨by decide, by decide⟩, ⟨by decide, by decide⟩, vset_ok vzero_ok _ (by decide) (by decide)⟩
theorem al1I : applyI (⟨vzero, [], []⟩ : Sta) alO1 = 0 := by decide +kernel
theorem al1R : applyR (⟨vzero, [], []⟩ : Sta) alO1 = alS1 := by
  unfold applyR; rw [if_pos al1I]; rfl
theorem al2I : applyI alS1 alO2 = 0 := by decide +kernel
theorem al2R : applyR alS1 alO2 = alS2 := by
  unfold applyR; rw [if_pos al2I]; rfl
theorem alS1_ok : StaOk alS1 := by rw [← al1R]; exact applyR_ok szero_ok alO1_ok
theorem alS2_ok : StaOk alS2 := by rw [← al2R]; exact applyR_ok alS1_ok alO2_ok
theorem al3I : mergeI alS1 alS2 = 0 := by decide +kernel
theorem al3E : (mergeR alS1 alS2).ents.length = 0 := by
  unfold mergeR; rw [if_pos al3I]; decide +kernel
theorem alV1 : viewC alS1 3 (rightS alS1) = ⟨3, [(⟨4, 2⟩ : Line)], false, 5⟩ := by
  have h1 : rightS alS1 = true := by decide +kernel
  rw [h1]
  show viewS alS1 3 = _
  unfold viewS
  have h2 : onceI (itemsE alS1 3) = [4] := by
    have h := once_ok (itemsE alS1 3)
    refine ris_uniq h.1 (List.pairwise_singleton _ _) fun x => ?_
    rw [h.2]; rfl
  rw [h2]; rfl
theorem alV2 : viewC alS2 3 (rightS alS2) = ⟨3, ([] : List Line), false, 6⟩ := by
  have h1 : rightS alS2 = true := by decide +kernel
  rw [h1]
  show viewS alS2 3 = _
  unfold viewS
  have h2 : onceI (itemsE alS2 3) = [] := by
    have h := once_ok (itemsE alS2 3)
    refine ris_uniq h.1 List.Pairwise.nil fun x => ?_
    rw [h.2]; rfl
  rw [h2]; rfl
end Go.Vx
namespace Go.Proofs
open Go Go.Vx Go.RowKit
namespace Tt
set_option maxRecDepth 20000 in
theorem BT_24 : Bt Tryz.prog 24 [(0, 1), (1, 1), (2, 1), (3, 1), (4, 1), (5, 1), (6, 1), (7, 1), (8, 1), (9, 1), (10, 1), (11, 1), (12, 1), (13, 1), (14, 1), (15, 1)] (vc vzero) := Bt_array Tryz.type24 rfl rfl Tryz.underlying24 Tryz.type22 rfl (k := 1) rfl
set_option maxRecDepth 20000 in
theorem BT_30 : Bt Tryz.prog 30 [(0, 1), (1, 1)] (dc (⟨0, 0⟩ : Dot)) := Bt_struct Tryz.type30 rfl rfl Tryz.underlying30 (by kernel_rfl)
theorem EN_20 : En Tryz.prog 20 := Tryz.call20
theorem EN_24 : En Tryz.prog 24 := Tryz.call24
theorem FA_74_1 : FA Tryz.prog 74 1 1 := fun b o w => by simp [Instr.fieldAt, Instr.sureAddr, fieldPlace, add_eq]
end Tt
end Go.Proofs
namespace Go.Proofs
open Go Go.Vx Go.RowKit
namespace Tt
theorem S1_25 : T1 Tryz.prog 25 := ⟨Tryz.sizeOf25, Tryz.isAgg25⟩
theorem S1_26 : T1 Tryz.prog 26 := ⟨Tryz.sizeOf26, Tryz.isAgg26⟩
theorem SA_28 : TA Tryz.prog 28 18 := ⟨Tryz.sizeOf28, Tryz.isAgg28⟩
theorem SA_88 : TA Tryz.prog 88 7 := ⟨Tryz.sizeOf88, Tryz.isAgg88⟩
theorem SA_89 : TA Tryz.prog 89 2 := ⟨Tryz.sizeOf89, Tryz.isAgg89⟩
set_option maxRecDepth 20000 in
theorem EQ_89 (a b : Lst) : EqF Tryz.prog 2 89 (.agg (lsc a).toArray) (.agg (lsc b).toArray) (decide (a = b)) := by
  rw [← dec_lst]
  exact EqF_struct (D := 1) Tryz.underlying89 Tryz.stoodInHeld89 (.cons (by decide) (PartF_one ⟨Tryz.sizeOf31, Tryz.isAgg31⟩ rfl) (PartF_one ⟨Tryz.sizeOf31, Tryz.isAgg31⟩ rfl) ((EqF_int Tryz.runUnderlying31).up (by decide)) (.cons (by decide) (PartF_one ⟨Tryz.sizeOf22, Tryz.isAgg22⟩ rfl) (PartF_one ⟨Tryz.sizeOf22, Tryz.isAgg22⟩ rfl) ((EqF_int Tryz.runUnderlying22).up (by decide)) .nil))
set_option maxRecDepth 20000 in
theorem EQ_88 (a b : Cen) : EqF Tryz.prog 3 88 (.agg (cec a).toArray) (.agg (cec b).toArray) (decide (a = b)) := by
  rw [← dec_cen]
  exact EqF_struct (D := 2) Tryz.underlying88 Tryz.stoodInHeld88 (.cons (by decide) (PartF_one ⟨Tryz.sizeOf31, Tryz.isAgg31⟩ rfl) (PartF_one ⟨Tryz.sizeOf31, Tryz.isAgg31⟩ rfl) ((EqF_int Tryz.runUnderlying31).up (by decide)) (.cons (by decide) (PartF_one ⟨Tryz.sizeOf31, Tryz.isAgg31⟩ rfl) (PartF_one ⟨Tryz.sizeOf31, Tryz.isAgg31⟩ rfl) ((EqF_int Tryz.runUnderlying31).up (by decide)) (.cons (by decide) (PartF_one ⟨Tryz.sizeOf31, Tryz.isAgg31⟩ rfl) (PartF_one ⟨Tryz.sizeOf31, Tryz.isAgg31⟩ rfl) ((EqF_int Tryz.runUnderlying31).up (by decide)) (.cons (by decide) (PartF_one ⟨Tryz.sizeOf5, Tryz.isAgg5⟩ rfl) (PartF_one ⟨Tryz.sizeOf5, Tryz.isAgg5⟩ rfl) ((EqF_int Tryz.runUnderlying5).up (by decide)) (.cons (by decide) (PartF_agg SA_30 rfl rfl) (PartF_agg SA_30 rfl rfl) ((EQ_30 _ _).up (by decide)) (.cons (by decide) (PartF_one ⟨Tryz.sizeOf54, Tryz.isAgg54⟩ rfl) (PartF_one ⟨Tryz.sizeOf54, Tryz.isAgg54⟩ rfl) ((EqF_int Tryz.runUnderlying54).up (by decide)) .nil))))))
set_option maxRecDepth 20000 in
theorem BT_28 : Bt Tryz.prog 28 [(0, 16), (16, 1), (17, 1)] ((vc vzero) ++ [(.slice none 0 0 : Value), (.slice none 0 0 : Value) ]) := Bt_struct Tryz.type28 rfl rfl Tryz.underlying28 (by kernel_rfl)
set_option maxRecDepth 20000 in
theorem EL_25 : El Tryz.prog 25 88 7 24 := ⟨Tryz.underlying25, _, _, Tryz.type88, rfl, rfl, rfl, rfl, by decide⟩
set_option maxRecDepth 20000 in
theorem EL_26 : El Tryz.prog 26 89 2 8 := ⟨Tryz.underlying26, _, _, Tryz.type89, rfl, rfl, rfl, rfl, by decide⟩
theorem FA_28_0 : FA Tryz.prog 28 0 0 := fun b o w => by simp [Instr.fieldAt, Instr.sureAddr, fieldPlace, add_eq]
theorem FA_28_1 : FA Tryz.prog 28 1 16 := fun b o w => by simp [Instr.fieldAt, Instr.sureAddr, fieldPlace, add_eq]
theorem FA_28_2 : FA Tryz.prog 28 2 17 := fun b o w => by simp [Instr.fieldAt, Instr.sureAddr, fieldPlace, add_eq]
theorem UD_25 : Ud Tryz.prog 25 (.slice 88) := Tryz.runUnderlying25
theorem UD_26 : Ud Tryz.prog 26 (.slice 89) := Tryz.runUnderlying26
theorem ZV_28 : Zv Tryz.prog 28 (.agg ((vc vzero) ++ [(.slice none 0 0 : Value), (.slice none 0 0 : Value) ]).toArray) := Tryz.zeroValue28
theorem ZV_88 : Zv Tryz.prog 88 (.agg (cec (⟨0, 0, 0, 0, (⟨0, 0⟩ : Dot), 0⟩ : Cen)).toArray) := Tryz.zeroValue88
theorem ZV_89 : Zv Tryz.prog 89 (.agg (lsc (⟨0, 0⟩ : Lst)).toArray) := Tryz.zeroValue89
end Tt
end Go.Proofs
namespace Go.Vx
open Go.RowKit Go.ChangeShapes Go.WideShapes Go.ChangeAt
theorem O_opn {P : Program} {t td tv : TypeId} {f0 f1 f2 f3 f4 f5 f6 : Field} (ht : P.underlying t = some (.struct #[f0, f1, f2, f3, f4, f5, f6]))
    (hoff : [f0.offset, f1.offset, f2.offset, f3.offset, f4.offset, f5.offset, f6.offset] = [0, 2, 3, 4, 5, 6, 7])
    (hty : [f0.type, f6.type] = [td, tv])
    (hD : OpenT P td dc DotOk) (hV : OpenT P tv vc VecOk)
    (u1 : P.underlying f1.type = some (.int .u8)) (u2 : P.underlying f2.type = some (.int .u16)) (u3 : P.underlying f3.type = some (.int .u16)) (u4 : P.underlying f4.type = some (.int .u16)) (u5 : P.underlying f5.type = some (.int .u32))
    (hc : [P.cellsOf f0.type, P.cellsOf f1.type, P.cellsOf f2.type, P.cellsOf f3.type, P.cellsOf f4.type, P.cellsOf f5.type, P.cellsOf f6.type] = [2, 1, 1, 1, 1, 1, 16]) (hct : P.cellsOf t = 23) : OpenT P t oc OpnOk := by
  intro H enc w base spare held fuel cs x h
  obtain ⟨xs, m, _, _, hl, hxl, hx⟩ := DataW.trod_struct ht h
  rw [hct] at hl
  have g0 := hx 0 f0 rfl
  have g1 := hx 1 f1 rfl
  have g2 := hx 2 f2 rfl
  have g3 := hx 3 f3 rfl
  have g4 := hx 4 f4 rfl
  have g5 := hx 5 f5 rfl
  have g6 := hx 6 f6 rfl
  have hx2 : xs.length = 7 := by simpa using hxl
  simp only [List.cons.injEq, and_true] at hoff hty hc
  obtain ⟨o0, o1, o2, o3, o4, o5, o6⟩ := hoff
  obtain ⟨c0, c1, c2, c3, c4, c5, c6⟩ := hc
  obtain ⟨t0, t6⟩ := hty
  rw [List.getElem?_eq_getElem (by omega)] at g0 g1 g2 g3 g4 g5 g6
  rw [o0, c0, t0] at g0
  rw [o1, c1] at g1
  rw [o2, c2] at g2
  rw [o3, c3] at g3
  rw [o4, c4] at g4
  rw [o5, c5] at g5
  rw [o6, c6, t6] at g6
  obtain ⟨d, hd, e0⟩ := hD _ _ _ _ _ _ _ _ _ g0
  obtain ⟨k, hk, e1⟩ := O_int u1 _ _ _ _ _ _ _ _ _ g1
  obtain ⟨c, hc', e2⟩ := O_int u2 _ _ _ _ _ _ _ _ _ g2
  obtain ⟨i, hi, e3⟩ := O_int u3 _ _ _ _ _ _ _ _ _ g3
  obtain ⟨q, hq, e4⟩ := O_int u4 _ _ _ _ _ _ _ _ _ g4
  obtain ⟨tk, htk, e5⟩ := O_int u5 _ _ _ _ _ _ _ _ _ g5
  obtain ⟨v, hv, e6⟩ := hV _ _ _ _ _ _ _ _ _ g6
  refine ⟨⟨d, k, c, i, q, tk, v⟩, ⟨hd, inK_u8 hk, inK_u16 hc', inK_u16 hi, inK_u16 hq, inK_u32 htk, hv⟩, ?_⟩
  match cs, hl with
  | x0 :: x1 :: x2 :: x3 :: x4 :: x5 :: x6 :: R, hR =>
    have e6' : R = vc v := by
      simp only [List.drop_succ_cons, List.drop_zero] at e6
      rw [List.take_of_length_le (by simp at hR; omega)] at e6; exact e6
    simp [ic, dc] at e0 e1 e2 e3 e4 e5
    rw [e0.1, e0.2, e1, e2, e3, e4, e5, e6']
    rfl
end Go.Vx
namespace Go.Vx
open Go.RowKit Go.ChangeShapes Go.WideShapes Go.ChangeAt
theorem inK_u64 {a : Int} (h : inK .u64 a) : 0 ≤ a ∧ a < 18446744073709551616 := by
  unfold inK at h
  simp [Lit.wf, IntKind.min, IntKind.max, IntKind.signed, IntKind.bits] at h
  omega
theorem O_lst {P : Program} {t : TypeId} {f0 f1 : Field} (ht : P.underlying t = some (.struct #[f0, f1])) (hoff : [f0.offset, f1.offset] = [0, 1]) (u0 : P.underlying f0.type = some (.int .u16)) (u1 : P.underlying f1.type = some (.int .u32))
    (hc : [P.cellsOf f0.type, P.cellsOf f1.type] = [1, 1]) (hct : P.cellsOf t = 2) : OpenT P t lsc LstOk := by
  intro H enc w base spare held fuel cs x h
  obtain ⟨xs, m, _, _, hl, hxl, hx⟩ := DataW.trod_struct ht h
  rw [hct] at hl
  have g0 := hx 0 f0 rfl
  have g1 := hx 1 f1 rfl
  have hx2 : xs.length = 2 := by simpa using hxl
  simp only [List.cons.injEq, and_true] at hoff hc
  obtain ⟨o0, o1⟩ := hoff
  obtain ⟨c0, c1⟩ := hc
  rw [List.getElem?_eq_getElem (by omega)] at g0 g1
  rw [o0, c0] at g0
  rw [o1, c1] at g1
  obtain ⟨k, hk, e0⟩ := O_int u0 _ _ _ _ _ _ _ _ _ g0
  obtain ⟨c, hc', e1⟩ := O_int u1 _ _ _ _ _ _ _ _ _ g1
  refine ⟨⟨k, c⟩, ⟨inK_u16 hk, inK_u32 hc'⟩, ?_⟩
  match cs, hl with
  | [x0, x1], _ =>
    simp [ic] at e0 e1
    rw [e0, e1]; rfl
theorem O_cen {P : Program} {t td : TypeId} {f0 f1 f2 f3 f4 f5 : Field} (ht : P.underlying t = some (.struct #[f0, f1, f2, f3, f4, f5]))
    (hoff : [f0.offset, f1.offset, f2.offset, f3.offset, f4.offset, f5.offset] = [0, 1, 2, 3, 4, 6]) (hty : f4.type = td) (hD : OpenT P td dc DotOk)
    (u0 : P.underlying f0.type = some (.int .u16)) (u1 : P.underlying f1.type = some (.int .u16)) (u2 : P.underlying f2.type = some (.int .u16)) (u3 : P.underlying f3.type = some (.int .u8)) (u5 : P.underlying f5.type = some (.int .u64))
    (hc : [P.cellsOf f0.type, P.cellsOf f1.type, P.cellsOf f2.type, P.cellsOf f3.type, P.cellsOf f4.type, P.cellsOf f5.type] = [1, 1, 1, 1, 2, 1]) (hct : P.cellsOf t = 7) : OpenT P t cec CenOk := by
  intro H enc w base spare held fuel cs x h
  obtain ⟨xs, m, _, _, hl, hxl, hx⟩ := DataW.trod_struct ht h
  rw [hct] at hl
  have g0 := hx 0 f0 rfl
  have g1 := hx 1 f1 rfl
  have g2 := hx 2 f2 rfl
  have g3 := hx 3 f3 rfl
  have g4 := hx 4 f4 rfl
  have g5 := hx 5 f5 rfl
  have hx2 : xs.length = 6 := by simpa using hxl
  simp only [List.cons.injEq, and_true] at hoff hc
  obtain ⟨o0, o1, o2, o3, o4, o5⟩ := hoff
  obtain ⟨c0, c1, c2, c3, c4, c5⟩ := hc
  rw [List.getElem?_eq_getElem (by omega)] at g0 g1 g2 g3 g4 g5
  rw [o0, c0] at g0
  rw [o1, c1] at g1
  rw [o2, c2] at g2
  rw [o3, c3] at g3
  rw [o4, c4, hty] at g4
  rw [o5, c5] at g5
  obtain ⟨a, ha, e0⟩ := O_int u0 _ _ _ _ _ _ _ _ _ g0
  obtain ⟨b, hb, e1⟩ := O_int u1 _ _ _ _ _ _ _ _ _ g1
  obtain ⟨c, hc', e2⟩ := O_int u2 _ _ _ _ _ _ _ _ _ g2
  obtain ⟨k, hk, e3⟩ := O_int u3 _ _ _ _ _ _ _ _ _ g3
  obtain ⟨d, hd, e4⟩ := hD _ _ _ _ _ _ _ _ _ g4
  obtain ⟨n, hn, e5⟩ := O_int u5 _ _ _ _ _ _ _ _ _ g5
  refine ⟨⟨a, b, c, k, d, n⟩, ⟨inK_u16 ha, inK_u16 hb, inK_u16 hc', inK_u8 hk, hd, inK_u64 hn⟩, ?_⟩
  match cs, hl with
  | [x0, x1, x2, x3, x4, x5, x6], _ =>
    simp [ic, dc] at e0 e1 e2 e3 e4 e5
    rw [e0, e1, e2, e3, e4.1, e4.2, e5]; rfl
theorem open_sta {P : Program} {t tv s1 s2 e1 e2 : TypeId} {f0 f1 f2 : Field} (ht : P.underlying t = some (.struct #[f0, f1, f2])) (hoff : [f0.offset, f1.offset, f2.offset] = [0, 16, 17]) (hty : [f0.type, f1.type, f2.type] = [tv, s1, s2])
    (hV : OpenT P tv vc VecOk) (u1 : P.underlying s1 = some (.slice e1)) (hE : OpenT P e1 cec CenOk) (u2 : P.underlying s2 = some (.slice e2)) (hL : OpenT P e2 lsc LstOk)
    (hc : [P.cellsOf tv, P.cellsOf s1, P.cellsOf s2, P.cellsOf e1, P.cellsOf e2, P.cellsOf t] = [16, 1, 1, 7, 2, 18]) (hts : (P.cellTypes P.depth t).map (fun ts => (ts.length, ts[16]?, ts[17]?)) = some (18, some s1, some s2))
    {H : Type} {enc : TypeId × Value → H} {w : World} {r : Reach} {b0 base : Nat} {spare : Nat → Bool} {held : Bool} {v : Value} {d : DataW H} {ps : List MemPlace}
    (hv : Value.okWide P w r b0 t v) (h : DataW.Trod enc P w base spare held t v d ps) :
    ∃ (x : Sta) (a : Option Addr) (c : Nat) (b : Option Addr) (e : Nat), v = .agg (vc x.known ++ [(.slice a x.ents.length c : Value), (.slice b x.ticks.length e : Value)]).toArray ∧ StaOk x ∧ Rd w (.slice a x.ents.length c) 7 (x.ents.map cec) ∧ Rd w (.slice b x.ticks.length e) 2 (x.ticks.map lsc) := by
  unfold Value.okWide at hv
  rw [ht] at hv
  obtain ⟨cs, rfl, hsz, ts, hts', _, hcell⟩ := hv
  obtain ⟨fuel, h⟩ := h
  have h' : DataW.trod enc P w base spare held fuel t cs.toList = some (d, ps) := h
  obtain ⟨xs, n, _, _, hl, hxl, hx⟩ := DataW.trod_struct ht h'
  simp only [List.cons.injEq, and_true] at hoff hty hc
  obtain ⟨o0, o1, o2⟩ := hoff
  obtain ⟨t0, t1, t2⟩ := hty
  obtain ⟨c0, c1, c2, c3, c4, c5⟩ := hc
  rw [c5] at hl
  rw [hts'] at hts
  simp only [Option.map_some, Option.some.injEq, Prod.mk.injEq] at hts
  obtain ⟨hlen, hs1, hs2⟩ := hts
  have g0 := hx 0 f0 rfl
  have g1 := hx 1 f1 rfl
  have g2 := hx 2 f2 rfl
  have hx2 : xs.length = 3 := by simpa using hxl
  rw [List.getElem?_eq_getElem (by omega)] at g0 g1 g2
  rw [o0, t0, c0] at g0
  rw [o1, t1, c1] at g1
  rw [o2, t2, c2] at g2
  obtain ⟨kn, hkn, e0⟩ := hV _ _ _ _ _ _ _ _ _ g0
  have a1 : (cs.toList.drop 16).take 1 = [cs.toList[16]'(by omega)] := by rw [List.drop_eq_getElem_cons (by omega)]; rfl
  have a2 : (cs.toList.drop 17).take 1 = [cs.toList[17]'(by omega)] := by rw [List.drop_eq_getElem_cons (by omega)]; rfl
  generalize hz1 : cs.toList[16]'(by omega) = z1 at a1
  generalize hz2 : cs.toList[17]'(by omega) = z2 at a2
  rw [a1] at g1
  rw [a2] at g2
  have k1 : cs[16]? = some z1 := by rw [← hz1, ← Array.getElem?_toList]; exact List.getElem?_eq_getElem _
  have k2 : cs[17]? = some z2 := by rw [← hz2, ← Array.getElem?_toList]; exact List.getElem?_eq_getElem _
  obtain ⟨y1, hy1, w1⟩ := hcell 16 z1 k1
  obtain ⟨y2, hy2, w2⟩ := hcell 17 z2 k2
  rw [hlen, show 16 % 18 = 16 by rfl, hs1] at hy1
  rw [hlen, show 17 % 18 = 17 by rfl, hs2] at hy2
  cases hy1
  cases hy2
  have v1 : Value.okWide P w r b0 s1 z1 := by unfold Value.okWide; rw [u1]; exact w1
  have v2 : Value.okWide P w r b0 s2 z2 := by unfold Value.okWide; rw [u2]; exact w2
  obtain ⟨p1, q1, m1, hw1⟩ := okWide_slice u1 v1
  obtain ⟨p2, q2, m2, hw2⟩ := okWide_slice u2 v2
  have tr1 : DataW.Trod enc P w base spare held s1 z1 (xs[1].1) (xs[1].2) := ⟨n, by subst hw1; exact g1⟩
  have tr2 : DataW.Trod enc P w base spare held s2 z2 (xs[2].1) (xs[2].2) := ⟨n, by subst hw2; exact g2⟩
  obtain ⟨a, c, l1, hv1, hok1, hr1⟩ := open_rows u1 hE (fun _ => rfl) c3 v1 tr1
  obtain ⟨b, e, l2, hv2, hok2, hr2⟩ := open_rows u2 hL (fun _ => rfl) c4 v2 tr2
  refine ⟨⟨kn, l1, l2⟩, a, c, b, e, ?_, ⟨hkn, hok1, hok2⟩, hr1, hr2⟩
  have hcs : cs.toList = vc kn ++ [z1, z2] := by
    rw [List.drop_zero] at e0
    rw [← e0, show ([z1, z2] : List Value) = cs.toList.drop 16 from ?_, List.take_append_drop]
    rw [List.drop_eq_getElem_cons (by omega), List.drop_eq_getElem_cons (by omega), hz1, hz2, List.drop_of_length_le (by omega)]
  rw [hv1, hv2] at hcs
  congr 1
  rw [← hcs]
end Go.Vx
namespace Go.Vx
theorem tickP_at {ts : List Lst} {c : Int} : ∀ {k : Nat}, k < ts.length → (∀ j : Nat, j < k → decide ((gd ts j).cart = c) = false) → (gd ts k).cart = c → tickP ts c = some (gd ts k).tick := by
  induction ts with
  | nil => intro k hk; simp at hk
  | cons x l ih =>
    intro k hk h1 h2
    rw [tickP_cons]
    cases k with
    | zero =>
      have h2' : x.cart = c := by simpa [gd] using h2
      rw [if_pos h2']; simp [gd]
    | succ k =>
      have h0 := h1 0 (by omega)
      have h0' : ¬ x.cart = c := by simpa [gd] using h0
      rw [if_neg h0']
      have := ih (k := k) (by simpa using hk) (fun j hj => by have := h1 (j + 1) (by omega); simpa [gd] using this) (by simpa [gd] using h2)
      rw [this]; simp [gd]
theorem tickP_none {ts : List Lst} {c : Int} (h : ∀ j : Nat, j < ts.length → decide ((gd ts j).cart = c) = false) : tickP ts c = none := by
  unfold tickP
  rw [Option.map_eq_none_iff, List.find?_eq_none]
  intro x hx
  obtain ⟨j, hj, rfl⟩ := mem_gd hx
  rw [h j hj]; decide
theorem rightS_fin {s : Sta} (ht : ∀ i, i < s.ticks.length → badT s.ticks i = false) (he : ∀ i, i < s.ents.length → badE s i = false) : rightS s = rightB s.known 16 := by
  unfold rightS
  have h1 : ((List.range s.ticks.length).all fun i => !badT s.ticks i) = true := by
    rw [List.all_eq_true]; intro i hi; rw [ht i (List.mem_range.1 hi)]; rfl
  have h2 : ((List.range s.ents.length).all fun i => !badE s i) = true := by
    rw [List.all_eq_true]; intro i hi; rw [he i (List.mem_range.1 hi)]; rfl
  rw [h1, h2]; simp
theorem badE_no {s : Sta} {k : Nat} (hk : k < s.ents.length) (h1 : entB s (gd s.ents k) = true) (h2 : (decide (0 < k) && !aheadB (gd s.ents (k - 1)) (gd s.ents k)) = false) (h3 : ∀ j : Nat, j < k → decide ((gd s.ents j).dot = (gd s.ents k).dot) = false) : badE s k = false := by
  unfold badE
  rw [h1, h2, Bool.or_false]
  simp only [Bool.not_true, Bool.false_or]
  rw [List.any_eq_false]
  intro x hx
  obtain ⟨j, hj, rfl⟩ := List.mem_take_iff_getElem.1 hx
  have := h3 j (by omega)
  simpa [gd, show j < s.ents.length by omega] using this
theorem badE_dup {s : Sta} {k j : Nat} (hk : k < s.ents.length) (hj : j < k) (h : (gd s.ents j).dot = (gd s.ents k).dot) : badE s k = true := by
  unfold badE
  have : ((s.ents.take k).any fun x => decide (x.dot = (gd s.ents k).dot)) = true := by
    rw [List.any_eq_true]
    refine ⟨gd s.ents j, List.mem_take_iff_getElem.2 ⟨j, by omega, by simp [gd, show j < s.ents.length by omega]⟩, by rw [h]; simp⟩
  rw [this]; simp
end Go.Vx
namespace Go.Vx
def fewB (s : Sta) : Bool := decide (((s.ents.length : Nat) : Int) ≤ 60) && decide (((s.ticks.length : Nat) : Int) ≤ 60)
theorem few_le {s : Sta} (h : fewB s = true) : s.ents.length ≤ 60 ∧ s.ticks.length ≤ 60 := by
  unfold fewB at h
  simp only [Bool.and_eq_true, decide_eq_true_eq] at h
  omega
end Go.Vx
namespace Go.Proofs
open Go Go.Vx Go.RowKit
namespace Tt
theorem EN_48 : En Tryz.prog 48 := Tryz.call48
theorem EN_49 : En Tryz.prog 49 := Tryz.call49
theorem EN_85 : En Tryz.prog 85 := Tryz.call85
theorem EN_86 : En Tryz.prog 86 := Tryz.call86
theorem FA_88_0 : FA Tryz.prog 88 0 0 := fun b o w => by simp [Instr.fieldAt, Instr.sureAddr, fieldPlace, add_eq]
theorem FA_88_4 : FA Tryz.prog 88 4 4 := fun b o w => by simp [Instr.fieldAt, Instr.sureAddr, fieldPlace, add_eq]
theorem FA_88_5 : FA Tryz.prog 88 5 6 := fun b o w => by simp [Instr.fieldAt, Instr.sureAddr, fieldPlace, add_eq]
theorem FA_89_0 : FA Tryz.prog 89 0 0 := fun b o w => by simp [Instr.fieldAt, Instr.sureAddr, fieldPlace, add_eq]
theorem FA_89_1 : FA Tryz.prog 89 1 1 := fun b o w => by simp [Instr.fieldAt, Instr.sureAddr, fieldPlace, add_eq]
end Tt
end Go.Proofs
namespace Go.Vx
structure AnyP (s0 s1 s2 ab bc abc : Sta) (n : Nat) : Prop where
  i01 : mergeI s0 s1 = 0
  r01 : mergeR s0 s1 = ab
  i10 : mergeI s1 s0 = 0
  r10 : mergeR s1 s0 = ab
  iab : mergeI ab s2 = 0
  rab : mergeR ab s2 = abc
  i12 : mergeI s1 s2 = 0
  r12 : mergeR s1 s2 = bc
  ibc : mergeI s0 bc = 0
  rbc : mergeR s0 bc = abc
  i00 : mergeI s0 s0 = 0
  r00 : mergeR s0 s0 = s0
  ok0 : StaOk s0 ∧ s0.ents.length ≤ n ∧ s0.ticks.length ≤ n
  ok1 : StaOk s1 ∧ s1.ents.length ≤ n ∧ s1.ticks.length ≤ n
  ok2 : StaOk s2 ∧ s2.ents.length ≤ n ∧ s2.ticks.length ≤ n
  okab : StaOk ab ∧ ab.ents.length ≤ n ∧ ab.ticks.length ≤ n
  okbc : StaOk bc ∧ bc.ents.length ≤ n ∧ bc.ticks.length ≤ n
  okabc : abc.ents.length ≤ n ∧ abc.ticks.length ≤ n
end Go.Vx
namespace Go.Vx
section
variable {l out : List Cen} {P : List Cen} {x : Cen} {dn : Bool} {k : Nat}
theorem drop_cons_gd {α : Type} [Inhabited α] {l : List α} {k : Nat} (h : k < l.length) : l.drop k = gd l k :: l.drop (k + 1) := by
  rw [List.drop_eq_getElem_cons h]; simp [gd, h]
theorem put_ins (h : P = out ++ cond dn (l.drop k) (putE x (l.drop k))) (hk : k < l.length) (hd : dn = false) (ha : aheadB x (gd l k) = true) : P = (out ++ [x]) ++ [gd l k] ++ cond true (l.drop (k + 1)) (putE x (l.drop (k + 1))) := by
  subst hd
  rw [h, drop_cons_gd hk]
  show out ++ putE x (gd l k :: l.drop (k + 1)) = _
  unfold putE; rw [if_pos ha]; simp
theorem put_go (h : P = out ++ cond dn (l.drop k) (putE x (l.drop k))) (hk : k < l.length) (hn : (!dn && aheadB x (gd l k)) = false) : P = out ++ [gd l k] ++ cond dn (l.drop (k + 1)) (putE x (l.drop (k + 1))) := by
  rw [h, drop_cons_gd hk]
  cases dn with
  | true => simp
  | false =>
    have ha : aheadB x (gd l k) = false := by simpa using hn
    show out ++ putE x (gd l k :: l.drop (k + 1)) = _
    conv => lhs; unfold putE
    rw [if_neg (by rw [ha]; decide)]; simp
theorem put_end (h : P = out ++ cond dn (l.drop k) (putE x (l.drop k))) (hk : ¬ k < l.length) : (dn = true → P = out) ∧ (dn = false → P = out ++ [x]) := by
  rw [List.drop_of_length_le (by omega)] at h
  constructor
  · intro e; subst e; simpa using h
  · intro e; subst e; exact h
end
section
variable {l out : List Lst} {P : List Lst} {c t : Int} {dn : Bool} {k : Nat}
def TkI (l out P : List Lst) (c t : Int) (dn : Bool) (k : Nat) : Prop := P = out ++ cond dn (l.drop k) (putT c t (l.drop k)) ∧ (dn = true → ∀ j, k ≤ j → j < l.length → c < (gd l j).cart)
theorem tk_eq (h : TkI l out P c t dn k) (hT : RisT l) (hk : k < l.length) (he : (gd l k).cart = c) : TkI l (out ++ [⟨(gd l k).cart, max (gd l k).tick t⟩]) P c t true (k + 1) := by
  have hd : dn = false := by
    cases dn with
    | false => rfl
    | true => have := h.2 rfl k (Nat.le_refl _) hk; omega
  subst hd
  refine ⟨?_, fun _ j hj hjl => by rw [← he]; exact ris_gd hT (by omega) hjl⟩
  rw [h.1, drop_cons_gd hk]
  show out ++ putT c t (gd l k :: l.drop (k + 1)) = _
  unfold putT; rw [if_pos he, he]; simp
theorem tk_ins (h : TkI l out P c t dn k) (hT : RisT l) (hk : k < l.length) (hne : ¬ (gd l k).cart = c) (hd : dn = false) (hlt : c < (gd l k).cart) : TkI l (out ++ [⟨c, t⟩] ++ [gd l k]) P c t true (k + 1) := by
  subst hd
  refine ⟨?_, fun _ j hj hjl => by have := ris_gd hT (i := k) (j := j) (by omega) hjl; omega⟩
  rw [h.1, drop_cons_gd hk]
  show out ++ putT c t (gd l k :: l.drop (k + 1)) = _
  unfold putT; rw [if_neg hne, if_pos hlt]; simp
theorem tk_go (h : TkI l out P c t dn k) (hk : k < l.length) (hne : ¬ (gd l k).cart = c) (hn : (!dn && decide (c < (gd l k).cart)) = false) : TkI l (out ++ [gd l k]) P c t dn (k + 1) := by
  refine ⟨?_, fun e j hj hjl => h.2 e j (by omega) hjl⟩
  rw [h.1, drop_cons_gd hk]
  cases dn with
  | true => simp
  | false =>
    have ha : ¬ c < (gd l k).cart := by simpa using hn
    show out ++ putT c t (gd l k :: l.drop (k + 1)) = _
    conv => lhs; unfold putT
    rw [if_neg hne, if_neg ha]; simp
theorem tk_end (h : TkI l out P c t dn k) (hk : ¬ k < l.length) : (dn = true → P = out) ∧ (dn = false → P = out ++ [⟨c, t⟩]) := by
  have h1 := h.1
  rw [List.drop_of_length_le (by omega)] at h1
  constructor
  · intro e; subst e; simpa using h1
  · intro e; subst e; exact h1
end
end Go.Vx
namespace Go.Vx
theorem applyR_lens (s : Sta) (o : Opn) : (applyR s o).ents.length ≤ s.ents.length + 1 ∧ (applyR s o).ticks.length ≤ s.ticks.length + 1 := by
  unfold applyR
  split
  · exact applyE_len s o
  · exact ⟨Nat.zero_le _, Nat.zero_le _⟩
end Go.Vx
namespace Go.Proofs
open Go Go.Vx Go.RowKit
namespace Tt
set_option maxRecDepth 20000 in
theorem BT_89 : Bt Tryz.prog 89 [(0, 1), (1, 1)] (lsc (⟨0, 0⟩ : Lst)) := Bt_struct Tryz.type89 rfl rfl Tryz.underlying89 (by kernel_rfl)
end Tt
end Go.Proofs
namespace Go.Proofs
open Go Go.Vx Go.RowKit
namespace Tt
set_option maxRecDepth 20000 in
theorem BT_88 : Bt Tryz.prog 88 [(0, 1), (1, 1), (2, 1), (3, 1), (4, 2), (6, 1)] (cec (⟨0, 0, 0, 0, (⟨0, 0⟩ : Dot), 0⟩ : Cen)) := Bt_struct Tryz.type88 rfl rfl Tryz.underlying88 (by kernel_rfl)
theorem EN_11 : En Tryz.prog 11 := Tryz.call11
theorem EN_12 : En Tryz.prog 12 := Tryz.call12
theorem EN_13 : En Tryz.prog 13 := Tryz.call13
theorem EN_18 : En Tryz.prog 18 := Tryz.call18
theorem EN_39 : En Tryz.prog 39 := Tryz.call39
theorem EN_40 : En Tryz.prog 40 := Tryz.call40
theorem EN_42 : En Tryz.prog 42 := Tryz.call42
theorem EN_43 : En Tryz.prog 43 := Tryz.call43
theorem EN_5 : En Tryz.prog 5 := Tryz.call5
theorem EN_6 : En Tryz.prog 6 := Tryz.call6
theorem EN_8 : En Tryz.prog 8 := Tryz.call8
theorem EN_9 : En Tryz.prog 9 := Tryz.call9
end Tt
end Go.Proofs
