/- A part of a proof: what functions of the program compute, and plain facts on that. -/
import Derived.Test.YthejeobcehpdcaaGreatDoorScriptDecodesP5
import Derived.OpenShut
import Derived.ChangeArms
import Derived.ProofKit
import Derived.Deep.Slices
set_option linter.unusedVariables false
set_option linter.unusedSectionVars false
set_option linter.unusedSimpArgs false
namespace Go.Vx
def dotB (d : Dot) : Bool := decide (d.rep < 16) && decide (1 ≤ d.seq) && decide (d.seq ≤ 1048576)
theorem dotB_spec {d : Dot} (h : dotB d = true) : d.rep < 16 ∧ 1 ≤ d.seq ∧ d.seq ≤ 1048576 := by
  unfold dotB at h; simp at h; exact ⟨h.1.1, h.1.2, h.2⟩
def hasB (v : Vec) (d : Dot) : Bool := dotB d && decide (d.seq ≤ vat v d.rep.toNat)
def nextV (v : Vec) (d : Dot) : Vec := if dotB d = false then vzero else if hasB v d = true then vzero else if d.seq = (vat v d.rep.toNat + 1) % 4294967296 then vset v d.rep.toNat (vat v d.rep.toNat + 1) else vzero
def nextE (v : Vec) (d : Dot) : Int := if dotB d = false then 2 else if hasB v d = true then 8 else if d.seq = (vat v d.rep.toNat + 1) % 4294967296 then 0 else 9
def okAt (v : Vec) (n : Int) (i : Nat) : Bool := !(decide (1048576 < vat v i) || decide (n ≤ (i : Int)) && decide (0 < vat v i))
def rightB (v : Vec) (n : Int) : Bool := !(decide (n < 1) || decide (16 < n)) && (List.range 16).all fun i => okAt v n i
def vle (a b : Vec) : Bool := (List.range 16).all fun i => decide (vat a i ≤ vat b i)
def vsum (v : Vec) : Int := ((List.range 16).map fun i => vat v i).sum
end Go.Vx
namespace Go.Vx
theorem vle_yes {a b : Vec} (h : ∀ j : Nat, j < 16 → vat a j ≤ vat b j) : vle a b = true := by
  unfold vle; rw [List.all_eq_true]; intro i hi; simpa using h i (by simpa using hi)
end Go.Vx
namespace Go.Vx
def hasG (v : Vec) (l : List Dot) (d : Dot) : Bool := decide (d ∈ l) || hasB v d
end Go.Vx
namespace Go.Vx
def cloGo (l : List Dot) (i : Int) : Nat → Int → Int
  | 0, n => n
  | f + 1, n => if ⟨i, n + 1⟩ ∈ l then cloGo l i f (n + 1) else n
def cloAt (l : List Dot) (i n : Int) : Int := cloGo l i (1048576 - n).toNat n
def cloV (l : List Dot) (v : Vec) : Vec := fun j => cloAt l (j.val : Int) (v j)
def Dots (l : List Dot) : Prop := ∀ d ∈ l, DotOk d ∧ dotB d = true
def VOk (v : Vec) : Prop := ∀ j, 0 ≤ v j ∧ v j ≤ 1048576
theorem VOk.ok {v : Vec} (h : VOk v) : VecOk v := fun j => by have := h j; omega
theorem VOk.at {v : Vec} (h : VOk v) (j : Nat) : 0 ≤ vat v j ∧ vat v j ≤ 1048576 := by
  unfold vat; split
  · exact h _
  · omega
theorem VOk.set {v : Vec} (h : VOk v) (i : Nat) {x : Int} (h0 : 0 ≤ x) (h1 : x ≤ 1048576) : VOk (vset v i x) := by
  intro j; unfold vset; split
  · exact ⟨h0, h1⟩
  · exact h j
theorem cloAt_end {l : List Dot} {i n : Int} (h : (⟨i, n + 1⟩ : Dot) ∉ l) : cloAt l i n = n := by
  unfold cloAt
  cases (1048576 - n).toNat with
  | zero => rfl
  | succ f => simp [cloGo, h]
theorem cloAt_step {l : List Dot} (hl : Dots l) {i n : Int} (h : (⟨i, n + 1⟩ : Dot) ∈ l) : cloAt l i n = cloAt l i (n + 1) := by
  have := (dotB_spec (hl _ h).2).2.2
  have e : (1048576 - n).toNat = (1048576 - (n + 1)).toNat + 1 := by dsimp only at this; omega
  unfold cloAt
  rw [e]
  simp [cloGo, h]
theorem vat_cloV (l : List Dot) (v : Vec) (j : Nat) (h : j < 16) : vat (cloV l v) j = cloAt l (j : Int) (vat v j) := by
  unfold vat cloV; simp [h]
theorem vec_ext {u v : Vec} (h : ∀ j : Nat, j < 16 → vat u j = vat v j) : u = v := by
  funext j
  have := h j.val j.isLt
  simpa [vat] using this
end Go.Vx
namespace Go.Vx
theorem vat_big (v : Vec) {j : Nat} (h : 16 ≤ j) : vat v j = 0 := by unfold vat; rw [dif_neg (by omega)]
end Go.Vx
namespace Go.Vx
def stretch (i : Int) (n : Int) (c : Nat) : List Dot := (List.range c).map fun (j : Nat) => ⟨i, n + (j : Int)⟩
end Go.Vx
namespace Go.Vx
def addE (v : Vec) (l : List Dot) (d : Dot) : Int := if dotB d = false then 2 else if hasG v l d = true then 8 else if vat (cloV l v) d.rep.toNat + 256 < d.seq then 10 else 0
def addL (v : Vec) (l : List Dot) (d : Dot) : List Dot := if addE v l d = 0 then l ++ [d] else l
end Go.Vx
namespace Go.Vx
def gHas (g : Grp) (d : Dot) : Bool := (mget d g.l).isSome || hasB g.v d
end Go.Vx
namespace Go.Vx
structure GOk (g : Grp) : Prop where
  v : VOk g.v
  l : Dots (g.l.map (·.1))
  nd : (g.l.map (·.1)).Nodup
section
variable {κ ν : Type} [DecidableEq κ]
theorem mget_mem {k : κ} : ∀ {l : List (κ × ν)}, (mget k l).isSome = true → k ∈ l.map (·.1)
  | [], h => by cases h
  | (a, b) :: l, h => by
    unfold mget at h
    split at h
    · rename_i e; subst e; simp
    · exact List.mem_cons_of_mem _ (mget_mem h)
theorem mget_iff {k : κ} : ∀ {l : List (κ × ν)}, (mget k l).isSome = decide (k ∈ l.map (·.1))
  | [] => rfl
  | (a, b) :: l => by
    unfold mget
    split
    · rename_i e; subst e; simp
    · rename_i e; rw [mget_iff (l := l)]; simp [e]
theorem mdel_len {k : κ} : ∀ {l : List (κ × ν)}, (mget k l).isSome = true → (mdel k l).length + 1 = l.length
  | [], h => by cases h
  | (a, b) :: l, h => by
    unfold mget at h; unfold mdel
    split at h
    · rename_i e; rw [if_pos e]; rfl
    · rename_i e; rw [if_neg e]; simp [mdel_len h]
theorem mdel_sub {k : κ} : ∀ {l : List (κ × ν)}, (mdel k l).Sublist l
  | [] => List.Sublist.refl _
  | (a, b) :: l => by
    unfold mdel
    split
    · exact List.sublist_cons_self _ _
    · exact mdel_sub.cons_cons _
end
def setStep (rep : Int) (g : Grp) : Grp := ⟨vset g.v rep.toNat (vat g.v rep.toNat + 1), mdel ⟨rep, vat g.v rep.toNat + 1⟩ g.l⟩
def settleGo (rep : Int) : Nat → Grp → Grp
  | 0, g => g
  | f + 1, g => if (mget (⟨rep, vat g.v rep.toNat + 1⟩ : Dot) g.l).isSome = true then settleGo rep f (setStep rep g) else g
def settleG (rep : Int) (g : Grp) : Grp := settleGo rep g.l.length g
theorem settle_ok {rep : Int} {g : Grp} (hg : GOk g) (h : (mget (⟨rep, vat g.v rep.toNat + 1⟩ : Dot) g.l).isSome = true) : GOk (setStep rep g) := by
  have h1 := (dotB_spec (hg.l _ (mget_mem h)).2).2.2
  have h2 := hg.v.at rep.toNat
  dsimp only at h1
  exact ⟨hg.v.set _ (by omega) h1, fun d hd => hg.l d ((mdel_sub.map _).subset hd), hg.nd.sublist (mdel_sub.map _)⟩
end Go.Vx
namespace Go.Vx
def gAddE (g : Grp) (d : Dot) : Int := if nextE g.v d = 2 then 2 else if nextE g.v d = 8 then 8 else if nextE g.v d = 9 then (if gHas g d = true then 8 else if vat g.v d.rep.toNat + 256 < d.seq then 10 else 0) else 0
def gAddG (g : Grp) (d : Dot) : Grp := if nextE g.v d = 2 then g else if nextE g.v d = 8 then g else if nextE g.v d = 9 then (if gHas g d = true then g else if vat g.v d.rep.toNat + 256 < d.seq then g else ⟨g.v, mput d () g.l⟩) else settleG d.rep ⟨nextV g.v d, g.l⟩
theorem nextE_9 {v : Vec} {d : Dot} (h : nextE v d = 9) : dotB d = true := by
  unfold nextE at h
  split at h
  · cases h
  · rename_i h1; simpa using h1
theorem nextE_0 {v : Vec} {d : Dot} (h2 : ¬ nextE v d = 2) (h8 : ¬ nextE v d = 8) (h9 : ¬ nextE v d = 9) : dotB d = true ∧ hasB v d = false ∧ d.seq = (vat v d.rep.toNat + 1) % 4294967296 := by
  unfold nextE at h2 h8 h9
  split at h2
  · exact absurd rfl h2
  · rename_i h1
    rw [if_neg h1] at h8 h9
    split at h8
    · exact absurd rfl h8
    · rename_i h3
      rw [if_neg h3] at h9
      split at h9
      · rename_i h4; exact ⟨by simpa using h1, by simpa using h3, h4⟩
      · exact absurd rfl h9
theorem next_ok {g : Grp} {d : Dot} (hg : GOk g) (h2 : ¬ nextE g.v d = 2) (h8 : ¬ nextE g.v d = 8) (h9 : ¬ nextE g.v d = 9) : GOk ⟨nextV g.v d, g.l⟩ := by
  obtain ⟨h1, h3, h4⟩ := nextE_0 h2 h8 h9
  have h5 := dotB_spec h1
  have h6 := hg.v.at d.rep.toNat
  refine ⟨?_, hg.l, hg.nd⟩
  show VOk (nextV g.v d)
  unfold nextV
  rw [if_neg (by simp [h1]), if_neg (by simp [h3]), if_pos h4]
  exact hg.v.set _ (by omega) (by omega)
end Go.Vx
namespace Go.Vx
section
variable {g : Grp} {d : Dot}
theorem gAdd_2 (h : nextE g.v d = 2) : gAddE g d = nextE g.v d ∧ gAddG g d = g := by simp [gAddE, gAddG, h]
theorem gAdd_8 (h : nextE g.v d = 8) : gAddE g d = nextE g.v d ∧ gAddG g d = g := by simp [gAddE, gAddG, h]
theorem gAdd_h (h : nextE g.v d = 9) (h1 : gHas g d = true) : gAddE g d = 8 ∧ gAddG g d = g := by simp [gAddE, gAddG, h, h1]
theorem gAdd_f (h : nextE g.v d = 9) (h1 : gHas g d = false) (h2 : vat g.v d.rep.toNat + 256 < d.seq) : gAddE g d = 10 ∧ gAddG g d = g := by simp [gAddE, gAddG, h, h1, h2]
theorem gAdd_i (h : nextE g.v d = 9) (h1 : gHas g d = false) (h2 : ¬ vat g.v d.rep.toNat + 256 < d.seq) : gAddE g d = 0 ∧ gAddG g d = ⟨g.v, mput d () g.l⟩ := by
  unfold gAddE gAddG
  rw [if_neg (by omega), if_neg (by omega), if_pos h, if_neg (by simp [h1]), if_neg h2, if_neg (by omega), if_neg (by omega), if_pos h, if_neg (by simp [h1]), if_neg h2]
  exact ⟨rfl, rfl⟩
theorem gAdd_0 (h2 : ¬ nextE g.v d = 2) (h8 : ¬ nextE g.v d = 8) (h9 : ¬ nextE g.v d = 9) : gAddE g d = 0 ∧ gAddG g d = settleG d.rep ⟨nextV g.v d, g.l⟩ := by
  unfold gAddE gAddG
  rw [if_neg h2, if_neg h8, if_neg h9, if_neg h2, if_neg h8, if_neg h9]
  exact ⟨rfl, rfl⟩
end
end Go.Vx
namespace Go.Vx
def cmpI (x y : Int) : Int := if x < y then -1 else if y < x then 1 else 0
def orI (l : List Int) : Int := (l.find? fun x => !decide (x = 0)).getD 0
def ordD (a b : Dot) : Int := orI [cmpI a.rep b.rep, cmpI a.seq b.seq]
end Go.Vx
namespace Go.Vx
def missGo (v : Vec) : List Dot → List Dot
  | [] => []
  | d :: l => stretch d.rep (vat v d.rep.toNat + 1) (d.seq - 1 - vat v d.rep.toNat).toNat ++ missGo (vset v d.rep.toNat d.seq) l
end Go.Vx
namespace Go.Vx
theorem ordD_lt {x y : Dot} : ordD x y < 0 ↔ x.rep < y.rep ∨ (x.rep = y.rep ∧ x.seq < y.seq) := by
  unfold ordD orI cmpI
  by_cases h1 : x.rep < y.rep
  · simp [h1]
  · by_cases h2 : y.rep < x.rep
    · simp [h1, h2]; omega
    · have h3 : x.rep = y.rep := by omega
      by_cases h4 : x.seq < y.seq
      · simp [h3, h4]
      · by_cases h5 : y.seq < x.seq
        · simp [h3, h4, h5]
        · simp [h3, h4, h5]
def leD (x y : Dot) : Bool := !decide (ordD y x < 0)
theorem leD_iff {x y : Dot} : leD x y = true ↔ x.rep < y.rep ∨ (x.rep = y.rep ∧ x.seq ≤ y.seq) := by
  unfold leD
  simp only [Bool.not_eq_true', decide_eq_false_iff_not, ordD_lt]
  omega
theorem leD_trans (a b c : Dot) (h1 : leD a b = true) (h2 : leD b c = true) : leD a c = true := by
  rw [leD_iff] at *; omega
theorem leD_total (a b : Dot) : (leD a b || leD b a) = true := by
  rw [Bool.or_eq_true, leD_iff, leD_iff]; omega
theorem leD_anti {a b : Dot} (h1 : leD a b = true) (h2 : leD b a = true) : a = b := by
  rw [leD_iff] at *
  cases a; cases b
  simp only [Dot.mk.injEq] at *
  omega
theorem sorted_unique : ∀ {l m : List Dot}, l.Perm m → l.Pairwise (fun x y => leD x y = true) → m.Pairwise (fun x y => leD x y = true) → l = m
  | [], m, h, _, _ => by have := h.length_eq; simp at this; exact (List.eq_nil_of_length_eq_zero this.symm).symm
  | a :: l, [], h, _, _ => by have := h.length_eq; simp at this
  | a :: l, b :: m, h, h1, h2 => by
    rw [List.pairwise_cons] at h1 h2
    have hab : a = b := by
      have ha : a ∈ b :: m := h.subset (by simp)
      have hb : b ∈ a :: l := h.symm.subset (by simp)
      rcases List.mem_cons.1 ha with e | ha
      · exact e
      · rcases List.mem_cons.1 hb with e | hb
        · exact e.symm
        · exact leD_anti (h1.1 b hb) (h2.1 a ha)
    subst hab
    rw [sorted_unique (List.Perm.cons_inv h) h1.2 h2.2]
def sortL (l : List Dot) : List Dot := l.mergeSort leD
def looseL (g : Grp) : List Dot := sortL (g.l.map (·.1))
def missL (g : Grp) : List Dot := missGo g.v (looseL g)
end Go.Vx
namespace Go.Vx
theorem settleGo_ok {rep : Int} : ∀ (f : Nat) (g : Grp), GOk g → GOk (settleGo rep f g)
  | 0, _, h => h
  | f + 1, g, h => by
    unfold settleGo
    split
    · rename_i hh; exact settleGo_ok f _ (settle_ok h hh)
    · exact h
theorem mput_keys {κ ν : Type} [DecidableEq κ] {k : κ} {v : ν} : ∀ {l : List (κ × ν)}, (mput k v l).map (·.1) = if k ∈ l.map (·.1) then l.map (·.1) else l.map (·.1) ++ [k]
  | [] => rfl
  | (a, b) :: l => by
    unfold mput
    split
    · rename_i e; subst e; simp
    · rename_i e
      simp only [List.map_cons, mput_keys (l := l), List.mem_cons, e, false_or]
      split <;> simp
theorem gAddG_ok {g : Grp} {d : Dot} (hg : GOk g) (hd : DotOk d) : GOk (gAddG g d) := by
  unfold gAddG
  split
  · exact hg
  · split
    · exact hg
    · split
      · rename_i h9
        split
        · exact hg
        · split
          · exact hg
          · refine ⟨hg.v, ?_, ?_⟩
            · show Dots ((mput d () g.l).map (·.1))
              rw [mput_keys]
              split
              · exact hg.l
              · intro x hx
                rcases List.mem_append.1 hx with h | h
                · exact hg.l x h
                · simp at h; subst h; exact ⟨hd, nextE_9 h9⟩
            · show ((mput d () g.l).map (·.1)).Nodup
              rw [mput_keys]
              split
              · exact hg.nd
              · rename_i h
                rw [List.nodup_append]
                exact ⟨hg.nd, by simp, fun a ha b hb => by simp at hb; subst hb; exact fun e => h (e ▸ ha)⟩
      · rename_i h2 h8 h9
        exact settleGo_ok _ _ (next_ok hg h2 h8 h9)
end Go.Vx
namespace Go.Vx
open Go.RowKit Go.ChangeShapes Go.WideShapes Go.ChangeAt
def OpenT (P : Program) (t : TypeId) {α : Type} (en : α → List Value) (ok : α → Prop) : Prop :=
  ∀ (H : Type) (enc : TypeId × Value → H) (w : World) (base : Nat) (spare : Nat → Bool) (held : Bool) (fuel : Nat) (cs : List Value) (x : DataW H × List MemPlace), DataW.trod enc P w base spare held fuel t cs = some x → ∃ a, ok a ∧ cs = en a
def inK (k : IntKind) (a : Int) : Prop := (Lit.int k a).wf = true
theorem inK_u8 {a : Int} (h : inK .u8 a) : 0 ≤ a ∧ a < 256 := by
  unfold inK at h
  simp [Lit.wf, IntKind.min, IntKind.max, IntKind.signed, IntKind.bits] at h
  omega
theorem O_int {P : Program} {t : TypeId} {k : IntKind} (ht : P.underlying t = some (.int k)) : OpenT P t (ic k) (inK k) := by
  intro H enc w base spare held fuel cs x h
  obtain ⟨n, h1, _, h2⟩ := DataW.trod_int ht h
  exact ⟨n, h2, h1⟩
theorem open_rows {P : Program} {t e k : TypeId} {α : Type} {en : α → List Value} {ok : α → Prop} (ht : P.underlying t = some (.slice e)) (hO : OpenT P e en ok) (hk : ∀ x, (en x).length = k) (hc : P.cellsOf e = k) {H : Type} {enc : TypeId × Value → H} {w : World} {r : Reach} {b0 base : Nat} {spare : Nat → Bool} {held : Bool} {v : Value} {d : DataW H} {ps : List MemPlace}
    (hv : Value.okWide P w r b0 t v) (h : DataW.Trod enc P w base spare held t v d ps) : ∃ a c, ∃ l : List α, v = .slice a l.length c ∧ (∀ x ∈ l, ok x) ∧ Rd w (.slice a l.length c) k (l.map en) := by
  have hv0 := hv
  obtain ⟨a, len, cap, rfl⟩ := okWide_slice ht hv
  obtain ⟨fuel, h⟩ := h
  have h' : DataW.trod enc P w base spare held fuel t [.slice a len cap] = some (d, ps) := h
  rcases Go.Deep.open_slice ht h' with ⟨hcs, _⟩ | ⟨ad, len', cap', m, n, D, Pl, hcs, hb, hl, hm, hmm, hx, hall⟩
  · simp only [List.cons.injEq, Value.slice.injEq, and_true] at hcs
    obtain ⟨rfl, rfl, rfl⟩ := hcs
    exact ⟨none, 0, [], rfl, by simp, Rd.nil w k⟩
  · simp only [List.cons.injEq, Value.slice.injEq, and_true] at hcs
    obtain ⟨rfl, rfl, rfl⟩ := hcs
    have hrm : len ≤ cap := by
      have hv1 := hv0
      simp only [Value.okWide, ht, Cell.okWide, Cell.ok] at hv1
      exact hv1.1
    have hsp : ad.spot = none := by
      simp only [Value.okWide, ht, Cell.okWide, Cell.ok] at hv0
      exact hv0.2.2.2.1
    have hle : len ≤ m := by rw [hmm]; split <;> omega
    have each : ∀ i : Fin len, ∃ x : α, ok x ∧ ∀ j, j < k → w.cell? ((ad.add (i.val * k)).add j) = (en x)[j]? := by
      intro i
      obtain ⟨cs', h1, h2⟩ := hall i.val (by omega)
      rw [hc] at h1
      obtain ⟨_, _, h3⟩ := World.cells?_some h1
      obtain ⟨x, hox, rfl⟩ := hO _ _ _ _ _ _ _ _ _ h2
      exact ⟨x, hox, h3⟩
    obtain ⟨f, hf⟩ := Classical.axiomOfChoice each
    refine ⟨some ad, cap, List.ofFn f, by rw [List.length_ofFn], fun x hx => ?_, ?_⟩
    · obtain ⟨i, rfl⟩ := List.mem_ofFn.1 hx; exact (hf i).1
    · obtain ⟨b, o, sp⟩ := ad
      simp only at hsp
      subst hsp
      refine ⟨len_map hk _, by simp only [List.length_map, List.length_ofFn]; simp only [maxLen] at hm; omega, .inr ⟨b, o, cap, by rw [List.length_map]⟩, fun i j l u hi hj => ?_, by rw [List.length_map, List.length_ofFn]; exact hrm⟩
      have hi' := lt_of_get hi
      rw [List.length_map, List.length_ofFn] at hi'
      have e1 : l = en (f ⟨i, hi'⟩) := by
        rw [List.getElem?_map, List.getElem?_ofFn] at hi
        simp [hi'] at hi
        exact hi.symm
      subst e1
      have hjk : j < k := by have := lt_of_get hj; rw [hk] at this; exact this
      have h4 := (hf ⟨i, hi'⟩).2 j hjk
      rw [add_eq, add_eq] at h4
      show w.cell? ⟨b, o + i * k + j, none⟩ = some u
      rw [← hj]; exact h4
end Go.Vx
