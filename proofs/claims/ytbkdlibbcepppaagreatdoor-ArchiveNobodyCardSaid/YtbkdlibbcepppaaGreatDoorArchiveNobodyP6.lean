/- A part of a proof: what functions of the program compute, and plain facts on that. -/
import Derived.Test.YtbkdlibbcepppaaGreatDoorArchiveNobodyP5
import Derived.Sort.Walk13a
import Derived.Sort.AssemblyPlain
import Derived.OpenShut
import Derived.ChangeArms
import Derived.ProofKit
import Derived.Deep.Slices
import Derived.KernelRfl
import Derived.Test.YtbkdlibbcepppaaGreatDoorProg
import Derived.WideKeyEntry
import Derived.Laws.CopyRow
import Derived.Lib.AppendZeros
import Derived.Lib.Overlaps
import Derived.Laws.Externs
import Derived.Laws.Cover3
set_option linter.unusedVariables false
set_option linter.unusedSectionVars false
set_option linter.unusedSimpArgs false
namespace Go.Vx
def dotB (d : Dot) : Bool := decide (d.rep < 16) && decide (1 ≤ d.seq) && decide (d.seq ≤ 1048576)
theorem dotB_spec {d : Dot} (h : dotB d = true) : d.rep < 16 ∧ 1 ≤ d.seq ∧ d.seq ≤ 1048576 := by
  unfold dotB at h; simp at h; exact ⟨h.1.1, h.1.2, h.2⟩
def hasB (v : Vec) (d : Dot) : Bool := dotB d && decide (d.seq ≤ vat v d.rep.toNat)
def nextV (v : Vec) (d : Dot) : Vec := if dotB d = false then vzero else if hasB v d = true then vzero else if d.seq = (vat v d.rep.toNat + 1) % 4294967296 then vset v d.rep.toNat (vat v d.rep.toNat + 1) else vzero
def nextE (v : Vec) (d : Dot) : Int := if dotB d = false then 2 else if hasB v d = true then 8 else if d.seq = (vat v d.rep.toNat + 1) % 4294967296 then 0 else 9
def okAt (v : Vec) (n : Int) (i : Nat) : Bool := !(decide (1048576 < vat v i) || decide (n ≤ (i : Int)) && decide (0 < vat v i))
def rightB (v : Vec) (n : Int) : Bool := !(decide (n < 1) || decide (16 < n)) && (List.range 16).all fun i => okAt v n i
def vle (a b : Vec) : Bool := (List.range 16).all fun i => decide (vat a i ≤ vat b i)
def vsum (v : Vec) : Int := ((List.range 16).map fun i => vat v i).sum
end Go.Vx
namespace Go.Vx
theorem vle_yes {a b : Vec} (h : ∀ j : Nat, j < 16 → vat a j ≤ vat b j) : vle a b = true := by
  unfold vle; rw [List.all_eq_true]; intro i hi; simpa using h i (by simpa using hi)
end Go.Vx
namespace Go.Vx
def hasG (v : Vec) (l : List Dot) (d : Dot) : Bool := decide (d ∈ l) || hasB v d
end Go.Vx
namespace Go.Vx
def cloGo (l : List Dot) (i : Int) : Nat → Int → Int
  | 0, n => n
  | f + 1, n => if ⟨i, n + 1⟩ ∈ l then cloGo l i f (n + 1) else n
def cloAt (l : List Dot) (i n : Int) : Int := cloGo l i (1048576 - n).toNat n
def cloV (l : List Dot) (v : Vec) : Vec := fun j => cloAt l (j.val : Int) (v j)
def Dots (l : List Dot) : Prop := ∀ d ∈ l, DotOk d ∧ dotB d = true
def VOk (v : Vec) : Prop := ∀ j, 0 ≤ v j ∧ v j ≤ 1048576
theorem VOk.ok {v : Vec} (h : VOk v) : VecOk v := fun j => by have := h j; omega
theorem VOk.at {v : Vec} (h : VOk v) (j : Nat) : 0 ≤ vat v j ∧ vat v j ≤ 1048576 := by
  unfold vat; split
  · exact h _
  · omega
theorem VOk.set {v : Vec} (h : VOk v) (i : Nat) {x : Int} (h0 : 0 ≤ x) (h1 : x ≤ 1048576) : VOk (vset v i x) := by
  intro j; unfold vset; split
  · exact ⟨h0, h1⟩
  · exact h j
theorem cloAt_end {l : List Dot} {i n : Int} (h : (⟨i, n + 1⟩ : Dot) ∉ l) : cloAt l i n = n := by
  unfold cloAt
  cases (1048576 - n).toNat with
  | zero => rfl
  | succ f => simp [cloGo, h]
theorem cloAt_step {l : List Dot} (hl : Dots l) {i n : Int} (h : (⟨i, n + 1⟩ : Dot) ∈ l) : cloAt l i n = cloAt l i (n + 1) := by
  have := (dotB_spec (hl _ h).2).2.2
  have e : (1048576 - n).toNat = (1048576 - (n + 1)).toNat + 1 := by dsimp only at this; omega
  unfold cloAt
  rw [e]
  simp [cloGo, h]
theorem vat_cloV (l : List Dot) (v : Vec) (j : Nat) (h : j < 16) : vat (cloV l v) j = cloAt l (j : Int) (vat v j) := by
  unfold vat cloV; simp [h]
theorem vec_ext {u v : Vec} (h : ∀ j : Nat, j < 16 → vat u j = vat v j) : u = v := by
  funext j
  have := h j.val j.isLt
  simpa [vat] using this
end Go.Vx
namespace Go.Vx
theorem vat_big (v : Vec) {j : Nat} (h : 16 ≤ j) : vat v j = 0 := by unfold vat; rw [dif_neg (by omega)]
end Go.Vx
namespace Go.Vx
def stretch (i : Int) (n : Int) (c : Nat) : List Dot := (List.range c).map fun (j : Nat) => ⟨i, n + (j : Int)⟩
end Go.Vx
namespace Go.Vx
def addE (v : Vec) (l : List Dot) (d : Dot) : Int := if dotB d = false then 2 else if hasG v l d = true then 8 else if vat (cloV l v) d.rep.toNat + 256 < d.seq then 10 else 0
def addL (v : Vec) (l : List Dot) (d : Dot) : List Dot := if addE v l d = 0 then l ++ [d] else l
end Go.Vx
namespace Go.Vx
def gHas (g : Grp) (d : Dot) : Bool := (mget d g.l).isSome || hasB g.v d
end Go.Vx
namespace Go.Vx
structure GOk (g : Grp) : Prop where
  v : VOk g.v
  l : Dots (g.l.map (·.1))
  nd : (g.l.map (·.1)).Nodup
section
variable {κ ν : Type} [DecidableEq κ]
theorem mget_mem {k : κ} : ∀ {l : List (κ × ν)}, (mget k l).isSome = true → k ∈ l.map (·.1)
  | [], h => by cases h
  | (a, b) :: l, h => by
    unfold mget at h
    split at h
    · rename_i e; subst e; simp
    · exact List.mem_cons_of_mem _ (mget_mem h)
theorem mget_iff {k : κ} : ∀ {l : List (κ × ν)}, (mget k l).isSome = decide (k ∈ l.map (·.1))
  | [] => rfl
  | (a, b) :: l => by
    unfold mget
    split
    · rename_i e; subst e; simp
    · rename_i e; rw [mget_iff (l := l)]; simp [e]
theorem mdel_len {k : κ} : ∀ {l : List (κ × ν)}, (mget k l).isSome = true → (mdel k l).length + 1 = l.length
  | [], h => by cases h
  | (a, b) :: l, h => by
    unfold mget at h; unfold mdel
    split at h
    · rename_i e; rw [if_pos e]; rfl
    · rename_i e; rw [if_neg e]; simp [mdel_len h]
theorem mdel_sub {k : κ} : ∀ {l : List (κ × ν)}, (mdel k l).Sublist l
  | [] => List.Sublist.refl _
  | (a, b) :: l => by
    unfold mdel
    split
    · exact List.sublist_cons_self _ _
    · exact mdel_sub.cons_cons _
end
def setStep (rep : Int) (g : Grp) : Grp := ⟨vset g.v rep.toNat (vat g.v rep.toNat + 1), mdel ⟨rep, vat g.v rep.toNat + 1⟩ g.l⟩
def settleGo (rep : Int) : Nat → Grp → Grp
  | 0, g => g
  | f + 1, g => if (mget (⟨rep, vat g.v rep.toNat + 1⟩ : Dot) g.l).isSome = true then settleGo rep f (setStep rep g) else g
def settleG (rep : Int) (g : Grp) : Grp := settleGo rep g.l.length g
theorem settle_ok {rep : Int} {g : Grp} (hg : GOk g) (h : (mget (⟨rep, vat g.v rep.toNat + 1⟩ : Dot) g.l).isSome = true) : GOk (setStep rep g) := by
  have h1 := (dotB_spec (hg.l _ (mget_mem h)).2).2.2
  have h2 := hg.v.at rep.toNat
  dsimp only at h1
  exact ⟨hg.v.set _ (by omega) h1, fun d hd => hg.l d ((mdel_sub.map _).subset hd), hg.nd.sublist (mdel_sub.map _)⟩
end Go.Vx
namespace Go.Vx
def gAddE (g : Grp) (d : Dot) : Int := if nextE g.v d = 2 then 2 else if nextE g.v d = 8 then 8 else if nextE g.v d = 9 then (if gHas g d = true then 8 else if vat g.v d.rep.toNat + 256 < d.seq then 10 else 0) else 0
def gAddG (g : Grp) (d : Dot) : Grp := if nextE g.v d = 2 then g else if nextE g.v d = 8 then g else if nextE g.v d = 9 then (if gHas g d = true then g else if vat g.v d.rep.toNat + 256 < d.seq then g else ⟨g.v, mput d () g.l⟩) else settleG d.rep ⟨nextV g.v d, g.l⟩
theorem nextE_9 {v : Vec} {d : Dot} (h : nextE v d = 9) : dotB d = true := by
  unfold nextE at h
  split at h
  · cases h
  · rename_i h1; simpa using h1
theorem nextE_0 {v : Vec} {d : Dot} (h2 : ¬ nextE v d = 2) (h8 : ¬ nextE v d = 8) (h9 : ¬ nextE v d = 9) : dotB d = true ∧ hasB v d = false ∧ d.seq = (vat v d.rep.toNat + 1) % 4294967296 := by
  unfold nextE at h2 h8 h9
  split at h2
  · exact absurd rfl h2
  · rename_i h1
    rw [if_neg h1] at h8 h9
    split at h8
    · exact absurd rfl h8
    · rename_i h3
      rw [if_neg h3] at h9
      split at h9
      · rename_i h4; exact ⟨by simpa using h1, by simpa using h3, h4⟩
      · exact absurd rfl h9
theorem next_ok {g : Grp} {d : Dot} (hg : GOk g) (h2 : ¬ nextE g.v d = 2) (h8 : ¬ nextE g.v d = 8) (h9 : ¬ nextE g.v d = 9) : GOk ⟨nextV g.v d, g.l⟩ := by
  obtain ⟨h1, h3, h4⟩ := nextE_0 h2 h8 h9
  have h5 := dotB_spec h1
  have h6 := hg.v.at d.rep.toNat
  refine ⟨?_, hg.l, hg.nd⟩
  show VOk (nextV g.v d)
  unfold nextV
  rw [if_neg (by simp [h1]), if_neg (by simp [h3]), if_pos h4]
  exact hg.v.set _ (by omega) (by omega)
end Go.Vx
namespace Go.Vx
section
variable {g : Grp} {d : Dot}
theorem gAdd_2 (h : nextE g.v d = 2) : gAddE g d = nextE g.v d ∧ gAddG g d = g := by simp [gAddE, gAddG, h]
theorem gAdd_8 (h : nextE g.v d = 8) : gAddE g d = nextE g.v d ∧ gAddG g d = g := by simp [gAddE, gAddG, h]
theorem gAdd_h (h : nextE g.v d = 9) (h1 : gHas g d = true) : gAddE g d = 8 ∧ gAddG g d = g := by simp [gAddE, gAddG, h, h1]
theorem gAdd_f (h : nextE g.v d = 9) (h1 : gHas g d = false) (h2 : vat g.v d.rep.toNat + 256 < d.seq) : gAddE g d = 10 ∧ gAddG g d = g := by simp [gAddE, gAddG, h, h1, h2]
theorem gAdd_i (h : nextE g.v d = 9) (h1 : gHas g d = false) (h2 : ¬ vat g.v d.rep.toNat + 256 < d.seq) : gAddE g d = 0 ∧ gAddG g d = ⟨g.v, mput d () g.l⟩ := by
  unfold gAddE gAddG
  rw [if_neg (by omega), if_neg (by omega), if_pos h, if_neg (by simp [h1]), if_neg h2, if_neg (by omega), if_neg (by omega), if_pos h, if_neg (by simp [h1]), if_neg h2]
  exact ⟨rfl, rfl⟩
theorem gAdd_0 (h2 : ¬ nextE g.v d = 2) (h8 : ¬ nextE g.v d = 8) (h9 : ¬ nextE g.v d = 9) : gAddE g d = 0 ∧ gAddG g d = settleG d.rep ⟨nextV g.v d, g.l⟩ := by
  unfold gAddE gAddG
  rw [if_neg h2, if_neg h8, if_neg h9, if_neg h2, if_neg h8, if_neg h9]
  exact ⟨rfl, rfl⟩
end
end Go.Vx
namespace Go.Vx
def cmpI (x y : Int) : Int := if x < y then -1 else if y < x then 1 else 0
def orI (l : List Int) : Int := (l.find? fun x => !decide (x = 0)).getD 0
def ordD (a b : Dot) : Int := orI [cmpI a.rep b.rep, cmpI a.seq b.seq]
end Go.Vx
namespace Go.Vx
def missGo (v : Vec) : List Dot → List Dot
  | [] => []
  | d :: l => stretch d.rep (vat v d.rep.toNat + 1) (d.seq - 1 - vat v d.rep.toNat).toNat ++ missGo (vset v d.rep.toNat d.seq) l
end Go.Vx
namespace Go.Vx
theorem ordD_lt {x y : Dot} : ordD x y < 0 ↔ x.rep < y.rep ∨ (x.rep = y.rep ∧ x.seq < y.seq) := by
  unfold ordD orI cmpI
  by_cases h1 : x.rep < y.rep
  · simp [h1]
  · by_cases h2 : y.rep < x.rep
    · simp [h1, h2]; omega
    · have h3 : x.rep = y.rep := by omega
      by_cases h4 : x.seq < y.seq
      · simp [h3, h4]
      · by_cases h5 : y.seq < x.seq
        · simp [h3, h4, h5]
        · simp [h3, h4, h5]
def leD (x y : Dot) : Bool := !decide (ordD y x < 0)
theorem leD_iff {x y : Dot} : leD x y = true ↔ x.rep < y.rep ∨ (x.rep = y.rep ∧ x.seq ≤ y.seq) := by
  unfold leD
  simp only [Bool.not_eq_true', decide_eq_false_iff_not, ordD_lt]
  omega
theorem leD_trans (a b c : Dot) (h1 : leD a b = true) (h2 : leD b c = true) : leD a c = true := by
  rw [leD_iff] at *; omega
theorem leD_total (a b : Dot) : (leD a b || leD b a) = true := by
  rw [Bool.or_eq_true, leD_iff, leD_iff]; omega
theorem leD_anti {a b : Dot} (h1 : leD a b = true) (h2 : leD b a = true) : a = b := by
  rw [leD_iff] at *
  cases a; cases b
  simp only [Dot.mk.injEq] at *
  omega
theorem sorted_unique : ∀ {l m : List Dot}, l.Perm m → l.Pairwise (fun x y => leD x y = true) → m.Pairwise (fun x y => leD x y = true) → l = m
  | [], m, h, _, _ => by have := h.length_eq; simp at this; exact (List.eq_nil_of_length_eq_zero this.symm).symm
  | a :: l, [], h, _, _ => by have := h.length_eq; simp at this
  | a :: l, b :: m, h, h1, h2 => by
    rw [List.pairwise_cons] at h1 h2
    have hab : a = b := by
      have ha : a ∈ b :: m := h.subset (by simp)
      have hb : b ∈ a :: l := h.symm.subset (by simp)
      rcases List.mem_cons.1 ha with e | ha
      · exact e
      · rcases List.mem_cons.1 hb with e | hb
        · exact e.symm
        · exact leD_anti (h1.1 b hb) (h2.1 a ha)
    subst hab
    rw [sorted_unique (List.Perm.cons_inv h) h1.2 h2.2]
def sortL (l : List Dot) : List Dot := l.mergeSort leD
def looseL (g : Grp) : List Dot := sortL (g.l.map (·.1))
def missL (g : Grp) : List Dot := missGo g.v (looseL g)
end Go.Vx
namespace Go.Vx
theorem settleGo_ok {rep : Int} : ∀ (f : Nat) (g : Grp), GOk g → GOk (settleGo rep f g)
  | 0, _, h => h
  | f + 1, g, h => by
    unfold settleGo
    split
    · rename_i hh; exact settleGo_ok f _ (settle_ok h hh)
    · exact h
theorem mput_keys {κ ν : Type} [DecidableEq κ] {k : κ} {v : ν} : ∀ {l : List (κ × ν)}, (mput k v l).map (·.1) = if k ∈ l.map (·.1) then l.map (·.1) else l.map (·.1) ++ [k]
  | [] => rfl
  | (a, b) :: l => by
    unfold mput
    split
    · rename_i e; subst e; simp
    · rename_i e
      simp only [List.map_cons, mput_keys (l := l), List.mem_cons, e, false_or]
      split <;> simp
theorem gAddG_ok {g : Grp} {d : Dot} (hg : GOk g) (hd : DotOk d) : GOk (gAddG g d) := by
  unfold gAddG
  split
  · exact hg
  · split
    · exact hg
    · split
      · rename_i h9
        split
        · exact hg
        · split
          · exact hg
          · refine ⟨hg.v, ?_, ?_⟩
            · show Dots ((mput d () g.l).map (·.1))
              rw [mput_keys]
              split
              · exact hg.l
              · intro x hx
                rcases List.mem_append.1 hx with h | h
                · exact hg.l x h
                · simp at h; subst h; exact ⟨hd, nextE_9 h9⟩
            · show ((mput d () g.l).map (·.1)).Nodup
              rw [mput_keys]
              split
              · exact hg.nd
              · rename_i h
                rw [List.nodup_append]
                exact ⟨hg.nd, by simp, fun a ha b hb => by simp at hb; subst hb; exact fun e => h (e ▸ ha)⟩
      · rename_i h2 h8 h9
        exact settleGo_ok _ _ (next_ok hg h2 h8 h9)
end Go.Vx
namespace Go.Vx
structure GInv (g : Grp) : Prop where
  ok : GOk g
  far : ∀ d ∈ g.l.map (·.1), vat g.v d.rep.toNat + 1 < d.seq
structure GHalf (rep : Int) (g : Grp) : Prop where
  ok : GOk g
  near : ∀ d ∈ g.l.map (·.1), vat g.v d.rep.toNat < d.seq
  far : ∀ d ∈ g.l.map (·.1), d.rep ≠ rep → vat g.v d.rep.toNat + 1 < d.seq
theorem mdel_keys {κ ν : Type} [DecidableEq κ] {k : κ} : ∀ {l : List (κ × ν)}, (l.map (·.1)).Nodup → ∀ x, x ∈ (mdel k l).map (·.1) ↔ x ∈ l.map (·.1) ∧ x ≠ k
  | [], _, x => by simp [mdel]
  | (a, b) :: l, h, x => by
    rw [List.map_cons, List.nodup_cons] at h
    unfold mdel
    split
    · rename_i e
      subst e
      simp only [List.map_cons, List.mem_cons]
      constructor
      · intro hx; exact ⟨.inr hx, fun e => h.1 (e ▸ hx)⟩
      · rintro ⟨hx | hx, hne⟩
        · exact absurd hx hne
        · exact hx
    · rename_i e
      simp only [List.map_cons, List.mem_cons, mdel_keys h.2]
      constructor
      · rintro (rfl | ⟨hx, hne⟩)
        · exact ⟨.inl rfl, fun e' => e e'.symm⟩
        · exact ⟨.inr hx, hne⟩
      · rintro ⟨hx | hx, hne⟩
        · exact .inl hx
        · exact .inr ⟨hx, hne⟩
theorem toNat_inj {a b : Int} (ha : 0 ≤ a) (hb : 0 ≤ b) (h : a.toNat = b.toNat) : a = b := by omega
theorem dot_ext {a b : Dot} (h1 : a.rep = b.rep) (h2 : a.seq = b.seq) : a = b := by cases a; cases b; simp_all
theorem half_step {rep : Int} {g : Grp} (h0 : 0 ≤ rep) (h : GHalf rep g) (hm : (mget (⟨rep, vat g.v rep.toNat + 1⟩ : Dot) g.l).isSome = true) : GHalf rep (setStep rep g) := by
  refine ⟨settle_ok h.ok hm, fun d hd => ?_, fun d hd hne => ?_⟩
  · obtain ⟨hd1, hd2⟩ := (mdel_keys h.ok.nd d).1 hd
    have hok := (h.ok.l d hd1)
    have hb := dotB_spec hok.2
    have hr := hok.1.1
    show vat (vset g.v rep.toNat (vat g.v rep.toNat + 1)) d.rep.toNat < d.seq
    rw [vat_vset _ _ _ _ (by omega)]
    have hn := h.near d hd1
    split
    · rename_i e
      have er : d.rep = rep := toNat_inj hr.1 h0 e
      rw [e] at hn
      rcases Int.lt_or_le (vat g.v rep.toNat + 1) d.seq with h2 | h2
      · exact h2
      · exact absurd (dot_ext er (by show d.seq = vat g.v rep.toNat + 1; omega)) hd2
    · exact hn
  · obtain ⟨hd1, hd2⟩ := (mdel_keys h.ok.nd d).1 hd
    have hok := (h.ok.l d hd1)
    have hb := dotB_spec hok.2
    have hr := hok.1.1
    show vat (vset g.v rep.toNat (vat g.v rep.toNat + 1)) d.rep.toNat + 1 < d.seq
    rw [vat_vset _ _ _ _ (by omega), if_neg (fun e => hne (toNat_inj hr.1 h0 e))]
    exact h.far d hd1 hne
theorem half_end {rep : Int} {g : Grp} (h : GHalf rep g) (hm : (mget (⟨rep, vat g.v rep.toNat + 1⟩ : Dot) g.l).isSome = false) : GInv g := by
  refine ⟨h.ok, fun d hd => ?_⟩
  by_cases e : d.rep = rep
  · have hn := h.near d hd
    rcases Int.lt_or_le (vat g.v d.rep.toNat + 1) d.seq with h2 | h2
    · exact h2
    · have e2 : d = ⟨rep, vat g.v rep.toNat + 1⟩ := dot_ext e (by show d.seq = vat g.v rep.toNat + 1; rw [← e]; omega)
      rw [mget_iff] at hm
      exact absurd (e2 ▸ hd) (of_decide_eq_false hm)
  · exact h.far d hd e
theorem vsum_vset (v : Vec) (i : Nat) (x : Int) (h : i < 16) : vsum (vset v i x) = vsum v - vat v i + x := by
  have key : ∀ (l : List Nat), l.Nodup → (∀ j ∈ l, j < 16) → ((l.map fun j => vat (vset v i x) j).sum : Int) = (l.map fun j => vat v j).sum + (if i ∈ l then x - vat v i else 0) := by
    intro l
    induction l with
    | nil => intro _ _; simp
    | cons a l ih =>
      intro hn hl
      rw [List.nodup_cons] at hn
      have ha := hl a (by simp)
      simp only [List.map_cons, List.sum_cons, ih hn.2 (fun j hj => hl j (by simp [hj])), vat_vset _ _ _ _ ha]
      by_cases e : a = i
      · subst e
        simp [hn.1]
        omega
      · have : i ∈ a :: l ↔ i ∈ l := by
          rw [List.mem_cons]
          exact ⟨fun h => h.resolve_left (fun e' => e e'.symm), .inr⟩
        simp only [if_neg e, this]
        omega
  have := key (List.range 16) (List.nodup_range) (fun j hj => by simpa using hj)
  rw [if_pos (by simpa using h)] at this
  unfold vsum
  omega
theorem settle_keeps {rep : Int} (h0 : 0 ≤ rep) (h1 : rep < 16) : ∀ (f : Nat) (g : Grp), GHalf rep g → g.l.length ≤ f →
    GInv (settleGo rep f g) ∧ vsum (settleGo rep f g).v + (settleGo rep f g).l.length = vsum g.v + g.l.length ∧ (∀ d, DotOk d → gHas g d = true → gHas (settleGo rep f g) d = true) ∧ (∀ j, vat g.v j ≤ vat (settleGo rep f g).v j)
  | 0, g, h, hf => by
    have hl : g.l = [] := List.eq_nil_of_length_eq_zero (by omega)
    exact ⟨half_end h (by show (mget _ g.l).isSome = false; rw [hl]; rfl), rfl, fun _ _ h => h, fun _ => Int.le_refl _⟩
  | f + 1, g, h, hf => by
    unfold settleGo
    split
    · rename_i hm
      have hlen := mdel_len hm
      have hst := half_step h0 h hm
      obtain ⟨r1, r2, r3, r4⟩ := settle_keeps h0 h1 f (setStep rep g) hst (by show (mdel _ _).length ≤ f; omega)
      have hsum : vsum (setStep rep g).v = vsum g.v + 1 := by
        show vsum (vset g.v rep.toNat (vat g.v rep.toNat + 1)) = _
        rw [vsum_vset _ _ _ (by omega)]; omega
      have hl2 : (setStep rep g).l.length + 1 = g.l.length := hlen
      have hv : ∀ j, vat g.v j ≤ vat (setStep rep g).v j := by
        intro j
        show vat g.v j ≤ vat (vset g.v rep.toNat (vat g.v rep.toNat + 1)) j
        by_cases hj : j < 16
        · rw [vat_vset _ _ _ _ hj]; split
          · rename_i e; subst e; omega
          · omega
        · rw [vat_big _ (by omega), vat_big _ (by omega)]; omega
      refine ⟨r1, by omega, fun d hd hh => r3 d hd ?_, fun j => Int.le_trans (hv j) (r4 j)⟩
      unfold gHas at hh ⊢
      rw [Bool.or_eq_true] at hh ⊢
      rcases hh with hh | hh
      · rw [mget_iff] at hh ⊢
        have hk := of_decide_eq_true hh
        by_cases e : d = ⟨rep, vat g.v rep.toNat + 1⟩
        · right
          have hb := (h.ok.l d hk).2
          unfold hasB
          rw [hb]
          subst e
          show decide (vat g.v rep.toNat + 1 ≤ vat (vset g.v rep.toNat (vat g.v rep.toNat + 1)) rep.toNat) = true
          rw [vat_vset _ _ _ _ (by omega), if_pos rfl]; simp
        · left
          exact decide_eq_true ((mdel_keys h.ok.nd d).2 ⟨hk, e⟩)
      · right
        unfold hasB at hh ⊢
        rw [Bool.and_eq_true] at hh ⊢
        refine ⟨hh.1, decide_eq_true ?_⟩
        have := of_decide_eq_true hh.2
        exact Int.le_trans this (hv _)
    · rename_i hm
      exact ⟨half_end h (by simpa using hm), rfl, fun _ _ h => h, fun _ => Int.le_refl _⟩
theorem mget_mput {κ ν : Type} [DecidableEq κ] {k x : κ} {v : ν} {l : List (κ × ν)} : (mget x (mput k v l)).isSome = (decide (x = k) || (mget x l).isSome) := by
  rw [mget_iff, mget_iff, mput_keys]
  split
  · rename_i h
    by_cases e : x = k
    · subst e; simp [h]
    · simp [e]
  · by_cases e : x = k
    · subst e; simp
    · simp [e]
structure Grows (g : Grp) (d : Dot) (g' : Grp) (e : Int) : Prop where
  inv : GInv g'
  sum : vsum g'.v + g'.l.length = vsum g.v + g.l.length + (if e = 0 then 1 else 0)
  keep : ∀ x, DotOk x → gHas g x = true → gHas g' x = true
  le : ∀ j, vat g.v j ≤ vat g'.v j
  same : e ≠ 0 → g' = g
  got : e = 0 → gHas g' d = true
theorem add_grows {g : Grp} {d : Dot} (hg : GInv g) (hd : DotOk d) : Grows g d (gAddG g d) (gAddE g d) := by
  have stay : ∀ e : Int, e ≠ 0 → gAddE g d = e → gAddG g d = g → Grows g d (gAddG g d) (gAddE g d) := by
    intro e he hE hG
    rw [hE, hG]
    exact ⟨hg, by rw [if_neg he]; omega, fun _ _ h => h, fun _ => Int.le_refl _, fun _ => rfl, fun h => absurd h he⟩
  by_cases h2 : nextE g.v d = 2
  · exact stay _ (by omega) ((gAdd_2 h2).1.trans h2) (gAdd_2 h2).2
  · by_cases h8 : nextE g.v d = 8
    · exact stay _ (by omega) ((gAdd_8 h8).1.trans h8) (gAdd_8 h8).2
    · by_cases h9 : nextE g.v d = 9
      · cases hh : gHas g d with
        | true => exact stay _ (by omega) (gAdd_h h9 hh).1 (gAdd_h h9 hh).2
        | false =>
          by_cases hf : vat g.v d.rep.toNat + 256 < d.seq
          · exact stay _ (by omega) (gAdd_f h9 hh hf).1 (gAdd_f h9 hh hf).2
          · obtain ⟨hE, hG⟩ := gAdd_i h9 hh hf
            have hok := gAddG_ok hg.ok hd
            rw [hE, hG] at *
            have hb := nextE_9 h9
            unfold gHas at hh
            rw [Bool.or_eq_false_iff] at hh
            have hnk : d ∉ g.l.map (·.1) := by rw [mget_iff] at hh; exact of_decide_eq_false hh.1
            have hnb : ¬ d.seq ≤ vat g.v d.rep.toNat := by
              have := hh.2
              unfold hasB at this
              rw [hb] at this
              simpa using this
            have hne : ¬ d.seq = (vat g.v d.rep.toNat + 1) % 4294967296 := by
              intro e
              unfold nextE at h9
              rw [if_neg (by simp [hb]), if_neg (by rw [hh.2]; decide), if_pos e] at h9
              cases h9
            have hv := hg.ok.v.at d.rep.toNat
            refine ⟨⟨hok, fun x hx => ?_⟩, ?_, fun x _ hx => ?_, fun _ => Int.le_refl _, fun h => absurd rfl h, fun _ => ?_⟩
            · have hx' : x ∈ (mput d () g.l).map (·.1) := hx
              rw [mput_keys, if_neg hnk, List.mem_append] at hx'
              rcases hx' with hx' | hx'
              · exact hg.far x hx'
              · simp at hx'; subst hx'
                show vat g.v x.rep.toNat + 1 < x.seq
                omega
            · show vsum g.v + (mput d () g.l).length = _
              have := congrArg List.length (mput_keys (k := d) (v := ()) (l := g.l))
              rw [if_neg hnk, List.length_map, List.length_append, List.length_map] at this
              rw [if_pos rfl, this]
              simp only [List.length_cons, List.length_nil]
              omega
            · unfold gHas at hx ⊢
              rw [Bool.or_eq_true] at hx ⊢
              rcases hx with hx | hx
              · left; show (mget x (mput d () g.l)).isSome = true; rw [mget_mput, hx]; simp
              · exact .inr hx
            · unfold gHas
              rw [show (mget d (mput d () g.l)).isSome = true by rw [mget_mput]; simp]; rfl
      · obtain ⟨hE, hG⟩ := gAdd_0 h2 h8 h9
        obtain ⟨hb, hhas, hseq⟩ := nextE_0 h2 h8 h9
        have hbs := dotB_spec hb
        have hv := hg.ok.v.at d.rep.toNat
        have hnv : nextV g.v d = vset g.v d.rep.toNat (vat g.v d.rep.toNat + 1) := by
          unfold nextV; rw [if_neg (by simp [hb]), if_neg (by simp [hhas]), if_pos hseq]
        have hhalf : GHalf d.rep ⟨nextV g.v d, g.l⟩ := by
          refine ⟨next_ok hg.ok h2 h8 h9, fun x hx => ?_, fun x hx hne => ?_⟩
          · have hxo := hg.ok.l x hx
            have hf := hg.far x hx
            have hr := hxo.1.1
            have hxb := dotB_spec hxo.2
            show vat (nextV g.v d) x.rep.toNat < x.seq
            rw [hnv, vat_vset _ _ _ _ (by omega)]
            split
            · rename_i e; rw [e] at hf; omega
            · omega
          · have hxo := hg.ok.l x hx
            have hf := hg.far x hx
            have hr := hxo.1.1
            have hxb := dotB_spec hxo.2
            show vat (nextV g.v d) x.rep.toNat + 1 < x.seq
            rw [hnv, vat_vset _ _ _ _ (by omega), if_neg (fun e => hne (toNat_inj hr.1 hd.1.1 e))]
            exact hf
        obtain ⟨r1, r2, r3, r4⟩ := settle_keeps hd.1.1 hbs.1 g.l.length ⟨nextV g.v d, g.l⟩ hhalf (Nat.le_refl _)
        have hmono : ∀ j, vat g.v j ≤ vat (nextV g.v d) j := by
          intro j
          rw [hnv]
          by_cases hj : j < 16
          · rw [vat_vset _ _ _ _ hj]; split
            · rename_i e; subst e; omega
            · omega
          · rw [vat_big _ (by omega), vat_big _ (by omega)]; omega
        have hGo : settleG d.rep ⟨nextV g.v d, g.l⟩ = settleGo d.rep g.l.length ⟨nextV g.v d, g.l⟩ := rfl
        rw [hE, hG, hGo]
        refine ⟨r1, ?_, fun x hxo hx => r3 x hxo ?_, fun j => Int.le_trans (hmono j) (r4 j), fun h => absurd rfl h, fun _ => r3 d hd ?_⟩
        · rw [r2, if_pos rfl]
          show vsum (nextV g.v d) + ((g.l.length : Nat) : Int) = _
          rw [hnv, vsum_vset _ _ _ (by omega)]; omega
        · unfold gHas at hx ⊢
          rw [Bool.or_eq_true] at hx ⊢
          rcases hx with hx | hx
          · exact .inl hx
          · right
            unfold hasB at hx ⊢
            rw [Bool.and_eq_true] at hx ⊢
            exact ⟨hx.1, decide_eq_true (Int.le_trans (of_decide_eq_true hx.2) (hmono _))⟩
        · unfold gHas
          rw [Bool.or_eq_true]
          right
          unfold hasB
          rw [hb]
          show decide (d.seq ≤ vat (nextV g.v d) d.rep.toNat) = true
          rw [hnv, vat_vset _ _ _ _ (by omega), if_pos rfl]
          exact decide_eq_true (by omega)
end Go.Vx
namespace Go.Vx
def vsumK (v : Vec) : Nat → Int
  | 0 => 0
  | k + 1 => vsumK v k + vat v k
theorem vsumK_eq (v : Vec) (k : Nat) : vsumK v k = ((List.range k).map fun i => vat v i).sum := by
  induction k with
  | zero => rfl
  | succ k ih => rw [List.range_succ, List.map_append, List.sum_append]; simp [vsumK, ih]
theorem vsum_K (v : Vec) : vsumK v 16 = vsum v := vsumK_eq v 16
end Go.Vx
namespace Go.Vx
theorem vsumK_bd {v : Vec} (hv : VecOk v) : ∀ k, 0 ≤ vsumK v k ∧ vsumK v k ≤ (k : Int) * 4294967296
  | 0 => by simp [vsumK]
  | k + 1 => by
    have h1 := vsumK_bd hv k
    have h2 := vat_ok hv k
    show 0 ≤ vsumK v k + vat v k ∧ vsumK v k + vat v k ≤ _
    constructor
    · omega
    · push_cast; omega
theorem vsum_bd {v : Vec} (hv : VecOk v) : 0 ≤ vsum v ∧ vsum v ≤ 68719476736 := by
  have := vsumK_bd hv 16
  rw [vsum_K] at this
  omega
end Go.Vx
namespace Go.Vx
def ltD (x y : Dot) : Prop := x.rep < y.rep ∨ (x.rep = y.rep ∧ x.seq < y.seq)
theorem lt_nodup {l : List Dot} (h : l.Pairwise ltD) : l.Nodup := h.imp fun {a b} hab e => by subst e; unfold ltD at hab; omega
theorem lt_le {l : List Dot} (h : l.Pairwise ltD) : l.Pairwise (fun x y => leD x y = true) := h.imp fun {a b} hab => by rw [leD_iff]; unfold ltD at hab; omega
theorem rising_eq {l m : List Dot} (hl : l.Pairwise ltD) (hm : m.Pairwise ltD) (h : ∀ x, x ∈ l ↔ x ∈ m) : l = m :=
  sorted_unique ((List.perm_ext_iff_of_nodup (lt_nodup hl) (lt_nodup hm)).2 h) (lt_le hl) (lt_le hm)
theorem sortL_rising {l : List Dot} (h : l.Nodup) : (sortL l).Pairwise ltD := by
  have h1 : (sortL l).Pairwise (fun x y => leD x y = true) := List.pairwise_mergeSort leD_trans leD_total l
  have h2 : (sortL l).Nodup := (List.mergeSort_perm l leD).nodup_iff.2 h
  refine (h1.and h2).imp fun {a b} ⟨h3, h4⟩ => ?_
  rw [leD_iff] at h3
  unfold ltD
  rcases h3 with h3 | ⟨h3, h5⟩
  · exact .inl h3
  · refine .inr ⟨h3, ?_⟩
    rcases Int.lt_or_le a.seq b.seq with h6 | h6
    · exact h6
    · exact absurd (dot_ext h3 (by omega)) h4
theorem sortL_mem {l : List Dot} {x : Dot} : x ∈ sortL l ↔ x ∈ l := List.mem_mergeSort
theorem looseL_mem {g : Grp} {x : Dot} : x ∈ looseL g ↔ x ∈ g.l.map (·.1) := sortL_mem
theorem looseL_rising {g : Grp} (h : GOk g) : (looseL g).Pairwise ltD := sortL_rising h.nd
structure CloAt (l : List Dot) (i n c : Int) : Prop where
  le : n ≤ c
  inn : ∀ m, n < m → m ≤ c → (⟨i, m⟩ : Dot) ∈ l
  out : (⟨i, c + 1⟩ : Dot) ∉ l
theorem cloAt_of {l : List Dot} (hl : Dots l) {i c : Int} : ∀ (k : Nat) (n : Int), c = n + k → CloAt l i n c → cloAt l i n = c
  | 0, n, hk, h => by
    have : n = c := by omega
    subst this
    exact cloAt_end h.out
  | k + 1, n, hk, h => by
    rw [cloAt_step hl (h.inn (n + 1) (by omega) (by omega))]
    exact cloAt_of hl k (n + 1) (by omega) ⟨by omega, fun m h1 h2 => h.inn m (by omega) h2, h.out⟩
theorem cloAt_is {l : List Dot} (hl : Dots l) {i n c : Int} (h : CloAt l i n c) : cloAt l i n = c := cloAt_of hl (c - n).toNat n (by have := h.le; omega) h
theorem toNat_cast {i : Int} (h : 0 ≤ i) : ((i.toNat : Nat) : Int) = i := by omega
structure HRel (g : Grp) (v : Vec) (l : List Dot) : Prop where
  vv : VOk v
  dl : Dots l
  le : ∀ j, vat v j ≤ vat g.v j
  inn : ∀ j : Nat, j < 16 → ∀ m, vat v j < m → m ≤ vat g.v j → (⟨(j : Int), m⟩ : Dot) ∈ l
  mem : ∀ d, d ∈ g.l.map (·.1) ↔ d ∈ l ∧ vat g.v d.rep.toNat < d.seq
structure RelD (g : Grp) (v : Vec) (l : List Dot) : Prop extends HRel g v l where
  inv : GInv g
section
variable {g : Grp} {v : Vec} {l : List Dot}
theorem RelD.clo (h : RelD g v l) {j : Nat} (hj : j < 16) : CloAt l j (vat v j) (vat g.v j) := by
  refine ⟨h.le j, h.inn j hj, fun hin => ?_⟩
  have h1 := (h.mem ⟨(j : Int), vat g.v j + 1⟩).2 ⟨hin, by show vat g.v (j : Int).toNat < vat g.v j + 1; rw [Int.toNat_natCast]; omega⟩
  have h2 := h.inv.far _ h1
  dsimp only at h2
  rw [Int.toNat_natCast] at h2
  omega
theorem RelD.cloAt (h : RelD g v l) {j : Nat} (hj : j < 16) : Vx.cloAt l j (vat v j) = vat g.v j := cloAt_is h.dl (h.clo hj)
theorem RelD.cloV (h : RelD g v l) : cloV l v = g.v := vec_ext fun j hj => by rw [vat_cloV _ _ _ hj, h.cloAt hj]
theorem RelD.has (h : RelD g v l) {d : Dot} (hd : DotOk d) : gHas g d = hasG v l d := by
  have key : gHas g d = true ↔ hasG v l d = true := by
    unfold gHas hasG
    rw [Bool.or_eq_true, Bool.or_eq_true, mget_iff, decide_eq_true_iff, decide_eq_true_iff]
    constructor
    · rintro (hk | hb)
      · exact .inl ((h.mem d).1 hk).1
      · unfold hasB at hb ⊢
        rw [Bool.and_eq_true, decide_eq_true_iff] at hb
        rcases Int.lt_or_le (vat v d.rep.toNat) d.seq with h1 | h1
        · left
          have h2 := h.inn d.rep.toNat (by have := dotB_spec hb.1; omega) d.seq h1 hb.2
          rw [toNat_cast hd.1.1] at h2
          exact h2
        · right; rw [hb.1]; simpa using h1
    · rintro (hk | hb)
      · rcases Int.lt_or_le (vat g.v d.rep.toNat) d.seq with h1 | h1
        · exact .inl ((h.mem d).2 ⟨hk, h1⟩)
        · right; unfold hasB; rw [(h.dl d hk).2]; simpa using h1
      · right
        unfold hasB at hb ⊢
        rw [Bool.and_eq_true, decide_eq_true_iff] at hb
        rw [hb.1, Bool.true_and, decide_eq_true_iff]
        exact Int.le_trans hb.2 (h.le _)
  cases h1 : gHas g d <;> cases h2 : hasG v l d <;> simp_all
theorem hrel_step {rep : Int} (h0 : 0 ≤ rep) (hr : rep < 16) (hh : GHalf rep g) (h : HRel g v l) (hm : (mget (⟨rep, vat g.v rep.toNat + 1⟩ : Dot) g.l).isSome = true) : HRel (setStep rep g) v l := by
  have hin := (h.mem _).1 (mget_mem hm)
  have hv : ∀ j, j < 16 → vat (setStep rep g).v j = if j = rep.toNat then vat g.v rep.toNat + 1 else vat g.v j := fun j hj => vat_vset _ _ _ _ hj
  refine ⟨h.vv, h.dl, fun j => ?_, fun j hj m h1 h2 => ?_, fun d => ?_⟩
  · by_cases hj : j < 16
    · rw [hv j hj]; have := h.le j; split
      · rename_i e; subst e; omega
      · exact this
    · show vat v j ≤ vat (vset _ _ _) j
      rw [vat_big _ (by omega), vat_big _ (by omega)]; omega
  · rw [hv j hj] at h2
    split at h2
    · rename_i e
      subst e
      rcases Int.lt_or_le (vat g.v rep.toNat) m with h3 | h3
      · have : m = vat g.v rep.toNat + 1 := by omega
        subst this
        rw [toNat_cast h0]; exact hin.1
      · exact h.inn _ hj m h1 h3
    · exact h.inn _ hj m h1 h2
  · show d ∈ (mdel (⟨rep, vat g.v rep.toNat + 1⟩ : Dot) g.l).map (·.1) ↔ _
    rw [mdel_keys hh.ok.nd, h.mem]
    constructor
    · rintro ⟨⟨h1, h2⟩, h3⟩
      refine ⟨h1, ?_⟩
      have hdb := (h.dl d h1)
      have hds := dotB_spec hdb.2
      rw [hv _ (by omega)]
      split
      · rename_i e
        have er : d.rep = rep := toNat_inj hdb.1.1.1 h0 e
        rw [e] at h2
        rcases Int.lt_or_le (vat g.v rep.toNat + 1) d.seq with h4 | h4
        · exact h4
        · exact absurd (dot_ext er (by show d.seq = vat g.v rep.toNat + 1; omega)) h3
      · exact h2
    · rintro ⟨h1, h2⟩
      have hdb := (h.dl d h1)
      have hds := dotB_spec hdb.2
      rw [hv _ (by omega)] at h2
      refine ⟨⟨h1, ?_⟩, fun e => ?_⟩
      · split at h2
        · rename_i e; rw [e]; omega
        · exact h2
      · subst e
        dsimp only at h2
        rw [if_pos rfl] at h2
        omega
theorem hrel_settle {rep : Int} (h0 : 0 ≤ rep) (h1 : rep < 16) : ∀ (f : Nat) (g : Grp), GHalf rep g → HRel g v l → HRel (settleGo rep f g) v l
  | 0, _, _, h => h
  | f + 1, g, hh, h => by
    unfold settleGo
    split
    · rename_i hm; exact hrel_settle h0 h1 f _ (half_step h0 hh hm) (hrel_step h0 h1 hh h hm)
    · exact h
theorem RelD.addE (h : RelD g v l) {d : Dot} (hd : DotOk d) : gAddE g d = Vx.addE v l d := by
  unfold gAddE Vx.addE nextE
  rw [h.cloV, ← h.has hd]
  cases hb : dotB d with
  | false => simp
  | true =>
    have hv := h.inv.ok.v.at d.rep.toNat
    have hds := dotB_spec hb
    simp only [Bool.true_eq_false, if_false]
    cases hB : hasB g.v d with
    | true => simp [gHas, hB]
    | false =>
      simp only [Bool.false_eq_true, if_false]
      by_cases hs : d.seq = (vat g.v d.rep.toNat + 1) % 4294967296
      · have hk : gHas g d = false := by
          unfold gHas
          rw [hB, Bool.or_false, mget_iff, decide_eq_false_iff_not]
          intro hk
          have := h.inv.far d hk
          omega
        rw [if_pos hs, hk]
        simp
        omega
      · rw [if_neg hs]; simp
theorem RelD.add (h : RelD g v l) {d : Dot} (hd : DotOk d) : RelD (gAddG g d) v (addL v l d) := by
  have hG := add_grows h.inv hd
  by_cases he : gAddE g d = 0
  · have hL : addL v l d = l ++ [d] := by unfold addL; rw [if_pos (by rw [← h.addE hd]; exact he)]
    have hb : dotB d = true := by
      cases hb : dotB d with
      | true => rfl
      | false => simp [gAddE, nextE, hb] at he
    have hbs := dotB_spec hb
    have hdl : Dots (l ++ [d]) := fun x hx => by
      rcases List.mem_append.1 hx with hx | hx
      · exact h.dl x hx
      · simp at hx; subst hx; exact ⟨hd, hb⟩
    have hnh : gHas g d = false := by
      rw [h.has hd]
      have := h.addE hd
      rw [he] at this
      unfold Vx.addE at this
      rw [if_neg (by simp [hb])] at this
      cases hh : hasG v l d with
      | false => rfl
      | true => rw [hh] at this; simp at this
    have hnb : hasB g.v d = false := by unfold gHas at hnh; rw [Bool.or_eq_false_iff] at hnh; exact hnh.2
    have hgt : vat g.v d.rep.toNat < d.seq := by
      unfold hasB at hnb; rw [hb] at hnb; simpa using hnb
    have h2 : ¬ nextE g.v d = 2 := by intro e; rw [(gAdd_2 e).1] at he; omega
    have h8 : ¬ nextE g.v d = 8 := by intro e; rw [(gAdd_8 e).1] at he; omega
    refine { toHRel := ?_, inv := hG.inv }
    rw [hL]
    by_cases h9 : nextE g.v d = 9
    · by_cases hf : vat g.v d.rep.toNat + 256 < d.seq
      · rw [(gAdd_f h9 hnh hf).1] at he; omega
      · rw [(gAdd_i h9 hnh hf).2]
        refine ⟨h.vv, hdl, h.le, fun j hj m h1 h3 => List.mem_append_left _ (h.inn j hj m h1 h3), fun x => ?_⟩
        show x ∈ (mput d () g.l).map (·.1) ↔ _
        have hnk : d ∉ g.l.map (·.1) := by
          unfold gHas at hnh; rw [Bool.or_eq_false_iff, mget_iff] at hnh; exact of_decide_eq_false hnh.1
        rw [mput_keys, if_neg hnk, List.mem_append, List.mem_append, h.mem]
        constructor
        · rintro (⟨h1, h3⟩ | hx)
          · exact ⟨.inl h1, h3⟩
          · have : x = d := by simpa using hx
            subst this; exact ⟨.inr hx, hgt⟩
        · rintro ⟨h1 | h1, h3⟩
          · exact .inl ⟨h1, h3⟩
          · exact .inr h1
    · obtain ⟨_, hhas, hseq⟩ := nextE_0 h2 h8 h9
      have hv := h.inv.ok.v.at d.rep.toNat
      have hnv : nextV g.v d = vset g.v d.rep.toNat (vat g.v d.rep.toNat + 1) := by
        unfold nextV; rw [if_neg (by simp [hb]), if_neg (by simp [hhas]), if_pos hseq]
      have hse : d.seq = vat g.v d.rep.toNat + 1 := by omega
      have hva : ∀ j, j < 16 → vat (nextV g.v d) j = if j = d.rep.toNat then vat g.v d.rep.toNat + 1 else vat g.v j := fun j hj => by rw [hnv]; exact vat_vset _ _ _ _ hj
      have hhalf : GHalf d.rep ⟨nextV g.v d, g.l⟩ := by
        refine ⟨next_ok h.inv.ok h2 h8 h9, fun x hx => ?_, fun x hx hne => ?_⟩
        · have hxo := h.inv.ok.l x hx
          have hf := h.inv.far x hx
          have hxb := dotB_spec hxo.2
          show vat (nextV g.v d) x.rep.toNat < x.seq
          rw [hva _ (by omega)]
          split
          · rename_i e; rw [e] at hf; omega
          · omega
        · have hxo := h.inv.ok.l x hx
          have hf := h.inv.far x hx
          have hr := hxo.1.1
          have hxb := dotB_spec hxo.2
          show vat (nextV g.v d) x.rep.toNat + 1 < x.seq
          rw [hva _ (by omega), if_neg (fun e => hne (toNat_inj hr.1 hd.1.1 e))]
          exact hf
      rw [(gAdd_0 h2 h8 h9).2]
      refine hrel_settle hd.1.1 hbs.1 _ _ hhalf ⟨h.vv, hdl, fun j => ?_, fun j hj m h1 h3 => ?_, fun x => ?_⟩
      · by_cases hj : j < 16
        · show vat v j ≤ vat (nextV g.v d) j
          rw [hva j hj]; have := h.le j; split
          · rename_i e; subst e; omega
          · exact this
        · show vat v j ≤ vat (nextV g.v d) j
          rw [vat_big _ (by omega), vat_big _ (by omega)]; omega
      · have h3' : m ≤ vat (nextV g.v d) j := h3
        rw [hva j hj] at h3'
        split at h3'
        · rename_i e
          subst e
          rcases Int.lt_or_le (vat g.v d.rep.toNat) m with h4 | h4
          · have : m = d.seq := by omega
            subst this
            rw [toNat_cast hd.1.1]
            exact List.mem_append_right _ (by simp)
          · exact List.mem_append_left _ (h.inn _ hj m h1 h4)
        · exact List.mem_append_left _ (h.inn _ hj m h1 h3')
      · show x ∈ g.l.map (·.1) ↔ x ∈ l ++ [d] ∧ vat (nextV g.v d) x.rep.toNat < x.seq
        constructor
        · intro hx
          exact ⟨List.mem_append_left _ ((h.mem x).1 hx).1, hhalf.near x hx⟩
        · rintro ⟨h1, h3⟩
          have hxo := hdl x h1
          have hxb := dotB_spec hxo.2
          rw [hva _ (by have := hxo.1.1; omega)] at h3
          rcases List.mem_append.1 h1 with h1 | h1
          · refine (h.mem x).2 ⟨h1, ?_⟩
            split at h3
            · rename_i e; rw [e]; omega
            · exact h3
          · have : x = d := by simpa using h1
            subst this
            rw [if_pos rfl] at h3
            omega
  · have hL : addL v l d = l := by unfold addL; rw [if_neg (by rw [← h.addE hd]; exact he)]
    rw [hL, hG.same he]; exact h
end
theorem RelD.same {g1 g2 : Grp} {v : Vec} {l1 l2 : List Dot} (h1 : RelD g1 v l1) (h2 : RelD g2 v l2) (hm : ∀ x, x ∈ l1 ↔ x ∈ l2) : g1.v = g2.v ∧ looseL g1 = looseL g2 ∧ missL g1 = missL g2 := by
  have hv : g1.v = g2.v := vec_ext fun j hj => by
    rw [← h1.cloAt hj]
    have := h2.clo hj
    exact cloAt_is h1.dl ⟨this.le, fun m a b => (hm _).2 (this.inn m a b), fun h => this.out ((hm _).1 h)⟩
  have hl : looseL g1 = looseL g2 := rising_eq (looseL_rising h1.inv.ok) (looseL_rising h2.inv.ok) fun x => by
    rw [looseL_mem, looseL_mem, h1.mem, h2.mem, hv, hm]
  refine ⟨hv, hl, ?_⟩
  unfold missL
  rw [hv, hl]
end Go.Vx
namespace Go.Vx
instance : DecidableEq Opn := fun a b => decidable_of_iff (a.dot = b.dot ∧ a.kind = b.kind ∧ a.cart = b.cart ∧ a.item = b.item ∧ a.qty = b.qty ∧ a.tick = b.tick ∧ a.ctx = b.ctx) (by cases a; cases b; simp)
instance : Inhabited Opn := ⟨⟨⟨0, 0⟩, 0, 0, 0, 0, 0, vzero⟩⟩
def OpnOk (o : Opn) : Prop := DotOk o.dot ∧ (0 ≤ o.kind ∧ o.kind < 256) ∧ (0 ≤ o.cart ∧ o.cart < 65536) ∧ (0 ≤ o.item ∧ o.item < 65536) ∧ (0 ≤ o.qty ∧ o.qty < 65536) ∧ (0 ≤ o.tick ∧ o.tick < 4294967296) ∧ VecOk o.ctx
def laysB (o : Opn) : Bool := decide (o.kind = 1) || decide (o.kind = 2) || decide (o.kind = 4)
def cntO (o : Opn) : Int := vsum o.ctx + 1
def lessB (a b : Opn) : Bool := decide (orI [cmpI (cntO a) (cntO b), cmpI a.dot.rep b.dot.rep, cmpI a.dot.seq b.dot.seq] < 0)
def endsB (o e : Opn) : Bool := laysB e && decide (o.cart = e.cart) && hasB o.ctx e.dot && (decide (o.kind = 5) || ((decide (o.kind = 3) || decide (o.kind = 2)) && (!decide (e.kind = 4) && decide (o.item = e.item))))
def liveB (l : List Opn) (o : Opn) : Bool := laysB o && !(l.any fun x => endsB x o)
structure Tal where
  sum : Int
  set : Opn
  has : Bool
def talc (t : Tal) : List Value := [(.int .u32 t.sum : Value)] ++ oc t.set ++ [(.bool t.has : Value)]
def tv (t : Tal) : Value := .agg (talc t).toArray
def tz : Tal := ⟨0, ⟨⟨0, 0⟩, 0, 0, 0, 0, 0, vzero⟩, false⟩
instance : Inhabited Tal := ⟨tz⟩
def takeT (t : Tal) (o : Opn) : Tal := if o.kind = 1 then { t with sum := (t.sum + o.qty) % 4294967296 } else if (!t.has || lessB t.set o) = true then { t with set := o, has := true } else t
structure VSt where
  tick : Int
  out : Bool
  items : List (Int × Tal)
def vstep (L : List Opn) (cart : Int) (s : VSt) (o : Opn) : VSt :=
  if o.cart = cart then (if liveB L o = true then (if o.kind = 4 then ⟨max s.tick o.tick, true, s.items⟩ else ⟨max s.tick o.tick, s.out, mput o.item (takeT ((mget o.item s.items).getD tz) o) s.items⟩) else ⟨max s.tick o.tick, s.out, s.items⟩) else s
structure Line where
  item : Int
  qty : Int
  deriving DecidableEq
instance : Inhabited Line := ⟨⟨0, 0⟩⟩
def lc (x : Line) : List Value := [.int .u16 x.item, .int .u32 x.qty]
structure Vw where
  cart : Int
  lines : List Line
  out : Bool
  tick : Int
end Go.Vx
namespace Go.Vx
open Go.RowKit
theorem nat_i64 {x : Int} {n : Nat} (h : x = (n : Int)) (hb : n ≤ 9223372036854775807) : IntKind.i64.wrap x = (n : Int) := by subst h; exact wr_i64 (by omega) (by omega)
end Go.Vx
namespace Go.Vx
open Go.RowKit
def nth {α : Type} (z : α) : List α → Nat → α
  | [], _ => z
  | a :: _, 0 => a
  | _ :: l, i + 1 => nth z l i
theorem nth_eq {α : Type} (z : α) (l : List α) (i : Nat) : nth z l i = (l[i]?).getD z := by
  induction l generalizing i with
  | nil => simp [nth]
  | cons a l ih => cases i <;> simp [nth, ih]
def restr (r : List Nat) (ρ : Env) : Env := fun t => cond (r.any (Nat.beq t)) (ρ t) undef
abbrev Vals := List (Bool × (Env → Value))
def valR (rs : List (List Nat)) (vs : Vals) (ρ : Env) (j : Nat) : Value := cond (nth (true, fun _ => undef) vs j).1 ((nth (true, fun _ => undef) vs j).2 (restr (nth [] rs j) ρ)) undef
def hitR (ks : List (Option Nat)) (t j : Nat) : Bool := match nth none ks j with | some d => Nat.beq d t | none => false
def ceR (ks : List (Option Nat)) (rs : List (List Nat)) (vs : Vals) (yes no : List Nat) (ρ0 ρ : Env) : Env := fun t =>
  match yes with
  | [] => cond (no.any (hitR ks t) || !(ks.any fun k => match k with | some d => Nat.beq d t | none => false)) (ρ0 t) (ρ t)
  | j :: js => cond (hitR ks t j) (valR rs vs ρ j) (ceR ks rs vs js no ρ0 ρ t)
def cD (yes no : List Nat) (D : Nat → Bool) : Nat → Bool := fun j => cond (yes.any (Nat.beq j)) true (cond (no.any (Nat.beq j)) false (D j))
def maskOk (ms : List Nat) (o : Oper) (i : Nat) : Bool := Nat.beq (nth 0 ms i) ((deps o).foldl (fun m k => m ||| (1 <<< k) ||| nth 0 ms k) 0)
def ndk : List (Option Nat) → Bool
  | [] => true
  | none :: l => ndk l
  | some d :: l => !(l.any fun k => match k with | some e => Nat.beq e d | none => false) && ndk l
def slotIn (ks : List (Option Nat)) (m : Nat) (t : Nat) : Nat → Bool
  | 0 => false
  | k + 1 => (hitR ks t k && m.testBit k) || slotIn ks m t k
def guardOk (n : Nat) (ks : List (Option Nat)) (ms : List Nat) (o : Oper) (i : Nat) : Bool := match o.guard with | none => true | some (j, _) => (nth 0 ms i).testBit j && match nth none ks j with | some d => Nat.blt d n | none => false
def chkAt (n : Nat) (ks : List (Option Nat)) (rs : List (List Nat)) (ms : List Nat) (o : Oper) (i : Nat) : Bool := maskOk ms o i && guardOk n ks ms o i && (nth [] rs i).all fun t => slotIn ks (nth 0 ms i ||| (1 <<< i)) t ks.length
def okYN (ms : List Nat) (i : Nat) (yes no : List Nat) : Bool := yes.all (fun j => (nth 0 ms i).testBit j) && no.all fun j => (nth 0 ms j).testBit i
section
variable {n : Nat} {ks : List (Option Nat)} {rs : List (List Nat)} {ms : List Nat} {l : List Oper}
structure RegF (n : Nat) (ks : List (Option Nat)) (rs : List (List Nat)) (ms : List Nat) (l : List Oper) : Prop where
  rise : rising l = true
  nd : ndk ks = true
  len : l.length = ks.length
  at_ : ∀ j o, l[j]? = some o → ks[j]? = some o.dst ∧ chkAt n ks rs ms o j = true
theorem testBit_or_pow (m k a j : Nat) (h : (m ||| (1 <<< k) ||| a).testBit j = true) : m.testBit j = true ∨ j = k ∨ a.testBit j = true := by
  rw [Nat.testBit_or, Nat.testBit_or, Bool.or_eq_true, Bool.or_eq_true] at h
  rcases h with (h | h) | h
  · exact .inl h
  · right; left
    rw [Nat.shiftLeft_eq, Nat.one_mul, Nat.testBit_two_pow] at h
    exact (of_decide_eq_true h).symm
  · exact .inr (.inr h)
theorem fold_bits (ms : List Nat) (j : Nat) : ∀ (d : List Nat) (m : Nat), (d.foldl (fun m k => m ||| (1 <<< k) ||| nth 0 ms k) m).testBit j = true → m.testBit j = true ∨ ∃ k ∈ d, j = k ∨ (nth 0 ms k).testBit j = true
  | [], m, h => .inl h
  | k :: d, m, h => by
    rcases fold_bits ms j d _ h with h | ⟨x, hx, h⟩
    · rcases testBit_or_pow _ _ _ _ h with h | h | h
      · exact .inl h
      · exact .inr ⟨k, by simp, .inl h⟩
      · exact .inr ⟨k, by simp, .inr h⟩
    · exact .inr ⟨x, by simp [hx], h⟩
theorem RegF.done (H : RegF n ks rs ms l) {D : Nat → Bool} (hdc : ∀ j o', l[j]? = some o' → D j = true → ∀ k ∈ deps o', D k = true) : ∀ (i : Nat) (o : Oper), l[i]? = some o → (∀ k ∈ deps o, D k = true) → ∀ j, (nth 0 ms i).testBit j = true → D j = true := by
  intro i
  induction i using Nat.strongRecOn with
  | _ i ih =>
    intro o ho hd j hj
    have hc := (H.at_ i o ho).2
    simp only [chkAt, Bool.and_eq_true, maskOk] at hc
    rw [Nat.eq_of_beq_eq_true hc.1.1] at hj
    rcases fold_bits ms j _ _ hj with h | ⟨k, hk, h⟩
    · simp at h
    · rcases h with h | h
      · subst h; exact hd j hk
      · have hki := rising_lt H.rise ho hk
        have hkl : k < l.length := Nat.lt_trans hki (lt_of_get ho)
        exact ih k hki l[k] (List.getElem?_eq_getElem hkl) (hdc k l[k] (List.getElem?_eq_getElem hkl) (hd k hk)) j h
theorem RegF.before (H : RegF n ks rs ms l) {D : Nat → Bool} (hdc : ∀ j o', l[j]? = some o' → D j = true → ∀ k ∈ deps o', D k = true) {i j : Nat} (hi : D i = false) (hj : (nth 0 ms j).testBit i = true) (hjl : j < l.length) : D j = false := by
  cases h : D j with
  | false => rfl
  | true =>
    have := H.done hdc j l[j] (List.getElem?_eq_getElem hjl) (hdc j l[j] (List.getElem?_eq_getElem hjl) h) i hj
    rw [hi] at this; cases this
theorem ndk_at : ∀ {k : List (Option Nat)}, ndk k = true → ∀ (i j d : Nat), k[i]? = some (some d) → k[j]? = some (some d) → i = j
  | [], _, i, _, _, h, _ => by simp at h
  | none :: k, h, i, j, d, hi, hj => by
    cases i with
    | zero => simp at hi
    | succ i => cases j with
      | zero => simp at hj
      | succ j => rw [ndk_at (k := k) h i j d (by simpa using hi) (by simpa using hj)]
  | some e :: k, h, i, j, d, hi, hj => by
    simp only [ndk, Bool.and_eq_true, Bool.not_eq_true', List.any_eq_false] at h
    have no : ∀ m, k[m]? = some (some e) → False := fun m hm => by
      have := h.1 (some e) (List.mem_of_getElem? hm)
      simp at this
    cases i with
    | zero =>
      simp at hi; subst hi
      cases j with
      | zero => rfl
      | succ j => exact (no j (by simpa using hj)).elim
    | succ i => cases j with
      | zero => simp at hj; subst hj; exact (no i (by simpa using hi)).elim
      | succ j => rw [ndk_at (k := k) h.2 i j d (by simpa using hi) (by simpa using hj)]
theorem hit_iff {t j : Nat} : hitR ks t j = true ↔ ks[j]? = some (some t) := by
  unfold hitR
  rw [nth_eq]
  cases h : ks[j]? with
  | none => simp
  | some k => cases k <;> simp
theorem slotIn_iff {m t : Nat} : ∀ {n : Nat}, slotIn ks m t n = true → ∃ k, k < n ∧ ks[k]? = some (some t) ∧ m.testBit k = true
  | 0, h => by simp [slotIn] at h
  | n + 1, h => by
    simp only [slotIn, Bool.or_eq_true, Bool.and_eq_true] at h
    rcases h with h | h
    · exact ⟨n, by omega, hit_iff.1 h.1, h.2⟩
    · obtain ⟨k, h1, h2, h3⟩ := slotIn_iff h; exact ⟨k, by omega, h2, h3⟩
def KnR (ks : List (Option Nat)) (rs : List (List Nat)) (vs : Vals) (ρ0 : Env) (D : Nat → Bool) (ρ : Env) : Prop :=
  ∀ j d, ks[j]? = some (some d) → (D j = true → ρ d = valR rs vs ρ j) ∧ (D j = false → ρ d = ρ0 d)
theorem RegF.ds (H : RegF n ks rs ms l) {t : Nat} : (t ∈ dsts l) ↔ ∃ j : Nat, ks[j]? = some (some t) := by
  unfold dsts
  rw [List.mem_filterMap]
  constructor
  · rintro ⟨o, ho, hd⟩
    obtain ⟨j, hj⟩ := List.mem_iff_getElem?.1 ho
    exact ⟨j, by rw [(H.at_ j o hj).1, hd]⟩
  · rintro ⟨j, hj⟩
    have hjl : j < l.length := by rw [H.len]; exact lt_of_get hj
    have h1 := List.getElem?_eq_getElem hjl
    refine ⟨l[j], List.getElem_mem hjl, ?_⟩
    have := (H.at_ j _ h1).1
    rw [hj] at this; simpa using this.symm
theorem RegF.ref (H : RegF n ks rs ms l) {j t : Nat} (hj : j < l.length) (ht : t ∈ nth [] rs j) : ∃ k : Nat, ks[k]? = some (some t) ∧ (k = j ∨ (nth 0 ms j).testBit k = true) := by
  have hc := (H.at_ j l[j] (List.getElem?_eq_getElem hj)).2
  simp only [chkAt, Bool.and_eq_true, List.all_eq_true] at hc
  obtain ⟨k, _, h2, h3⟩ := slotIn_iff (hc.2 t ht)
  refine ⟨k, h2, ?_⟩
  rw [Nat.testBit_or, Bool.or_eq_true, Nat.shiftLeft_eq, Nat.one_mul, Nat.testBit_two_pow] at h3
  rcases h3 with h3 | h3
  · exact .inr h3
  · exact .inl (of_decide_eq_true h3).symm
theorem restr_congr {r : List Nat} {ρ ρ' : Env} (h : ∀ t ∈ r, ρ t = ρ' t) : restr r ρ = restr r ρ' := by
  funext t
  unfold restr
  cases hb : r.any (Nat.beq t) with
  | false => rfl
  | true =>
    rw [List.any_eq_true] at hb
    obtain ⟨x, hx, he⟩ := hb
    rw [Nat.eq_of_beq_eq_true he]
    exact h x hx
theorem RegF.step (H : RegF n ks rs ms l) {vs : Vals} {ρ0 ρ : Env} {D : Nat → Bool} (hdc : ∀ j o', l[j]? = some o' → D j = true → ∀ k ∈ deps o', D k = true) {i : Nat} {o : Oper} (ho : l[i]? = some o) (hd : ∀ k ∈ deps o, D k = true) (hD : D i = false) (hK : KnR ks rs vs ρ0 D ρ) {v : Value}
    (hv : ∀ d, o.dst = some d → v = valR rs vs (updO ρ o.dst v) i) : KnR ks rs vs ρ0 (mark D i) (updO ρ o.dst v) := by
  intro j e hj
  have hki := (H.at_ i o ho).1
  have hjl : j < l.length := by rw [H.len]; exact lt_of_get hj
  by_cases hij : j = i
  · subst hij
    rw [hj] at hki
    have hde : o.dst = some e := by simpa using hki.symm
    refine ⟨fun _ => ?_, fun h => ?_⟩
    · rw [← hv e hde, hde]
      show upd ρ e v e = v
      rw [upd_eq, if_pos rfl]
    · unfold mark at h; simp at h
  · have hne : ∀ t, o.dst = some t → e ≠ t := fun t ht he => by
      subst he
      rw [ht] at hki
      exact hij (ndk_at H.nd j i e hj hki)
    have e1 : updO ρ o.dst v e = ρ e := by
      cases hdd : o.dst with
      | none => rfl
      | some t =>
        show upd ρ t v e = ρ e
        rw [upd_eq, if_neg (hne t hdd)]
    have hm : mark D i j = D j := by unfold mark; rw [beq_eq]; simp [hij]
    rw [hm, e1]
    refine ⟨fun h => ?_, (hK j e hj).2⟩
    rw [(hK j e hj).1 h]
    unfold valR
    rw [show restr (nth [] rs j) ρ = restr (nth [] rs j) (updO ρ o.dst v) from restr_congr fun t ht => ?_]
    obtain ⟨k, h1, h2⟩ := H.ref hjl ht
    have hk : D k = true := by
      rcases h2 with h2 | h2
      · subst h2; exact h
      · exact H.done hdc j l[j] (List.getElem?_eq_getElem hjl) (hdc j l[j] (List.getElem?_eq_getElem hjl) h) k h2
    cases hdd : o.dst with
    | none => rfl
    | some x =>
      show ρ t = upd ρ x v t
      rw [upd_eq, if_neg]
      intro he
      subst he
      rw [hdd] at hki
      have := ndk_at H.nd k i t h1 hki
      subst this
      rw [hD] at hk; cases hk
end
section
variable {κ : Cx} {P : Program} {n : Nat} {N R : St} {X : Nat → St} {ρ : Env} {w : World}
def vOk (rs : List (List Nat)) (vs : Vals) (i : Nat) (ρ : Env) (v : Value) : Option Nat → Prop
  | none => True
  | some d => v = (nth (true, fun _ => undef) vs i).2 (restr (nth [] rs i) (upd ρ d v))
def ceG (ks : List (Option Nat)) (rs : List (List Nat)) (vs : Vals) (ρ : Env) (env : Env) : List Nat → Env
  | [] => env
  | j :: js => fun t => cond (hitR ks t j) ((nth (true, fun _ => undef) vs j).2 (restr (nth [] rs j) ρ)) (ceG ks rs vs ρ env js t)
def gyOk (vs : Vals) : List Nat → Prop
  | [] => True
  | j :: js => (nth (true, fun _ => undef) vs j).1 = true ∧ gyOk vs js
abbrev LfT := (Nat → Bool) → Env → List Res
def Ob (P : Program) (n : Nat) (w0 : World) (M : Nat → Prop) (ρ0 : Env) (ks : List (Option Nat)) (rs : List (List Nat)) (ms : List Nat) (vs : Vals) (Lf : LfT) (i : Nat) (o : Oper) : Prop :=
  ∃ yes no : List Nat, okYN ms i yes no = true ∧
    match o.guard with
    | none => (nth (true, fun _ => undef) vs i).1 = true ∧ ∀ D ρ w, Own w0 M w (Lf (cD yes (i :: no) D) ρ) →
        opW P o.op o.type (ev n (ceR ks rs vs yes (i :: no) ρ0 ρ)) w fun v w' => vOk rs vs i ρ v o.dst ∧ Own w0 M w' (Lf (mark (cD yes (i :: no) D) i) (updO ρ o.dst v))
    | some (j, want) => ∃ (T : Bool) (gy : List Nat), okYN ms i gy [] = true ∧ (∀ ρ, (nth (true, fun _ => undef) vs j).2 ρ = .bool T) ∧ (nth (true, fun _ => undef) vs i).1 = ((nth (true, fun _ => undef) vs j).1 && (T == want)) ∧
        (∀ D ρ w, (nth (true, fun _ => undef) vs i).1 = false → Own w0 M w (Lf (cD yes (i :: no) D) ρ) → Own w0 M w (Lf (mark (cD yes (i :: no) D) i) (updO ρ o.dst undef))) ∧
        ((nth (true, fun _ => undef) vs i).1 = true → gyOk vs gy) ∧
        ∀ D ρ w, (nth (true, fun _ => undef) vs i).1 = true → Own w0 M w (Lf (cD yes (i :: no) D) ρ) →
          opW P o.op o.type (ev n (ceG ks rs vs ρ (ceR ks rs vs yes (i :: no) ρ0 ρ) gy)) w fun v w' => vOk rs vs i ρ v o.dst ∧ Own w0 M w' (Lf (mark (cD yes (i :: no) D) i) (updO ρ o.dst v))
variable {w0 : World} {M : Nat → Prop} {ρ0 : Env} {ks : List (Option Nat)} {rs : List (List Nat)} {ms : List Nat} {vs : Vals} {Lf : LfT}
theorem ob {i : Nat} {dst : Option Tmp} {op : Op} {ty : TypeId} {pos : String} {after : Array Edge} (yes no : List Nat) (hyn : okYN ms i yes no = true) (hg : (nth (true, fun _ => undef) vs i).1 = true)
    (h : ∀ D ρ w, Own w0 M w (Lf (cD yes (i :: no) D) ρ) → opW P op ty (ev n (ceR ks rs vs yes (i :: no) ρ0 ρ)) w fun v w' => vOk rs vs i ρ v dst ∧ Own w0 M w' (Lf (mark (cD yes (i :: no) D) i) (updO ρ dst v))) :
    Ob P n w0 M ρ0 ks rs ms vs Lf i { dst, op, type := ty, pos, after, guard := none } := ⟨yes, no, hyn, hg, h⟩
theorem Ow {w0 w : World} {M : Nat → Prop} (L : List Res) (h : Own w0 M w L) : Own w0 M w L := h
end
end Go.Vx
namespace Go.Vx
open Go.RowKit
def fillP : List (List Value) → List (Nat × Value) → Option (List (List Value))
  | zs, [] => some zs
  | zs, (i, v) :: rest => match zs[i]? with
    | none => none
    | some z => cond (Nat.beq v.cells.toList.length z.length) (fillP (zs.set i v.cells.toList) rest) none
def offs : Nat → List Nat → List (Nat × Nat)
  | _, [] => []
  | o, n :: l => (o, n) :: offs (o + n) l
theorem offs_at : ∀ (zs : List (List Value)) (o i : Nat) (z v : List Value), zs[i]? = some z → v.length = z.length → ∃ q, (offs o (zs.map (·.length)))[i]? = some (o + q, z.length) ∧ q + z.length ≤ zs.flatten.length ∧ spl zs.flatten q v = (zs.set i v).flatten
  | [], _, i, _, _, h, _ => by simp at h
  | a :: zs, o, 0, z, v, h, hv => by
    simp at h; subst h
    refine ⟨0, by simp [offs], by simp, ?_⟩
    rw [List.set_cons_zero, List.flatten_cons, List.flatten_cons, spl_eq _ _ _ (by rw [List.length_append]; omega), List.take_zero, List.nil_append, Nat.zero_add, hv, List.drop_left]
  | a :: zs, o, i + 1, z, v, h, hv => by
    simp only [List.getElem?_cons_succ] at h
    obtain ⟨q, h1, h2, h3⟩ := offs_at zs (o + a.length) i z v h hv
    refine ⟨a.length + q, ?_, ?_, ?_⟩
    · simp only [List.map_cons, offs, List.getElem?_cons_succ, h1]; congr 2; omega
    · rw [List.flatten_cons, List.length_append]; omega
    · rw [List.set_cons_succ, List.flatten_cons, List.flatten_cons, ← h3, spl_eq v zs.flatten _ (by omega), spl_eq v (a ++ zs.flatten) _ (by rw [List.length_append]; omega)]
      rw [List.take_length_add_append, show a.length + q + v.length = a.length + (q + v.length) by omega, List.drop_length_add_append]
      simp only [List.append_assoc]
theorem fillP_B : ∀ (vs : List (Nat × Value)) (zs ps : List (List Value)), fillP zs vs = some ps → fillB (offs 0 (zs.map (·.length))) zs.flatten vs = some ps.flatten
  | [], zs, ps, h => by simp [fillP] at h; subst h; rfl
  | (i, v) :: rest, zs, ps, h => by
    unfold fillP at h
    cases hz : zs[i]? with
    | none => rw [hz] at h; cases h
    | some z =>
      rw [hz] at h
      dsimp only at h
      cases hb : Nat.beq v.cells.toList.length z.length with
      | false => rw [hb] at h; cases h
      | true =>
        rw [hb, cond_true] at h
        have hl := Nat.eq_of_beq_eq_true hb
        obtain ⟨q, h1, h2, h3⟩ := offs_at zs 0 i z v.cells.toList hz hl
        rw [Nat.zero_add] at h1
        have ih := fillP_B rest _ _ h
        have hm : (zs.set i v.cells.toList).map (·.length) = zs.map (·.length) := by
          apply List.ext_getElem?
          intro j
          rw [List.getElem?_map, List.getElem?_map, List.getElem?_set]
          by_cases e : i = j
          · subst e
            rw [if_pos rfl, hz, if_pos (lt_of_get hz)]
            simp [hl]
          · rw [if_neg e]
        rw [hm] at ih
        unfold fillB
        rw [h1]
        dsimp only
        rw [hb, show Nat.ble (q + z.length) zs.flatten.length = true from (by rw [Nat.ble_eq]; exact h2), h3]
        exact ih
section
variable {P : Program} {e : Operand → Value} {ty : TypeId} {w : World} {K : Value → World → Prop}
theorem L_buildP {t : Nat} {pl : List (Nat × Nat)} {cs : List Value} {ps : List (Nat × Operand)} {vs : List (Nat × Value)} (zs qs : List (List Value)) (hb : Bt P t pl zs.flatten) (hp : offs 0 (zs.map (·.length)) = pl) (hv : ps.map (fun (p : Nat × Operand) => (p.1, e p.2)) = vs) (hf : fillP zs vs = some qs) (hc : qs.flatten = cs) (h : K (.agg cs.toArray) w) : opW P (.build t ps.toArray) ty e w K := by
  subst hp
  subst hc
  exact L_build hb hv (fillP_B vs zs qs hf) h
end
end Go.Vx
namespace Go.Vx
theorem mget_put {κ ν : Type} [DecidableEq κ] {k x : κ} {v : ν} : ∀ {l : List (κ × ν)}, mget x (mput k v l) = if x = k then some v else mget x l
  | [] => by unfold mput mget; split <;> rfl
  | (a, b) :: l => by
    unfold mput
    split
    · rename_i e
      subst e
      unfold mget
      split <;> rename_i h
      · rfl
      · rfl
    · rename_i e
      unfold mget
      split
      · rename_i h; subst h; rw [if_neg (fun h => e h.symm)]
      · exact mget_put
end Go.Vx
namespace Go.Vx
structure UpTo (cs : List Int) (last : Int) (out : List Int) : Prop where
  inc : out.Pairwise (· < ·)
  mem : ∀ x, x ∈ out ↔ x ∈ cs ∧ x ≤ last
end Go.Vx
namespace Go.Vx
theorem snoc_ind {α : Type} {motive : List α → Prop} (h0 : motive []) (h1 : ∀ l a, motive l → motive (l ++ [a])) : ∀ l, motive l := by
  suffices key : ∀ (n : Nat) (l : List α), l.length = n → motive l from fun l => key _ l rfl
  intro n
  induction n with
  | zero => intro l hl; rw [List.eq_nil_of_length_eq_zero hl]; exact h0
  | succ n ih =>
    intro l hl
    rcases List.eq_nil_or_concat l with h | ⟨m, a, h⟩
    · subst h; simp at hl
    · rw [List.concat_eq_append] at h
      subst h
      exact h1 m a (ih m (by simpa using hl))
structure IsClosed (l : List Opn) : Prop where
  nd : (l.map (·.dot)).Nodup
  dot : ∀ o ∈ l, dotB o.dot = true
  known : ∀ o ∈ l, ∀ r : Nat, r < 16 → ∀ j : Nat, ((j + 1 : Nat) : Int) ≤ min (vat o.ctx r) 1048576 → (⟨(r : Int), ((j + 1 : Nat) : Int)⟩ : Dot) ∈ l.map (·.dot)
end Go.Vx
namespace Go.Vx
structure EqS (s t : VSt) : Prop where
  tick : s.tick = t.tick
  out : s.out = t.out
  items : ∀ n, mget n s.items = mget n t.items
theorem EqS.refl (s : VSt) : EqS s s := ⟨rfl, rfl, fun _ => rfl⟩
theorem EqS.trans {s t u : VSt} (h : EqS s t) (g : EqS t u) : EqS s u := ⟨h.tick.trans g.tick, h.out.trans g.out, fun n => (h.items n).trans (g.items n)⟩
theorem EqS.step {L : List Opn} {cart : Int} {s t : VSt} (h : EqS s t) (o : Opn) : EqS (vstep L cart s o) (vstep L cart t o) := by
  unfold vstep
  split
  · split
    · split
      · exact ⟨by rw [h.tick], rfl, h.items⟩
      · refine ⟨by rw [h.tick], h.out, fun n => ?_⟩
        show mget n (mput _ _ _) = mget n (mput _ _ _)
        rw [mget_put, mget_put, h.items, h.items]
    · exact ⟨by rw [h.tick], h.out, h.items⟩
  · exact h
end Go.Vx
namespace Go.Vx
structure Cen where
  cart : Int
  item : Int
  qty : Int
  kind : Int
  dot : Dot
  count : Int
  deriving DecidableEq
instance : Inhabited Cen := ⟨⟨0, 0, 0, 0, ⟨0, 0⟩, 0⟩⟩
def cec (e : Cen) : List Value := [.int .u16 e.cart, .int .u16 e.item, .int .u16 e.qty, .int .u8 e.kind, .int .u8 e.dot.rep, .int .u32 e.dot.seq, .int .u64 e.count]
theorem cec_one (e : Cen) : ∀ x ∈ cec e, x.oneCell' = true := by
  intro x hx; simp only [cec, List.mem_cons, List.not_mem_nil, or_false] at hx; rcases hx with h | h | h | h | h | h | h <;> subst h <;> rfl
structure Lst where
  cart : Int
  tick : Int
  deriving DecidableEq
instance : Inhabited Lst := ⟨⟨0, 0⟩⟩
def lsc (x : Lst) : List Value := [.int .u16 x.cart, .int .u32 x.tick]
theorem lsc_one (x : Lst) : ∀ y ∈ lsc x, y.oneCell' = true := by
  intro y hy; simp only [lsc, List.mem_cons, List.not_mem_nil, or_false] at hy; rcases hy with h | h <;> subst h <;> rfl
structure Sta where
  known : Vec
  ents : List Cen
  ticks : List Lst
def CenOk (e : Cen) : Prop := (0 ≤ e.cart ∧ e.cart < 65536) ∧ (0 ≤ e.item ∧ e.item < 65536) ∧ (0 ≤ e.qty ∧ e.qty < 65536) ∧ (0 ≤ e.kind ∧ e.kind < 256) ∧ DotOk e.dot ∧ (0 ≤ e.count ∧ e.count < 18446744073709551616)
def LstOk (x : Lst) : Prop := (0 ≤ x.cart ∧ x.cart < 65536) ∧ (0 ≤ x.tick ∧ x.tick < 4294967296)
def aheadB (a b : Cen) : Bool := if a.cart = b.cart then (if a.dot.rep = b.dot.rep then decide (a.dot.seq < b.dot.seq) else decide (a.dot.rep < b.dot.rep)) else decide (a.cart < b.cart)
theorem ahead_iff (a b : Cen) : aheadB a b = true ↔ (a.cart < b.cart ∨ (a.cart = b.cart ∧ (a.dot.rep < b.dot.rep ∨ (a.dot.rep = b.dot.rep ∧ a.dot.seq < b.dot.seq)))) := by
  unfold aheadB
  split
  · split
    · rw [decide_eq_true_iff]; omega
    · rw [decide_eq_true_iff]; omega
  · rw [decide_eq_true_iff]; omega
theorem ahead_trans {a b c : Cen} (h : aheadB a b = true) (g : aheadB b c = true) : aheadB a c = true := by rw [ahead_iff] at *; omega
theorem ahead_irrefl (a : Cen) : aheadB a a = false := by
  rw [Bool.eq_false_iff, ne_eq, ahead_iff]; omega
def RisE (l : List Cen) : Prop := l.Pairwise fun a b => aheadB a b = true
theorem risE_eq {l m : List Cen} (hl : RisE l) (hm : RisE m) (h : ∀ x, x ∈ l ↔ x ∈ m) : l = m := by
  induction l generalizing m with
  | nil =>
    cases m with
    | nil => rfl
    | cons b m => exact absurd ((h b).2 (by simp)) (by simp)
  | cons a l ih =>
    cases m with
    | nil => exact absurd ((h a).1 (by simp)) (by simp)
    | cons b m =>
      rw [RisE, List.pairwise_cons] at hl hm
      have hab : a = b := by
        rcases List.mem_cons.1 ((h a).1 (by simp)) with e | e
        · exact e
        · rcases List.mem_cons.1 ((h b).2 (by simp)) with e2 | e2
          · exact e2.symm
          · have := ahead_trans (hl.1 b e2) (hm.1 a e)
            rw [ahead_irrefl] at this; cases this
      subst hab
      congr 1
      refine ih hl.2 hm.2 fun x => ?_
      have hx := h x
      simp only [List.mem_cons] at hx
      constructor
      · intro hxl
        rcases hx.1 (.inr hxl) with e | e
        · subst e; have := hl.1 x hxl; rw [ahead_irrefl] at this; cases this
        · exact e
      · intro hxm
        rcases hx.2 (.inr hxm) with e | e
        · subst e; have := hm.1 x hxm; rw [ahead_irrefl] at this; cases this
        · exact e
def RisT (l : List Lst) : Prop := l.Pairwise fun a b => a.cart < b.cart
theorem risT_eq {l m : List Lst} (hl : RisT l) (hm : RisT m) (h : ∀ x, x ∈ l ↔ x ∈ m) : l = m := by
  induction l generalizing m with
  | nil =>
    cases m with
    | nil => rfl
    | cons b m => exact absurd ((h b).2 (by simp)) (by simp)
  | cons a l ih =>
    cases m with
    | nil => exact absurd ((h a).1 (by simp)) (by simp)
    | cons b m =>
      rw [RisT, List.pairwise_cons] at hl hm
      have hab : a = b := by
        rcases List.mem_cons.1 ((h a).1 (by simp)) with e | e
        · exact e
        · rcases List.mem_cons.1 ((h b).2 (by simp)) with e2 | e2
          · exact e2.symm
          · have h1 := hl.1 b e2; have h2 := hm.1 a e; omega
      subst hab
      congr 1
      refine ih hl.2 hm.2 fun x => ?_
      have hx := h x
      simp only [List.mem_cons] at hx
      constructor
      · intro hxl
        rcases hx.1 (.inr hxl) with e | e
        · subst e; have := hl.1 x hxl; omega
        · exact e
      · intro hxm
        rcases hx.2 (.inr hxm) with e | e
        · subst e; have := hm.1 x hxm; omega
        · exact e
def tickP (ts : List Lst) (c : Int) : Option Int := (ts.find? fun x => decide (x.cart = c)).map (·.tick)
def shapedB (e : Cen) : Bool := if e.kind = 1 then decide (1 ≤ e.qty) else if e.kind = 2 then true else decide (e.kind = 4) && (decide (e.item = 0) && decide (e.qty = 0))
def entB (s : Sta) (e : Cen) : Bool := (tickP s.ticks e.cart).isSome && shapedB e && hasB s.known e.dot && decide (1 ≤ e.count) && decide (e.count ≤ 16777217)
structure RightC (s : Sta) : Prop where
  known : rightB s.known 16 = true
  rt : RisT s.ticks
  tick : ∀ x ∈ s.ticks, x.tick ≤ 1073741824
  re : RisE s.ents
  ent : ∀ e ∈ s.ents, entB s e = true
  nd : (s.ents.map (·.dot)).Nodup
def laidO (e : Cen) : Opn := ⟨e.dot, e.kind, e.cart, e.item, e.qty, 0, vzero⟩
def entO (o : Opn) : Cen := ⟨o.cart, o.item, o.qty, o.kind, o.dot, cntO o⟩
theorem ends_laid (o x : Opn) : endsB o (laidO (entO x)) = endsB o x := rfl
def putE (e : Cen) : List Cen → List Cen
  | [] => [e]
  | x :: l => if aheadB e x = true then e :: x :: l else x :: putE e l
theorem mem_putE {e x : Cen} : ∀ {l : List Cen}, x ∈ putE e l ↔ x = e ∨ x ∈ l
  | [] => by simp [putE]
  | y :: l => by
    unfold putE; split
    · simp
    · rw [List.mem_cons, mem_putE, List.mem_cons]
      constructor
      · rintro (h | h | h)
        · exact .inr (.inl h)
        · exact .inl h
        · exact .inr (.inr h)
      · rintro (h | h | h)
        · exact .inr (.inl h)
        · exact .inl h
        · exact .inr (.inr h)
theorem ahead_total {a b : Cen} (h : a.dot ≠ b.dot) : aheadB a b = true ∨ aheadB b a = true := by
  have hd : ¬ (a.dot.rep = b.dot.rep ∧ a.dot.seq = b.dot.seq) := fun ⟨h1, h2⟩ => h (by cases ha : a.dot; cases hb : b.dot; rw [ha, hb] at h1 h2; simp_all)
  rw [ahead_iff, ahead_iff]; omega
theorem risE_put {e : Cen} : ∀ {l : List Cen}, RisE l → e.dot ∉ l.map (·.dot) → RisE (putE e l)
  | [], _, _ => by simp [putE, RisE]
  | x :: l, h, hn => by
    rw [List.map_cons, List.mem_cons] at hn
    have hx := List.pairwise_cons.1 h
    unfold putE; split
    · rename_i ha
      refine List.pairwise_cons.2 ⟨fun y hy => ?_, h⟩
      rcases List.mem_cons.1 hy with e1 | e1
      · subst e1; exact ha
      · exact ahead_trans ha (hx.1 y e1)
    · rename_i ha
      refine List.pairwise_cons.2 ⟨fun y hy => ?_, risE_put hx.2 fun hm => hn (.inr hm)⟩
      rcases mem_putE.1 hy with e1 | e1
      · subst e1
        rcases ahead_total (a := y) (b := x) (fun e2 => hn (.inl e2)) with g | g
        · exact absurd g ha
        · exact g
      · exact hx.1 y e1
def putT (c t : Int) : List Lst → List Lst
  | [] => [⟨c, t⟩]
  | x :: l => if x.cart = c then ⟨c, max x.tick t⟩ :: l else if c < x.cart then ⟨c, t⟩ :: x :: l else x :: putT c t l
theorem tickP_put {c t d : Int} : ∀ {l : List Lst}, RisT l → tickP (putT c t l) d = if d = c then some (match tickP l c with | none => t | some u => max u t) else tickP l d
  | [], _ => by
    unfold putT tickP
    by_cases h : d = c
    · subst h; simp
    · simp [h, show ¬ c = d from fun e => h e.symm]
  | x :: l, h => by
    have hx := List.pairwise_cons.1 h
    unfold putT
    split
    · rename_i hc
      by_cases hd : d = c
      · subst hd; simp [tickP, hc]
      · simp [tickP, hc, hd, show ¬ c = d from fun e => hd e.symm]
    · rename_i hc
      split
      · rename_i hlt
        have hno : tickP (x :: l) c = none := by
          unfold tickP
          rw [Option.map_eq_none_iff, List.find?_eq_none]
          intro y hy
          rcases List.mem_cons.1 hy with e1 | e1
          · subst e1; simpa using hc
          · have := hx.1 y e1; simp; omega
        by_cases hd : d = c
        · subst hd; rw [if_pos rfl, hno]; simp [tickP]
        · rw [if_neg hd]; simp [tickP, show ¬ c = d from fun e => hd e.symm]
      · have ih := tickP_put (c := c) (t := t) (d := d) hx.2
        by_cases hd : x.cart = d
        · subst hd
          rw [if_neg hc]; simp [tickP]
        · have e1 : tickP (x :: putT c t l) d = tickP (putT c t l) d := by simp [tickP, hd]
          have e2 : tickP (x :: l) d = tickP l d := by simp [tickP, hd]
          have e3 : tickP (x :: l) c = tickP l c := by simp [tickP, hc]
          rw [e1, ih, e2, e3]
theorem mem_putT {c t : Int} {x : Lst} : ∀ {l : List Lst}, x ∈ putT c t l → x.cart = c ∨ x ∈ l
  | [], h => by simp [putT] at h; subst h; exact .inl rfl
  | y :: l, h => by
    unfold putT at h
    split at h
    · rcases List.mem_cons.1 h with e | e
      · subst e; exact .inl rfl
      · exact .inr (by simp [e])
    · split at h
      · rcases List.mem_cons.1 h with e | e
        · subst e; exact .inl rfl
        · exact .inr e
      · rcases List.mem_cons.1 h with e | e
        · subst e; exact .inr (by simp)
        · rcases mem_putT e with g | g
          · exact .inl g
          · exact .inr (by simp [g])
theorem risT_put {c t : Int} : ∀ {l : List Lst}, RisT l → RisT (putT c t l)
  | [], _ => by simp [putT, RisT]
  | x :: l, h => by
    have hx := List.pairwise_cons.1 h
    unfold putT; split
    · rename_i hc
      exact List.pairwise_cons.2 ⟨fun y hy => by have := hx.1 y hy; show c < y.cart; omega, hx.2⟩
    · split
      · rename_i hlt
        refine List.pairwise_cons.2 ⟨fun y hy => ?_, h⟩
        rcases List.mem_cons.1 hy with e | e
        · subst e; exact hlt
        · have := hx.1 y e; show c < y.cart; omega
      · refine List.pairwise_cons.2 ⟨fun y hy => ?_, risT_put hx.2⟩
        rcases mem_putT hy with e | e
        · rw [e]; omega
        · exact hx.1 y e
theorem tick_mem {l : List Lst} (h : RisT l) (x : Lst) : x ∈ l ↔ tickP l x.cart = some x.tick := by
  induction l with
  | nil => simp [tickP]
  | cons y l ih =>
    have hy := List.pairwise_cons.1 h
    rw [List.mem_cons]
    by_cases he : y.cart = x.cart
    · have e1 : tickP (y :: l) x.cart = some y.tick := by simp [tickP, he]
      rw [e1]
      constructor
      · rintro (e | e)
        · subst e; rfl
        · have := hy.1 x e; omega
      · intro e
        left
        cases x; cases y
        simp at he e
        subst he; subst e; rfl
    · have e1 : tickP (y :: l) x.cart = tickP l x.cart := by simp [tickP, he]
      rw [e1, ← ih hy.2]
      constructor
      · rintro (e | e)
        · subst e; exact absurd rfl he
        · exact e
      · exact .inr
theorem ticks_eq {l m : List Lst} (hl : RisT l) (hm : RisT m) (h : ∀ c, tickP l c = tickP m c) : l = m :=
  risT_eq hl hm fun x => by rw [tick_mem hl, tick_mem hm, h]
end Go.Vx
namespace Go.Vx
def kindB (o : Opn) : Bool := if o.kind = 1 then decide (1 ≤ o.qty) else if o.kind = 2 then true else if o.kind = 3 then decide (o.qty = 0) else if o.kind = 4 ∨ o.kind = 5 then decide (o.item = 0) && decide (o.qty = 0) else false
def rightO (o : Opn) : Bool := decide (o.dot.rep < 16) && dotB o.dot && rightB o.ctx 16 && decide (vat o.ctx o.dot.rep.toNat = o.dot.seq - 1) && decide (o.tick ≤ 1073741824) && kindB o
def readyI (known : Vec) (o : Opn) : Int := if rightO o = false then 2 else if hasB known o.dot = true then 8 else if vle o.ctx known = false then 9 else 0
def knownL (l : List Opn) : Vec := l.foldl (fun v o => vset v o.dot.rep.toNat o.dot.seq) vzero
theorem knownL_snoc (l : List Opn) (o : Opn) : knownL (l ++ [o]) = vset (knownL l) o.dot.rep.toNat o.dot.seq := by unfold knownL; rw [List.foldl_append]; rfl
structure DotP (d : Dot) : Prop where
  r0 : 0 ≤ d.rep
  r1 : d.rep < 16
  s0 : 1 ≤ d.seq
  s1 : d.seq ≤ 1048576
theorem DotP.b {d : Dot} (h : DotP d) : dotB d = true := by
  obtain ⟨_, _, _, _⟩ := h
  simp [dotB]; omega
theorem has_iff {v : Vec} {d : Dot} (h : DotP d) : hasB v d = true ↔ d.seq ≤ vat v d.rep.toNat := by
  unfold hasB; rw [h.b, Bool.true_and, decide_eq_true_iff]
inductive Seq : List Opn → Prop
  | nil : Seq []
  | snoc {l : List Opn} {o : Opn} : Seq l → OpnOk o → rightO o = true → DotP o.dot → o.dot ∉ l.map (·.dot) → (∀ d, DotP d → hasB o.ctx d = true → d ∈ l.map (·.dot)) → Seq (l ++ [o])
theorem Seq.cut {l : List Opn} {o : Opn} (h : Seq (l ++ [o])) : Seq l ∧ OpnOk o ∧ rightO o = true ∧ DotP o.dot ∧ o.dot ∉ l.map (·.dot) ∧ ∀ d, DotP d → hasB o.ctx d = true → d ∈ l.map (·.dot) := by
  generalize hm : l ++ [o] = m at h
  cases h with
  | nil => simp at hm
  | snoc h1 h2 h3 h4 h5 h6 =>
    obtain ⟨e1, e2⟩ := List.append_inj' hm rfl
    simp at e2
    subst e1; subst e2
    exact ⟨h1, h2, h3, h4, h5, h6⟩
theorem Seq.dots {l : List Opn} (h : Seq l) : ∀ o ∈ l, DotP o.dot ∧ OpnOk o ∧ rightO o = true := by
  induction h with
  | nil => intro o ho; cases ho
  | snoc _ h2 h3 h4 _ _ ih =>
    intro o ho
    rcases List.mem_append.1 ho with h | h
    · exact ih o h
    · rw [List.mem_singleton.1 h]; exact ⟨h4, h2, h3⟩
theorem Seq.nodup {l : List Opn} (h : Seq l) : (l.map (·.dot)).Nodup := by
  induction h with
  | nil => simp
  | snoc _ _ _ _ h5 _ ih =>
    rw [List.map_append, List.nodup_append]
    exact ⟨ih, by simp, fun a ha b hb e => by simp at hb; subst hb; subst e; exact h5 ha⟩
theorem Seq.known {l : List Opn} (h : Seq l) : (∀ i, 0 ≤ vat (knownL l) i ∧ vat (knownL l) i ≤ 1048576) ∧ ∀ d, DotP d → (d.seq ≤ vat (knownL l) d.rep.toNat ↔ d ∈ l.map (·.dot)) := by
  induction h with
  | nil =>
    refine ⟨fun i => ?_, fun d hd => ?_⟩
    · show 0 ≤ vat vzero i ∧ vat vzero i ≤ _
      unfold vat vzero; split <;> omega
    · show d.seq ≤ vat vzero _ ↔ _
      have := hd.s0
      have h0 : vat vzero d.rep.toNat = 0 := by unfold vat vzero; split <;> rfl
      rw [h0]; simp; omega
  | @snoc l o h1 h2 h3 h4 h5 h6 ih =>
    have hr : o.dot.rep.toNat < 16 := by have := h4.r0; have := h4.r1; omega
    have hctx : vat o.ctx o.dot.rep.toNat = o.dot.seq - 1 := by
      unfold rightO at h3; simp only [Bool.and_eq_true, decide_eq_true_eq] at h3; exact h3.1.1.2
    have hlt : vat (knownL l) o.dot.rep.toNat < o.dot.seq := by
      have := (ih.2 o.dot h4).mp
      rcases Int.lt_or_le (vat (knownL l) o.dot.rep.toNat) o.dot.seq with g | g
      · exact g
      · exact absurd (this g) h5
    have hge : o.dot.seq - 1 ≤ vat (knownL l) o.dot.rep.toNat := by
      by_cases h0 : o.dot.seq = 1
      · have := (ih.1 o.dot.rep.toNat).1; omega
      · have hd : DotP ⟨o.dot.rep, o.dot.seq - 1⟩ := ⟨h4.r0, h4.r1, by have := h4.s0; show 1 ≤ o.dot.seq - 1; omega, by have := h4.s1; show o.dot.seq - 1 ≤ _; omega⟩
        exact (ih.2 _ hd).mpr (h6 _ hd ((has_iff hd).mpr (by show o.dot.seq - 1 ≤ vat o.ctx o.dot.rep.toNat; omega)))
    rw [knownL_snoc]
    refine ⟨fun i => ?_, fun d hd => ?_⟩
    · by_cases hi : i < 16
      · rw [vat_vset _ _ _ _ hi]; split
        · have := h4.s0; have := h4.s1; omega
        · exact ih.1 i
      · unfold vat; rw [dif_neg hi]; omega
    · have hdr : d.rep.toNat < 16 := by have := hd.r0; have := hd.r1; omega
      rw [vat_vset _ _ _ _ hdr, List.map_append, List.mem_append, ← ih.2 d hd]
      split
      · rename_i he
        have hrep : d.rep = o.dot.rep := by have := hd.r0; have := h4.r0; omega
        constructor
        · intro hle
          by_cases e : d.seq = o.dot.seq
          · right
            have : d = o.dot := by cases hdd : d; cases hoo : o.dot; rw [hdd, hoo] at hrep e; simp_all
            subst this; simp
          · left; rw [he]; omega
        · rintro (g | g)
          · rw [he] at g; omega
          · simp at g; subst g; exact Int.le_refl _
      · rename_i he
        constructor
        · exact .inl
        · rintro (g | g)
          · exact g
          · simp at g; subst g; exact absurd rfl he
theorem Seq.has {l : List Opn} (h : Seq l) {d : Dot} (hd : DotP d) : hasB (knownL l) d = true ↔ d ∈ l.map (·.dot) := by rw [has_iff hd]; exact h.known.2 d hd
def szero : Sta := ⟨vzero, [], []⟩
def applyE (s : Sta) (o : Opn) : Sta :=
  ⟨vset s.known o.dot.rep.toNat o.dot.seq, (if laysB o = true then putE (entO o) (s.ents.filter fun e => !endsB o (laidO e)) else s.ents.filter fun e => !endsB o (laidO e)), putT o.cart o.tick s.ticks⟩
def allE (l : List Opn) : Sta := l.foldl applyE szero
theorem allE_snoc (l : List Opn) (o : Opn) : allE (l ++ [o]) = applyE (allE l) o := by unfold allE; rw [List.foldl_append]; rfl
theorem allE_known (l : List Opn) : (allE l).known = knownL l := by
  refine snoc_ind (motive := fun l => (allE l).known = knownL l) rfl (fun l o ih => ?_) l
  rw [allE_snoc, knownL_snoc, ← ih]; rfl
theorem Seq.live_snoc {l : List Opn} {o : Opn} (h : Seq (l ++ [o])) : (∀ x, liveB (l ++ [o]) x = (liveB l x && !endsB o x)) ∧ liveB (l ++ [o]) o = laysB o := by
  obtain ⟨h1, h2, h3, h4, h5, h6⟩ := h.cut
  refine ⟨fun x => ?_, ?_⟩
  · unfold liveB; rw [List.any_append, List.any_cons, List.any_nil, Bool.or_false]
    cases laysB x <;> cases l.any (fun y => endsB y x) <;> cases endsB o x <;> rfl
  · unfold liveB
    have : ((l ++ [o]).any fun x => endsB x o) = false := by
      rw [List.any_eq_false]
      intro x hx he
      have hhas : hasB x.ctx o.dot = true := by
        unfold endsB at he; simp only [Bool.and_eq_true, decide_eq_true_eq] at he; exact he.1.2
      rcases List.mem_append.1 hx with g | g
      ·
        have key : ∀ {l : List Opn}, Seq l → ∀ x ∈ l, ∀ d, DotP d → hasB x.ctx d = true → d ∈ l.map (·.dot) := by
          intro l hl
          induction hl with
          | nil => intro x hx; cases hx
          | snoc _ _ _ _ _ g6 ih =>
            intro x hx d hd hh
            rw [List.map_append, List.mem_append]
            rcases List.mem_append.1 hx with q | q
            · exact .inl (ih x q d hd hh)
            · rw [List.mem_singleton.1 q] at hh; exact .inl (g6 d hd hh)
        exact h5 (key h1 x g o.dot h4 hhas)
      · rw [List.mem_singleton.1 g] at hhas; exact h5 (h6 _ h4 hhas)
    rw [this]; simp
theorem Seq.ents {l : List Opn} (h : Seq l) : RisE (allE l).ents ∧ ∀ e, e ∈ (allE l).ents ↔ ∃ o ∈ l, liveB l o = true ∧ e = entO o := by
  induction h with
  | nil => exact ⟨by simp [allE, szero, RisE], fun e => by simp [allE, szero]⟩
  | @snoc l o h1 h2 h3 h4 h5 h6 ih =>
    have hl := Seq.live_snoc (Seq.snoc h1 h2 h3 h4 h5 h6)
    rw [allE_snoc]
    have hfR : RisE ((allE l).ents.filter fun e => !endsB o (laidO e)) := List.Pairwise.sublist List.filter_sublist ih.1
    have hfm : ∀ e, e ∈ ((allE l).ents.filter fun e => !endsB o (laidO e)) ↔ ∃ x ∈ l, liveB (l ++ [o]) x = true ∧ e = entO x := by
      intro e
      rw [List.mem_filter, ih.2]
      constructor
      · rintro ⟨⟨x, hx, hlx, rfl⟩, hne⟩
        rw [ends_laid] at hne
        exact ⟨x, hx, by rw [hl.1, hlx, hne]; rfl, rfl⟩
      · rintro ⟨x, hx, hlx, rfl⟩
        rw [hl.1, Bool.and_eq_true] at hlx
        exact ⟨⟨x, hx, hlx.1, rfl⟩, by rw [ends_laid]; exact hlx.2⟩
    show RisE (if laysB o = true then _ else _) ∧ ∀ e, e ∈ (if laysB o = true then _ else _) ↔ _
    split
    · rename_i hly
      refine ⟨risE_put hfR ?_, fun e => ?_⟩
      · intro hm
        obtain ⟨e, he, hd⟩ := List.mem_map.1 hm
        obtain ⟨x, hx, _, rfl⟩ := (hfm e).1 he
        exact h5 (List.mem_map.2 ⟨x, hx, hd⟩)
      · rw [mem_putE, hfm]
        constructor
        · rintro (rfl | ⟨x, hx, g⟩)
          · exact ⟨o, by simp, by rw [hl.2, hly], rfl⟩
          · exact ⟨x, by simp [hx], g⟩
        · rintro ⟨x, hx, g⟩
          rcases List.mem_append.1 hx with q | q
          · exact .inr ⟨x, q, g⟩
          · rw [List.mem_singleton.1 q] at g; exact .inl g.2
    · rename_i hly
      refine ⟨hfR, fun e => ?_⟩
      rw [hfm]
      constructor
      · rintro ⟨x, hx, g⟩; exact ⟨x, by simp [hx], g⟩
      · rintro ⟨x, hx, g⟩
        rcases List.mem_append.1 hx with q | q
        · exact ⟨x, q, g⟩
        · rw [List.mem_singleton.1 q, hl.2] at g; exact absurd g.1 hly
def tmax (l : List Opn) (c : Int) : Option Int := l.foldl (fun a o => if o.cart = c then some (match a with | none => o.tick | some u => max u o.tick) else a) none
theorem tmax_snoc (l : List Opn) (o : Opn) (c : Int) : tmax (l ++ [o]) c = if o.cart = c then some (match tmax l c with | none => o.tick | some u => max u o.tick) else tmax l c := by unfold tmax; rw [List.foldl_append]; rfl
theorem allE_ticks (l : List Opn) : RisT (allE l).ticks ∧ ∀ c, tickP (allE l).ticks c = tmax l c := by
  refine snoc_ind (motive := fun l => RisT (allE l).ticks ∧ ∀ c, tickP (allE l).ticks c = tmax l c) ⟨by simp [allE, szero, RisT], fun c => rfl⟩ (fun l o ih => ?_) l
  rw [allE_snoc]
  refine ⟨risT_put ih.1, fun c => ?_⟩
  show tickP (putT _ _ _) c = _
  rw [tickP_put ih.1, tmax_snoc, ih.2, ih.2]
  by_cases h : c = o.cart
  · subst h; rw [if_pos rfl]; first | done | (first | rw [if_pos rfl] | skip); first | done | (cases tmax l o.cart <;> rfl)
  · rw [if_neg h, if_neg (fun e => h e.symm)]
theorem tmax_spec (l : List Opn) (c : Int) : (tmax l c = none ∧ ∀ o ∈ l, o.cart ≠ c) ∨ ∃ t, tmax l c = some t ∧ (∃ o ∈ l, o.cart = c ∧ o.tick = t) ∧ ∀ o ∈ l, o.cart = c → o.tick ≤ t := by
  refine snoc_ind (motive := fun l => (tmax l c = none ∧ ∀ o ∈ l, o.cart ≠ c) ∨ ∃ t, tmax l c = some t ∧ (∃ o ∈ l, o.cart = c ∧ o.tick = t) ∧ ∀ o ∈ l, o.cart = c → o.tick ≤ t) (.inl ⟨rfl, fun o ho => by cases ho⟩) (fun l a ih => ?_) l
  rw [tmax_snoc]
  by_cases hc : a.cart = c
  · right
    rw [if_pos hc]
    rcases ih with ⟨h1, h2⟩ | ⟨t, h1, ⟨o, ho, h3, h4⟩, h5⟩
    · refine ⟨a.tick, by rw [h1], ⟨a, by simp, hc, rfl⟩, fun o ho hoc => ?_⟩
      rcases List.mem_append.1 ho with g | g
      · exact absurd hoc (h2 o g)
      · rw [List.mem_singleton.1 g]; exact Int.le_refl _
    · refine ⟨max t a.tick, by rw [h1], ?_, fun o ho hoc => ?_⟩
      · rcases Int.le_total t a.tick with g | g
        · exact ⟨a, by simp, hc, by omega⟩
        · exact ⟨o, by simp [ho], h3, by omega⟩
      · rcases List.mem_append.1 ho with g | g
        · have := h5 o g hoc; omega
        · rw [List.mem_singleton.1 g]; omega
  · rw [if_neg hc]
    rcases ih with ⟨h1, h2⟩ | ⟨t, h1, ⟨o, ho, h3⟩, h5⟩
    · refine .inl ⟨h1, fun o ho => ?_⟩
      rcases List.mem_append.1 ho with g | g
      · exact h2 o g
      · rw [List.mem_singleton.1 g]; exact hc
    · refine .inr ⟨t, h1, ⟨o, by simp [ho], h3⟩, fun o ho hoc => ?_⟩
      rcases List.mem_append.1 ho with g | g
      · exact h5 o g hoc
      · rw [List.mem_singleton.1 g] at hoc; exact absurd hoc hc
end Go.Vx
namespace Go.Vx
theorem uniq_map {α β : Type} {f : α → β} : ∀ {l : List α}, (l.map f).Nodup → ∀ x ∈ l, ∀ y ∈ l, f x = f y → x = y
  | [], _, x, hx, _, _, _ => by cases hx
  | a :: l, h, x, hx, y, hy, e => by
    rw [List.map_cons, List.nodup_cons] at h
    rcases List.mem_cons.1 hx with p | p <;> rcases List.mem_cons.1 hy with q | q
    · rw [p, q]
    · subst p; exact absurd (List.mem_map.2 ⟨y, q, e.symm⟩) h.1
    · subst q; exact absurd (List.mem_map.2 ⟨x, p, e⟩) h.1
    · exact uniq_map h.2 x p y q e
theorem vat_ctx {o : Opn} (h : rightO o = true) (i : Nat) : vat o.ctx i ≤ 1048576 := by
  unfold rightO at h
  simp only [Bool.and_eq_true, decide_eq_true_eq] at h
  have h1 := h.1.1.1.2
  unfold rightB at h1
  simp only [Bool.and_eq_true, List.all_eq_true, List.mem_range] at h1
  by_cases hi : i < 16
  · have := h1.2 i hi
    unfold okAt at this
    simp at this
    omega
  · unfold vat; rw [dif_neg hi]; omega
theorem sum_le (f : Nat → Int) (b : Int) (h : ∀ i, 0 ≤ f i ∧ f i ≤ b) : ∀ n : Nat, 0 ≤ ((List.range n).map f).sum ∧ ((List.range n).map f).sum ≤ (n : Int) * b
  | 0 => by simp
  | n + 1 => by
    have ih := sum_le f b h n
    rw [List.range_succ, List.map_append, List.sum_append]
    have := h n
    simp only [List.map_cons, List.map_nil, List.sum_cons, List.sum_nil]
    have e : ((n + 1 : Nat) : Int) * b = (n : Int) * b + b := by rw [Int.natCast_add, Int.add_mul]; simp
    omega
theorem cnt_bd {o : Opn} (ho : OpnOk o) (h : rightO o = true) : 1 ≤ cntO o ∧ cntO o ≤ 16777217 := by
  have hv := ho.2.2.2.2.2.2
  have := sum_le (fun i => vat o.ctx i) 1048576 (fun i => ⟨by
    unfold vat; split
    · exact (hv _).1
    · omega, vat_ctx h i⟩) 16
  unfold cntO vsum
  omega
theorem lays_kind {o : Opn} : laysB o = true ↔ o.kind = 1 ∨ o.kind = 2 ∨ o.kind = 4 := by unfold laysB; simp [or_assoc]
theorem live_lays {l : List Opn} {o : Opn} (h : liveB l o = true) : laysB o = true := by unfold liveB at h; rw [Bool.and_eq_true] at h; exact h.1
theorem Seq.right {l : List Opn} (h : Seq l) : RightC (allE l) := by
  have hk := h.known
  have he := h.ents
  have ht := allE_ticks l
  have hd := h.dots
  refine ⟨?_, ht.1, fun x hx => ?_, he.1, fun e hm => ?_, ?_⟩
  · rw [allE_known]
    unfold rightB
    simp only [Bool.and_eq_true, List.all_eq_true, List.mem_range]
    refine ⟨by decide, fun i hi => ?_⟩
    have := hk.1 i
    unfold okAt; simp; omega
  · rw [tick_mem ht.1, ht.2] at hx
    rcases tmax_spec l x.cart with ⟨h1, _⟩ | ⟨t, h1, ⟨o, ho, _, h3⟩, _⟩
    · rw [h1] at hx; cases hx
    · rw [h1] at hx; cases hx
      have := (hd o ho).2.2
      unfold rightO at this
      simp only [Bool.and_eq_true, decide_eq_true_eq] at this
      rw [← h3]; exact this.1.2
  · obtain ⟨o, ho, hl, rfl⟩ := (he.2 e).1 hm
    have hdo := hd o ho
    have hc := cnt_bd hdo.2.1 hdo.2.2
    unfold entB
    simp only [Bool.and_eq_true, decide_eq_true_eq]
    refine ⟨⟨⟨⟨?_, ?_⟩, ?_⟩, hc.1⟩, hc.2⟩
    · rw [ht.2]
      rcases tmax_spec l o.cart with ⟨_, h2⟩ | ⟨t, h1, _⟩
      · exact absurd rfl (h2 o ho)
      · show (tmax l o.cart).isSome = true
        rw [h1]; rfl
    · have hr := hdo.2.2
      unfold rightO at hr
      simp only [Bool.and_eq_true] at hr
      have hkk := hr.2
      unfold kindB at hkk
      show shapedB (entO o) = true
      unfold shapedB entO
      rcases lays_kind.1 (live_lays hl) with g | g | g
      · simp [g] at hkk ⊢; exact hkk
      · simp [g]
      · simp [g] at hkk ⊢; exact hkk
    · rw [allE_known]
      exact (h.has hdo.1).2 (List.mem_map.2 ⟨o, ho, rfl⟩)
  · have hmap : (allE l).ents.map (·.dot) = (allE l).ents.map (·.dot) := rfl
    have hnd := h.nodup
    have hinj : ∀ a ∈ (allE l).ents, ∀ b ∈ (allE l).ents, a.dot = b.dot → a = b := by
      intro a ha b hb e
      obtain ⟨o, ho, _, rfl⟩ := (he.2 a).1 ha
      obtain ⟨p, hp, _, rfl⟩ := (he.2 b).1 hb
      rw [uniq_map hnd o ho p hp e]
    unfold List.Nodup
    rw [List.pairwise_map]
    have hne : (allE l).ents.Pairwise (· ≠ ·) := he.1.imp fun {a b} hab e => by subst e; rw [ahead_irrefl] at hab; cases hab
    rw [List.pairwise_iff_getElem] at hne ⊢
    intro i j hi hj hij e
    exact hne i j hi hj hij (hinj _ (List.getElem_mem hi) _ (List.getElem_mem hj) e)
theorem Seq.ext {l m : List Opn} (hl : Seq l) (hm : Seq m) (h : ∀ o, o ∈ l ↔ o ∈ m) : allE l = allE m := by
  have hdm : ∀ d, d ∈ l.map (·.dot) ↔ d ∈ m.map (·.dot) := fun d => by
    rw [List.mem_map, List.mem_map]
    constructor
    · rintro ⟨o, ho, e⟩; exact ⟨o, (h o).1 ho, e⟩
    · rintro ⟨o, ho, e⟩; exact ⟨o, (h o).2 ho, e⟩
  have hle : ∀ {l m : List Opn}, Seq l → Seq m → (∀ d, d ∈ l.map (·.dot) ↔ d ∈ m.map (·.dot)) → ∀ i, vat (knownL l) i ≤ vat (knownL m) i := by
    intro l m hl hm hd i
    by_cases hi : i < 16
    case neg => unfold vat; rw [dif_neg hi, dif_neg hi]; omega
    have b1 := hl.known.1 i
    have b2 := hm.known.1 i
    by_cases h0 : vat (knownL l) i = 0
    · omega
    · have hdp : DotP ⟨(i : Int), vat (knownL l) i⟩ := ⟨by show (0 : Int) ≤ (i : Int); omega, by show (i : Int) < 16; omega, by show 1 ≤ vat (knownL l) i; omega, b1.2⟩
      have := (hm.known.2 _ hdp).2 ((hd _).1 ((hl.known.2 _ hdp).1 (by show vat (knownL l) i ≤ vat (knownL l) ((i : Int)).toNat; rw [Int.toNat_natCast]; exact Int.le_refl _)))
      simpa using this
  have e1 : (allE l).known = (allE m).known := by
    rw [allE_known, allE_known]
    exact vec_ext fun i _ => Int.le_antisymm (hle hl hm hdm i) (hle hm hl (fun d => (hdm d).symm) i)
  have hlive : ∀ o, liveB l o = liveB m o := fun o => by
    unfold liveB
    have : (l.any fun x => endsB x o) = (m.any fun x => endsB x o) := by
      rw [Bool.eq_iff_iff, List.any_eq_true, List.any_eq_true]
      constructor
      · rintro ⟨x, hx, e⟩; exact ⟨x, (h x).1 hx, e⟩
      · rintro ⟨x, hx, e⟩; exact ⟨x, (h x).2 hx, e⟩
    rw [this]
  have e2 : (allE l).ents = (allE m).ents := risE_eq hl.ents.1 hm.ents.1 fun e => by
    rw [hl.ents.2, hm.ents.2]
    constructor
    · rintro ⟨o, ho, g, q⟩; exact ⟨o, (h o).1 ho, by rw [← hlive]; exact g, q⟩
    · rintro ⟨o, ho, g, q⟩; exact ⟨o, (h o).2 ho, by rw [hlive]; exact g, q⟩
  have e3 : (allE l).ticks = (allE m).ticks := ticks_eq (allE_ticks l).1 (allE_ticks m).1 fun c => by
    rw [(allE_ticks l).2, (allE_ticks m).2]
    rcases tmax_spec l c with ⟨h1, h2⟩ | ⟨t, h1, ⟨o, ho, h3, h4⟩, h5⟩ <;> rcases tmax_spec m c with ⟨g1, g2⟩ | ⟨u, g1, ⟨p, hp, g3, g4⟩, g5⟩
    · rw [h1, g1]
    · exact absurd g3 (h2 p ((h p).2 hp))
    · exact absurd h3 (g2 o ((h o).1 ho))
    · rw [h1, g1]
      have := h5 p ((h p).2 hp) g3
      have := g5 o ((h o).1 ho) h3
      congr 1; omega
  cases hx : allE l; cases hy : allE m
  rw [hx, hy] at e1 e2 e3
  simp at e1 e2 e3
  rw [e1, e2, e3]
end Go.Vx
namespace Go.Vx
theorem right_dot {o : Opn} (ho : OpnOk o) (h : rightO o = true) : DotP o.dot := by
  unfold rightO at h
  simp only [Bool.and_eq_true, decide_eq_true_eq] at h
  have h1 := h.1.1.1.1.1
  have h2 := dotB_spec h.1.1.1.1.2
  exact ⟨ho.1.1.1, h1, h2.2.1, h2.2.2⟩
theorem vle_at {a b : Vec} (h : vle a b = true) (i : Nat) : vat a i ≤ vat b i := by
  unfold vle at h
  rw [List.all_eq_true] at h
  by_cases hi : i < 16
  · simpa using h i (List.mem_range.2 hi)
  · unfold vat; rw [dif_neg hi, dif_neg hi]; exact Int.le_refl _
theorem ready_zero {known : Vec} {o : Opn} (h : readyI known o = 0) : rightO o = true ∧ hasB known o.dot = false ∧ vle o.ctx known = true := by
  unfold readyI at h
  split at h
  · omega
  · split at h
    · omega
    · split at h
      · omega
      · rename_i h1 h2 h3
        simp at h1 h2 h3
        exact ⟨h1, h2, h3⟩
theorem Seq.add {l : List Opn} {o : Opn} (h : Seq l) (ho : OpnOk o) (hr : readyI (knownL l) o = 0) : Seq (l ++ [o]) := by
  obtain ⟨h1, h2, h3⟩ := ready_zero hr
  have hd := right_dot ho h1
  refine Seq.snoc h ho h1 hd (fun hm => ?_) fun d hdp hh => ?_
  · rw [(h.has hd).2 hm] at h2; cases h2
  · refine (h.has hdp).1 ((has_iff hdp).2 (Int.le_trans ((has_iff hdp).1 hh) (vle_at h3 _)))
theorem Seq.ready {l : List Opn} {o : Opn} (h : Seq (l ++ [o])) : readyI (knownL l) o = 0 := by
  obtain ⟨h1, h2, h3, h4, h5, h6⟩ := h.cut
  unfold readyI
  rw [if_neg (by rw [h3]; decide), if_neg (fun g => h5 ((h1.has h4).1 g)), if_neg]
  rw [Bool.not_eq_false]
  refine vle_yes fun j hj => ?_
  have hb := vat_ctx h3 j
  have h0 := (h1.known.1 j).1
  by_cases hz : vat o.ctx j < 1
  · omega
  · have hdp : DotP ⟨(j : Int), vat o.ctx j⟩ := ⟨by show (0 : Int) ≤ (j : Int); omega, by show (j : Int) < 16; omega, by show 1 ≤ vat o.ctx j; omega, hb⟩
    have := (h1.known.2 _ hdp).2 (h6 _ hdp ((has_iff hdp).2 (by show vat o.ctx j ≤ vat o.ctx ((j : Int)).toNat; rw [Int.toNat_natCast]; exact Int.le_refl _)))
    simpa using this
def Down (l : List Opn) (p : Opn → Bool) : Prop := ∀ o ∈ l, p o = true → ∀ d, DotP d → hasB o.ctx d = true → ∃ q ∈ l, p q = true ∧ q.dot = d
theorem Seq.sub {l : List Opn} {p : Opn → Bool} (h : Seq l) (hp : Down l p) : Seq (l.filter p) := by
  have key : ∀ m : List Opn, Seq m → (∀ o ∈ m, o ∈ l) → Seq (m.filter p) := by
    intro m hm
    induction hm with
    | nil => intro _; exact Seq.nil
    | @snoc m o h1 h2 h3 h4 h5 h6 ih =>
      intro hin
      have ih := ih fun x hx => hin x (List.mem_append_left _ hx)
      rw [List.filter_append]
      by_cases hpo : p o = true
      · rw [List.filter_cons_of_pos hpo, List.filter_nil]
        refine Seq.snoc ih h2 h3 h4 (fun g => h5 ?_) fun d hd hh => ?_
        · obtain ⟨x, hx, e⟩ := List.mem_map.1 g
          exact List.mem_map.2 ⟨x, (List.mem_filter.1 hx).1, e⟩
        · obtain ⟨x, hx, e⟩ := List.mem_map.1 (h6 d hd hh)
          obtain ⟨q, hq, hpq, eq⟩ := hp o (hin o (by simp)) hpo d hd hh
          have := uniq_map h.nodup x (hin x (List.mem_append_left _ hx)) q hq (e.trans eq.symm)
          subst this
          exact List.mem_map.2 ⟨x, List.mem_filter.2 ⟨hx, hpq⟩, e⟩
      · rw [List.filter_cons_of_neg hpo, List.filter_nil, List.append_nil]; exact ih
  exact key l h fun _ h => h
end Go.Vx
namespace Go.Vx
def lessC (a b : Cen) : Bool := if a.count = b.count then (if a.dot.rep = b.dot.rep then decide (a.dot.seq < b.dot.seq) else decide (a.dot.rep < b.dot.rep)) else decide (a.count < b.count)
end Go.Vx
namespace Go.Vx
theorem sum_set : ∀ (n : Nat) (f : Nat → Int) (i : Nat) (x : Int), ((List.range n).map fun j => if j = i then x else f j).sum = ((List.range n).map f).sum + (if i < n then x - f i else 0)
  | 0, _, _, _ => by simp
  | n + 1, f, i, x => by
    rw [List.range_succ, List.map_append, List.sum_append, List.map_append, List.sum_append, sum_set n f i x]
    simp only [List.map_cons, List.map_nil, List.sum_cons, List.sum_nil]
    by_cases h : n = i
    · subst h; simp; omega
    · rw [if_neg h]
      by_cases h2 : i < n
      · rw [if_pos h2, if_pos (by omega)]; omega
      · rw [if_neg h2, if_neg (by omega)]; omega
theorem vsum_set {v : Vec} {i : Nat} {x : Int} (hi : i < 16) : vsum (vset v i x) = vsum v + (x - vat v i) := by
  unfold vsum
  have e : (List.range 16).map (fun j => vat (vset v i x) j) = (List.range 16).map fun j => if j = i then x else vat v j := by
    refine List.map_congr_left fun j hj => ?_
    rw [vat_vset _ _ _ _ (List.mem_range.1 hj)]
  rw [e, sum_set, if_pos hi]
theorem Seq.next {l : List Opn} {o : Opn} (h : Seq (l ++ [o])) : vat (knownL l) o.dot.rep.toNat = o.dot.seq - 1 := by
  obtain ⟨h1, h2, h3, h4, h5, h6⟩ := h.cut
  have hctx : vat o.ctx o.dot.rep.toNat = o.dot.seq - 1 := by
    unfold rightO at h3; simp only [Bool.and_eq_true, decide_eq_true_eq] at h3; exact h3.1.1.2
  have hlt : ¬ o.dot.seq ≤ vat (knownL l) o.dot.rep.toNat := fun g => h5 ((h1.known.2 o.dot h4).1 g)
  have h0 := (h1.known.1 o.dot.rep.toNat).1
  by_cases hz : o.dot.seq = 1
  · omega
  · have hd : DotP ⟨o.dot.rep, o.dot.seq - 1⟩ := ⟨h4.r0, h4.r1, by have := h4.s0; show 1 ≤ o.dot.seq - 1; omega, by have := h4.s1; show o.dot.seq - 1 ≤ _; omega⟩
    have := (h1.known.2 _ hd).2 (h6 _ hd ((has_iff hd).2 (by show o.dot.seq - 1 ≤ vat o.ctx o.dot.rep.toNat; omega)))
    have : o.dot.seq - 1 ≤ vat (knownL l) o.dot.rep.toNat := this
    omega
theorem Seq.sum {l : List Opn} (h : Seq l) : vsum (knownL l) = l.length := by
  induction h with
  | nil => rfl
  | @snoc l o h1 h2 h3 h4 h5 h6 ih =>
    have hn := Seq.next (Seq.snoc h1 h2 h3 h4 h5 h6)
    have hr : o.dot.rep.toNat < 16 := by have := h4.r0; have := h4.r1; omega
    rw [knownL_snoc, vsum_set hr, ih, hn, List.length_append, List.length_singleton]
    omega
end Go.Vx
namespace Go.Vx
open Go.RowKit Go.ChangeShapes Go.WideShapes Go.ChangeAt
def OpenT (P : Program) (t : TypeId) {α : Type} (en : α → List Value) (ok : α → Prop) : Prop :=
  ∀ (H : Type) (enc : TypeId × Value → H) (w : World) (base : Nat) (spare : Nat → Bool) (held : Bool) (fuel : Nat) (cs : List Value) (x : DataW H × List MemPlace), DataW.trod enc P w base spare held fuel t cs = some x → ∃ a, ok a ∧ cs = en a
def inK (k : IntKind) (a : Int) : Prop := (Lit.int k a).wf = true
theorem inK_u32 {a : Int} (h : inK .u32 a) : 0 ≤ a ∧ a < 4294967296 := by
  unfold inK at h
  simp [Lit.wf, IntKind.min, IntKind.max, IntKind.signed, IntKind.bits] at h
  omega
theorem inK_u16 {a : Int} (h : inK .u16 a) : 0 ≤ a ∧ a < 65536 := by
  unfold inK at h
  simp [Lit.wf, IntKind.min, IntKind.max, IntKind.signed, IntKind.bits] at h
  omega
theorem inK_u8 {a : Int} (h : inK .u8 a) : 0 ≤ a ∧ a < 256 := by
  unfold inK at h
  simp [Lit.wf, IntKind.min, IntKind.max, IntKind.signed, IntKind.bits] at h
  omega
theorem O_int {P : Program} {t : TypeId} {k : IntKind} (ht : P.underlying t = some (.int k)) : OpenT P t (ic k) (inK k) := by
  intro H enc w base spare held fuel cs x h
  obtain ⟨n, h1, _, h2⟩ := DataW.trod_int ht h
  exact ⟨n, h2, h1⟩
theorem O_vec {P : Program} {t el : TypeId} (ht : P.underlying t = some (.array 16 el)) (he : P.underlying el = some (.int .u32)) (hc : P.cellsOf el = 1) (hct : P.cellsOf t = 16) : OpenT P t vc VecOk := by
  intro H enc w base spare held fuel cs x h
  obtain ⟨xs, m, _, _, hl, hxl, hx⟩ := DataW.trod_array ht h
  rw [hct] at hl
  have each : ∀ i, i < 16 → ∃ a, inK .u32 a ∧ cs[i]? = some (.int .u32 a) := by
    intro i hi
    have h1 := hx i hi
    rw [hc, List.getElem?_eq_getElem (by omega)] at h1
    obtain ⟨a, ha, he⟩ := O_int he _ _ _ _ _ _ _ _ _ h1
    refine ⟨a, ha, ?_⟩
    have h2 : ((cs.drop (i * 1)).take 1)[0]? = some (.int .u32 a) := by rw [he]; rfl
    simpa [List.getElem?_take, List.getElem?_drop] using h2
  have each' : ∀ i : Fin 16, ∃ a, inK .u32 a ∧ cs[i.val]? = some (.int .u32 a) := fun i => each i.val i.isLt
  obtain ⟨v, hv⟩ := Classical.axiomOfChoice each'
  refine ⟨v, fun i => inK_u32 (hv i).1, ?_⟩
  apply List.ext_getElem?
  intro i
  by_cases hi : i < 16
  · rw [vc_at _ _ hi, (hv ⟨i, hi⟩).2]; simp [vat, hi]
  · rw [List.getElem?_eq_none (by omega), List.getElem?_eq_none (by rw [vc_len]; omega)]
theorem O_dot {P : Program} {t : TypeId} {f1 f2 : Field} (ht : P.underlying t = some (.struct #[f1, f2])) (o1 : f1.offset = 0) (o2 : f2.offset = 1) (u1 : P.underlying f1.type = some (.int .u8)) (u2 : P.underlying f2.type = some (.int .u32))
    (c1 : P.cellsOf f1.type = 1) (c2 : P.cellsOf f2.type = 1) (hct : P.cellsOf t = 2) : OpenT P t dc DotOk := by
  intro H enc w base spare held fuel cs x h
  obtain ⟨xs, m, _, _, hl, hxl, hx⟩ := DataW.trod_struct ht h
  rw [hct] at hl
  have h1 := hx 0 f1 rfl
  have h2 := hx 1 f2 rfl
  have hx2 : xs.length = 2 := by simpa using hxl
  rw [List.getElem?_eq_getElem (by omega)] at h1 h2
  rw [o1, c1] at h1
  rw [o2, c2] at h2
  obtain ⟨a, ha, e1⟩ := O_int u1 _ _ _ _ _ _ _ _ _ h1
  obtain ⟨b, hb, e2⟩ := O_int u2 _ _ _ _ _ _ _ _ _ h2
  match cs, hl with
  | [x, y], _ =>
    simp [ic] at e1 e2
    exact ⟨⟨a, b⟩, ⟨inK_u8 ha, inK_u32 hb⟩, by rw [e1, e2]; rfl⟩
theorem open_rows {P : Program} {t e k : TypeId} {α : Type} {en : α → List Value} {ok : α → Prop} (ht : P.underlying t = some (.slice e)) (hO : OpenT P e en ok) (hk : ∀ x, (en x).length = k) (hc : P.cellsOf e = k) {H : Type} {enc : TypeId × Value → H} {w : World} {r : Reach} {b0 base : Nat} {spare : Nat → Bool} {held : Bool} {v : Value} {d : DataW H} {ps : List MemPlace}
    (hv : Value.okWide P w r b0 t v) (h : DataW.Trod enc P w base spare held t v d ps) : ∃ a c, ∃ l : List α, v = .slice a l.length c ∧ (∀ x ∈ l, ok x) ∧ Rd w (.slice a l.length c) k (l.map en) := by
  have hv0 := hv
  obtain ⟨a, len, cap, rfl⟩ := okWide_slice ht hv
  obtain ⟨fuel, h⟩ := h
  have h' : DataW.trod enc P w base spare held fuel t [.slice a len cap] = some (d, ps) := h
  rcases Go.Deep.open_slice ht h' with ⟨hcs, _⟩ | ⟨ad, len', cap', m, n, D, Pl, hcs, hb, hl, hm, hmm, hx, hall⟩
  · simp only [List.cons.injEq, Value.slice.injEq, and_true] at hcs
    obtain ⟨rfl, rfl, rfl⟩ := hcs
    exact ⟨none, 0, [], rfl, by simp, Rd.nil w k⟩
  · simp only [List.cons.injEq, Value.slice.injEq, and_true] at hcs
    obtain ⟨rfl, rfl, rfl⟩ := hcs
    have hrm : len ≤ cap := by
      have hv1 := hv0
      simp only [Value.okWide, ht, Cell.okWide, Cell.ok] at hv1
      exact hv1.1
    have hsp : ad.spot = none := by
      simp only [Value.okWide, ht, Cell.okWide, Cell.ok] at hv0
      exact hv0.2.2.2.1
    have hle : len ≤ m := by rw [hmm]; split <;> omega
    have each : ∀ i : Fin len, ∃ x : α, ok x ∧ ∀ j, j < k → w.cell? ((ad.add (i.val * k)).add j) = (en x)[j]? := by
      intro i
      obtain ⟨cs', h1, h2⟩ := hall i.val (by omega)
      rw [hc] at h1
      obtain ⟨_, _, h3⟩ := World.cells?_some h1
      obtain ⟨x, hox, rfl⟩ := hO _ _ _ _ _ _ _ _ _ h2
      exact ⟨x, hox, h3⟩
    obtain ⟨f, hf⟩ := Classical.axiomOfChoice each
    refine ⟨some ad, cap, List.ofFn f, by rw [List.length_ofFn], fun x hx => ?_, ?_⟩
    · obtain ⟨i, rfl⟩ := List.mem_ofFn.1 hx; exact (hf i).1
    · obtain ⟨b, o, sp⟩ := ad
      simp only at hsp
      subst hsp
      refine ⟨len_map hk _, by simp only [List.length_map, List.length_ofFn]; simp only [maxLen] at hm; omega, .inr ⟨b, o, cap, by rw [List.length_map]⟩, fun i j l u hi hj => ?_, by rw [List.length_map, List.length_ofFn]; exact hrm⟩
      have hi' := lt_of_get hi
      rw [List.length_map, List.length_ofFn] at hi'
      have e1 : l = en (f ⟨i, hi'⟩) := by
        rw [List.getElem?_map, List.getElem?_ofFn] at hi
        simp [hi'] at hi
        exact hi.symm
      subst e1
      have hjk : j < k := by have := lt_of_get hj; rw [hk] at this; exact this
      have h4 := (hf ⟨i, hi'⟩).2 j hjk
      rw [add_eq, add_eq] at h4
      show w.cell? ⟨b, o + i * k + j, none⟩ = some u
      rw [← hj]; exact h4
end Go.Vx
namespace Go.Proofs
open Go Go.Vx Go.RowKit
namespace Tt
theorem SA_36 : TA Tryz.prog 36 16 := ⟨Tryz.sizeOf36, Tryz.isAgg36⟩
end Tt
end Go.Proofs
namespace Go.Vx
open Go.RowKit
def PlainR (w : World) (v : Value) : Prop := ∃ b n c cur T, v = .slice (some ⟨b, 0, none⟩) n c ∧ w.heap[b]? = some (.cells cur T (0, 0))
theorem PlainR.own {w0 w : World} {M : Nat → Prop} {L : List Res} {v : Value} (h : PlainR w0 v) (hs : Own w0 M w L) (hm : ¬ M (bkS v)) : PlainR w v := by
  obtain ⟨b, n, c, cur, T, rfl, hb⟩ := h
  refine ⟨b, n, c, cur, T, rfl, ?_⟩
  rw [hs.old b (Array.getElem?_eq_some_iff.1 hb).1 hm]
  exact hb
section
variable {P : Program} {ty : TypeId} {e : Operand → Value} {w : World} {K : Value → World → Prop} {w0 : World} {M : Nat → Prop} {L : List Res}
theorem Own.plain {n : Nat} {v : Value} {ls : List (List Value)} {E k : Nat} (hs : Own w0 M w L) (i : Nat) (hi : L[i]? = some (row v ls E k)) (h0 : 0 < ls.length) (hn : n = ls.length) : PlainR w v ∧ True := by
  obtain ⟨S, ⟨_, hown, hSg⟩, hlt, _⟩ := hs.get i hi
  rcases hown.2 with ⟨hv, hn0⟩ | ⟨g, cap, cur, hv, h0g, hg, _⟩
  · omega
  · exact ⟨⟨g, _, cap, cur, E, hv, hg⟩, trivial⟩
end
end Go.Vx
namespace Go.Vx
theorem PlainR.lt {w : World} {v : Value} (h : PlainR w v) : bkS v < w.heap.size := by
  obtain ⟨b, n, c, cur, T, rfl, hb⟩ := h
  exact (Array.getElem?_eq_some_iff.1 hb).1
end Go.Vx
namespace Go.Vx
section
variable {α : Type} [Inhabited α]
structure CmpO (cf : α → α → Int) : Prop where
  irr : ∀ x, ¬ cf x x < 0
  tot : ∀ x y, cf x y < 0 → ¬ cf y x < 0
  tr : ∀ x y z, ¬ cf y x < 0 → ¬ cf z y < 0 → ¬ cf z x < 0
variable {cf : α → α → Int}
theorem gd_app_l {l m : List α} {i : Nat} (h : i < l.length) : gd (l ++ m) i = gd l i := by simp [gd, List.getElem?_append_left h]
theorem gd_app_r {l m : List α} {i : Nat} (h : l.length ≤ i) : gd (l ++ m) i = gd m (i - l.length) := by simp [gd, List.getElem?_append_right h]
theorem mem_gd {l : List α} {x : α} (h : x ∈ l) : ∃ i, i < l.length ∧ gd l i = x := by
  obtain ⟨i, hi, rfl⟩ := List.mem_iff_getElem.1 h
  exact ⟨i, hi, by simp [gd, hi]⟩
def PermSeg (l l2 : List α) (a b : Nat) : Prop := ∃ A X Z B, l = A ++ X ++ B ∧ l2 = A ++ Z ++ B ∧ A.length = a ∧ a + X.length = b ∧ Z.Perm X
omit [Inhabited α] in
theorem PermSeg.len {l l2 : List α} {a b : Nat} (h : PermSeg l l2 a b) : l2.length = l.length := by
  obtain ⟨A, X, Z, B, rfl, rfl, _, _, hp⟩ := h
  simp [hp.length_eq]
omit [Inhabited α] in
theorem cut3 (l : List α) {a b : Nat} (h : a ≤ b) (hb : b ≤ l.length) : l = l.take a ++ (l.take b).drop a ++ l.drop b ∧ (l.take a).length = a ∧ a + ((l.take b).drop a).length = b := by
  refine ⟨?_, by rw [List.length_take]; omega, by rw [List.length_drop, List.length_take]; omega⟩
  have e : l.take a = (l.take b).take a := by rw [List.take_take]; congr 1; omega
  rw [e, List.take_append_drop, List.take_append_drop]
omit [Inhabited α] in
theorem PermSeg.refl (l : List α) {a b : Nat} (h : a ≤ b) (hb : b ≤ l.length) : PermSeg l l a b := by
  obtain ⟨h1, h2, h3⟩ := cut3 l h hb
  exact ⟨_, _, _, _, h1, h1, h2, h3, List.Perm.refl _⟩
omit [Inhabited α] in
theorem app3_inj {A X B A2 X2 B2 : List α} (h : A ++ X ++ B = A2 ++ X2 ++ B2) (h1 : A.length = A2.length) (h2 : X.length = X2.length) : A = A2 ∧ X = X2 ∧ B = B2 := by
  rw [List.append_assoc, List.append_assoc] at h
  obtain ⟨e1, e2⟩ := List.append_inj h h1
  obtain ⟨e3, e4⟩ := List.append_inj e2 h2
  exact ⟨e1, e3, e4⟩
omit [Inhabited α] in
theorem PermSeg.trans {l m n : List α} {a b : Nat} (h : PermSeg l m a b) (g : PermSeg m n a b) : PermSeg l n a b := by
  obtain ⟨A, X, Z, B, rfl, rfl, ha, hb, hp⟩ := h
  obtain ⟨A2, X2, Z2, B2, e, rfl, ha2, hb2, hp2⟩ := g
  have hz := hp.length_eq
  obtain ⟨rfl, rfl, rfl⟩ := app3_inj e (by omega) (by omega)
  exact ⟨_, _, _, _, rfl, rfl, ha, hb, hp2.trans hp⟩
omit [Inhabited α] in
theorem PermSeg.wide {l m : List α} {a b a2 b2 : Nat} (h : PermSeg l m a b) (h1 : a2 ≤ a) (h2 : b ≤ b2) (h3 : b2 ≤ l.length) : PermSeg l m a2 b2 := by
  obtain ⟨A, X, Z, B, rfl, rfl, rfl, rfl, hp⟩ := h
  have hz := hp.length_eq
  simp only [List.length_append] at h3
  refine ⟨A.take a2, A.drop a2 ++ X ++ B.take (b2 - (A.length + X.length)), A.drop a2 ++ Z ++ B.take (b2 - (A.length + X.length)), B.drop (b2 - (A.length + X.length)), ?_, ?_, by rw [List.length_take]; omega, by simp only [List.length_append, List.length_drop, List.length_take]; omega, (hp.append_left _).append_right _⟩
  · have e1 := List.take_append_drop a2 A
    have e2 := List.take_append_drop (b2 - (A.length + X.length)) B
    calc A ++ X ++ B = (A.take a2 ++ A.drop a2) ++ X ++ (B.take (b2 - (A.length + X.length)) ++ B.drop (b2 - (A.length + X.length))) := by rw [e1, e2]
      _ = _ := by simp only [List.append_assoc]
  · have e1 := List.take_append_drop a2 A
    have e2 := List.take_append_drop (b2 - (A.length + X.length)) B
    calc A ++ Z ++ B = (A.take a2 ++ A.drop a2) ++ Z ++ (B.take (b2 - (A.length + X.length)) ++ B.drop (b2 - (A.length + X.length))) := by rw [e1, e2]
      _ = _ := by simp only [List.append_assoc]
theorem PermSeg.out {l m : List α} {a b i : Nat} (h : PermSeg l m a b) (hi : i < a ∨ b ≤ i) : gd m i = gd l i := by
  obtain ⟨A, X, Z, B, rfl, rfl, rfl, rfl, hp⟩ := h
  have hz := hp.length_eq
  rcases hi with hi | hi
  · rw [List.append_assoc, List.append_assoc, gd_app_l hi, gd_app_l hi]
  · rw [gd_app_r (by simp only [List.length_append]; omega), gd_app_r (by simp only [List.length_append]; omega)]
    simp only [List.length_append]; congr 1; omega
def OrdSeg (cf : α → α → Int) (l : List α) (a b : Nat) : Prop := ∀ i j, a ≤ i → i < j → j < b → ¬ cf (gd l j) (gd l i) < 0
theorem OrdSeg.out {l m : List α} {a b c d : Nat} (h : OrdSeg cf l a b) (g : PermSeg l m c d) (hd : b ≤ c ∨ d ≤ a) : OrdSeg cf m a b := by
  intro i j hi hij hj
  rw [g.out (by omega), g.out (by omega)]
  exact h i j hi hij hj
theorem OrdSeg.sub {l : List α} {a b c d : Nat} (h : OrdSeg cf l a b) (h1 : a ≤ c) (h2 : d ≤ b) : OrdSeg cf l c d := fun i j hi hij hj => h i j (by omega) hij (by omega)
theorem OrdSeg.small {l : List α} {a b : Nat} (h : b ≤ a + 1) : OrdSeg cf l a b := fun i j hi hij hj => by omega
theorem PermSeg.from {l m : List α} {a b i : Nat} (h : PermSeg l m a b) (h1 : a ≤ i) (h2 : i < b) : ∃ k, a ≤ k ∧ k < b ∧ gd m i = gd l k := by
  obtain ⟨A, X, Z, B, rfl, rfl, rfl, rfl, hp⟩ := h
  have hz := hp.length_eq
  have e1 : gd (A ++ Z ++ B) i = gd Z (i - A.length) := by rw [List.append_assoc, gd_app_r (by omega), gd_app_l (by omega)]
  have hm : gd Z (i - A.length) ∈ Z := gd_mem (by omega)
  obtain ⟨k, hk, e⟩ := mem_gd (hp.mem_iff.1 hm)
  refine ⟨A.length + k, by omega, by omega, ?_⟩
  rw [e1, ← e, List.append_assoc, gd_app_r (by omega), gd_app_l (by omega)]
  congr 1; omega
end
end Go.Vx
namespace Go.Vx
section
variable {α : Type} [Inhabited α] {cf : α → α → Int}
def RotSeg (l l2 : List α) (a m b : Nat) : Prop := ∃ A X Y B, l = A ++ X ++ Y ++ B ∧ l2 = A ++ Y ++ X ++ B ∧ A.length = a ∧ a + X.length = m ∧ m + Y.length = b
omit [Inhabited α] in
theorem RotSeg.refl {l : List α} {a m b : Nat} (h1 : a ≤ m) (h2 : m ≤ b) (h3 : b ≤ l.length) (h : a = m ∨ m = b) : RotSeg l l a m b := by
  obtain ⟨e1, e2, e3⟩ := cut3 l h1 (Nat.le_trans h2 h3)
  obtain ⟨f1, f2, f3⟩ := cut3 l h2 h3
  obtain ⟨g1, g2, g3⟩ := cut3 l (Nat.le_trans h1 h2) h3
  rcases h with h | h
  · subst h
    exact ⟨_, [], _, _, by simpa using g1, by simpa using g1, g2, by simp, g3⟩
  · subst h
    exact ⟨_, _, [], _, by simpa using e1, by simpa using e1, e2, e3, by simp⟩
end
end Go.Vx
namespace Go.Vx
section
variable {α : Type} [Inhabited α] {p : α → Bool} {l : List α}
theorem take_snoc {k : Nat} (hk : k < l.length) : l.take (k + 1) = l.take k ++ [gd l k] := by
  rw [List.take_add_one]
  simp [gd, hk]
end
end Go.Vx
namespace Go.Proofs
open Go Go.Vx Go.RowKit
namespace Tt
set_option maxRecDepth 20000 in
theorem EL_42 : El Tryz.prog 42 229 7 24 := ⟨Tryz.underlying42, _, _, Tryz.type229, rfl, rfl, rfl, rfl, by decide⟩
set_option maxRecDepth 20000 in
theorem EL_43 : El Tryz.prog 43 232 2 8 := ⟨Tryz.underlying43, _, _, Tryz.type232, rfl, rfl, rfl, rfl, by decide⟩
end Tt
end Go.Proofs
namespace Go.Vx
def StaOk (s : Sta) : Prop := VecOk s.known ∧ (∀ e ∈ s.ents, CenOk e) ∧ ∀ x ∈ s.ticks, LstOk x
end Go.Vx
namespace Go.Vx
theorem Own.two {w0 w : World} {M : Nat → Prop} {L : List Res} (h : Own w0 M w L) (i j : Nat) (hij : i ≠ j) {R Q : Res} (hi : L[i]? = some R) (hj : L[j]? = some Q) : Own w0 M w [R, Q] := by
  obtain ⟨a, b, c, d, e, S, f, g, i', j'⟩ := h
  refine ⟨a, b, c, d, e, fun k b => (k = 0 ∧ S i b) ∨ (k = 1 ∧ S j b), fun k T hk => ?_, ?_, ?_, ?_⟩
  · match k with
    | 0 =>
      simp at hk; subst hk
      have e1 : (fun b => ((0 : Nat) = 0 ∧ S i b) ∨ ((0 : Nat) = 1 ∧ S j b)) = S i := by funext b; simp
      show R.holds w (fun b => ((0 : Nat) = 0 ∧ S i b) ∨ ((0 : Nat) = 1 ∧ S j b))
      rw [e1]; exact f i R hi
    | 1 =>
      simp at hk; subst hk
      have e1 : (fun b => ((1 : Nat) = 0 ∧ S i b) ∨ ((1 : Nat) = 1 ∧ S j b)) = S j := by funext b; simp
      show Q.holds w (fun b => ((1 : Nat) = 0 ∧ S i b) ∨ ((1 : Nat) = 1 ∧ S j b))
      rw [e1]; exact f j Q hj
    | k + 2 => simp at hk
  · rintro k b (⟨_, h⟩ | ⟨_, h⟩)
    · exact g i b h
    · exact g j b h
  · rintro k k' b (⟨h1, h2⟩ | ⟨h1, h2⟩) (⟨h3, h4⟩ | ⟨h3, h4⟩)
    · omega
    · exact absurd (i' i j b h2 h4) hij
    · exact absurd (i' i j b h4 h2) hij
    · omega
  · rintro k b (⟨_, h⟩ | ⟨_, h⟩) hb
    · exact j' i b h hb
    · exact j' j b h hb
end Go.Vx
namespace Go.Proofs
open Go Go.Vx Go.RowKit
namespace Tt
theorem S1_42 : T1 Tryz.prog 42 := ⟨Tryz.sizeOf42, Tryz.isAgg42⟩
theorem S1_43 : T1 Tryz.prog 43 := ⟨Tryz.sizeOf43, Tryz.isAgg43⟩
theorem SA_45 : TA Tryz.prog 45 18 := ⟨Tryz.sizeOf45, Tryz.isAgg45⟩
set_option maxRecDepth 20000 in
theorem BT_45 : Bt Tryz.prog 45 [(0, 16), (16, 1), (17, 1)] ((vc vzero) ++ [(.slice none 0 0 : Value), (.slice none 0 0 : Value) ]) := Bt_struct Tryz.type45 rfl rfl Tryz.underlying45 (by kernel_rfl)
theorem FA_45_1 : FA Tryz.prog 45 1 16 := fun b o w => by simp [Instr.fieldAt, Instr.sureAddr, fieldPlace, add_eq]
theorem FA_45_2 : FA Tryz.prog 45 2 17 := fun b o w => by simp [Instr.fieldAt, Instr.sureAddr, fieldPlace, add_eq]
theorem ZV_45 : Zv Tryz.prog 45 (.agg ((vc vzero) ++ [(.slice none 0 0 : Value), (.slice none 0 0 : Value) ]).toArray) := Tryz.zeroValue45
end Tt
end Go.Proofs
namespace Go.Vx
def setF (a e : Cen) : Cen := if e.kind = 1 then a else if lessC a e = true then e else a
end Go.Vx
namespace Go.Vx
theorem Seq.take {l : List Opn} (h : Seq l) : ∀ k, Seq (l.take k) := by
  induction h with
  | nil => intro k; rw [List.take_nil]; exact .nil
  | @snoc l o h1 h2 h3 h4 h5 h6 ih =>
    intro k
    rcases Nat.lt_or_ge l.length k with q | q
    · rw [List.take_of_length_le (by rw [List.length_append, List.length_singleton]; omega)]; exact .snoc h1 h2 h3 h4 h5 h6
    · rw [List.take_append_of_le_length q]; exact ih k
theorem putT_ok {c t : Int} (h : LstOk ⟨c, t⟩) : ∀ {l : List Lst}, (∀ x ∈ l, LstOk x) → ∀ x ∈ putT c t l, LstOk x
  | [], _, x, hx => by simp [putT] at hx; subst hx; exact h
  | y :: l, hl, x, hx => by
    have hy := hl y (by simp)
    have hl' : ∀ x ∈ l, LstOk x := fun z hz => hl z (by simp [hz])
    unfold putT at hx
    split at hx
    · rcases List.mem_cons.1 hx with g | g
      · subst g
        obtain ⟨h1, h2, h3⟩ := h
        obtain ⟨k1, k2, k3⟩ := hy
        dsimp only at h1 h2 h3
        exact ⟨h1, by show 0 ≤ max y.tick t; omega, by show max y.tick t < _; omega⟩
      · exact hl' x g
    · split at hx
      · rcases List.mem_cons.1 hx with g | g
        · subst g; exact h
        · exact hl x g
      · rcases List.mem_cons.1 hx with g | g
        · subst g; exact hy
        · exact putT_ok h hl' x g
theorem entO_ok {o : Opn} (h : OpnOk o) : CenOk (entO o) := by
  obtain ⟨h1, h2, h3, h4, h5, h6, h7⟩ := h
  have := vsum_bd h7
  exact ⟨h3, h4, h5, h2, h1, by show 0 ≤ cntO o; unfold cntO; omega, by show cntO o < _; unfold cntO; omega⟩
theorem applyE_ok {s : Sta} {o : Opn} (hs : StaOk s) (ho : OpnOk o) : StaOk (applyE s o) := by
  obtain ⟨h1, h2, h3⟩ := hs
  refine ⟨?_, ?_, ?_⟩
  · exact vset_ok h1 _ ho.1.2.1 ho.1.2.2
  · intro e he
    unfold applyE at he
    dsimp only at he
    split at he
    · rcases mem_putE.1 he with g | g
      · subst g; exact entO_ok ho
      · exact h2 e (List.mem_filter.1 g).1
    · exact h2 e (List.mem_filter.1 he).1
  · intro x hx
    exact putT_ok ⟨ho.2.2.1, ho.2.2.2.2.2.1⟩ h3 x hx
theorem szero_ok : StaOk szero := ⟨vzero_ok, (fun _ h => by cases h), (fun _ h => by cases h)⟩
theorem Seq.ok {l : List Opn} (h : Seq l) : StaOk (allE l) := by
  induction h with
  | nil => exact szero_ok
  | snoc h1 h2 h3 h4 h5 h6 ih => rw [allE_snoc]; exact applyE_ok ih h2
end Go.Vx
namespace Go.Proofs
open Go Go.Vx Go.RowKit
namespace Tt
theorem S1_55 : T1 Tryz.prog 55 := ⟨Tryz.sizeOf55, Tryz.isAgg55⟩
theorem S1_56 : T1 Tryz.prog 56 := ⟨Tryz.sizeOf56, Tryz.isAgg56⟩
theorem SA_240 : TA Tryz.prog 240 7 := ⟨Tryz.sizeOf240, Tryz.isAgg240⟩
theorem SA_241 : TA Tryz.prog 241 2 := ⟨Tryz.sizeOf241, Tryz.isAgg241⟩
theorem FA_58_0 : FA Tryz.prog 58 0 0 := fun b o w => by simp [Instr.fieldAt, Instr.sureAddr, fieldPlace, add_eq]
theorem FA_58_1 : FA Tryz.prog 58 1 16 := fun b o w => by simp [Instr.fieldAt, Instr.sureAddr, fieldPlace, add_eq]
theorem FA_58_2 : FA Tryz.prog 58 2 17 := fun b o w => by simp [Instr.fieldAt, Instr.sureAddr, fieldPlace, add_eq]
theorem UD_55 : Ud Tryz.prog 55 (.slice 240) := Tryz.runUnderlying55
theorem UD_56 : Ud Tryz.prog 56 (.slice 241) := Tryz.runUnderlying56
theorem ZV_240 : Zv Tryz.prog 240 (.agg (cec (⟨0, 0, 0, 0, (⟨0, 0⟩ : Dot), 0⟩ : Cen)).toArray) := Tryz.zeroValue240
theorem ZV_241 : Zv Tryz.prog 241 (.agg (lsc (⟨0, 0⟩ : Lst)).toArray) := Tryz.zeroValue241
end Tt
end Go.Proofs
namespace Go.Proofs
open Go Go.Vx Go.RowKit
namespace Tt
set_option maxRecDepth 20000 in
set_option maxHeartbeats 4000000 in
theorem theirs_ok (w : World) (s : Sta) (a1 : Option Addr) (c1 : Nat) (a2 : Option Addr) (c2 : Nat) (hle : s.ents.length ≤ 100000) (hlt : s.ticks.length ≤ 100000) (hr1 : Rd w (.slice a1 s.ents.length c1) 7 (s.ents.map cec)) (hr2 : Rd w (.slice a2 s.ticks.length c2) 2 (s.ticks.map lsc)) : Calls Tryz.prog 68 #[.agg ((vc s.known) ++ [(.slice a1 s.ents.length c1 : Value), (.slice a2 s.ticks.length c2 : Value) ]).toArray] w (fun e w' => ∃ x : (Option Addr × Nat) × (Option Addr × Nat), e = .returned (.agg (vc (s).known ++ [(.slice x.1.1 (s).ents.length x.1.2 : Value), (.slice x.2.1 (s).ticks.length x.2.2 : Value)]).toArray) ∧ Own w no w' [row (.slice x.1.1 (s).ents.length x.1.2) ((s).ents.map cec) 229 7, row (.slice x.2.1 (s).ticks.length x.2.2) ((s).ticks.map lsc) 232 2] ∧ True) := by
  refine calls_of_Wn (n := 40) Tryz.func68 rfl Tryz.ntmps68 rfl ?_
  have hs := Own.start w
  refine W_seq ?_
  refine W_region ?_
  refine RW_op (L_box (V := .agg ((vc s.known) ++ [(.slice a1 s.ents.length c1 : Value), (.slice a2 s.ticks.length c2 : Value) ]).toArray) (cs := (vc s.known) ++ [(.slice a1 s.ents.length c1 : Value), (.slice a2 s.ticks.length c2 : Value) ]) rfl rfl hs fun b1 w2 hs => ?_)
  refine RW_op (L_alloc (cs := (vc vzero) ++ [(.slice none 0 0 : Value), (.slice none 0 0 : Value) ]) ZV_45 rfl hs fun b3 w4 hs => ?_)
  refine RW_nil ?_
  refine W_seq ?_
  refine W_region ?_
  refine RW_op (L_fieldAddr FA_58_0 rfl ?_)
  refine RW_op (L_ldA (vs := vc s.known) SA_36 hs 0 rfl rfl rfl rfl ?_)
  refine RW_op (L_buildP (vs := [(0, .agg (vc s.known).toArray)]) (cs := (vc s.known) ++ [(.slice none 0 0 : Value), (.slice none 0 0 : Value) ]) [vc vzero, [(.slice none 0 0 : Value)], [(.slice none 0 0 : Value)]] [vc s.known, [(.slice none 0 0 : Value)], [(.slice none 0 0 : Value)]] BT_45 rfl (rfl) rfl rfl ?_)
  refine RW_op (L_alloc (cs := (vc vzero) ++ [(.slice none 0 0 : Value), (.slice none 0 0 : Value) ]) ZV_45 rfl hs fun b5 w6 hs => ?_)
  refine RW_op (L_st (V := .agg ((vc s.known) ++ [(.slice none 0 0 : Value), (.slice none 0 0 : Value) ]).toArray) (vs := (vc s.known) ++ [(.slice none 0 0 : Value), (.slice none 0 0 : Value) ]) (cs' := (vc s.known) ++ [(.slice none 0 0 : Value), (.slice none 0 0 : Value) ]) SA_45.1 hs 2 rfl rfl rfl rfl rfl (Nat.le_of_ble_eq_true rfl) (one_app (vc_one _) (one_cons rfl (one_cons rfl one_nil))) (spl_whole rfl) fun w7 hs => ?_)
  replace hs := Ow [blk b1 ((vc s.known) ++ [(.slice a1 s.ents.length c1 : Value), (.slice a2 s.ticks.length c2 : Value) ]) 58, blk b3 ((vc vzero) ++ [(.slice none 0 0 : Value), (.slice none 0 0 : Value) ]) 45, blk b5 ((vc s.known) ++ [(.slice none 0 0 : Value), (.slice none 0 0 : Value) ]) 45] hs
  refine RW_nil ?_
  refine W_seq ?_
  refine W_seq ?_
  refine W_region ?_
  refine RW_op (L_fieldAddr FA_58_1 rfl ?_)
  refine RW_op (L_lz (.slice a1 s.ents.length c1) S1_55 hs 0 ?_)
  refine RW_op (L_lenR (n := s.ents.length) UD_55 (Rd.own' hr1 hs) (by simp) rfl ?_)
  refine RW_op (L_mv (.int .i64 0) ?_)
  refine RW_nil ?_
  refine W_block ?_
  replace hs := hs.more (row (.slice none 0 0) (List.map cec []) 229 7) (row_nil _ _ _ _)
  refine W_loopI (fun ρ μ ρ' w' => ∃ (ρo : Env) (k1 : Nat) (an1 : Option Addr) (cn1 : Nat) (L1 : List Cen), ρ' = upd (mix [5, 14, 15, 16, 17, 18, 19, 20, 21, 22, 23, 24] ρo ρ) 14 (.int .i64 ((k1 : Nat) : Int)) ∧ (k1 ≤ s.ents.length) ∧ (L1 = s.ents.take k1) ∧ (L1.length ≤ k1) ∧ μ = s.ents.length - k1 ∧ Own w no w' [blk b1 ((vc s.known) ++ [(.slice a1 s.ents.length c1 : Value), (.slice a2 s.ticks.length c2 : Value) ]) 58, blk b3 ((vc vzero) ++ [(.slice none 0 0 : Value), (.slice none 0 0 : Value) ]) 45, blk b5 ((vc s.known) ++ [(.slice an1 L1.length cn1 : Value), (.slice none 0 0 : Value) ]) 45, row (.slice an1 L1.length cn1) (L1.map cec) 229 7]) ?_ ?_
  · exact ⟨_, _, 0, none, 0, [], upd_of (mix_of (ds := [5, 14, 15, 16, 17, 18, 19, 20, 21, 22, 23, 24]) (Agr.refl _ _)) rfl, (by omega), rfl, (Nat.le_refl _), rfl, hs⟩
  · rintro μ ρ' w8 ⟨ρo, k1, an1, cn1, L1, rfl, hk1, hL1, hl1, rfl, hs⟩
    have hb1 := hl1
    refine W_seq ?_
    refine W_region ?_
    refine RW_op (L_lss rfl rfl ?_)
    refine RW_nil ?_
    refine W_seq ?_
    refine W_cond (t := decide (((k1 : Nat) : Int) < ((s.ents.length : Nat) : Int))) rfl (fun c9 => ?_) (fun c9 => ?_)
    ·
      replace c9 := of_decide_eq_true c9
      refine W_skip ?_
      refine W_seq ?_
      refine W_block ?_
      refine W_seq ?_
      refine W_region ?_
      refine RW_op (L_ixR UD_55 SA_240.1 (Rd.own' hr1 hs) rfl rfl (by omega) (by rw [List.length_map]; omega) ?_)
      refine RW_op (L_ldRA (j := 0) (vs := cec (gd s.ents k1)) k1 SA_240 (Rd.own' hr1 hs) (gd_at (by omega)) rfl rfl rfl (by omega) ?_)
      refine RW_op (L_alloc (cs := cec (⟨0, 0, 0, 0, (⟨0, 0⟩ : Dot), 0⟩ : Cen)) ZV_240 rfl hs fun b10 w11 hs => ?_)
      refine RW_op (L_st (V := .agg (cec (gd s.ents k1)).toArray) (vs := cec (gd s.ents k1)) (cs' := cec (gd s.ents k1)) SA_240.1 hs 4 rfl rfl rfl rfl rfl (Nat.le_of_ble_eq_true rfl) (cec_one _) (spl_whole rfl) fun w12 hs => ?_)
      refine RW_nil ?_
      refine W_region ?_
      refine RW_op (L_fieldAddr FA_45_1 rfl ?_)
      refine RW_op (L_lz (.slice an1 L1.length cn1) S1_42 hs 2 ?_)
      refine RW_op (L_ldW (cs := cec (gd s.ents k1)) SA_240 hs 4 rfl rfl rfl ?_)
      refine RW_op (L_bs (vals := [.agg (cec (gd s.ents k1)).toArray]) (ls := List.map cec ([gd s.ents k1] : List Cen)) EL_42 rfl rfl rfl (len_map (enc := cec) (fun _ => rfl) _) (one_map cec_one _) (Nat.le_of_ble_eq_true rfl) hs fun b13 w14 hs => ?_)
      refine RW_op (L_appN (ls' := (L1 ++ [gd s.ents k1]).map cec) (n := (L1 ++ [gd s.ents k1]).length) EL_42 hs 3 rfl rfl rfl (hs.rd 5 rfl) (one_map cec_one _) (by simp only [List.length_map, List.length_append, List.length_cons, List.length_nil]; omega) (by simp) (by simp) fun a15 c15 w16 hs => ?_)
      replace hs := Ow [blk b1 ((vc s.known) ++ [(.slice a1 s.ents.length c1 : Value), (.slice a2 s.ticks.length c2 : Value) ]) 58, blk b3 ((vc vzero) ++ [(.slice none 0 0 : Value), (.slice none 0 0 : Value) ]) 45, blk b5 ((vc s.known) ++ [(.slice an1 L1.length cn1 : Value), (.slice none 0 0 : Value) ]) 45, row (.slice a15 ((L1 ++ [gd s.ents k1]).length) c15) ((L1 ++ [gd s.ents k1]).map cec) 229 7, blk b10 (cec (gd s.ents k1)) 240, row (.slice (some ⟨b13, 0, none⟩) 1 1) ([gd s.ents k1].map cec) 229 7] hs
      refine RW_op (L_fieldAddr FA_45_1 rfl ?_)
      refine RW_op (L_st1 (V := .slice a15 ((L1 ++ [gd s.ents k1]).length) c15) (cs' := (vc s.known) ++ [(.slice a15 ((L1 ++ [gd s.ents k1]).length) c15 : Value), (.slice none 0 0 : Value) ]) S1_42 hs 2 rfl rfl rfl rfl (Nat.le_of_ble_eq_true rfl) rfl fun w17 hs => ?_)
      refine RW_nil ?_
      refine W_region ?_
      refine RW_op (L_add (a := ((k1 : Nat) : Int)) (b := 1) (c := ((k1 + 1 : Nat) : Int)) rfl rfl (nat_i64 (by omega) (by omega)) ?_)
      refine RW_op (L_mv (.int .i64 ((k1 + 1 : Nat) : Int)) ?_)
      refine RW_nil ?_
      refine ⟨_, ?_, _, k1 + 1, a15, c15, L1 ++ [gd s.ents k1], upd_of (mix_of (ds := [5, 14, 15, 16, 17, 18, 19, 20, 21, 22, 23, 24]) (by repeat (first | exact Agr.refl _ _ | refine Agr.upd ?_ rfl | refine Agr.mix ?_ rfl))) rfl, (by omega), (by rw [take_snoc (by omega), ← hL1]), (by rw [List.length_append, List.length_singleton]; omega), rfl, hs.take 4⟩
      omega
    ·
      replace c9 := of_decide_eq_false c9
      refine W_exit ?_
      refine W_seq ?_
      refine W_seq ?_
      refine W_region ?_
      refine RW_op (L_fieldAddr FA_58_2 rfl ?_)
      refine RW_op (L_lz (.slice a2 s.ticks.length c2) S1_56 hs 0 ?_)
      refine RW_op (L_lenR (n := s.ticks.length) UD_56 (Rd.own' hr2 hs) (by simp) rfl ?_)
      refine RW_op (L_mv (.int .i64 0) ?_)
      refine RW_nil ?_
      refine W_block ?_
      replace hs := hs.more (row (.slice none 0 0) (List.map lsc []) 232 2) (row_nil _ _ _ _)
      refine W_loopI (fun ρ μ ρ' w' => ∃ (ρo : Env) (k2 : Nat) (an2 : Option Addr) (cn2 : Nat) (L2 : List Lst), ρ' = upd (mix [7, 28, 29, 30, 31, 32, 33, 34, 35, 36, 37, 38] ρo ρ) 28 (.int .i64 ((k2 : Nat) : Int)) ∧ (k2 ≤ s.ticks.length) ∧ (L2 = s.ticks.take k2) ∧ (L2.length ≤ k2) ∧ μ = s.ticks.length - k2 ∧ Own w no w' [blk b1 ((vc s.known) ++ [(.slice a1 s.ents.length c1 : Value), (.slice a2 s.ticks.length c2 : Value) ]) 58, blk b3 ((vc vzero) ++ [(.slice none 0 0 : Value), (.slice none 0 0 : Value) ]) 45, blk b5 ((vc s.known) ++ [(.slice an1 L1.length cn1 : Value), (.slice an2 L2.length cn2 : Value) ]) 45, row (.slice an1 L1.length cn1) (L1.map cec) 229 7, row (.slice an2 L2.length cn2) (L2.map lsc) 232 2]) ?_ ?_
      · exact ⟨_, _, 0, none, 0, [], upd_of (mix_of (ds := [7, 28, 29, 30, 31, 32, 33, 34, 35, 36, 37, 38]) (Agr.refl _ _)) rfl, (by omega), rfl, (Nat.le_refl _), rfl, hs⟩
      · rintro μ ρ' w18 ⟨ρo, k2, an2, cn2, L2, rfl, hk2, hL2, hl2, rfl, hs⟩
        have hb2 := hl2
        refine W_seq ?_
        refine W_region ?_
        refine RW_op (L_lss rfl rfl ?_)
        refine RW_nil ?_
        refine W_seq ?_
        refine W_cond (t := decide (((k2 : Nat) : Int) < ((s.ticks.length : Nat) : Int))) rfl (fun c19 => ?_) (fun c19 => ?_)
        ·
          replace c19 := of_decide_eq_true c19
          refine W_skip ?_
          refine W_seq ?_
          refine W_block ?_
          refine W_seq ?_
          refine W_region ?_
          refine RW_op (L_ixR UD_56 SA_241.1 (Rd.own' hr2 hs) rfl rfl (by omega) (by rw [List.length_map]; omega) ?_)
          refine RW_op (L_ldRA (j := 0) (vs := lsc (gd s.ticks k2)) k2 SA_241 (Rd.own' hr2 hs) (gd_at (by omega)) rfl rfl rfl (by omega) ?_)
          refine RW_op (L_alloc (cs := lsc (⟨0, 0⟩ : Lst)) ZV_241 rfl hs fun b20 w21 hs => ?_)
          refine RW_op (L_st (V := .agg (lsc (gd s.ticks k2)).toArray) (vs := lsc (gd s.ticks k2)) (cs' := lsc (gd s.ticks k2)) SA_241.1 hs 5 rfl rfl rfl rfl rfl (Nat.le_of_ble_eq_true rfl) (lsc_one _) (spl_whole rfl) fun w22 hs => ?_)
          refine RW_nil ?_
          refine W_region ?_
          refine RW_op (L_fieldAddr FA_45_2 rfl ?_)
          refine RW_op (L_lz (.slice an2 L2.length cn2) S1_43 hs 2 ?_)
          refine RW_op (L_ldW (cs := lsc (gd s.ticks k2)) SA_241 hs 5 rfl rfl rfl ?_)
          refine RW_op (L_bs (vals := [.agg (lsc (gd s.ticks k2)).toArray]) (ls := List.map lsc ([gd s.ticks k2] : List Lst)) EL_43 rfl rfl rfl (len_map (enc := lsc) (fun _ => rfl) _) (one_map lsc_one _) (Nat.le_of_ble_eq_true rfl) hs fun b23 w24 hs => ?_)
          refine RW_op (L_appN (ls' := (L2 ++ [gd s.ticks k2]).map lsc) (n := (L2 ++ [gd s.ticks k2]).length) EL_43 hs 4 rfl rfl rfl (hs.rd 6 rfl) (one_map lsc_one _) (by simp only [List.length_map, List.length_append, List.length_cons, List.length_nil]; omega) (by simp) (by simp) fun a25 c25 w26 hs => ?_)
          replace hs := Ow [blk b1 ((vc s.known) ++ [(.slice a1 s.ents.length c1 : Value), (.slice a2 s.ticks.length c2 : Value) ]) 58, blk b3 ((vc vzero) ++ [(.slice none 0 0 : Value), (.slice none 0 0 : Value) ]) 45, blk b5 ((vc s.known) ++ [(.slice an1 L1.length cn1 : Value), (.slice an2 L2.length cn2 : Value) ]) 45, row (.slice an1 L1.length cn1) (L1.map cec) 229 7, row (.slice a25 ((L2 ++ [gd s.ticks k2]).length) c25) ((L2 ++ [gd s.ticks k2]).map lsc) 232 2, blk b20 (lsc (gd s.ticks k2)) 241, row (.slice (some ⟨b23, 0, none⟩) 1 1) ([gd s.ticks k2].map lsc) 232 2] hs
          refine RW_op (L_fieldAddr FA_45_2 rfl ?_)
          refine RW_op (L_st1 (V := .slice a25 ((L2 ++ [gd s.ticks k2]).length) c25) (cs' := (vc s.known) ++ [(.slice an1 L1.length cn1 : Value), (.slice a25 ((L2 ++ [gd s.ticks k2]).length) c25 : Value) ]) S1_43 hs 2 rfl rfl rfl rfl (Nat.le_of_ble_eq_true rfl) rfl fun w27 hs => ?_)
          refine RW_nil ?_
          refine W_region ?_
          refine RW_op (L_add (a := ((k2 : Nat) : Int)) (b := 1) (c := ((k2 + 1 : Nat) : Int)) rfl rfl (nat_i64 (by omega) (by omega)) ?_)
          refine RW_op (L_mv (.int .i64 ((k2 + 1 : Nat) : Int)) ?_)
          refine RW_nil ?_
          refine ⟨_, ?_, _, k2 + 1, a25, c25, L2 ++ [gd s.ticks k2], upd_of (mix_of (ds := [7, 28, 29, 30, 31, 32, 33, 34, 35, 36, 37, 38]) (by repeat (first | exact Agr.refl _ _ | refine Agr.upd ?_ rfl | refine Agr.mix ?_ rfl))) rfl, (by omega), (by rw [take_snoc (by omega), ← hL2]), (by rw [List.length_append, List.length_singleton]; omega), rfl, hs.take 5⟩
          omega
        ·
          replace c19 := of_decide_eq_false c19
          refine W_exit ?_
          refine W_seq ?_
          refine W_region ?_
          refine RW_op (L_ldW (cs := (vc s.known) ++ [(.slice an1 L1.length cn1 : Value), (.slice an2 L2.length cn2 : Value) ]) SA_45 hs 2 rfl rfl rfl ?_)
          refine RW_op (L_st (V := .agg ((vc s.known) ++ [(.slice an1 L1.length cn1 : Value), (.slice an2 L2.length cn2 : Value) ]).toArray) (vs := (vc s.known) ++ [(.slice an1 L1.length cn1 : Value), (.slice an2 L2.length cn2 : Value) ]) (cs' := (vc s.known) ++ [(.slice an1 L1.length cn1 : Value), (.slice an2 L2.length cn2 : Value) ]) SA_45.1 hs 1 rfl rfl rfl rfl rfl (Nat.le_of_ble_eq_true rfl) (one_app (vc_one _) (one_cons rfl (one_cons rfl one_nil))) (spl_whole rfl) fun w28 hs => ?_)
          refine RW_nil ?_
          refine W_ret ?_
          refine ⟨_, res_cell (cs := (vc s.known) ++ [(.slice an1 L1.length cn1 : Value), (.slice an2 L2.length cn2 : Value) ]) Tryz.results68 SA_45 hs 1 rfl rfl rfl, ?_⟩
          have hX : L1 = s.ents := by rw [hL1, List.take_of_length_le (by omega)]
          have hY : L2 = s.ticks := by rw [hL2, List.take_of_length_le (by omega)]
          rw [hX, hY] at hs ⊢
          exact ⟨((an1, cn1), (an2, cn2)), rfl, hs.two 3 4 (by decide) rfl rfl, trivial⟩
end Tt
end Go.Proofs
