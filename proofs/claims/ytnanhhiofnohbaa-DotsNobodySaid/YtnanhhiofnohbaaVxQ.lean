/- The sets of dots, in plain Lean. -/
import Derived.Test.YtnanhhiofnohbaaVxP
import Derived.Test.YtnanhhiofnohbaaVxL
namespace Go.Vx
/-- the document's set: a vector, and a list of other dots -/
def hasG (v : Vec) (l : List Dot) (d : Dot) : Bool := decide (d ∈ l) || hasB v d
theorem hasG_yes {v : Vec} {l : List Dot} {d : Dot} {k : Nat} (hk : k < l.length) (h : gd l (k : Int).toNat = d) : hasG v l d = true := by
  unfold hasG
  have : d ∈ l := by rw [← h]; exact gd_mem (by simpa using hk)
  simp [this]
theorem hasG_no {v : Vec} {l : List Dot} {d : Dot} (h : ∀ j : Nat, j < l.length → ¬ gd l j = d) : hasG v l d = hasB v d := by
  unfold hasG
  have : d ∉ l := by
    intro hd
    obtain ⟨j, hj, he⟩ := List.mem_iff_getElem.1 hd
    refine h j hj ?_
    simp [gd, hj, he]
  simp [this]
theorem vle_step {a b : Vec} {k : Nat} (h : ∀ j : Nat, j < k → vat a j ≤ vat b j) (hk : ¬ vat b (k : Int).toNat < vat a (k : Int).toNat) : ∀ j : Nat, j < k + 1 → vat a j ≤ vat b j := by
  intro j hj
  by_cases e : j = k
  · subst e; rw [Int.toNat_natCast] at hk; omega
  · exact h j (by omega)
theorem ne_step {l : List Dot} {d : Dot} {k : Nat} (h : ∀ j : Nat, j < k → ¬ gd l j = d) (hk : ¬ gd l (k : Int).toNat = d) : ∀ j : Nat, j < k + 1 → ¬ gd l j = d := by
  intro j hj
  by_cases e : j = k
  · subst e; exact hk
  · exact h j (by omega)
theorem eq_step {l m : List Dot} {k : Nat} (h : ∀ j : Nat, j < k → gd l j = gd m j) (hk : gd l (k : Int).toNat = gd m (k : Int).toNat) : ∀ j : Nat, j < k + 1 → gd l j = gd m j := by
  intro j hj
  by_cases e : j = k
  · subst e; exact hk
  · exact h j (by omega)
theorem same_yes {l m : List Dot} (hn : l.length = m.length) (h : ∀ j : Nat, j < l.length → gd l j = gd m j) : l = m := by
  apply List.ext_getElem hn
  intro j h1 h2
  have := h j h1
  simpa [gd, h1, h2] using this
end Go.Vx
namespace Go.Vx
/-! ## the greatest vector that is all in it -/
def cloGo (l : List Dot) (i : Int) : Nat → Int → Int
  | 0, n => n
  | f + 1, n => if ⟨i, n + 1⟩ ∈ l then cloGo l i f (n + 1) else n
def cloAt (l : List Dot) (i n : Int) : Int := cloGo l i (1048576 - n).toNat n
def cloV (l : List Dot) (v : Vec) : Vec := fun j => cloAt l (j.val : Int) (v j)
/-- dots that may be -/
def Dots (l : List Dot) : Prop := ∀ d ∈ l, DotOk d ∧ dotB d = true
/-- vectors that may be -/
def VOk (v : Vec) : Prop := ∀ j, 0 ≤ v j ∧ v j ≤ 1048576
theorem VOk.ok {v : Vec} (h : VOk v) : VecOk v := fun j => by have := h j; omega
theorem VOk.at {v : Vec} (h : VOk v) (j : Nat) : 0 ≤ vat v j ∧ vat v j ≤ 1048576 := by
  unfold vat; split
  · exact h _
  · omega
theorem VOk.set {v : Vec} (h : VOk v) (i : Nat) {x : Int} (h0 : 0 ≤ x) (h1 : x ≤ 1048576) : VOk (vset v i x) := by
  intro j; unfold vset; split
  · exact ⟨h0, h1⟩
  · exact h j
theorem cloAt_end {l : List Dot} {i n : Int} (h : (⟨i, n + 1⟩ : Dot) ∉ l) : cloAt l i n = n := by
  unfold cloAt
  cases (1048576 - n).toNat with
  | zero => rfl
  | succ f => simp [cloGo, h]
theorem cloAt_step {l : List Dot} (hl : Dots l) {i n : Int} (h : (⟨i, n + 1⟩ : Dot) ∈ l) : cloAt l i n = cloAt l i (n + 1) := by
  have := (dotB_spec (hl _ h).2).2.2
  have e : (1048576 - n).toNat = (1048576 - (n + 1)).toNat + 1 := by dsimp only at this; omega
  unfold cloAt
  rw [e]
  simp [cloGo, h]
theorem vat_cloV (l : List Dot) (v : Vec) (j : Nat) (h : j < 16) : vat (cloV l v) j = cloAt l (j : Int) (vat v j) := by
  unfold vat cloV; simp [h]
theorem vec_ext {u v : Vec} (h : ∀ j : Nat, j < 16 → vat u j = vat v j) : u = v := by
  funext j
  have := h j.val j.isLt
  simpa [vat] using this
theorem cloV_step {l : List Dot} (hl : Dots l) {u v : Vec} {k : Nat} (hk : k < 16) (he : cloV l u = cloV l v) (h : (⟨(k : Int), vat u k + 1⟩ : Dot) ∈ l) : cloV l (vset u k (vat u k + 1)) = cloV l v := by
  rw [← he]
  apply vec_ext
  intro j hj
  rw [vat_cloV _ _ _ hj, vat_cloV _ _ _ hj, vat_vset _ _ _ _ hj]
  split
  · rename_i e; subst e; exact (cloAt_step hl h).symm
  · rfl
theorem cloV_end {l : List Dot} {u : Vec} (h : ∀ j : Nat, j < 16 → (⟨(j : Int), vat u j + 1⟩ : Dot) ∉ l) : cloV l u = u := by
  apply vec_ext
  intro j hj
  rw [vat_cloV _ _ _ hj]
  exact cloAt_end (h j hj)
theorem hasG_above {v : Vec} {l : List Dot} {i n : Int} (h : vat v i.toNat < n) : hasG v l ⟨i, n⟩ = decide ((⟨i, n⟩ : Dot) ∈ l) := by
  unfold hasG hasB
  have : ¬ n ≤ vat v i.toNat := by omega
  simp [this]
end Go.Vx
namespace Go.Vx
theorem clo_in {v u : Vec} {l : List Dot} {k : Nat} (hle : vat v (k : Int).toNat ≤ vat u (k : Int).toNat) (h : hasG v l ⟨(k : Int), vat u (k : Int).toNat + 1⟩ = true) : (⟨(k : Int), vat u k + 1⟩ : Dot) ∈ l := by
  rw [hasG_above (by omega)] at h
  exact of_decide_eq_true h
theorem clo_out {v u : Vec} {l : List Dot} {k : Nat} (hle : vat v (k : Int).toNat ≤ vat u (k : Int).toNat) (h : hasG v l ⟨(k : Int), vat u (k : Int).toNat + 1⟩ = false) : (⟨(k : Int), vat u k + 1⟩ : Dot) ∉ l := by
  rw [hasG_above (by omega)] at h
  exact of_decide_eq_false h
theorem clo_next {u : Vec} {l : List Dot} {k : Nat} (hno : ∀ j : Nat, j < k → (⟨(j : Int), vat u j + 1⟩ : Dot) ∉ l) (h : (⟨(k : Int), vat u k + 1⟩ : Dot) ∉ l) : ∀ j : Nat, j < k + 1 → (⟨(j : Int), vat u j + 1⟩ : Dot) ∉ l := by
  intro j hj
  by_cases e : j = k
  · subst e; exact h
  · exact hno j (by omega)
theorem vat_big (v : Vec) {j : Nat} (h : 16 ≤ j) : vat v j = 0 := by unfold vat; rw [dif_neg (by omega)]
theorem clo_le {u v : Vec} {k : Nat} (hle : ∀ j, vat v j ≤ vat u j) : ∀ j, vat v j ≤ vat (vset u k (vat u k + 1)) j := by
  intro j
  by_cases hj : j < 16
  · rw [vat_vset _ _ _ _ hj]
    split
    · rename_i e; subst e; have := hle j; omega
    · exact hle j
  · rw [vat_big _ (by omega), vat_big _ (by omega)]; omega
theorem clo_below {u : Vec} {l : List Dot} {k : Nat} {x : Int} (hno : ∀ j : Nat, j < k → (⟨(j : Int), vat u j + 1⟩ : Dot) ∉ l) : ∀ j : Nat, j < k → (⟨(j : Int), vat (vset u k x) j + 1⟩ : Dot) ∉ l := by
  intro j hj
  by_cases h16 : j < 16
  · rw [vat_vset _ _ _ _ h16, if_neg (by omega)]; exact hno j hj
  · rw [vat_big _ (by omega)]; have := hno j hj; rw [vat_big _ (by omega)] at this; exact this
end Go.Vx
namespace Go.Vx
/-! ## what lies above it -/
def topK (v : Vec) (l : List Dot) (i : Int) : Nat → Int
  | 0 => vat v i.toNat
  | k + 1 => if (gd l k).rep = i then max (topK v l i k) (gd l k).seq else topK v l i k
def topG (v : Vec) (l : List Dot) (i : Int) : Int := topK v l i l.length
theorem topK_le {v : Vec} {l : List Dot} (hv : VOk v) (hl : Dots l) (i : Int) : ∀ k, k ≤ l.length → 0 ≤ topK v l i k ∧ topK v l i k ≤ 1048576
  | 0, _ => hv.at _
  | k + 1, hk => by
    have h1 := topK_le hv hl i k (by omega)
    have h2 := (dotB_spec (hl _ (gd_mem (l := l) (i := k) (by omega))).2)
    unfold topK
    split <;> omega
def stretch (i : Int) (n : Int) (c : Nat) : List Dot := (List.range c).map fun (j : Nat) => ⟨i, n + (j : Int)⟩
def aboveAt (v : Vec) (l : List Dot) (b : Bool) (i : Nat) : List Dot :=
  (stretch i (cloAt l i (vat v i) + 1) (topG v l i - cloAt l i (vat v i)).toNat).filter fun d => hasG v l d == b
def aboveG (v : Vec) (l : List Dot) (b : Bool) : List Dot := (List.range 16).flatMap (aboveAt v l b)
theorem stretch_succ (i n : Int) (c : Nat) : stretch i n (c + 1) = stretch i n c ++ [⟨i, n + (c : Int)⟩] := by
  unfold stretch; rw [List.range_succ, List.map_append]; rfl
theorem filt_yes {α : Type} {p : α → Bool} {l : List α} {x : α} (h : p x = true) : (l ++ [x]).filter p = l.filter p ++ [x] := by simp [h]
theorem filt_no {α : Type} {p : α → Bool} {l : List α} {x : α} (h : p x = false) : (l ++ [x]).filter p = l.filter p := by simp [h]
theorem cloAt_le {l : List Dot} (hl : Dots l) : ∀ (f : Nat) (i n : Int), n ≤ 1048576 → 0 ≤ n → n ≤ cloGo l i f n ∧ cloGo l i f n ≤ 1048576
  | 0, i, n, h, _ => ⟨Int.le_refl _, h⟩
  | f + 1, i, n, h, h0 => by
    unfold cloGo
    split
    · rename_i hin
      have := (dotB_spec (hl _ hin).2).2.2
      dsimp only at this
      have := cloAt_le hl f i (n + 1) this (by omega)
      omega
    · omega
theorem cloV_ok {v : Vec} {l : List Dot} (hv : VOk v) (hl : Dots l) : VOk (cloV l v) := fun j => by
  have := hv j
  have := cloAt_le hl (1048576 - v j).toNat (j.val : Int) (v j) (by omega) (by omega)
  unfold cloV cloAt; omega
end Go.Vx
namespace Go.Vx
theorem top_yes {v : Vec} {l : List Dot} {i n : Int} {k : Nat} (hn : n = topK v l i k) (h : (gd l (k : Int).toNat).rep = i) : max n (gd l (k : Int).toNat).seq = topK v l i (k + 1) := by
  subst hn; rw [Int.toNat_natCast] at h ⊢; show _ = (if (gd l k).rep = i then max (topK v l i k) (gd l k).seq else topK v l i k); rw [if_pos h]
theorem top_no {v : Vec} {l : List Dot} {i n : Int} {k : Nat} (hn : n = topK v l i k) (h : ¬ (gd l (k : Int).toNat).rep = i) : n = topK v l i (k + 1) := by
  subst hn; rw [Int.toNat_natCast] at h; show topK v l i k = (if (gd l k).rep = i then _ else _); rw [if_neg h]
theorem dots_at {l : List Dot} (hl : Dots l) {i : Nat} (h : i < l.length) : (0 ≤ (gd l i).rep ∧ (gd l i).rep < 16) ∧ 1 ≤ (gd l i).seq ∧ (gd l i).seq ≤ 1048576 := by
  have h1 := hl _ (gd_mem h)
  have h2 := dotB_spec h1.2
  exact ⟨⟨h1.1.1.1, h2.1⟩, h2.2⟩
theorem aboveAt_get {v : Vec} {l : List Dot} {b : Bool} {i : Nat} {c : Nat} (h : c = (topG v l i - cloAt l i (vat v i)).toNat) : ((stretch i (cloAt l i (vat v i) + 1) c).filter fun d => hasG v l d == b) = aboveAt v l b i := by
  subst h; rfl
theorem above_next {v : Vec} {l : List Dot} {b : Bool} {k : Nat} {out : List Dot} {c : Nat} (ho : out = (List.range k).flatMap (aboveAt v l b) ++ (stretch (k : Int) (cloAt l k (vat v k) + 1) c).filter fun d => hasG v l d == b) (h : c = (topG v l k - cloAt l k (vat v k)).toNat) :
    out = (List.range (k + 1)).flatMap (aboveAt v l b) := by
  rw [ho, aboveAt_get h, List.range_succ, List.flatMap_append]; simp
theorem above_yes {v : Vec} {l : List Dot} {b : Bool} {k : Nat} {out : List Dot} {c : Nat} {n : Int} (ho : out = (List.range k).flatMap (aboveAt v l b) ++ (stretch (k : Int) (cloAt l k (vat v k) + 1) c).filter fun d => hasG v l d == b) (hn : n = cloAt l k (vat v k) + 1 + c) (h : (hasG v l ⟨(k : Int), n⟩ == b) = true) :
    out ++ [⟨(k : Int), n⟩] = (List.range k).flatMap (aboveAt v l b) ++ (stretch (k : Int) (cloAt l k (vat v k) + 1) (c + 1)).filter fun d => hasG v l d == b := by
  subst hn; rw [stretch_succ, filt_yes (p := fun d => hasG v l d == b) h, ho, List.append_assoc]
theorem above_no {v : Vec} {l : List Dot} {b : Bool} {k : Nat} {out : List Dot} {c : Nat} {n : Int} (ho : out = (List.range k).flatMap (aboveAt v l b) ++ (stretch (k : Int) (cloAt l k (vat v k) + 1) c).filter fun d => hasG v l d == b) (hn : n = cloAt l k (vat v k) + 1 + c) (h : (hasG v l ⟨(k : Int), n⟩ == b) = false) :
    out = (List.range k).flatMap (aboveAt v l b) ++ (stretch (k : Int) (cloAt l k (vat v k) + 1) (c + 1)).filter fun d => hasG v l d == b := by
  subst hn; rw [stretch_succ, filt_no (p := fun d => hasG v l d == b) h, ho]
theorem cloV_at {v : Vec} {l : List Dot} {k : Nat} (hk : k < 16) : vat (cloV l v) (k : Int).toNat = cloAt l k (vat v k) := by
  rw [Int.toNat_natCast, vat_cloV _ _ _ hk]
end Go.Vx
namespace Go.Vx
theorem cloV_at1 {v : Vec} {l : List Dot} {k : Nat} (hk : k < 16) : vat (cloV l v) (k : Int).toNat + 1 = cloAt l k (vat v k) + 1 + ((0 : Nat) : Int) := by
  have := cloV_at (v := v) (l := l) hk
  generalize cloAt l k (vat v k) = x at *
  omega
end Go.Vx
namespace Go.Vx
theorem above_start {out X : List Dot} {i n : Int} {p : Dot → Bool} (h : out = X) : out = X ++ (stretch i n 0).filter p := by
  rw [h]; exact (List.append_nil _).symm
end Go.Vx
namespace Go.Vx
/-! ## a dot is added -/
def addE (v : Vec) (l : List Dot) (d : Dot) : Int := if dotB d = false then 2 else if hasG v l d = true then 8 else if vat (cloV l v) d.rep.toNat + 256 < d.seq then 10 else 0
def addL (v : Vec) (l : List Dot) (d : Dot) : List Dot := if addE v l d = 0 then l ++ [d] else l
def onlyIf (b : Bool) (R : Res) : Res := cond b R emp
end Go.Vx
namespace Go.Vx
/-! ## the program's set of dots -/
def gHas (g : Grp) (d : Dot) : Bool := (mget d g.l).isSome || hasB g.v d
end Go.Vx
namespace Go.Vx
structure GOk (g : Grp) : Prop where
  v : VOk g.v
  l : Dots (g.l.map (·.1))
  nd : (g.l.map (·.1)).Nodup
section
variable {κ ν : Type} [DecidableEq κ]
theorem mget_mem {k : κ} : ∀ {l : List (κ × ν)}, (mget k l).isSome = true → k ∈ l.map (·.1)
  | [], h => by cases h
  | (a, b) :: l, h => by
    unfold mget at h
    split at h
    · rename_i e; subst e; simp
    · exact List.mem_cons_of_mem _ (mget_mem h)
theorem mget_iff {k : κ} : ∀ {l : List (κ × ν)}, (mget k l).isSome = decide (k ∈ l.map (·.1))
  | [] => rfl
  | (a, b) :: l => by
    unfold mget
    split
    · rename_i e; subst e; simp
    · rename_i e; rw [mget_iff (l := l)]; simp [e]
theorem mdel_len {k : κ} : ∀ {l : List (κ × ν)}, (mget k l).isSome = true → (mdel k l).length + 1 = l.length
  | [], h => by cases h
  | (a, b) :: l, h => by
    unfold mget at h; unfold mdel
    split at h
    · rename_i e; rw [if_pos e]; rfl
    · rename_i e; rw [if_neg e]; simp [mdel_len h]
theorem mdel_sub {k : κ} : ∀ {l : List (κ × ν)}, (mdel k l).Sublist l
  | [] => List.Sublist.refl _
  | (a, b) :: l => by
    unfold mdel
    split
    · exact List.sublist_cons_self _ _
    · exact mdel_sub.cons_cons _
end
def setStep (rep : Int) (g : Grp) : Grp := ⟨vset g.v rep.toNat (vat g.v rep.toNat + 1), mdel ⟨rep, vat g.v rep.toNat + 1⟩ g.l⟩
def settleGo (rep : Int) : Nat → Grp → Grp
  | 0, g => g
  | f + 1, g => if (mget (⟨rep, vat g.v rep.toNat + 1⟩ : Dot) g.l).isSome = true then settleGo rep f (setStep rep g) else g
def settleG (rep : Int) (g : Grp) : Grp := settleGo rep g.l.length g
theorem settle_end {rep : Int} {g : Grp} (h : (mget (⟨rep, vat g.v rep.toNat + 1⟩ : Dot) g.l).isSome = false) : settleG rep g = g := by
  unfold settleG
  cases g.l.length with
  | zero => rfl
  | succ f => simp [settleGo, h]
theorem settle_step {rep : Int} {g : Grp} (h : (mget (⟨rep, vat g.v rep.toNat + 1⟩ : Dot) g.l).isSome = true) : settleG rep g = settleG rep (setStep rep g) := by
  have := mdel_len h
  have e : g.l.length = (setStep rep g).l.length + 1 := this.symm
  unfold settleG
  rw [e]
  simp [settleGo, h]
theorem settle_ok {rep : Int} {g : Grp} (hg : GOk g) (h : (mget (⟨rep, vat g.v rep.toNat + 1⟩ : Dot) g.l).isSome = true) : GOk (setStep rep g) := by
  have h1 := (dotB_spec (hg.l _ (mget_mem h)).2).2.2
  have h2 := hg.v.at rep.toNat
  dsimp only at h1
  exact ⟨hg.v.set _ (by omega) h1, fun d hd => hg.l d ((mdel_sub.map _).subset hd), hg.nd.sublist (mdel_sub.map _)⟩
end Go.Vx
namespace Go.Vx
def gAddE (g : Grp) (d : Dot) : Int := if nextE g.v d = 2 then 2 else if nextE g.v d = 8 then 8 else if nextE g.v d = 9 then (if gHas g d = true then 8 else if vat g.v d.rep.toNat + 256 < d.seq then 10 else 0) else 0
def gAddG (g : Grp) (d : Dot) : Grp := if nextE g.v d = 2 then g else if nextE g.v d = 8 then g else if nextE g.v d = 9 then (if gHas g d = true then g else if vat g.v d.rep.toNat + 256 < d.seq then g else ⟨g.v, mput d () g.l⟩) else settleG d.rep ⟨nextV g.v d, g.l⟩
theorem nextE_9 {v : Vec} {d : Dot} (h : nextE v d = 9) : dotB d = true := by
  unfold nextE at h
  split at h
  · cases h
  · rename_i h1; simpa using h1
theorem nextE_0 {v : Vec} {d : Dot} (h2 : ¬ nextE v d = 2) (h8 : ¬ nextE v d = 8) (h9 : ¬ nextE v d = 9) : dotB d = true ∧ hasB v d = false ∧ d.seq = (vat v d.rep.toNat + 1) % 4294967296 := by
  unfold nextE at h2 h8 h9
  split at h2
  · exact absurd rfl h2
  · rename_i h1
    rw [if_neg h1] at h8 h9
    split at h8
    · exact absurd rfl h8
    · rename_i h3
      rw [if_neg h3] at h9
      split at h9
      · rename_i h4; exact ⟨by simpa using h1, by simpa using h3, h4⟩
      · exact absurd rfl h9
theorem next_ok {g : Grp} {d : Dot} (hg : GOk g) (h2 : ¬ nextE g.v d = 2) (h8 : ¬ nextE g.v d = 8) (h9 : ¬ nextE g.v d = 9) : GOk ⟨nextV g.v d, g.l⟩ := by
  obtain ⟨h1, h3, h4⟩ := nextE_0 h2 h8 h9
  have h5 := dotB_spec h1
  have h6 := hg.v.at d.rep.toNat
  refine ⟨?_, hg.l, hg.nd⟩
  show VOk (nextV g.v d)
  unfold nextV
  rw [if_neg (by simp [h1]), if_neg (by simp [h3]), if_pos h4]
  exact hg.v.set _ (by omega) (by omega)
end Go.Vx
namespace Go.Vx
section
variable {g : Grp} {d : Dot}
theorem gAdd_2 (h : nextE g.v d = 2) : gAddE g d = nextE g.v d ∧ gAddG g d = g := by simp [gAddE, gAddG, h]
theorem gAdd_8 (h : nextE g.v d = 8) : gAddE g d = nextE g.v d ∧ gAddG g d = g := by simp [gAddE, gAddG, h]
theorem gAdd_h (h : nextE g.v d = 9) (h1 : gHas g d = true) : gAddE g d = 8 ∧ gAddG g d = g := by simp [gAddE, gAddG, h, h1]
theorem gAdd_f (h : nextE g.v d = 9) (h1 : gHas g d = false) (h2 : vat g.v d.rep.toNat + 256 < d.seq) : gAddE g d = 10 ∧ gAddG g d = g := by simp [gAddE, gAddG, h, h1, h2]
theorem gAdd_i (h : nextE g.v d = 9) (h1 : gHas g d = false) (h2 : ¬ vat g.v d.rep.toNat + 256 < d.seq) : gAddE g d = 0 ∧ gAddG g d = ⟨g.v, mput d () g.l⟩ := by
  unfold gAddE gAddG
  rw [if_neg (by omega), if_neg (by omega), if_pos h, if_neg (by simp [h1]), if_neg h2, if_neg (by omega), if_neg (by omega), if_pos h, if_neg (by simp [h1]), if_neg h2]
  exact ⟨rfl, rfl⟩
theorem gAdd_0 (h2 : ¬ nextE g.v d = 2) (h8 : ¬ nextE g.v d = 8) (h9 : ¬ nextE g.v d = 9) : gAddE g d = 0 ∧ gAddG g d = settleG d.rep ⟨nextV g.v d, g.l⟩ := by
  unfold gAddE gAddG
  rw [if_neg h2, if_neg h8, if_neg h9, if_neg h2, if_neg h8, if_neg h9]
  exact ⟨rfl, rfl⟩
end
end Go.Vx
namespace Go.Vx
/-! ## the order of dots -/
def cmpI (x y : Int) : Int := if x < y then -1 else if y < x then 1 else 0
def orI (l : List Int) : Int := (l.find? fun x => !decide (x = 0)).getD 0
def ordD (a b : Dot) : Int := orI [cmpI a.rep b.rep, cmpI a.seq b.seq]
theorem cmpI_eq (x y : Int) : cmpI x y = if x < y then -1 else if y < x then 1 else 0 := rfl
theorem orI_yes {l : List Int} {k : Nat} (hk : k < l.length) (h0 : ∀ j : Nat, j < k → gd l j = 0) (h : ¬ gd l (k : Int).toNat = 0) : orI l = gd l (k : Int).toNat := by
  rw [Int.toNat_natCast] at h ⊢
  unfold orI
  induction l generalizing k with
  | nil => simp at hk
  | cons a l ih =>
    cases k with
    | zero =>
      have : gd (a :: l) 0 = a := rfl
      rw [this] at h ⊢
      simp [h]
    | succ k =>
      have h1 : a = 0 := h0 0 (by omega)
      have h2 : gd (a :: l) (k + 1) = gd l k := rfl
      rw [h2] at h ⊢
      subst h1
      simp only [List.find?_cons, decide_true, Bool.not_true]
      exact ih (by simpa using hk) (fun j hj => h0 (j + 1) (by omega)) h
theorem orI_no {l : List Int} (h0 : ∀ j : Nat, j < l.length → gd l j = 0) : orI l = 0 := by
  unfold orI
  rw [List.find?_eq_none.2]
  · rfl
  · intro x hx
    obtain ⟨j, hj, rfl⟩ := List.mem_iff_getElem.1 hx
    have := h0 j hj
    simp [gd, hj] at this
    simp [this]
theorem or_step {l : List Int} {k : Nat} (h : ∀ j : Nat, j < k → gd l j = 0) (hk : gd l (k : Int).toNat = 0) : ∀ j : Nat, j < k + 1 → gd l j = 0 := by
  intro j hj
  by_cases e : j = k
  · subst e; exact hk
  · exact h j (by omega)
end Go.Vx
namespace Go.Vx
def sortD (l m : List Dot) : Prop := m.Perm l ∧ m.Pairwise fun x y => ¬ ordD y x < 0
/-- what is loose, in the program -/
def LooseP (g : Grp) (m : List Dot) : Prop := sortD (g.l.map (·.1)) m
theorem dv_inj {a b : Dot} (h : dv a = dv b) : a = b := by
  unfold dv at h
  simp only [Value.agg.injEq] at h
  exact dc_inj (by simpa using h)
theorem perm_of_map {α β : Type} {f : α → β} (hf : ∀ a b, f a = f b → a = b) : ∀ {l m : List α}, (l.map f).Perm (m.map f) → l.Perm m := by
  classical
  intro l
  induction l with
  | nil => intro m h; have := h.length_eq; simp at this; rw [List.eq_nil_of_length_eq_zero this.symm]
  | cons a l ih =>
    intro m h
    have ha : f a ∈ m.map f := h.subset (by simp)
    obtain ⟨b, hb, he⟩ := List.mem_map.1 ha
    have hab : b = a := hf _ _ he
    subst hab
    obtain ⟨m1, m2, rfl⟩ := List.append_of_mem hb
    have h1 : (f b :: l.map f).Perm (f b :: (m1 ++ m2).map f) := by
      refine h.trans ?_
      rw [List.map_append, List.map_append, List.map_cons]
      exact List.perm_middle
    exact (List.Perm.cons b (ih (List.Perm.cons_inv h1))).trans List.perm_middle.symm
end Go.Vx
namespace Go.Vx
theorem loose_of {l : List (Dot × Unit)} {x : List Dot} (h : ∃ m : List Dot, (m.map dv).Perm ((l.map (·.1)).map dv) ∧ sortD m x) : sortD (l.map (·.1)) x := by
  obtain ⟨m, h1, h2, h3⟩ := h
  exact ⟨h2.trans (perm_of_map (fun _ _ => dv_inj) h1), h3⟩
/-! ## what is missing -/
def missGo (v : Vec) : List Dot → List Dot
  | [] => []
  | d :: l => stretch d.rep (vat v d.rep.toNat + 1) (d.seq - 1 - vat v d.rep.toNat).toNat ++ missGo (vset v d.rep.toNat d.seq) l
theorem drop_gd {l : List Dot} {k : Nat} (h : k < l.length) : l.drop k = gd l k :: l.drop (k + 1) := by
  rw [List.drop_eq_getElem_cons h]; simp [gd, h]
theorem miss_next {v at1 at2 : Vec} {l out out2 : List Dot} {k c : Nat} (hk : k < l.length) (hm : out ++ missGo at1 (l.drop k) = missGo v l) (ho : out2 = out ++ stretch (gd l k).rep (vat at1 (gd l k).rep.toNat + 1) c)
    (hc : c = ((gd l k).seq - 1 - vat at1 (gd l k).rep.toNat).toNat) (ha : vset at2 (gd l k).rep.toNat (gd l k).seq = vset at1 (gd l k).rep.toNat (gd l k).seq) : out2 ++ missGo (vset at2 (gd l k).rep.toNat (gd l k).seq) (l.drop (k + 1)) = missGo v l := by
  rw [← hm, drop_gd hk, ho, ha, hc, List.append_assoc]
  rfl
theorem vset_vset (v : Vec) (i : Nat) (x y : Int) : vset (vset v i x) i y = vset v i y := by
  funext j; unfold vset; split <;> rfl
theorem miss_step {out out2 : List Dot} {i n : Int} {c : Nat} (h : out2 = out ++ stretch i n c) : out2 ++ [⟨i, n + (c : Int)⟩] = out ++ stretch i n (c + 1) := by
  rw [stretch_succ, h, List.append_assoc]
theorem miss_start (out : List Dot) (i n : Int) : out = out ++ stretch i n 0 := (List.append_nil _).symm
theorem dots_sort {l m : List Dot} (hl : Dots l) (h : sortD l m) : Dots m := fun d hd => hl d (h.1.subset hd)
end Go.Vx
namespace Go.Vx
theorem vset_same (v : Vec) (i : Nat) : v = vset v i (vat v i) := by
  funext j; unfold vset vat
  split
  · rename_i h; subst h; simp
  · rfl
end Go.Vx
namespace Go.Vx
theorem vset_same0 (v : Vec) (i : Nat) : v = vset v i (vat v i + ((0 : Nat) : Int)) := by
  rw [show vat v i + ((0 : Nat) : Int) = vat v i by omega]; exact vset_same v i
end Go.Vx
namespace Go.Vx
theorem cloV_at2 {v : Vec} {l : List Dot} {k : Nat} (hk : k < 16) : vat (cloV l v) k + 1 = cloAt l k (vat v k) + 1 + ((0 : Nat) : Int) := cloV_at1 hk
end Go.Vx
namespace Go.Vx
/-! ## one sorted list -/
theorem ordD_lt {x y : Dot} : ordD x y < 0 ↔ x.rep < y.rep ∨ (x.rep = y.rep ∧ x.seq < y.seq) := by
  unfold ordD orI cmpI
  by_cases h1 : x.rep < y.rep
  · simp [h1]
  · by_cases h2 : y.rep < x.rep
    · simp [h1, h2]; omega
    · have h3 : x.rep = y.rep := by omega
      by_cases h4 : x.seq < y.seq
      · simp [h3, h4]
      · by_cases h5 : y.seq < x.seq
        · simp [h3, h4, h5]
        · simp [h3, h4, h5]
def leD (x y : Dot) : Bool := !decide (ordD y x < 0)
theorem leD_iff {x y : Dot} : leD x y = true ↔ x.rep < y.rep ∨ (x.rep = y.rep ∧ x.seq ≤ y.seq) := by
  unfold leD
  simp only [Bool.not_eq_true', decide_eq_false_iff_not, ordD_lt]
  omega
theorem leD_trans (a b c : Dot) (h1 : leD a b = true) (h2 : leD b c = true) : leD a c = true := by
  rw [leD_iff] at *; omega
theorem leD_total (a b : Dot) : (leD a b || leD b a) = true := by
  rw [Bool.or_eq_true, leD_iff, leD_iff]; omega
theorem leD_anti {a b : Dot} (h1 : leD a b = true) (h2 : leD b a = true) : a = b := by
  rw [leD_iff] at *
  cases a; cases b
  simp only [Dot.mk.injEq] at *
  omega
theorem sorted_unique : ∀ {l m : List Dot}, l.Perm m → l.Pairwise (fun x y => leD x y = true) → m.Pairwise (fun x y => leD x y = true) → l = m
  | [], m, h, _, _ => by have := h.length_eq; simp at this; exact (List.eq_nil_of_length_eq_zero this.symm).symm
  | a :: l, [], h, _, _ => by have := h.length_eq; simp at this
  | a :: l, b :: m, h, h1, h2 => by
    rw [List.pairwise_cons] at h1 h2
    have hab : a = b := by
      have ha : a ∈ b :: m := h.subset (by simp)
      have hb : b ∈ a :: l := h.symm.subset (by simp)
      rcases List.mem_cons.1 ha with e | ha
      · exact e
      · rcases List.mem_cons.1 hb with e | hb
        · exact e.symm
        · exact leD_anti (h1.1 b hb) (h2.1 a ha)
    subst hab
    rw [sorted_unique (List.Perm.cons_inv h) h1.2 h2.2]
def sortL (l : List Dot) : List Dot := l.mergeSort leD
theorem sortD_eq {l m : List Dot} (h : sortD l m) : m = sortL l := by
  refine sorted_unique (h.1.trans (List.mergeSort_perm l leD).symm) ?_ (List.pairwise_mergeSort leD_trans leD_total l)
  refine h.2.imp fun {a b} hab => ?_
  unfold leD; simpa using hab
def looseL (g : Grp) : List Dot := sortL (g.l.map (·.1))
theorem looseL_len (g : Grp) : (looseL g).length = g.l.length := by unfold looseL sortL; rw [List.length_mergeSort]; simp
theorem loose_eq {g : Grp} {m : List Dot} (h : LooseP g m) : m = looseL g := sortD_eq h
def missL (g : Grp) : List Dot := missGo g.v (looseL g)
end Go.Vx
namespace Go.Vx
/-! ## sets stay in order -/
theorem settleGo_ok {rep : Int} : ∀ (f : Nat) (g : Grp), GOk g → GOk (settleGo rep f g)
  | 0, _, h => h
  | f + 1, g, h => by
    unfold settleGo
    split
    · rename_i hh; exact settleGo_ok f _ (settle_ok h hh)
    · exact h
theorem mput_keys {κ ν : Type} [DecidableEq κ] {k : κ} {v : ν} : ∀ {l : List (κ × ν)}, (mput k v l).map (·.1) = if k ∈ l.map (·.1) then l.map (·.1) else l.map (·.1) ++ [k]
  | [] => rfl
  | (a, b) :: l => by
    unfold mput
    split
    · rename_i e; subst e; simp
    · rename_i e
      simp only [List.map_cons, mput_keys (l := l), List.mem_cons, e, false_or]
      split <;> simp
theorem gAddG_ok {g : Grp} {d : Dot} (hg : GOk g) (hd : DotOk d) : GOk (gAddG g d) := by
  unfold gAddG
  split
  · exact hg
  · split
    · exact hg
    · split
      · rename_i h9
        split
        · exact hg
        · split
          · exact hg
          · refine ⟨hg.v, ?_, ?_⟩
            · show Dots ((mput d () g.l).map (·.1))
              rw [mput_keys]
              split
              · exact hg.l
              · intro x hx
                rcases List.mem_append.1 hx with h | h
                · exact hg.l x h
                · simp at h; subst h; exact ⟨hd, nextE_9 h9⟩
            · show ((mput d () g.l).map (·.1)).Nodup
              rw [mput_keys]
              split
              · exact hg.nd
              · rename_i h
                rw [List.nodup_append]
                exact ⟨hg.nd, by simp, fun a ha b hb => by simp at hb; subst hb; exact fun e => h (e ▸ ha)⟩
      · rename_i h2 h8 h9
        exact settleGo_ok _ _ (next_ok hg h2 h8 h9)
theorem settleGo_len {rep : Int} : ∀ (f : Nat) (g : Grp), (settleGo rep f g).l.length ≤ g.l.length
  | 0, _ => Nat.le_refl _
  | f + 1, g => by
    unfold settleGo
    split
    · exact Nat.le_trans (settleGo_len f _) ((mdel_sub (k := _) (l := g.l)).length_le)
    · exact Nat.le_refl _
theorem gAddG_len (g : Grp) (d : Dot) : (gAddG g d).l.length ≤ g.l.length + 1 := by
  unfold gAddG
  split
  · omega
  · split
    · omega
    · split
      · split
        · omega
        · split
          · omega
          · show (mput d () g.l).length ≤ _
            have := congrArg List.length (mput_keys (k := d) (v := ()) (l := g.l))
            rw [List.length_map] at this
            rw [this]; split <;> simp
      · exact Nat.le_trans (settleGo_len _ _) (by simp)
theorem VOk_vset0 {i : Nat} {x : Int} (h0 : 0 ≤ x) (h1 : x ≤ 1048576) : VOk (vset vzero i x) := VOk.set (fun _ => by unfold vzero; omega) i h0 h1
theorem right_ok {v : Vec} (hv : VecOk v) (h : rightB v 16 = true) : VOk v := by
  intro j
  unfold rightB at h
  simp only [Bool.and_eq_true, List.all_eq_true, List.mem_range] at h
  have := h.2 j.val j.isLt
  unfold okAt at this
  have h1 := hv j
  have e : vat v j.val = v j := by simp [vat]
  rw [e] at this
  simp at this
  omega
theorem gNew_okg {v : Vec} (hv : VecOk v) (h : rightB v 16 = true) : GOk ⟨v, []⟩ := ⟨right_ok hv h, fun d hd => by simp at hd, by simp⟩
end Go.Vx
namespace Go.Vx
theorem sortL_one (d : Dot) : sortL [d] = [d] := (sortD_eq (l := [d]) (m := [d]) ⟨List.Perm.refl _, by simp⟩).symm
theorem missL_of {g : Grp} {m : List Dot} (h : sortL (g.l.map (·.1)) = m) : missL g = missGo g.v m := by unfold missL looseL; rw [h]
theorem alive_miss : ((missL (gAddG ⟨vset vzero 0 2, []⟩ ⟨0, 4⟩)).length : Int) = 1 := by
  have h : (gAddG ⟨vset vzero 0 2, []⟩ ⟨0, 4⟩).l.map (·.1) = [(⟨0, 4⟩ : Dot)] := by decide
  rw [missL_of (m := [⟨0, 4⟩]) (by rw [h]; exact sortL_one _)]; decide
end Go.Vx
namespace Go.Vx
theorem begin_plain (v : Vec) (d : Dot) : (((decide ((⟨v, []⟩ : Grp).v = v) && decide ((((looseL ⟨v, []⟩).length : Nat) : Int) = 0)) && decide ((((missL ⟨v, []⟩).length : Nat) : Int) = 0)) && (gHas ⟨v, []⟩ d == hasB v d)) = true := by
  have h1 : (looseL ⟨v, []⟩).length = 0 := looseL_len _
  have h2 : looseL ⟨v, []⟩ = [] := List.eq_nil_of_length_eq_zero h1
  have h3 : missL ⟨v, []⟩ = [] := by unfold missL; rw [h2]; rfl
  rw [h2, h3]
  simp [gHas, mget]
end Go.Vx
