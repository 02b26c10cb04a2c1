/- A part of a proof: what functions of the program compute, and plain facts on that. -/
import Derived.Test.YthejeobcehpdcaaGreatDoorScriptDecodesP7
import Derived.Sort.Walk13a
import Derived.Sort.AssemblyPlain
import Derived.KernelRfl
import Derived.Test.YthejeobcehpdcaaGreatDoorProg
import Derived.Laws.BytesArg
import Derived.Sort.EncStr
import Derived.MapKept
import Derived.WideKeyEntry
import Derived.Laws.CopyRow
import Derived.Lib.AppendZeros
import Derived.Lib.Overlaps
import Derived.Laws.Externs
import Derived.Laws.Cover3
set_option linter.unusedVariables false
set_option linter.unusedSectionVars false
set_option linter.unusedSimpArgs false
namespace Go.Vx
structure GInv (g : Grp) : Prop where
  ok : GOk g
  far : ∀ d ∈ g.l.map (·.1), vat g.v d.rep.toNat + 1 < d.seq
structure GHalf (rep : Int) (g : Grp) : Prop where
  ok : GOk g
  near : ∀ d ∈ g.l.map (·.1), vat g.v d.rep.toNat < d.seq
  far : ∀ d ∈ g.l.map (·.1), d.rep ≠ rep → vat g.v d.rep.toNat + 1 < d.seq
theorem mdel_keys {κ ν : Type} [DecidableEq κ] {k : κ} : ∀ {l : List (κ × ν)}, (l.map (·.1)).Nodup → ∀ x, x ∈ (mdel k l).map (·.1) ↔ x ∈ l.map (·.1) ∧ x ≠ k
  | [], _, x => by simp [mdel]
  | (a, b) :: l, h, x => by
    rw [List.map_cons, List.nodup_cons] at h
    unfold mdel
    split
    · rename_i e
      subst e
      simp only [List.map_cons, List.mem_cons]
      constructor
      · intro hx; exact ⟨.inr hx, fun e => h.1 (e ▸ hx)⟩
      · rintro ⟨hx | hx, hne⟩
        · exact absurd hx hne
        · exact hx
    · rename_i e
      simp only [List.map_cons, List.mem_cons, mdel_keys h.2]
      constructor
      · rintro (rfl | ⟨hx, hne⟩)
        · exact ⟨.inl rfl, fun e' => e e'.symm⟩
        · exact ⟨.inr hx, hne⟩
      · rintro ⟨hx | hx, hne⟩
        · exact .inl hx
        · exact .inr ⟨hx, hne⟩
theorem toNat_inj {a b : Int} (ha : 0 ≤ a) (hb : 0 ≤ b) (h : a.toNat = b.toNat) : a = b := by omega
theorem dot_ext {a b : Dot} (h1 : a.rep = b.rep) (h2 : a.seq = b.seq) : a = b := by cases a; cases b; simp_all
theorem half_step {rep : Int} {g : Grp} (h0 : 0 ≤ rep) (h : GHalf rep g) (hm : (mget (⟨rep, vat g.v rep.toNat + 1⟩ : Dot) g.l).isSome = true) : GHalf rep (setStep rep g) := by
  refine ⟨settle_ok h.ok hm, fun d hd => ?_, fun d hd hne => ?_⟩
  · obtain ⟨hd1, hd2⟩ := (mdel_keys h.ok.nd d).1 hd
    have hok := (h.ok.l d hd1)
    have hb := dotB_spec hok.2
    have hr := hok.1.1
    show vat (vset g.v rep.toNat (vat g.v rep.toNat + 1)) d.rep.toNat < d.seq
    rw [vat_vset _ _ _ _ (by omega)]
    have hn := h.near d hd1
    split
    · rename_i e
      have er : d.rep = rep := toNat_inj hr.1 h0 e
      rw [e] at hn
      rcases Int.lt_or_le (vat g.v rep.toNat + 1) d.seq with h2 | h2
      · exact h2
      · exact absurd (dot_ext er (by show d.seq = vat g.v rep.toNat + 1; omega)) hd2
    · exact hn
  · obtain ⟨hd1, hd2⟩ := (mdel_keys h.ok.nd d).1 hd
    have hok := (h.ok.l d hd1)
    have hb := dotB_spec hok.2
    have hr := hok.1.1
    show vat (vset g.v rep.toNat (vat g.v rep.toNat + 1)) d.rep.toNat + 1 < d.seq
    rw [vat_vset _ _ _ _ (by omega), if_neg (fun e => hne (toNat_inj hr.1 h0 e))]
    exact h.far d hd1 hne
theorem half_end {rep : Int} {g : Grp} (h : GHalf rep g) (hm : (mget (⟨rep, vat g.v rep.toNat + 1⟩ : Dot) g.l).isSome = false) : GInv g := by
  refine ⟨h.ok, fun d hd => ?_⟩
  by_cases e : d.rep = rep
  · have hn := h.near d hd
    rcases Int.lt_or_le (vat g.v d.rep.toNat + 1) d.seq with h2 | h2
    · exact h2
    · have e2 : d = ⟨rep, vat g.v rep.toNat + 1⟩ := dot_ext e (by show d.seq = vat g.v rep.toNat + 1; rw [← e]; omega)
      rw [mget_iff] at hm
      exact absurd (e2 ▸ hd) (of_decide_eq_false hm)
  · exact h.far d hd e
theorem vsum_vset (v : Vec) (i : Nat) (x : Int) (h : i < 16) : vsum (vset v i x) = vsum v - vat v i + x := by
  have key : ∀ (l : List Nat), l.Nodup → (∀ j ∈ l, j < 16) → ((l.map fun j => vat (vset v i x) j).sum : Int) = (l.map fun j => vat v j).sum + (if i ∈ l then x - vat v i else 0) := by
    intro l
    induction l with
    | nil => intro _ _; simp
    | cons a l ih =>
      intro hn hl
      rw [List.nodup_cons] at hn
      have ha := hl a (by simp)
      simp only [List.map_cons, List.sum_cons, ih hn.2 (fun j hj => hl j (by simp [hj])), vat_vset _ _ _ _ ha]
      by_cases e : a = i
      · subst e
        simp [hn.1]
        omega
      · have : i ∈ a :: l ↔ i ∈ l := by
          rw [List.mem_cons]
          exact ⟨fun h => h.resolve_left (fun e' => e e'.symm), .inr⟩
        simp only [if_neg e, this]
        omega
  have := key (List.range 16) (List.nodup_range) (fun j hj => by simpa using hj)
  rw [if_pos (by simpa using h)] at this
  unfold vsum
  omega
theorem settle_keeps {rep : Int} (h0 : 0 ≤ rep) (h1 : rep < 16) : ∀ (f : Nat) (g : Grp), GHalf rep g → g.l.length ≤ f →
    GInv (settleGo rep f g) ∧ vsum (settleGo rep f g).v + (settleGo rep f g).l.length = vsum g.v + g.l.length ∧ (∀ d, DotOk d → gHas g d = true → gHas (settleGo rep f g) d = true) ∧ (∀ j, vat g.v j ≤ vat (settleGo rep f g).v j)
  | 0, g, h, hf => by
    have hl : g.l = [] := List.eq_nil_of_length_eq_zero (by omega)
    exact ⟨half_end h (by show (mget _ g.l).isSome = false; rw [hl]; rfl), rfl, fun _ _ h => h, fun _ => Int.le_refl _⟩
  | f + 1, g, h, hf => by
    unfold settleGo
    split
    · rename_i hm
      have hlen := mdel_len hm
      have hst := half_step h0 h hm
      obtain ⟨r1, r2, r3, r4⟩ := settle_keeps h0 h1 f (setStep rep g) hst (by show (mdel _ _).length ≤ f; omega)
      have hsum : vsum (setStep rep g).v = vsum g.v + 1 := by
        show vsum (vset g.v rep.toNat (vat g.v rep.toNat + 1)) = _
        rw [vsum_vset _ _ _ (by omega)]; omega
      have hl2 : (setStep rep g).l.length + 1 = g.l.length := hlen
      have hv : ∀ j, vat g.v j ≤ vat (setStep rep g).v j := by
        intro j
        show vat g.v j ≤ vat (vset g.v rep.toNat (vat g.v rep.toNat + 1)) j
        by_cases hj : j < 16
        · rw [vat_vset _ _ _ _ hj]; split
          · rename_i e; subst e; omega
          · omega
        · rw [vat_big _ (by omega), vat_big _ (by omega)]; omega
      refine ⟨r1, by omega, fun d hd hh => r3 d hd ?_, fun j => Int.le_trans (hv j) (r4 j)⟩
      unfold gHas at hh ⊢
      rw [Bool.or_eq_true] at hh ⊢
      rcases hh with hh | hh
      · rw [mget_iff] at hh ⊢
        have hk := of_decide_eq_true hh
        by_cases e : d = ⟨rep, vat g.v rep.toNat + 1⟩
        · right
          have hb := (h.ok.l d hk).2
          unfold hasB
          rw [hb]
          subst e
          show decide (vat g.v rep.toNat + 1 ≤ vat (vset g.v rep.toNat (vat g.v rep.toNat + 1)) rep.toNat) = true
          rw [vat_vset _ _ _ _ (by omega), if_pos rfl]; simp
        · left
          exact decide_eq_true ((mdel_keys h.ok.nd d).2 ⟨hk, e⟩)
      · right
        unfold hasB at hh ⊢
        rw [Bool.and_eq_true] at hh ⊢
        refine ⟨hh.1, decide_eq_true ?_⟩
        have := of_decide_eq_true hh.2
        exact Int.le_trans this (hv _)
    · rename_i hm
      exact ⟨half_end h (by simpa using hm), rfl, fun _ _ h => h, fun _ => Int.le_refl _⟩
theorem mget_mput {κ ν : Type} [DecidableEq κ] {k x : κ} {v : ν} {l : List (κ × ν)} : (mget x (mput k v l)).isSome = (decide (x = k) || (mget x l).isSome) := by
  rw [mget_iff, mget_iff, mput_keys]
  split
  · rename_i h
    by_cases e : x = k
    · subst e; simp [h]
    · simp [e]
  · by_cases e : x = k
    · subst e; simp
    · simp [e]
structure Grows (g : Grp) (d : Dot) (g' : Grp) (e : Int) : Prop where
  inv : GInv g'
  sum : vsum g'.v + g'.l.length = vsum g.v + g.l.length + (if e = 0 then 1 else 0)
  keep : ∀ x, DotOk x → gHas g x = true → gHas g' x = true
  le : ∀ j, vat g.v j ≤ vat g'.v j
  same : e ≠ 0 → g' = g
  got : e = 0 → gHas g' d = true
theorem add_grows {g : Grp} {d : Dot} (hg : GInv g) (hd : DotOk d) : Grows g d (gAddG g d) (gAddE g d) := by
  have stay : ∀ e : Int, e ≠ 0 → gAddE g d = e → gAddG g d = g → Grows g d (gAddG g d) (gAddE g d) := by
    intro e he hE hG
    rw [hE, hG]
    exact ⟨hg, by rw [if_neg he]; omega, fun _ _ h => h, fun _ => Int.le_refl _, fun _ => rfl, fun h => absurd h he⟩
  by_cases h2 : nextE g.v d = 2
  · exact stay _ (by omega) ((gAdd_2 h2).1.trans h2) (gAdd_2 h2).2
  · by_cases h8 : nextE g.v d = 8
    · exact stay _ (by omega) ((gAdd_8 h8).1.trans h8) (gAdd_8 h8).2
    · by_cases h9 : nextE g.v d = 9
      · cases hh : gHas g d with
        | true => exact stay _ (by omega) (gAdd_h h9 hh).1 (gAdd_h h9 hh).2
        | false =>
          by_cases hf : vat g.v d.rep.toNat + 256 < d.seq
          · exact stay _ (by omega) (gAdd_f h9 hh hf).1 (gAdd_f h9 hh hf).2
          · obtain ⟨hE, hG⟩ := gAdd_i h9 hh hf
            have hok := gAddG_ok hg.ok hd
            rw [hE, hG] at *
            have hb := nextE_9 h9
            unfold gHas at hh
            rw [Bool.or_eq_false_iff] at hh
            have hnk : d ∉ g.l.map (·.1) := by rw [mget_iff] at hh; exact of_decide_eq_false hh.1
            have hnb : ¬ d.seq ≤ vat g.v d.rep.toNat := by
              have := hh.2
              unfold hasB at this
              rw [hb] at this
              simpa using this
            have hne : ¬ d.seq = (vat g.v d.rep.toNat + 1) % 4294967296 := by
              intro e
              unfold nextE at h9
              rw [if_neg (by simp [hb]), if_neg (by rw [hh.2]; decide), if_pos e] at h9
              cases h9
            have hv := hg.ok.v.at d.rep.toNat
            refine ⟨⟨hok, fun x hx => ?_⟩, ?_, fun x _ hx => ?_, fun _ => Int.le_refl _, fun h => absurd rfl h, fun _ => ?_⟩
            · have hx' : x ∈ (mput d () g.l).map (·.1) := hx
              rw [mput_keys, if_neg hnk, List.mem_append] at hx'
              rcases hx' with hx' | hx'
              · exact hg.far x hx'
              · simp at hx'; subst hx'
                show vat g.v x.rep.toNat + 1 < x.seq
                omega
            · show vsum g.v + (mput d () g.l).length = _
              have := congrArg List.length (mput_keys (k := d) (v := ()) (l := g.l))
              rw [if_neg hnk, List.length_map, List.length_append, List.length_map] at this
              rw [if_pos rfl, this]
              simp only [List.length_cons, List.length_nil]
              omega
            · unfold gHas at hx ⊢
              rw [Bool.or_eq_true] at hx ⊢
              rcases hx with hx | hx
              · left; show (mget x (mput d () g.l)).isSome = true; rw [mget_mput, hx]; simp
              · exact .inr hx
            · unfold gHas
              rw [show (mget d (mput d () g.l)).isSome = true by rw [mget_mput]; simp]; rfl
      · obtain ⟨hE, hG⟩ := gAdd_0 h2 h8 h9
        obtain ⟨hb, hhas, hseq⟩ := nextE_0 h2 h8 h9
        have hbs := dotB_spec hb
        have hv := hg.ok.v.at d.rep.toNat
        have hnv : nextV g.v d = vset g.v d.rep.toNat (vat g.v d.rep.toNat + 1) := by
          unfold nextV; rw [if_neg (by simp [hb]), if_neg (by simp [hhas]), if_pos hseq]
        have hhalf : GHalf d.rep ⟨nextV g.v d, g.l⟩ := by
          refine ⟨next_ok hg.ok h2 h8 h9, fun x hx => ?_, fun x hx hne => ?_⟩
          · have hxo := hg.ok.l x hx
            have hf := hg.far x hx
            have hr := hxo.1.1
            have hxb := dotB_spec hxo.2
            show vat (nextV g.v d) x.rep.toNat < x.seq
            rw [hnv, vat_vset _ _ _ _ (by omega)]
            split
            · rename_i e; rw [e] at hf; omega
            · omega
          · have hxo := hg.ok.l x hx
            have hf := hg.far x hx
            have hr := hxo.1.1
            have hxb := dotB_spec hxo.2
            show vat (nextV g.v d) x.rep.toNat + 1 < x.seq
            rw [hnv, vat_vset _ _ _ _ (by omega), if_neg (fun e => hne (toNat_inj hr.1 hd.1.1 e))]
            exact hf
        obtain ⟨r1, r2, r3, r4⟩ := settle_keeps hd.1.1 hbs.1 g.l.length ⟨nextV g.v d, g.l⟩ hhalf (Nat.le_refl _)
        have hmono : ∀ j, vat g.v j ≤ vat (nextV g.v d) j := by
          intro j
          rw [hnv]
          by_cases hj : j < 16
          · rw [vat_vset _ _ _ _ hj]; split
            · rename_i e; subst e; omega
            · omega
          · rw [vat_big _ (by omega), vat_big _ (by omega)]; omega
        have hGo : settleG d.rep ⟨nextV g.v d, g.l⟩ = settleGo d.rep g.l.length ⟨nextV g.v d, g.l⟩ := rfl
        rw [hE, hG, hGo]
        refine ⟨r1, ?_, fun x hxo hx => r3 x hxo ?_, fun j => Int.le_trans (hmono j) (r4 j), fun h => absurd rfl h, fun _ => r3 d hd ?_⟩
        · rw [r2, if_pos rfl]
          show vsum (nextV g.v d) + ((g.l.length : Nat) : Int) = _
          rw [hnv, vsum_vset _ _ _ (by omega)]; omega
        · unfold gHas at hx ⊢
          rw [Bool.or_eq_true] at hx ⊢
          rcases hx with hx | hx
          · exact .inl hx
          · right
            unfold hasB at hx ⊢
            rw [Bool.and_eq_true] at hx ⊢
            exact ⟨hx.1, decide_eq_true (Int.le_trans (of_decide_eq_true hx.2) (hmono _))⟩
        · unfold gHas
          rw [Bool.or_eq_true]
          right
          unfold hasB
          rw [hb]
          show decide (d.seq ≤ vat (nextV g.v d) d.rep.toNat) = true
          rw [hnv, vat_vset _ _ _ _ (by omega), if_pos rfl]
          exact decide_eq_true (by omega)
end Go.Vx
namespace Go.Vx
def vsumK (v : Vec) : Nat → Int
  | 0 => 0
  | k + 1 => vsumK v k + vat v k
theorem vsumK_eq (v : Vec) (k : Nat) : vsumK v k = ((List.range k).map fun i => vat v i).sum := by
  induction k with
  | zero => rfl
  | succ k ih => rw [List.range_succ, List.map_append, List.sum_append]; simp [vsumK, ih]
theorem vsum_K (v : Vec) : vsumK v 16 = vsum v := vsumK_eq v 16
end Go.Vx
namespace Go.Vx
theorem vsumK_bd {v : Vec} (hv : VecOk v) : ∀ k, 0 ≤ vsumK v k ∧ vsumK v k ≤ (k : Int) * 4294967296
  | 0 => by simp [vsumK]
  | k + 1 => by
    have h1 := vsumK_bd hv k
    have h2 := vat_ok hv k
    show 0 ≤ vsumK v k + vat v k ∧ vsumK v k + vat v k ≤ _
    constructor
    · omega
    · push_cast; omega
theorem vsum_bd {v : Vec} (hv : VecOk v) : 0 ≤ vsum v ∧ vsum v ≤ 68719476736 := by
  have := vsumK_bd hv 16
  rw [vsum_K] at this
  omega
end Go.Vx
namespace Go.Vx
def ltD (x y : Dot) : Prop := x.rep < y.rep ∨ (x.rep = y.rep ∧ x.seq < y.seq)
theorem lt_nodup {l : List Dot} (h : l.Pairwise ltD) : l.Nodup := h.imp fun {a b} hab e => by subst e; unfold ltD at hab; omega
theorem lt_le {l : List Dot} (h : l.Pairwise ltD) : l.Pairwise (fun x y => leD x y = true) := h.imp fun {a b} hab => by rw [leD_iff]; unfold ltD at hab; omega
theorem rising_eq {l m : List Dot} (hl : l.Pairwise ltD) (hm : m.Pairwise ltD) (h : ∀ x, x ∈ l ↔ x ∈ m) : l = m :=
  sorted_unique ((List.perm_ext_iff_of_nodup (lt_nodup hl) (lt_nodup hm)).2 h) (lt_le hl) (lt_le hm)
theorem sortL_rising {l : List Dot} (h : l.Nodup) : (sortL l).Pairwise ltD := by
  have h1 : (sortL l).Pairwise (fun x y => leD x y = true) := List.pairwise_mergeSort leD_trans leD_total l
  have h2 : (sortL l).Nodup := (List.mergeSort_perm l leD).nodup_iff.2 h
  refine (h1.and h2).imp fun {a b} ⟨h3, h4⟩ => ?_
  rw [leD_iff] at h3
  unfold ltD
  rcases h3 with h3 | ⟨h3, h5⟩
  · exact .inl h3
  · refine .inr ⟨h3, ?_⟩
    rcases Int.lt_or_le a.seq b.seq with h6 | h6
    · exact h6
    · exact absurd (dot_ext h3 (by omega)) h4
theorem sortL_mem {l : List Dot} {x : Dot} : x ∈ sortL l ↔ x ∈ l := List.mem_mergeSort
theorem looseL_mem {g : Grp} {x : Dot} : x ∈ looseL g ↔ x ∈ g.l.map (·.1) := sortL_mem
theorem looseL_rising {g : Grp} (h : GOk g) : (looseL g).Pairwise ltD := sortL_rising h.nd
structure CloAt (l : List Dot) (i n c : Int) : Prop where
  le : n ≤ c
  inn : ∀ m, n < m → m ≤ c → (⟨i, m⟩ : Dot) ∈ l
  out : (⟨i, c + 1⟩ : Dot) ∉ l
theorem cloAt_of {l : List Dot} (hl : Dots l) {i c : Int} : ∀ (k : Nat) (n : Int), c = n + k → CloAt l i n c → cloAt l i n = c
  | 0, n, hk, h => by
    have : n = c := by omega
    subst this
    exact cloAt_end h.out
  | k + 1, n, hk, h => by
    rw [cloAt_step hl (h.inn (n + 1) (by omega) (by omega))]
    exact cloAt_of hl k (n + 1) (by omega) ⟨by omega, fun m h1 h2 => h.inn m (by omega) h2, h.out⟩
theorem cloAt_is {l : List Dot} (hl : Dots l) {i n c : Int} (h : CloAt l i n c) : cloAt l i n = c := cloAt_of hl (c - n).toNat n (by have := h.le; omega) h
theorem toNat_cast {i : Int} (h : 0 ≤ i) : ((i.toNat : Nat) : Int) = i := by omega
structure HRel (g : Grp) (v : Vec) (l : List Dot) : Prop where
  vv : VOk v
  dl : Dots l
  le : ∀ j, vat v j ≤ vat g.v j
  inn : ∀ j : Nat, j < 16 → ∀ m, vat v j < m → m ≤ vat g.v j → (⟨(j : Int), m⟩ : Dot) ∈ l
  mem : ∀ d, d ∈ g.l.map (·.1) ↔ d ∈ l ∧ vat g.v d.rep.toNat < d.seq
structure RelD (g : Grp) (v : Vec) (l : List Dot) : Prop extends HRel g v l where
  inv : GInv g
section
variable {g : Grp} {v : Vec} {l : List Dot}
theorem RelD.clo (h : RelD g v l) {j : Nat} (hj : j < 16) : CloAt l j (vat v j) (vat g.v j) := by
  refine ⟨h.le j, h.inn j hj, fun hin => ?_⟩
  have h1 := (h.mem ⟨(j : Int), vat g.v j + 1⟩).2 ⟨hin, by show vat g.v (j : Int).toNat < vat g.v j + 1; rw [Int.toNat_natCast]; omega⟩
  have h2 := h.inv.far _ h1
  dsimp only at h2
  rw [Int.toNat_natCast] at h2
  omega
theorem RelD.cloAt (h : RelD g v l) {j : Nat} (hj : j < 16) : Vx.cloAt l j (vat v j) = vat g.v j := cloAt_is h.dl (h.clo hj)
theorem RelD.cloV (h : RelD g v l) : cloV l v = g.v := vec_ext fun j hj => by rw [vat_cloV _ _ _ hj, h.cloAt hj]
theorem RelD.has (h : RelD g v l) {d : Dot} (hd : DotOk d) : gHas g d = hasG v l d := by
  have key : gHas g d = true ↔ hasG v l d = true := by
    unfold gHas hasG
    rw [Bool.or_eq_true, Bool.or_eq_true, mget_iff, decide_eq_true_iff, decide_eq_true_iff]
    constructor
    · rintro (hk | hb)
      · exact .inl ((h.mem d).1 hk).1
      · unfold hasB at hb ⊢
        rw [Bool.and_eq_true, decide_eq_true_iff] at hb
        rcases Int.lt_or_le (vat v d.rep.toNat) d.seq with h1 | h1
        · left
          have h2 := h.inn d.rep.toNat (by have := dotB_spec hb.1; omega) d.seq h1 hb.2
          rw [toNat_cast hd.1.1] at h2
          exact h2
        · right; rw [hb.1]; simpa using h1
    · rintro (hk | hb)
      · rcases Int.lt_or_le (vat g.v d.rep.toNat) d.seq with h1 | h1
        · exact .inl ((h.mem d).2 ⟨hk, h1⟩)
        · right; unfold hasB; rw [(h.dl d hk).2]; simpa using h1
      · right
        unfold hasB at hb ⊢
        rw [Bool.and_eq_true, decide_eq_true_iff] at hb
        rw [hb.1, Bool.true_and, decide_eq_true_iff]
        exact Int.le_trans hb.2 (h.le _)
  cases h1 : gHas g d <;> cases h2 : hasG v l d <;> simp_all
theorem hrel_step {rep : Int} (h0 : 0 ≤ rep) (hr : rep < 16) (hh : GHalf rep g) (h : HRel g v l) (hm : (mget (⟨rep, vat g.v rep.toNat + 1⟩ : Dot) g.l).isSome = true) : HRel (setStep rep g) v l := by
  have hin := (h.mem _).1 (mget_mem hm)
  have hv : ∀ j, j < 16 → vat (setStep rep g).v j = if j = rep.toNat then vat g.v rep.toNat + 1 else vat g.v j := fun j hj => vat_vset _ _ _ _ hj
  refine ⟨h.vv, h.dl, fun j => ?_, fun j hj m h1 h2 => ?_, fun d => ?_⟩
  · by_cases hj : j < 16
    · rw [hv j hj]; have := h.le j; split
      · rename_i e; subst e; omega
      · exact this
    · show vat v j ≤ vat (vset _ _ _) j
      rw [vat_big _ (by omega), vat_big _ (by omega)]; omega
  · rw [hv j hj] at h2
    split at h2
    · rename_i e
      subst e
      rcases Int.lt_or_le (vat g.v rep.toNat) m with h3 | h3
      · have : m = vat g.v rep.toNat + 1 := by omega
        subst this
        rw [toNat_cast h0]; exact hin.1
      · exact h.inn _ hj m h1 h3
    · exact h.inn _ hj m h1 h2
  · show d ∈ (mdel (⟨rep, vat g.v rep.toNat + 1⟩ : Dot) g.l).map (·.1) ↔ _
    rw [mdel_keys hh.ok.nd, h.mem]
    constructor
    · rintro ⟨⟨h1, h2⟩, h3⟩
      refine ⟨h1, ?_⟩
      have hdb := (h.dl d h1)
      have hds := dotB_spec hdb.2
      rw [hv _ (by omega)]
      split
      · rename_i e
        have er : d.rep = rep := toNat_inj hdb.1.1.1 h0 e
        rw [e] at h2
        rcases Int.lt_or_le (vat g.v rep.toNat + 1) d.seq with h4 | h4
        · exact h4
        · exact absurd (dot_ext er (by show d.seq = vat g.v rep.toNat + 1; omega)) h3
      · exact h2
    · rintro ⟨h1, h2⟩
      have hdb := (h.dl d h1)
      have hds := dotB_spec hdb.2
      rw [hv _ (by omega)] at h2
      refine ⟨⟨h1, ?_⟩, fun e => ?_⟩
      · split at h2
        · rename_i e; rw [e]; omega
        · exact h2
      · subst e
        dsimp only at h2
        rw [if_pos rfl] at h2
        omega
theorem hrel_settle {rep : Int} (h0 : 0 ≤ rep) (h1 : rep < 16) : ∀ (f : Nat) (g : Grp), GHalf rep g → HRel g v l → HRel (settleGo rep f g) v l
  | 0, _, _, h => h
  | f + 1, g, hh, h => by
    unfold settleGo
    split
    · rename_i hm; exact hrel_settle h0 h1 f _ (half_step h0 hh hm) (hrel_step h0 h1 hh h hm)
    · exact h
theorem RelD.addE (h : RelD g v l) {d : Dot} (hd : DotOk d) : gAddE g d = Vx.addE v l d := by
  unfold gAddE Vx.addE nextE
  rw [h.cloV, ← h.has hd]
  cases hb : dotB d with
  | false => simp
  | true =>
    have hv := h.inv.ok.v.at d.rep.toNat
    have hds := dotB_spec hb
    simp only [Bool.true_eq_false, if_false]
    cases hB : hasB g.v d with
    | true => simp [gHas, hB]
    | false =>
      simp only [Bool.false_eq_true, if_false]
      by_cases hs : d.seq = (vat g.v d.rep.toNat + 1) % 4294967296
      · have hk : gHas g d = false := by
          unfold gHas
          rw [hB, Bool.or_false, mget_iff, decide_eq_false_iff_not]
          intro hk
          have := h.inv.far d hk
          omega
        rw [if_pos hs, hk]
        simp
        omega
      · rw [if_neg hs]; simp
theorem RelD.add (h : RelD g v l) {d : Dot} (hd : DotOk d) : RelD (gAddG g d) v (addL v l d) := by
  have hG := add_grows h.inv hd
  by_cases he : gAddE g d = 0
  · have hL : addL v l d = l ++ [d] := by unfold addL; rw [if_pos (by rw [← h.addE hd]; exact he)]
    have hb : dotB d = true := by
      cases hb : dotB d with
      | true => rfl
      | false => simp [gAddE, nextE, hb] at he
    have hbs := dotB_spec hb
    have hdl : Dots (l ++ [d]) := fun x hx => by
      rcases List.mem_append.1 hx with hx | hx
      · exact h.dl x hx
      · simp at hx; subst hx; exact ⟨hd, hb⟩
    have hnh : gHas g d = false := by
      rw [h.has hd]
      have := h.addE hd
      rw [he] at this
      unfold Vx.addE at this
      rw [if_neg (by simp [hb])] at this
      cases hh : hasG v l d with
      | false => rfl
      | true => rw [hh] at this; simp at this
    have hnb : hasB g.v d = false := by unfold gHas at hnh; rw [Bool.or_eq_false_iff] at hnh; exact hnh.2
    have hgt : vat g.v d.rep.toNat < d.seq := by
      unfold hasB at hnb; rw [hb] at hnb; simpa using hnb
    have h2 : ¬ nextE g.v d = 2 := by intro e; rw [(gAdd_2 e).1] at he; omega
    have h8 : ¬ nextE g.v d = 8 := by intro e; rw [(gAdd_8 e).1] at he; omega
    refine { toHRel := ?_, inv := hG.inv }
    rw [hL]
    by_cases h9 : nextE g.v d = 9
    · by_cases hf : vat g.v d.rep.toNat + 256 < d.seq
      · rw [(gAdd_f h9 hnh hf).1] at he; omega
      · rw [(gAdd_i h9 hnh hf).2]
        refine ⟨h.vv, hdl, h.le, fun j hj m h1 h3 => List.mem_append_left _ (h.inn j hj m h1 h3), fun x => ?_⟩
        show x ∈ (mput d () g.l).map (·.1) ↔ _
        have hnk : d ∉ g.l.map (·.1) := by
          unfold gHas at hnh; rw [Bool.or_eq_false_iff, mget_iff] at hnh; exact of_decide_eq_false hnh.1
        rw [mput_keys, if_neg hnk, List.mem_append, List.mem_append, h.mem]
        constructor
        · rintro (⟨h1, h3⟩ | hx)
          · exact ⟨.inl h1, h3⟩
          · have : x = d := by simpa using hx
            subst this; exact ⟨.inr hx, hgt⟩
        · rintro ⟨h1 | h1, h3⟩
          · exact .inl ⟨h1, h3⟩
          · exact .inr h1
    · obtain ⟨_, hhas, hseq⟩ := nextE_0 h2 h8 h9
      have hv := h.inv.ok.v.at d.rep.toNat
      have hnv : nextV g.v d = vset g.v d.rep.toNat (vat g.v d.rep.toNat + 1) := by
        unfold nextV; rw [if_neg (by simp [hb]), if_neg (by simp [hhas]), if_pos hseq]
      have hse : d.seq = vat g.v d.rep.toNat + 1 := by omega
      have hva : ∀ j, j < 16 → vat (nextV g.v d) j = if j = d.rep.toNat then vat g.v d.rep.toNat + 1 else vat g.v j := fun j hj => by rw [hnv]; exact vat_vset _ _ _ _ hj
      have hhalf : GHalf d.rep ⟨nextV g.v d, g.l⟩ := by
        refine ⟨next_ok h.inv.ok h2 h8 h9, fun x hx => ?_, fun x hx hne => ?_⟩
        · have hxo := h.inv.ok.l x hx
          have hf := h.inv.far x hx
          have hxb := dotB_spec hxo.2
          show vat (nextV g.v d) x.rep.toNat < x.seq
          rw [hva _ (by omega)]
          split
          · rename_i e; rw [e] at hf; omega
          · omega
        · have hxo := h.inv.ok.l x hx
          have hf := h.inv.far x hx
          have hr := hxo.1.1
          have hxb := dotB_spec hxo.2
          show vat (nextV g.v d) x.rep.toNat + 1 < x.seq
          rw [hva _ (by omega), if_neg (fun e => hne (toNat_inj hr.1 hd.1.1 e))]
          exact hf
      rw [(gAdd_0 h2 h8 h9).2]
      refine hrel_settle hd.1.1 hbs.1 _ _ hhalf ⟨h.vv, hdl, fun j => ?_, fun j hj m h1 h3 => ?_, fun x => ?_⟩
      · by_cases hj : j < 16
        · show vat v j ≤ vat (nextV g.v d) j
          rw [hva j hj]; have := h.le j; split
          · rename_i e; subst e; omega
          · exact this
        · show vat v j ≤ vat (nextV g.v d) j
          rw [vat_big _ (by omega), vat_big _ (by omega)]; omega
      · have h3' : m ≤ vat (nextV g.v d) j := h3
        rw [hva j hj] at h3'
        split at h3'
        · rename_i e
          subst e
          rcases Int.lt_or_le (vat g.v d.rep.toNat) m with h4 | h4
          · have : m = d.seq := by omega
            subst this
            rw [toNat_cast hd.1.1]
            exact List.mem_append_right _ (by simp)
          · exact List.mem_append_left _ (h.inn _ hj m h1 h4)
        · exact List.mem_append_left _ (h.inn _ hj m h1 h3')
      · show x ∈ g.l.map (·.1) ↔ x ∈ l ++ [d] ∧ vat (nextV g.v d) x.rep.toNat < x.seq
        constructor
        · intro hx
          exact ⟨List.mem_append_left _ ((h.mem x).1 hx).1, hhalf.near x hx⟩
        · rintro ⟨h1, h3⟩
          have hxo := hdl x h1
          have hxb := dotB_spec hxo.2
          rw [hva _ (by have := hxo.1.1; omega)] at h3
          rcases List.mem_append.1 h1 with h1 | h1
          · refine (h.mem x).2 ⟨h1, ?_⟩
            split at h3
            · rename_i e; rw [e]; omega
            · exact h3
          · have : x = d := by simpa using h1
            subst this
            rw [if_pos rfl] at h3
            omega
  · have hL : addL v l d = l := by unfold addL; rw [if_neg (by rw [← h.addE hd]; exact he)]
    rw [hL, hG.same he]; exact h
end
theorem RelD.same {g1 g2 : Grp} {v : Vec} {l1 l2 : List Dot} (h1 : RelD g1 v l1) (h2 : RelD g2 v l2) (hm : ∀ x, x ∈ l1 ↔ x ∈ l2) : g1.v = g2.v ∧ looseL g1 = looseL g2 ∧ missL g1 = missL g2 := by
  have hv : g1.v = g2.v := vec_ext fun j hj => by
    rw [← h1.cloAt hj]
    have := h2.clo hj
    exact cloAt_is h1.dl ⟨this.le, fun m a b => (hm _).2 (this.inn m a b), fun h => this.out ((hm _).1 h)⟩
  have hl : looseL g1 = looseL g2 := rising_eq (looseL_rising h1.inv.ok) (looseL_rising h2.inv.ok) fun x => by
    rw [looseL_mem, looseL_mem, h1.mem, h2.mem, hv, hm]
  refine ⟨hv, hl, ?_⟩
  unfold missL
  rw [hv, hl]
end Go.Vx
namespace Go.Vx
open Go.RowKit in
theorem L_callPV {P : Program} {ty : TypeId} {e : Operand → Value} {w : World} {K : Value → World → Prop} {w0 : World} {M : Nat → Prop} {L : List Res} {f : FuncId} {xs : List Operand} {vs : List Value} {ats : Array TypeId} {V V' : Value} (hV : V = V') (hf : En P f) (hef : e (.func f) = .func (.func f) #[] #[]) (hv : xs.map e = vs)
    (hc : Calls P f vs.toArray w fun r w' => r = .returned V ∧ Own w no w' []) (hs : Own w0 M w L) (h : ∀ w', Own w0 M w' L → K V' w') :
    opW P (.call { callee := .value (.func f), args := xs.toArray, argTypes := ats }) ty e w K := by
  subst hV; exact L_callP hf hef hv hc hs h
end Go.Vx
namespace Go.Vx
instance : DecidableEq Opn := fun a b => decidable_of_iff (a.dot = b.dot ∧ a.kind = b.kind ∧ a.cart = b.cart ∧ a.item = b.item ∧ a.qty = b.qty ∧ a.tick = b.tick ∧ a.ctx = b.ctx) (by cases a; cases b; simp)
instance : Inhabited Opn := ⟨⟨⟨0, 0⟩, 0, 0, 0, 0, 0, vzero⟩⟩
theorem oc_one (o : Opn) : ∀ x ∈ oc o, x.oneCell' = true := by
  intro x hx
  simp only [oc, List.mem_cons, List.not_mem_nil, or_false] at hx
  rcases hx with h | h | h | h | h | h | h | h | h | h | h | h | h | h | h | h | h | h | h | h | h | h | h <;> subst h <;> rfl
theorem dec_opn (a b : Opn) : (decide (a.dot = b.dot) && (decide (a.kind = b.kind) && (decide (a.cart = b.cart) && (decide (a.item = b.item) && (decide (a.qty = b.qty) && (decide (a.tick = b.tick) && (decide (a.ctx = b.ctx) && true))))))) = decide (a = b) := by
  cases a; cases b; simp
def OpnOk (o : Opn) : Prop := DotOk o.dot ∧ (0 ≤ o.kind ∧ o.kind < 256) ∧ (0 ≤ o.cart ∧ o.cart < 65536) ∧ (0 ≤ o.item ∧ o.item < 65536) ∧ (0 ≤ o.qty ∧ o.qty < 65536) ∧ (0 ≤ o.tick ∧ o.tick < 4294967296) ∧ VecOk o.ctx
def laysB (o : Opn) : Bool := decide (o.kind = 1) || decide (o.kind = 2) || decide (o.kind = 4)
def cntO (o : Opn) : Int := vsum o.ctx + 1
def lessB (a b : Opn) : Bool := decide (orI [cmpI (cntO a) (cntO b), cmpI a.dot.rep b.dot.rep, cmpI a.dot.seq b.dot.seq] < 0)
def endsB (o e : Opn) : Bool := laysB e && decide (o.cart = e.cart) && hasB o.ctx e.dot && (decide (o.kind = 5) || ((decide (o.kind = 3) || decide (o.kind = 2)) && (!decide (e.kind = 4) && decide (o.item = e.item))))
def liveB (l : List Opn) (o : Opn) : Bool := laysB o && !(l.any fun x => endsB x o)
structure Tal where
  sum : Int
  set : Opn
  has : Bool
def tz : Tal := ⟨0, ⟨⟨0, 0⟩, 0, 0, 0, 0, 0, vzero⟩, false⟩
instance : Inhabited Tal := ⟨tz⟩
def takeT (t : Tal) (o : Opn) : Tal := if o.kind = 1 then { t with sum := (t.sum + o.qty) % 4294967296 } else if (!t.has || lessB t.set o) = true then { t with set := o, has := true } else t
structure VSt where
  tick : Int
  out : Bool
  items : List (Int × Tal)
def vstep (L : List Opn) (cart : Int) (s : VSt) (o : Opn) : VSt :=
  if o.cart = cart then (if liveB L o = true then (if o.kind = 4 then ⟨max s.tick o.tick, true, s.items⟩ else ⟨max s.tick o.tick, s.out, mput o.item (takeT ((mget o.item s.items).getD tz) o) s.items⟩) else ⟨max s.tick o.tick, s.out, s.items⟩) else s
structure Line where
  item : Int
  qty : Int
  deriving DecidableEq
instance : Inhabited Line := ⟨⟨0, 0⟩⟩
def lc (x : Line) : List Value := [.int .u16 x.item, .int .u32 x.qty]
structure Vw where
  cart : Int
  lines : List Line
  out : Bool
  tick : Int
end Go.Vx
namespace Go.Vx
open Go.RowKit
theorem nat_i64 {x : Int} {n : Nat} (h : x = (n : Int)) (hb : n ≤ 9223372036854775807) : IntKind.i64.wrap x = (n : Int) := by subst h; exact wr_i64 (by omega) (by omega)
end Go.Vx
namespace Go.Vx
open Go.RowKit
def nth {α : Type} (z : α) : List α → Nat → α
  | [], _ => z
  | a :: _, 0 => a
  | _ :: l, i + 1 => nth z l i
theorem nth_eq {α : Type} (z : α) (l : List α) (i : Nat) : nth z l i = (l[i]?).getD z := by
  induction l generalizing i with
  | nil => simp [nth]
  | cons a l ih => cases i <;> simp [nth, ih]
def restr (r : List Nat) (ρ : Env) : Env := fun t => cond (r.any (Nat.beq t)) (ρ t) undef
abbrev Vals := List (Bool × (Env → Value))
def valR (rs : List (List Nat)) (vs : Vals) (ρ : Env) (j : Nat) : Value := cond (nth (true, fun _ => undef) vs j).1 ((nth (true, fun _ => undef) vs j).2 (restr (nth [] rs j) ρ)) undef
def hitR (ks : List (Option Nat)) (t j : Nat) : Bool := match nth none ks j with | some d => Nat.beq d t | none => false
def ceR (ks : List (Option Nat)) (rs : List (List Nat)) (vs : Vals) (yes no : List Nat) (ρ0 ρ : Env) : Env := fun t =>
  match yes with
  | [] => cond (no.any (hitR ks t) || !(ks.any fun k => match k with | some d => Nat.beq d t | none => false)) (ρ0 t) (ρ t)
  | j :: js => cond (hitR ks t j) (valR rs vs ρ j) (ceR ks rs vs js no ρ0 ρ t)
def cD (yes no : List Nat) (D : Nat → Bool) : Nat → Bool := fun j => cond (yes.any (Nat.beq j)) true (cond (no.any (Nat.beq j)) false (D j))
def maskOk (ms : List Nat) (o : Oper) (i : Nat) : Bool := Nat.beq (nth 0 ms i) ((deps o).foldl (fun m k => m ||| (1 <<< k) ||| nth 0 ms k) 0)
def ndk : List (Option Nat) → Bool
  | [] => true
  | none :: l => ndk l
  | some d :: l => !(l.any fun k => match k with | some e => Nat.beq e d | none => false) && ndk l
def slotIn (ks : List (Option Nat)) (m : Nat) (t : Nat) : Nat → Bool
  | 0 => false
  | k + 1 => (hitR ks t k && m.testBit k) || slotIn ks m t k
def guardOk (n : Nat) (ks : List (Option Nat)) (ms : List Nat) (o : Oper) (i : Nat) : Bool := match o.guard with | none => true | some (j, _) => (nth 0 ms i).testBit j && match nth none ks j with | some d => Nat.blt d n | none => false
def chkAt (n : Nat) (ks : List (Option Nat)) (rs : List (List Nat)) (ms : List Nat) (o : Oper) (i : Nat) : Bool := maskOk ms o i && guardOk n ks ms o i && (nth [] rs i).all fun t => slotIn ks (nth 0 ms i ||| (1 <<< i)) t ks.length
def optEq : Option Nat → Option Nat → Bool
  | none, none => true
  | some a, some b => Nat.beq a b
  | _, _ => false
def chkAll (n : Nat) (ks : List (Option Nat)) (rs : List (List Nat)) (ms : List Nat) : List Oper → List (Option Nat) → Nat → Bool
  | [], [], _ => true
  | o :: l, k :: m, i => optEq o.dst k && chkAt n ks rs ms o i && chkAll n ks rs ms l m (i + 1)
  | _, _, _ => false
def regOk (n : Nat) (ks : List (Option Nat)) (rs : List (List Nat)) (ms : List Nat) (l : List Oper) : Bool := rising l && ndk ks && chkAll n ks rs ms l ks 0
def okYN (ms : List Nat) (i : Nat) (yes no : List Nat) : Bool := yes.all (fun j => (nth 0 ms i).testBit j) && no.all fun j => (nth 0 ms j).testBit i
theorem optEq_eq {a b : Option Nat} (h : optEq a b = true) : a = b := by
  cases a <;> cases b <;> simp [optEq] at h ⊢
  exact h
section
variable {n : Nat} {ks : List (Option Nat)} {rs : List (List Nat)} {ms : List Nat} {l : List Oper}
theorem chkAll_at : ∀ (m : List Oper) (k : List (Option Nat)) (i : Nat), chkAll n ks rs ms m k i = true → ∀ j o, m[j]? = some o → k[j]? = some o.dst ∧ chkAt n ks rs ms o (i + j) = true
  | [], _, _, _, j, o, h => by simp at h
  | a :: m, [], _, h, _, _, _ => by simp [chkAll] at h
  | a :: m, b :: k, i, h, j, o, hj => by
    simp only [chkAll, Bool.and_eq_true] at h
    cases j with
    | zero =>
      simp at hj; subst hj
      have := optEq_eq h.1.1; subst this
      exact ⟨by simp, by simpa using h.1.2⟩
    | succ j =>
      have := chkAll_at m k (i + 1) h.2 j o (by simpa using hj)
      exact ⟨by simpa using this.1, by rw [show i + (j + 1) = i + 1 + j by omega]; exact this.2⟩
theorem chkAll_len : ∀ (m : List Oper) (k : List (Option Nat)) (i : Nat), chkAll n ks rs ms m k i = true → m.length = k.length
  | [], [], _, _ => rfl
  | [], _ :: _, _, h => by simp [chkAll] at h
  | _ :: _, [], _, h => by simp [chkAll] at h
  | a :: m, b :: k, i, h => by
    simp only [chkAll, Bool.and_eq_true] at h
    simp [chkAll_len m k (i + 1) h.2]
structure RegF (n : Nat) (ks : List (Option Nat)) (rs : List (List Nat)) (ms : List Nat) (l : List Oper) : Prop where
  rise : rising l = true
  nd : ndk ks = true
  len : l.length = ks.length
  at_ : ∀ j o, l[j]? = some o → ks[j]? = some o.dst ∧ chkAt n ks rs ms o j = true
theorem regF (h : regOk n ks rs ms l = true) : RegF n ks rs ms l := by
  simp only [regOk, Bool.and_eq_true] at h
  refine ⟨h.1.1, h.1.2, chkAll_len _ _ _ h.2, fun j o hj => ?_⟩
  have := chkAll_at l ks 0 h.2 j o hj
  rw [Nat.zero_add] at this
  exact this
theorem testBit_or_pow (m k a j : Nat) (h : (m ||| (1 <<< k) ||| a).testBit j = true) : m.testBit j = true ∨ j = k ∨ a.testBit j = true := by
  rw [Nat.testBit_or, Nat.testBit_or, Bool.or_eq_true, Bool.or_eq_true] at h
  rcases h with (h | h) | h
  · exact .inl h
  · right; left
    rw [Nat.shiftLeft_eq, Nat.one_mul, Nat.testBit_two_pow] at h
    exact (of_decide_eq_true h).symm
  · exact .inr (.inr h)
theorem fold_bits (ms : List Nat) (j : Nat) : ∀ (d : List Nat) (m : Nat), (d.foldl (fun m k => m ||| (1 <<< k) ||| nth 0 ms k) m).testBit j = true → m.testBit j = true ∨ ∃ k ∈ d, j = k ∨ (nth 0 ms k).testBit j = true
  | [], m, h => .inl h
  | k :: d, m, h => by
    rcases fold_bits ms j d _ h with h | ⟨x, hx, h⟩
    · rcases testBit_or_pow _ _ _ _ h with h | h | h
      · exact .inl h
      · exact .inr ⟨k, by simp, .inl h⟩
      · exact .inr ⟨k, by simp, .inr h⟩
    · exact .inr ⟨x, by simp [hx], h⟩
theorem RegF.done (H : RegF n ks rs ms l) {D : Nat → Bool} (hdc : ∀ j o', l[j]? = some o' → D j = true → ∀ k ∈ deps o', D k = true) : ∀ (i : Nat) (o : Oper), l[i]? = some o → (∀ k ∈ deps o, D k = true) → ∀ j, (nth 0 ms i).testBit j = true → D j = true := by
  intro i
  induction i using Nat.strongRecOn with
  | _ i ih =>
    intro o ho hd j hj
    have hc := (H.at_ i o ho).2
    simp only [chkAt, Bool.and_eq_true, maskOk] at hc
    rw [Nat.eq_of_beq_eq_true hc.1.1] at hj
    rcases fold_bits ms j _ _ hj with h | ⟨k, hk, h⟩
    · simp at h
    · rcases h with h | h
      · subst h; exact hd j hk
      · have hki := rising_lt H.rise ho hk
        have hkl : k < l.length := Nat.lt_trans hki (lt_of_get ho)
        exact ih k hki l[k] (List.getElem?_eq_getElem hkl) (hdc k l[k] (List.getElem?_eq_getElem hkl) (hd k hk)) j h
theorem RegF.before (H : RegF n ks rs ms l) {D : Nat → Bool} (hdc : ∀ j o', l[j]? = some o' → D j = true → ∀ k ∈ deps o', D k = true) {i j : Nat} (hi : D i = false) (hj : (nth 0 ms j).testBit i = true) (hjl : j < l.length) : D j = false := by
  cases h : D j with
  | false => rfl
  | true =>
    have := H.done hdc j l[j] (List.getElem?_eq_getElem hjl) (hdc j l[j] (List.getElem?_eq_getElem hjl) h) i hj
    rw [hi] at this; cases this
theorem ndk_at : ∀ {k : List (Option Nat)}, ndk k = true → ∀ (i j d : Nat), k[i]? = some (some d) → k[j]? = some (some d) → i = j
  | [], _, i, _, _, h, _ => by simp at h
  | none :: k, h, i, j, d, hi, hj => by
    cases i with
    | zero => simp at hi
    | succ i => cases j with
      | zero => simp at hj
      | succ j => rw [ndk_at (k := k) h i j d (by simpa using hi) (by simpa using hj)]
  | some e :: k, h, i, j, d, hi, hj => by
    simp only [ndk, Bool.and_eq_true, Bool.not_eq_true', List.any_eq_false] at h
    have no : ∀ m, k[m]? = some (some e) → False := fun m hm => by
      have := h.1 (some e) (List.mem_of_getElem? hm)
      simp at this
    cases i with
    | zero =>
      simp at hi; subst hi
      cases j with
      | zero => rfl
      | succ j => exact (no j (by simpa using hj)).elim
    | succ i => cases j with
      | zero => simp at hj; subst hj; exact (no i (by simpa using hi)).elim
      | succ j => rw [ndk_at (k := k) h.2 i j d (by simpa using hi) (by simpa using hj)]
theorem hit_iff {t j : Nat} : hitR ks t j = true ↔ ks[j]? = some (some t) := by
  unfold hitR
  rw [nth_eq]
  cases h : ks[j]? with
  | none => simp
  | some k => cases k <;> simp
theorem slotIn_iff {m t : Nat} : ∀ {n : Nat}, slotIn ks m t n = true → ∃ k, k < n ∧ ks[k]? = some (some t) ∧ m.testBit k = true
  | 0, h => by simp [slotIn] at h
  | n + 1, h => by
    simp only [slotIn, Bool.or_eq_true, Bool.and_eq_true] at h
    rcases h with h | h
    · exact ⟨n, by omega, hit_iff.1 h.1, h.2⟩
    · obtain ⟨k, h1, h2, h3⟩ := slotIn_iff h; exact ⟨k, by omega, h2, h3⟩
def KnR (ks : List (Option Nat)) (rs : List (List Nat)) (vs : Vals) (ρ0 : Env) (D : Nat → Bool) (ρ : Env) : Prop :=
  ∀ j d, ks[j]? = some (some d) → (D j = true → ρ d = valR rs vs ρ j) ∧ (D j = false → ρ d = ρ0 d)
theorem RegF.ds (H : RegF n ks rs ms l) {t : Nat} : (t ∈ dsts l) ↔ ∃ j : Nat, ks[j]? = some (some t) := by
  unfold dsts
  rw [List.mem_filterMap]
  constructor
  · rintro ⟨o, ho, hd⟩
    obtain ⟨j, hj⟩ := List.mem_iff_getElem?.1 ho
    exact ⟨j, by rw [(H.at_ j o hj).1, hd]⟩
  · rintro ⟨j, hj⟩
    have hjl : j < l.length := by rw [H.len]; exact lt_of_get hj
    have h1 := List.getElem?_eq_getElem hjl
    refine ⟨l[j], List.getElem_mem hjl, ?_⟩
    have := (H.at_ j _ h1).1
    rw [hj] at this; simpa using this.symm
theorem RegF.ref (H : RegF n ks rs ms l) {j t : Nat} (hj : j < l.length) (ht : t ∈ nth [] rs j) : ∃ k : Nat, ks[k]? = some (some t) ∧ (k = j ∨ (nth 0 ms j).testBit k = true) := by
  have hc := (H.at_ j l[j] (List.getElem?_eq_getElem hj)).2
  simp only [chkAt, Bool.and_eq_true, List.all_eq_true] at hc
  obtain ⟨k, _, h2, h3⟩ := slotIn_iff (hc.2 t ht)
  refine ⟨k, h2, ?_⟩
  rw [Nat.testBit_or, Bool.or_eq_true, Nat.shiftLeft_eq, Nat.one_mul, Nat.testBit_two_pow] at h3
  rcases h3 with h3 | h3
  · exact .inr h3
  · exact .inl (of_decide_eq_true h3).symm
theorem restr_congr {r : List Nat} {ρ ρ' : Env} (h : ∀ t ∈ r, ρ t = ρ' t) : restr r ρ = restr r ρ' := by
  funext t
  unfold restr
  cases hb : r.any (Nat.beq t) with
  | false => rfl
  | true =>
    rw [List.any_eq_true] at hb
    obtain ⟨x, hx, he⟩ := hb
    rw [Nat.eq_of_beq_eq_true he]
    exact h x hx
theorem RegF.step (H : RegF n ks rs ms l) {vs : Vals} {ρ0 ρ : Env} {D : Nat → Bool} (hdc : ∀ j o', l[j]? = some o' → D j = true → ∀ k ∈ deps o', D k = true) {i : Nat} {o : Oper} (ho : l[i]? = some o) (hd : ∀ k ∈ deps o, D k = true) (hD : D i = false) (hK : KnR ks rs vs ρ0 D ρ) {v : Value}
    (hv : ∀ d, o.dst = some d → v = valR rs vs (updO ρ o.dst v) i) : KnR ks rs vs ρ0 (mark D i) (updO ρ o.dst v) := by
  intro j e hj
  have hki := (H.at_ i o ho).1
  have hjl : j < l.length := by rw [H.len]; exact lt_of_get hj
  by_cases hij : j = i
  · subst hij
    rw [hj] at hki
    have hde : o.dst = some e := by simpa using hki.symm
    refine ⟨fun _ => ?_, fun h => ?_⟩
    · rw [← hv e hde, hde]
      show upd ρ e v e = v
      rw [upd_eq, if_pos rfl]
    · unfold mark at h; simp at h
  · have hne : ∀ t, o.dst = some t → e ≠ t := fun t ht he => by
      subst he
      rw [ht] at hki
      exact hij (ndk_at H.nd j i e hj hki)
    have e1 : updO ρ o.dst v e = ρ e := by
      cases hdd : o.dst with
      | none => rfl
      | some t =>
        show upd ρ t v e = ρ e
        rw [upd_eq, if_neg (hne t hdd)]
    have hm : mark D i j = D j := by unfold mark; rw [beq_eq]; simp [hij]
    rw [hm, e1]
    refine ⟨fun h => ?_, (hK j e hj).2⟩
    rw [(hK j e hj).1 h]
    unfold valR
    rw [show restr (nth [] rs j) ρ = restr (nth [] rs j) (updO ρ o.dst v) from restr_congr fun t ht => ?_]
    obtain ⟨k, h1, h2⟩ := H.ref hjl ht
    have hk : D k = true := by
      rcases h2 with h2 | h2
      · subst h2; exact h
      · exact H.done hdc j l[j] (List.getElem?_eq_getElem hjl) (hdc j l[j] (List.getElem?_eq_getElem hjl) h) k h2
    cases hdd : o.dst with
    | none => rfl
    | some x =>
      show ρ t = upd ρ x v t
      rw [upd_eq, if_neg]
      intro he
      subst he
      rw [hdd] at hki
      have := ndk_at H.nd k i t h1 hki
      subst this
      rw [hD] at hk; cases hk
theorem RegF.ce (H : RegF n ks rs ms l) {vs : Vals} {ρ0 ρ : Env} {D : Nat → Bool} (hK : KnR ks rs vs ρ0 D ρ) (hf : ∀ t, t ∉ dsts l → ρ t = ρ0 t) {no : List Nat} (hno : ∀ j ∈ no, D j = false) : ∀ {yes : List Nat}, (∀ j ∈ yes, D j = true) → ceR ks rs vs yes no ρ0 ρ = ρ
  | [], _ => by
    funext t
    unfold ceR
    cases hb : (no.any (hitR ks t) || !(ks.any fun k => match k with | some d => Nat.beq d t | none => false)) with
    | false => rfl
    | true =>
      rw [Bool.or_eq_true] at hb
      rcases hb with hb | hb
      · rw [List.any_eq_true] at hb
        obtain ⟨j, hj, h⟩ := hb
        exact ((hK j t (hit_iff.1 h)).2 (hno j hj)).symm
      · refine (hf t fun hm => ?_).symm
        obtain ⟨j, hj⟩ := H.ds.1 hm
        rw [Bool.not_eq_true', List.any_eq_false] at hb
        have := hb (some t) (List.mem_of_getElem? hj)
        simp at this
  | j :: js, hy => by
    funext t
    rw [ceR]
    have ih := H.ce (yes := js) hK hf hno (fun k hk => hy k (by simp [hk]))
    cases hb : hitR ks t j with
    | false => rw [cond_false, ih]
    | true => rw [cond_true, (hK j t (hit_iff.1 hb)).1 (hy j (by simp))]
theorem cD_eq {D : Nat → Bool} {yes no : List Nat} (hy : ∀ j ∈ yes, D j = true) (hn : ∀ j ∈ no, D j = false) : cD yes no D = D := by
  funext j
  unfold cD
  cases hb : yes.any (Nat.beq j) with
  | true =>
    rw [List.any_eq_true] at hb
    obtain ⟨x, hx, he⟩ := hb
    rw [Nat.eq_of_beq_eq_true he]; exact (hy x hx).symm
  | false =>
    rw [cond_false]
    cases hc : no.any (Nat.beq j) with
    | true =>
      rw [List.any_eq_true] at hc
      obtain ⟨x, hx, he⟩ := hc
      rw [Nat.eq_of_beq_eq_true he]; exact (hn x hx).symm
    | false => rfl
end
section
variable {κ : Cx} {P : Program} {n : Nat} {N R : St} {X : Nat → St} {ρ : Env} {w : World}
def vOk (rs : List (List Nat)) (vs : Vals) (i : Nat) (ρ : Env) (v : Value) : Option Nat → Prop
  | none => True
  | some d => v = (nth (true, fun _ => undef) vs i).2 (restr (nth [] rs i) (upd ρ d v))
def ceG (ks : List (Option Nat)) (rs : List (List Nat)) (vs : Vals) (ρ : Env) (env : Env) : List Nat → Env
  | [] => env
  | j :: js => fun t => cond (hitR ks t j) ((nth (true, fun _ => undef) vs j).2 (restr (nth [] rs j) ρ)) (ceG ks rs vs ρ env js t)
def gyOk (vs : Vals) : List Nat → Prop
  | [] => True
  | j :: js => (nth (true, fun _ => undef) vs j).1 = true ∧ gyOk vs js
abbrev LfT := (Nat → Bool) → Env → List Res
def Ob (P : Program) (n : Nat) (w0 : World) (M : Nat → Prop) (ρ0 : Env) (ks : List (Option Nat)) (rs : List (List Nat)) (ms : List Nat) (vs : Vals) (Lf : LfT) (i : Nat) (o : Oper) : Prop :=
  ∃ yes no : List Nat, okYN ms i yes no = true ∧
    match o.guard with
    | none => (nth (true, fun _ => undef) vs i).1 = true ∧ ∀ D ρ w, Own w0 M w (Lf (cD yes (i :: no) D) ρ) →
        opW P o.op o.type (ev n (ceR ks rs vs yes (i :: no) ρ0 ρ)) w fun v w' => vOk rs vs i ρ v o.dst ∧ Own w0 M w' (Lf (mark (cD yes (i :: no) D) i) (updO ρ o.dst v))
    | some (j, want) => ∃ (T : Bool) (gy : List Nat), okYN ms i gy [] = true ∧ (∀ ρ, (nth (true, fun _ => undef) vs j).2 ρ = .bool T) ∧ (nth (true, fun _ => undef) vs i).1 = ((nth (true, fun _ => undef) vs j).1 && (T == want)) ∧
        (∀ D ρ w, (nth (true, fun _ => undef) vs i).1 = false → Own w0 M w (Lf (cD yes (i :: no) D) ρ) → Own w0 M w (Lf (mark (cD yes (i :: no) D) i) (updO ρ o.dst undef))) ∧
        ((nth (true, fun _ => undef) vs i).1 = true → gyOk vs gy) ∧
        ∀ D ρ w, (nth (true, fun _ => undef) vs i).1 = true → Own w0 M w (Lf (cD yes (i :: no) D) ρ) →
          opW P o.op o.type (ev n (ceG ks rs vs ρ (ceR ks rs vs yes (i :: no) ρ0 ρ) gy)) w fun v w' => vOk rs vs i ρ v o.dst ∧ Own w0 M w' (Lf (mark (cD yes (i :: no) D) i) (updO ρ o.dst v))
def Obs (P : Program) (n : Nat) (w0 : World) (M : Nat → Prop) (ρ0 : Env) (ks : List (Option Nat)) (rs : List (List Nat)) (ms : List Nat) (vs : Vals) (Lf : LfT) : Nat → List Oper → Prop
  | _, [] => True
  | i, o :: l => Ob P n w0 M ρ0 ks rs ms vs Lf i o ∧ Obs P n w0 M ρ0 ks rs ms vs Lf (i + 1) l
variable {w0 : World} {M : Nat → Prop} {ρ0 : Env} {ks : List (Option Nat)} {rs : List (List Nat)} {ms : List Nat} {vs : Vals} {Lf : LfT}
theorem obs_at : ∀ (m : List Oper) (k : Nat), Obs P n w0 M ρ0 ks rs ms vs Lf k m → ∀ j o, m[j]? = some o → Ob P n w0 M ρ0 ks rs ms vs Lf (k + j) o
  | [], _, _, _, _, h => by simp at h
  | o :: m, k, h, j, o', hj => by
    cases j with
    | zero => simp at hj; subst hj; exact h.1
    | succ j =>
      have := obs_at m (k + 1) h.2 j o' (by simpa using hj)
      rw [show k + (j + 1) = k + 1 + j by omega]
      exact this
theorem ob {i : Nat} {dst : Option Tmp} {op : Op} {ty : TypeId} {pos : String} {after : Array Edge} (yes no : List Nat) (hyn : okYN ms i yes no = true) (hg : (nth (true, fun _ => undef) vs i).1 = true)
    (h : ∀ D ρ w, Own w0 M w (Lf (cD yes (i :: no) D) ρ) → opW P op ty (ev n (ceR ks rs vs yes (i :: no) ρ0 ρ)) w fun v w' => vOk rs vs i ρ v dst ∧ Own w0 M w' (Lf (mark (cD yes (i :: no) D) i) (updO ρ dst v))) :
    Ob P n w0 M ρ0 ks rs ms vs Lf i { dst, op, type := ty, pos, after, guard := none } := ⟨yes, no, hyn, hg, h⟩
theorem obgy {i : Nat} {dst : Option Tmp} {op : Op} {ty : TypeId} {pos : String} {after : Array Edge} {j : Nat} {want : Bool} (yes no gy : List Nat) (T : Bool) (hyn : (okYN ms i yes no && okYN ms i gy []) = true) (hT : ∀ ρ, (nth (true, fun _ => undef) vs j).2 ρ = .bool T)
    (hg : (nth (true, fun _ => undef) vs i).1 = ((nth (true, fun _ => undef) vs j).1 && (T == want)))
    (hn : ∀ D ρ w, (nth (true, fun _ => undef) vs i).1 = false → Own w0 M w (Lf (cD yes (i :: no) D) ρ) → Own w0 M w (Lf (mark (cD yes (i :: no) D) i) (updO ρ dst undef)))
    (hgy : (nth (true, fun _ => undef) vs i).1 = true → gyOk vs gy)
    (h : ∀ D ρ w, (nth (true, fun _ => undef) vs i).1 = true → Own w0 M w (Lf (cD yes (i :: no) D) ρ) → opW P op ty (ev n (ceG ks rs vs ρ (ceR ks rs vs yes (i :: no) ρ0 ρ) gy)) w fun v w' => vOk rs vs i ρ v dst ∧ Own w0 M w' (Lf (mark (cD yes (i :: no) D) i) (updO ρ dst v))) :
    Ob P n w0 M ρ0 ks rs ms vs Lf i { dst, op, type := ty, pos, after, guard := some (j, want) } := by
  rw [Bool.and_eq_true] at hyn
  exact ⟨yes, no, hyn.1, T, gy, hyn.2, hT, hg, hn, hgy, h⟩
theorem obg {i : Nat} {dst : Option Tmp} {op : Op} {ty : TypeId} {pos : String} {after : Array Edge} {j : Nat} {want : Bool} (yes no : List Nat) (T : Bool) (hyn : okYN ms i yes no = true) (hT : ∀ ρ, (nth (true, fun _ => undef) vs j).2 ρ = .bool T)
    (hg : (nth (true, fun _ => undef) vs i).1 = ((nth (true, fun _ => undef) vs j).1 && (T == want)))
    (hn : ∀ D ρ w, (nth (true, fun _ => undef) vs i).1 = false → Own w0 M w (Lf (cD yes (i :: no) D) ρ) → Own w0 M w (Lf (mark (cD yes (i :: no) D) i) (updO ρ dst undef)))
    (h : ∀ D ρ w, (nth (true, fun _ => undef) vs i).1 = true → Own w0 M w (Lf (cD yes (i :: no) D) ρ) → opW P op ty (ev n (ceR ks rs vs yes (i :: no) ρ0 ρ)) w fun v w' => vOk rs vs i ρ v dst ∧ Own w0 M w' (Lf (mark (cD yes (i :: no) D) i) (updO ρ dst v))) :
    Ob P n w0 M ρ0 ks rs ms vs Lf i { dst, op, type := ty, pos, after, guard := some (j, want) } := ⟨yes, no, hyn, T, [], rfl, hT, hg, hn, fun _ => trivial, h⟩
theorem oi {i : Nat} {dst : Option Tmp} {op : Op} {ty : TypeId} {pos : String} {after : Array Edge} (yes : List Nat)
    (h : ∀ {D ρ w}, Own w0 M w (Lf (cD yes [i] D) ρ) → opW P op ty (ev n (ceR ks rs vs yes [i] ρ0 ρ)) w fun v w' => vOk rs vs i ρ v dst ∧ Own w0 M w' (Lf (mark (cD yes [i] D) i) (updO ρ dst v)))
    (hyn : okYN ms i yes [] = true := by rfl) (hg : (nth (true, fun _ => undef) vs i).1 = true := by rfl) :
    Ob P n w0 M ρ0 ks rs ms vs Lf i { dst, op, type := ty, pos, after, guard := none } := ⟨yes, [], hyn, hg, fun _ _ _ => h⟩
theorem ogi {i : Nat} {dst : Option Tmp} {op : Op} {ty : TypeId} {pos : String} {after : Array Edge} {j : Nat} {want : Bool} {T : Bool} (yes : List Nat)
    (h : ∀ {D ρ w}, (nth (true, fun _ => undef) vs i).1 = true → Own w0 M w (Lf (cD yes [i] D) ρ) → opW P op ty (ev n (ceR ks rs vs yes [i] ρ0 ρ)) w fun v w' => vOk rs vs i ρ v dst ∧ Own w0 M w' (Lf (mark (cD yes [i] D) i) (updO ρ dst v)))
    (hT : ∀ ρ, (nth (true, fun _ => undef) vs j).2 ρ = .bool T := by intro _; rfl) (hyn : okYN ms i yes [] = true := by rfl)
    (hg : (nth (true, fun _ => undef) vs i).1 = ((nth (true, fun _ => undef) vs j).1 && (T == want)) := by rfl)
    (hn : ∀ D ρ w, (nth (true, fun _ => undef) vs i).1 = false → Own w0 M w (Lf (cD yes [i] D) ρ) → Own w0 M w (Lf (mark (cD yes [i] D) i) (updO ρ dst undef)) := by intro _ _ _ _ h; exact h) :
    Ob P n w0 M ρ0 ks rs ms vs Lf i { dst, op, type := ty, pos, after, guard := some (j, want) } := obg yes [] T hyn hT hg hn fun _ _ _ => h
theorem oyi {i : Nat} {dst : Option Tmp} {op : Op} {ty : TypeId} {pos : String} {after : Array Edge} {j : Nat} {want : Bool} {T : Bool} (yes gy : List Nat)
    (h : ∀ {D ρ w}, (nth (true, fun _ => undef) vs i).1 = true → Own w0 M w (Lf (cD yes [i] D) ρ) → opW P op ty (ev n (ceG ks rs vs ρ (ceR ks rs vs yes [i] ρ0 ρ) gy)) w fun v w' => vOk rs vs i ρ v dst ∧ Own w0 M w' (Lf (mark (cD yes [i] D) i) (updO ρ dst v)))
    (hT : ∀ ρ, (nth (true, fun _ => undef) vs j).2 ρ = .bool T := by intro _; rfl) (hyn : (okYN ms i yes [] && okYN ms i gy []) = true := by rfl)
    (hg : (nth (true, fun _ => undef) vs i).1 = ((nth (true, fun _ => undef) vs j).1 && (T == want)) := by rfl)
    (hn : ∀ D ρ w, (nth (true, fun _ => undef) vs i).1 = false → Own w0 M w (Lf (cD yes [i] D) ρ) → Own w0 M w (Lf (mark (cD yes [i] D) i) (updO ρ dst undef)) := by intro _ _ _ _ h; exact h)
    (hgy : (nth (true, fun _ => undef) vs i).1 = true → gyOk vs gy := by intro hG; first | exact ⟨hG, trivial⟩ | exact ⟨hG, hG, trivial⟩ | exact ⟨hG, hG, hG, trivial⟩ | exact ⟨hG, hG, hG, hG, trivial⟩) :
    Ob P n w0 M ρ0 ks rs ms vs Lf i { dst, op, type := ty, pos, after, guard := some (j, want) } := obgy yes [] gy T hyn hT hg hn hgy fun _ _ _ => h
def so (a n : Nat) : List (Option Nat) := (List.range' a n).map some
theorem Ow {w0 w : World} {M : Nat → Prop} (L : List Res) (h : Own w0 M w L) : Own w0 M w L := h
theorem Zr {w0 w : World} {M : Nat → Prop} {L : List Res} {v V : Value} (hs : Own w0 M w L) (h : v = V) : Ending.returned v = .returned V ∧ Own w0 M w [] := ⟨congrArg _ h, hs.take 0⟩
theorem Zz {p q : Prop} (h : p) (e : q := by exact rfl) : q ∧ p := ⟨e, h⟩
theorem RegF.ceg {l : List Oper} (H : RegF n ks rs ms l) {ρ : Env} {D : Nat → Bool} (hK : KnR ks rs vs ρ0 D ρ) : ∀ {gy : List Nat}, (∀ j ∈ gy, D j = true) → gyOk vs gy → ceG ks rs vs ρ ρ gy = ρ
  | [], _, _ => rfl
  | j :: js, hy, hg => by
    funext t
    show cond (hitR ks t j) ((nth (true, fun _ => undef) vs j).2 (restr (nth [] rs j) ρ)) (ceG ks rs vs ρ ρ js t) = ρ t
    cases hb : hitR ks t j with
    | false => rw [cond_false, H.ceg hK (fun k hk => hy k (by simp [hk])) hg.2]
    | true =>
      rw [cond_true, (hK j t (hit_iff.1 hb)).1 (hy j (by simp))]
      unfold valR
      rw [hg.1, cond_true]
def InvR (w0 : World) (M : Nat → Prop) (ρ0 : Env) (ks : List (Option Nat)) (rs : List (List Nat)) (vs : Vals) (Lf : LfT) (len : Nat) (D : Nat → Bool) : St := fun ρ w => KnR ks rs vs ρ0 (upto len D) ρ ∧ Own w0 M w (Lf (upto len D) ρ)
theorem okYN_y {i : Nat} {yes no : List Nat} (h : okYN ms i yes no = true) : (∀ j ∈ yes, (nth 0 ms i).testBit j = true) ∧ ∀ j ∈ no, (nth 0 ms j).testBit i = true := by
  simp only [okYN, Bool.and_eq_true, List.all_eq_true] at h
  exact h
theorem any_of_ob {l : List Oper} (H : RegF n ks rs ms l) {i : Nat} {o : Oper} (ho : l[i]? = some o) (h : Ob P n w0 M ρ0 ks rs ms vs Lf i o) : AnyStep P n l ρ0 (InvR w0 M ρ0 ks rs vs Lf l.length) i o := by
  intro D0 ρ w hD0 hd0 hdc0 hf hI
  have hil := lt_of_get ho
  obtain ⟨hK, hO⟩ := hI
  have hup : ∀ j, j < l.length → upto l.length D0 j = D0 j := fun j hj => by unfold upto; rw [blt_eq]; simp [hj]
  have hD : upto l.length D0 i = false := by rw [hup i hil]; exact hD0
  have hd : ∀ k ∈ deps o, upto l.length D0 k = true := fun k hk => by rw [hup k (Nat.lt_trans (rising_lt H.rise ho hk) hil)]; exact hd0 k hk
  have hdc : ∀ j o', l[j]? = some o' → upto l.length D0 j = true → ∀ k ∈ deps o', upto l.length D0 k = true := fun j o' hj hDj k hk => by
    have hjl := lt_of_get hj
    rw [hup j hjl] at hDj
    rw [hup k (Nat.lt_trans (rising_lt H.rise hj hk) hjl)]
    exact hdc0 j o' hj hDj k hk
  have hmk : upto l.length (mark D0 i) = mark (upto l.length D0) i := upto_mark _ _ _ hil
  obtain ⟨yes, no, hyn, h⟩ := h
  obtain ⟨hy, hn⟩ := okYN_y hyn
  have hy' : ∀ j ∈ yes, upto l.length D0 j = true := fun j hj => H.done hdc i o ho hd j (hy j hj)
  have hn' : ∀ j ∈ i :: no, upto l.length D0 j = false := fun j hj => by
    rcases List.mem_cons.1 hj with e | e
    · subst e; exact hD
    · by_cases hjl : j < l.length
      · exact H.before hdc hD (hn j e) hjl
      · unfold upto; rw [blt_eq]; simp [hjl]
  have ce : ceR ks rs vs yes (i :: no) ρ0 ρ = ρ := H.ce hK hf hn' hy'
  have cd : cD yes (i :: no) (upto l.length D0) = upto l.length D0 := cD_eq hy' hn'
  have hki := (H.at_ i o ho).1
  have fin : ∀ v w', (∀ d, o.dst = some d → v = valR rs vs (updO ρ o.dst v) i) → Own w0 M w' (Lf (mark (upto l.length D0) i) (updO ρ o.dst v)) → InvR w0 M ρ0 ks rs vs Lf l.length (mark D0 i) (updO ρ o.dst v) w' := fun v w' hv hO => by
    refine ⟨?_, ?_⟩
    · rw [hmk]; exact H.step hdc ho hd hD hK hv
    · rw [hmk]; exact hO
  cases hg : o.guard with
  | none =>
    rw [hg] at h
    obtain ⟨h1, h2⟩ := h
    left
    refine ⟨by unfold Region.wanted; rw [hg], ?_⟩
    have := h2 (upto l.length D0) ρ w (by rw [cd]; exact hO)
    rw [ce, cd] at this
    refine opW_mono this fun v w' ⟨hv, hO'⟩ => fin v w' (fun d hd => ?_) hO'
    unfold valR
    rw [h1, cond_true]
    rw [hd] at hv ⊢
    exact hv
  | some gw =>
    obtain ⟨j, want⟩ := gw
    rw [hg] at h
    obtain ⟨T, gy, hgyn, hT, hgi, hno, hgyk, hyes⟩ := h
    have hc := (H.at_ i o ho).2
    simp only [chkAt, Bool.and_eq_true, guardOk, hg] at hc
    have hDj := H.done hdc i o ho hd j hc.1.2.1
    have hjl : j < l.length := by
      rcases Nat.lt_or_ge j l.length with q | q
      · exact q
      · unfold upto at hDj; rw [blt_eq] at hDj; simp at hDj; omega
    have hlj := List.getElem?_eq_getElem hjl
    have hkj := (H.at_ j _ hlj).1
    have hvj : valR rs vs ρ j = cond (nth (true, fun _ => undef) vs j).1 (.bool T) undef := by
      unfold valR; rw [hT]
    have hwd : (match nth none ks j with | some d => Nat.blt d n | none => false) = true := hc.1.2.2
    have hgv : gv n ρ l j = valR rs vs ρ j := by
      rw [nth_eq, hkj, Option.getD_some] at hwd
      cases hdj : l[j].dst with
      | none => rw [hdj] at hwd; cases hwd
      | some dj =>
        rw [hdj] at hwd
        have hwd' : Nat.blt dj n = true := hwd
        have : gv n ρ l j = cond (Nat.blt dj n) (ρ dj) undef := by unfold gv; rw [hlj]; dsimp only; rw [hdj]
        rw [this, hwd', cond_true]
        rw [hdj] at hkj
        exact (hK j dj hkj).1 hDj
    have hw : ∀ b, (nth (true, fun _ => undef) vs i).1 = b → Region.wanted o (yielded l.toArray (frd n [] ρ).tmps) = b := fun b hb => by
      rw [← hb, hgi]
      exact wantG hg (by rw [hgv, hvj])
    cases hb : (nth (true, fun _ => undef) vs i).1 with
    | true =>
      left
      refine ⟨hw true hb, ?_⟩
      have eg : ceG ks rs vs ρ ρ gy = ρ := H.ceg hK (fun k hk => H.done hdc i o ho hd k ((okYN_y hgyn).1 k hk)) (hgyk hb)
      have := hyes (upto l.length D0) ρ w hb (by rw [cd]; exact hO)
      rw [ce, cd, eg] at this
      refine opW_mono this fun v w' ⟨hv, hO'⟩ => fin v w' (fun d hd => ?_) hO'
      unfold valR
      rw [hb, cond_true]
      rw [hd] at hv ⊢
      exact hv
    | false =>
      right
      refine ⟨hw false hb, ?_⟩
      have := hno (upto l.length D0) ρ w hb (by rw [cd]; exact hO)
      rw [cd] at this
      refine fin undef w (fun d hd => ?_) this
      unfold valR
      rw [hb, cond_false]
def finE (ks : List (Option Nat)) (rs : List (List Nat)) (vs : Vals) (ρ1 ρ0 : Env) : List Nat → Env
  | [] => mix (ks.filterMap id) ρ1 ρ0
  | j :: js => match nth none ks j with
    | some d => upd (finE ks rs vs ρ1 ρ0 js) d (valR rs vs ρ1 j)
    | none => finE ks rs vs ρ1 ρ0 js
theorem fin_eq {l : List Oper} (H : RegF n ks rs ms l) {ρ1 : Env} (hf : ∀ t, t ∉ dsts l → ρ1 t = ρ0 t) (hK : ∀ j d, ks[j]? = some (some d) → ρ1 d = valR rs vs ρ1 j) : ∀ live, ρ1 = finE ks rs vs ρ1 ρ0 live
  | [] => by
    refine mix_of fun t ht => hf t fun hm => ?_
    obtain ⟨j, hj⟩ := H.ds.1 hm
    exact ht (List.mem_filterMap.2 ⟨some t, List.mem_of_getElem? hj, rfl⟩)
  | j :: js => by
    have ih := fin_eq H hf hK js
    unfold finE
    have hh : nth none ks j = (ks[j]?).getD none := nth_eq _ _ _
    cases hk : ks[j]? with
    | none => rw [hk] at hh; simp only [Option.getD_none] at hh; rw [hh]; exact ih
    | some o =>
      rw [hk] at hh
      cases o with
      | none => simp only [Option.getD_some] at hh; rw [hh]; exact ih
      | some d => simp only [Option.getD_some] at hh; rw [hh]; exact upd_of ih (hK j d hk)
theorem inv_ext {len : Nat} : ∀ (D D' : Nat → Bool) (ρ : Env) (w : World), (∀ j, j < len → D j = D' j) → InvR w0 M ρ0 ks rs vs Lf len D ρ w → InvR w0 M ρ0 ks rs vs Lf len D' ρ w := by
  intro D D' ρ w h hI
  have : upto len D = upto len D' := by
    funext j
    unfold upto
    rw [blt_eq]
    by_cases hj : j < len
    · simp [hj, h j hj]
    · simp [hj]
  unfold InvR at *
  rw [← this]; exact hI
theorem inv_end {l : List Oper} (H : RegF n ks rs ms l) {ρ1 : Env} {w1 : World} (hf : ∀ t, t ∉ dsts l → ρ1 t = ρ0 t) (h : InvR w0 M ρ0 ks rs vs Lf l.length (fun _ => true) ρ1 w1) (live : List Nat) :
    ρ1 = finE ks rs vs ρ1 ρ0 live ∧ Own w0 M w1 (Lf (upto ks.length fun _ => true) ρ1) := by
  refine ⟨fin_eq H hf (fun j d hj => (h.1 j d hj).1 ?_) live, by rw [← H.len]; exact h.2⟩
  have hjl : j < l.length := by rw [H.len]; exact lt_of_get hj
  unfold upto; rw [blt_eq]; simp [hjl]
theorem inv_start {l : List Oper} {w1 : World} (h0 : Own w0 M w1 (Lf (fun _ => false) ρ0)) : InvR w0 M ρ0 ks rs vs Lf l.length (fun _ => false) ρ0 w1 := by
  unfold InvR
  rw [upto_false]
  exact ⟨fun j d _ => ⟨fun h => by simp at h, fun _ => rfl⟩, h0⟩
theorem W_regD {id : Nat} {l : List Oper} (hm : P.follows .mixedOrders = true) (ks : List (Option Nat)) (rs : List (List Nat)) (ms : List Nat) (vs : Vals) (Lf : LfT) (live : List Nat) (hchk : regOk n ks rs ms l = true) (h0 : Own w0 M w (Lf (fun _ => false) ρ)) (hs : Obs P n w0 M ρ ks rs ms vs Lf 0 l)
    (he : ∀ ρ1 w1 ρ2, ρ2 = finE ks rs vs ρ1 ρ live → Own w0 M w1 (Lf (upto ks.length fun _ => true) ρ1) → N ρ2 w1) : W κ P n (.region id l.toArray true) N R X ρ w := by
  have H := regF hchk
  refine W_draw hm H.rise (InvR w0 M ρ ks rs vs Lf l.length) inv_ext (inv_start h0.drew) (fun i o ho => any_of_ob H ho (by simpa using obs_at l 0 hs i o ho)) fun ρ1 w1 hf hI => ?_
  obtain ⟨e, hO⟩ := inv_end H hf hI live
  exact he ρ1 w1 ρ1 e hO
theorem W_regO {id : Nat} {l : List Oper} (ks : List (Option Nat)) (rs : List (List Nat)) (ms : List Nat) (vs : Vals) (Lf : LfT) (live : List Nat) (hchk : regOk n ks rs ms l = true) (h0 : Own w0 M w (Lf (fun _ => false) ρ)) (hs : Obs P n w0 M ρ ks rs ms vs Lf 0 l)
    (he : ∀ ρ1 w1 ρ2, ρ2 = finE ks rs vs ρ1 ρ live → Own w0 M w1 (Lf (upto ks.length fun _ => true) ρ1) → N ρ2 w1) : W κ P n (.region id l.toArray false) N R X ρ w := by
  have H := regF hchk
  refine W_inv H.rise (InvR w0 M ρ ks rs vs Lf l.length) inv_ext (inv_start h0) (fun i o ho => any_of_ob H ho (by simpa using obs_at l 0 hs i o ho)) fun ρ1 w1 hf hI => ?_
  obtain ⟨e, hO⟩ := inv_end H hf hI live
  exact he ρ1 w1 ρ1 e hO
abbrev pv (v : Value) : Bool × (Env → Value) := (true, fun _ => v)
abbrev pg (g : Bool) (v : Value) : Bool × (Env → Value) := (g, fun _ => v)
end
end Go.Vx
namespace Go.Vx
open Go.RowKit
section
variable {P : Program} {e : Operand → Value} {ty : TypeId} {w : World} {K : Value → World → Prop}
theorem L_andC {c b : Operand} {g h' : Bool} {z : Operand} (hc : e c = .bool g) (hz : e z = .bool false) (hb : e b = cond (g == true) (.bool h') undef) (h : K (.bool (g && h')) w) : opW P (.pick c b z) ty e w K :=
  L_and hc hz (fun hg => by rw [hb, hg]; rfl) h
end
end Go.Vx
namespace Go.Vx
theorem mget_put {κ ν : Type} [DecidableEq κ] {k x : κ} {v : ν} : ∀ {l : List (κ × ν)}, mget x (mput k v l) = if x = k then some v else mget x l
  | [] => by unfold mput mget; split <;> rfl
  | (a, b) :: l => by
    unfold mput
    split
    · rename_i e
      subst e
      unfold mget
      split <;> rename_i h
      · rfl
      · rfl
    · rename_i e
      unfold mget
      split
      · rename_i h; subst h; rw [if_neg (fun h => e h.symm)]
      · exact mget_put
end Go.Vx
namespace Go.Vx
theorem Rd.roomM {α : Type} {enc : α → List Value} {w : World} {a : Option Addr} {n c k : Nat} {l : List α} (h : Rd w (.slice a n c) k (l.map enc)) : l.length ≤ c := by
  have := h.room; rw [List.length_map] at this; exact this
theorem Rd.dropM {α : Type} {enc : α → List Value} {w : World} {a : Option Addr} {n c k : Nat} {l : List α} (h : Rd w (.slice a n c) k (l.map enc)) (lo : Nat) (h1 : lo ≤ l.length) (n' : Nat) (hn : n' = l.length - lo) : Rd w (.slice (sla a lo c k) n' (c - lo)) k ((l.drop lo).map enc) := by
  have := h.subM lo l.length c h1 (Nat.le_refl _) h.roomM (Nat.le_refl _) n' hn
  rwa [List.take_of_length_le (by rw [List.length_drop]; omega)] at this
structure UpTo (cs : List Int) (last : Int) (out : List Int) : Prop where
  inc : out.Pairwise (· < ·)
  mem : ∀ x, x ∈ out ↔ x ∈ cs ∧ x ≤ last
end Go.Vx
namespace Go.Vx
theorem snoc_ind {α : Type} {motive : List α → Prop} (h0 : motive []) (h1 : ∀ l a, motive l → motive (l ++ [a])) : ∀ l, motive l := by
  suffices key : ∀ (n : Nat) (l : List α), l.length = n → motive l from fun l => key _ l rfl
  intro n
  induction n with
  | zero => intro l hl; rw [List.eq_nil_of_length_eq_zero hl]; exact h0
  | succ n ih =>
    intro l hl
    rcases List.eq_nil_or_concat l with h | ⟨m, a, h⟩
    · subst h; simp at hl
    · rw [List.concat_eq_append] at h
      subst h
      exact h1 m a (ih m (by simpa using hl))
structure IsClosed (l : List Opn) : Prop where
  nd : (l.map (·.dot)).Nodup
  dot : ∀ o ∈ l, dotB o.dot = true
  known : ∀ o ∈ l, ∀ r : Nat, r < 16 → ∀ j : Nat, ((j + 1 : Nat) : Int) ≤ min (vat o.ctx r) 1048576 → (⟨(r : Int), ((j + 1 : Nat) : Int)⟩ : Dot) ∈ l.map (·.dot)
end Go.Vx
namespace Go.Vx
structure EqS (s t : VSt) : Prop where
  tick : s.tick = t.tick
  out : s.out = t.out
  items : ∀ n, mget n s.items = mget n t.items
theorem EqS.refl (s : VSt) : EqS s s := ⟨rfl, rfl, fun _ => rfl⟩
theorem EqS.trans {s t u : VSt} (h : EqS s t) (g : EqS t u) : EqS s u := ⟨h.tick.trans g.tick, h.out.trans g.out, fun n => (h.items n).trans (g.items n)⟩
theorem EqS.step {L : List Opn} {cart : Int} {s t : VSt} (h : EqS s t) (o : Opn) : EqS (vstep L cart s o) (vstep L cart t o) := by
  unfold vstep
  split
  · split
    · split
      · exact ⟨by rw [h.tick], rfl, h.items⟩
      · refine ⟨by rw [h.tick], h.out, fun n => ?_⟩
        show mget n (mput _ _ _) = mget n (mput _ _ _)
        rw [mget_put, mget_put, h.items, h.items]
    · exact ⟨by rw [h.tick], h.out, h.items⟩
  · exact h
end Go.Vx
namespace Go.Vx
structure Cen where
  cart : Int
  item : Int
  qty : Int
  kind : Int
  dot : Dot
  count : Int
  deriving DecidableEq
instance : Inhabited Cen := ⟨⟨0, 0, 0, 0, ⟨0, 0⟩, 0⟩⟩
def cec (e : Cen) : List Value := [.int .u16 e.cart, .int .u16 e.item, .int .u16 e.qty, .int .u8 e.kind, .int .u8 e.dot.rep, .int .u32 e.dot.seq, .int .u64 e.count]
structure Lst where
  cart : Int
  tick : Int
  deriving DecidableEq
instance : Inhabited Lst := ⟨⟨0, 0⟩⟩
structure Sta where
  known : Vec
  ents : List Cen
  ticks : List Lst
def CenOk (e : Cen) : Prop := (0 ≤ e.cart ∧ e.cart < 65536) ∧ (0 ≤ e.item ∧ e.item < 65536) ∧ (0 ≤ e.qty ∧ e.qty < 65536) ∧ (0 ≤ e.kind ∧ e.kind < 256) ∧ DotOk e.dot ∧ (0 ≤ e.count ∧ e.count < 18446744073709551616)
def LstOk (x : Lst) : Prop := (0 ≤ x.cart ∧ x.cart < 65536) ∧ (0 ≤ x.tick ∧ x.tick < 4294967296)
def aheadB (a b : Cen) : Bool := if a.cart = b.cart then (if a.dot.rep = b.dot.rep then decide (a.dot.seq < b.dot.seq) else decide (a.dot.rep < b.dot.rep)) else decide (a.cart < b.cart)
theorem ahead_iff (a b : Cen) : aheadB a b = true ↔ (a.cart < b.cart ∨ (a.cart = b.cart ∧ (a.dot.rep < b.dot.rep ∨ (a.dot.rep = b.dot.rep ∧ a.dot.seq < b.dot.seq)))) := by
  unfold aheadB
  split
  · split
    · rw [decide_eq_true_iff]; omega
    · rw [decide_eq_true_iff]; omega
  · rw [decide_eq_true_iff]; omega
theorem ahead_trans {a b c : Cen} (h : aheadB a b = true) (g : aheadB b c = true) : aheadB a c = true := by rw [ahead_iff] at *; omega
theorem ahead_irrefl (a : Cen) : aheadB a a = false := by
  rw [Bool.eq_false_iff, ne_eq, ahead_iff]; omega
def RisE (l : List Cen) : Prop := l.Pairwise fun a b => aheadB a b = true
theorem risE_eq {l m : List Cen} (hl : RisE l) (hm : RisE m) (h : ∀ x, x ∈ l ↔ x ∈ m) : l = m := by
  induction l generalizing m with
  | nil =>
    cases m with
    | nil => rfl
    | cons b m => exact absurd ((h b).2 (by simp)) (by simp)
  | cons a l ih =>
    cases m with
    | nil => exact absurd ((h a).1 (by simp)) (by simp)
    | cons b m =>
      rw [RisE, List.pairwise_cons] at hl hm
      have hab : a = b := by
        rcases List.mem_cons.1 ((h a).1 (by simp)) with e | e
        · exact e
        · rcases List.mem_cons.1 ((h b).2 (by simp)) with e2 | e2
          · exact e2.symm
          · have := ahead_trans (hl.1 b e2) (hm.1 a e)
            rw [ahead_irrefl] at this; cases this
      subst hab
      congr 1
      refine ih hl.2 hm.2 fun x => ?_
      have hx := h x
      simp only [List.mem_cons] at hx
      constructor
      · intro hxl
        rcases hx.1 (.inr hxl) with e | e
        · subst e; have := hl.1 x hxl; rw [ahead_irrefl] at this; cases this
        · exact e
      · intro hxm
        rcases hx.2 (.inr hxm) with e | e
        · subst e; have := hm.1 x hxm; rw [ahead_irrefl] at this; cases this
        · exact e
def RisT (l : List Lst) : Prop := l.Pairwise fun a b => a.cart < b.cart
theorem risT_eq {l m : List Lst} (hl : RisT l) (hm : RisT m) (h : ∀ x, x ∈ l ↔ x ∈ m) : l = m := by
  induction l generalizing m with
  | nil =>
    cases m with
    | nil => rfl
    | cons b m => exact absurd ((h b).2 (by simp)) (by simp)
  | cons a l ih =>
    cases m with
    | nil => exact absurd ((h a).1 (by simp)) (by simp)
    | cons b m =>
      rw [RisT, List.pairwise_cons] at hl hm
      have hab : a = b := by
        rcases List.mem_cons.1 ((h a).1 (by simp)) with e | e
        · exact e
        · rcases List.mem_cons.1 ((h b).2 (by simp)) with e2 | e2
          · exact e2.symm
          · have h1 := hl.1 b e2; have h2 := hm.1 a e; omega
      subst hab
      congr 1
      refine ih hl.2 hm.2 fun x => ?_
      have hx := h x
      simp only [List.mem_cons] at hx
      constructor
      · intro hxl
        rcases hx.1 (.inr hxl) with e | e
        · subst e; have := hl.1 x hxl; omega
        · exact e
      · intro hxm
        rcases hx.2 (.inr hxm) with e | e
        · subst e; have := hm.1 x hxm; omega
        · exact e
def tickP (ts : List Lst) (c : Int) : Option Int := (ts.find? fun x => decide (x.cart = c)).map (·.tick)
def shapedB (e : Cen) : Bool := if e.kind = 1 then decide (1 ≤ e.qty) else if e.kind = 2 then true else decide (e.kind = 4) && (decide (e.item = 0) && decide (e.qty = 0))
def entB (s : Sta) (e : Cen) : Bool := (tickP s.ticks e.cart).isSome && shapedB e && hasB s.known e.dot && decide (1 ≤ e.count) && decide (e.count ≤ 16777217)
structure RightC (s : Sta) : Prop where
  known : rightB s.known 16 = true
  rt : RisT s.ticks
  tick : ∀ x ∈ s.ticks, x.tick ≤ 1073741824
  re : RisE s.ents
  ent : ∀ e ∈ s.ents, entB s e = true
  nd : (s.ents.map (·.dot)).Nodup
def laidO (e : Cen) : Opn := ⟨e.dot, e.kind, e.cart, e.item, e.qty, 0, vzero⟩
def entO (o : Opn) : Cen := ⟨o.cart, o.item, o.qty, o.kind, o.dot, cntO o⟩
theorem ends_laid (o x : Opn) : endsB o (laidO (entO x)) = endsB o x := rfl
def putE (e : Cen) : List Cen → List Cen
  | [] => [e]
  | x :: l => if aheadB e x = true then e :: x :: l else x :: putE e l
theorem mem_putE {e x : Cen} : ∀ {l : List Cen}, x ∈ putE e l ↔ x = e ∨ x ∈ l
  | [] => by simp [putE]
  | y :: l => by
    unfold putE; split
    · simp
    · rw [List.mem_cons, mem_putE, List.mem_cons]
      constructor
      · rintro (h | h | h)
        · exact .inr (.inl h)
        · exact .inl h
        · exact .inr (.inr h)
      · rintro (h | h | h)
        · exact .inr (.inl h)
        · exact .inl h
        · exact .inr (.inr h)
theorem ahead_total {a b : Cen} (h : a.dot ≠ b.dot) : aheadB a b = true ∨ aheadB b a = true := by
  have hd : ¬ (a.dot.rep = b.dot.rep ∧ a.dot.seq = b.dot.seq) := fun ⟨h1, h2⟩ => h (by cases ha : a.dot; cases hb : b.dot; rw [ha, hb] at h1 h2; simp_all)
  rw [ahead_iff, ahead_iff]; omega
theorem risE_put {e : Cen} : ∀ {l : List Cen}, RisE l → e.dot ∉ l.map (·.dot) → RisE (putE e l)
  | [], _, _ => by simp [putE, RisE]
  | x :: l, h, hn => by
    rw [List.map_cons, List.mem_cons] at hn
    have hx := List.pairwise_cons.1 h
    unfold putE; split
    · rename_i ha
      refine List.pairwise_cons.2 ⟨fun y hy => ?_, h⟩
      rcases List.mem_cons.1 hy with e1 | e1
      · subst e1; exact ha
      · exact ahead_trans ha (hx.1 y e1)
    · rename_i ha
      refine List.pairwise_cons.2 ⟨fun y hy => ?_, risE_put hx.2 fun hm => hn (.inr hm)⟩
      rcases mem_putE.1 hy with e1 | e1
      · subst e1
        rcases ahead_total (a := y) (b := x) (fun e2 => hn (.inl e2)) with g | g
        · exact absurd g ha
        · exact g
      · exact hx.1 y e1
def putT (c t : Int) : List Lst → List Lst
  | [] => [⟨c, t⟩]
  | x :: l => if x.cart = c then ⟨c, max x.tick t⟩ :: l else if c < x.cart then ⟨c, t⟩ :: x :: l else x :: putT c t l
theorem tickP_put {c t d : Int} : ∀ {l : List Lst}, RisT l → tickP (putT c t l) d = if d = c then some (match tickP l c with | none => t | some u => max u t) else tickP l d
  | [], _ => by
    unfold putT tickP
    by_cases h : d = c
    · subst h; simp
    · simp [h, show ¬ c = d from fun e => h e.symm]
  | x :: l, h => by
    have hx := List.pairwise_cons.1 h
    unfold putT
    split
    · rename_i hc
      by_cases hd : d = c
      · subst hd; simp [tickP, hc]
      · simp [tickP, hc, hd, show ¬ c = d from fun e => hd e.symm]
    · rename_i hc
      split
      · rename_i hlt
        have hno : tickP (x :: l) c = none := by
          unfold tickP
          rw [Option.map_eq_none_iff, List.find?_eq_none]
          intro y hy
          rcases List.mem_cons.1 hy with e1 | e1
          · subst e1; simpa using hc
          · have := hx.1 y e1; simp; omega
        by_cases hd : d = c
        · subst hd; rw [if_pos rfl, hno]; simp [tickP]
        · rw [if_neg hd]; simp [tickP, show ¬ c = d from fun e => hd e.symm]
      · have ih := tickP_put (c := c) (t := t) (d := d) hx.2
        by_cases hd : x.cart = d
        · subst hd
          rw [if_neg hc]; simp [tickP]
        · have e1 : tickP (x :: putT c t l) d = tickP (putT c t l) d := by simp [tickP, hd]
          have e2 : tickP (x :: l) d = tickP l d := by simp [tickP, hd]
          have e3 : tickP (x :: l) c = tickP l c := by simp [tickP, hc]
          rw [e1, ih, e2, e3]
theorem mem_putT {c t : Int} {x : Lst} : ∀ {l : List Lst}, x ∈ putT c t l → x.cart = c ∨ x ∈ l
  | [], h => by simp [putT] at h; subst h; exact .inl rfl
  | y :: l, h => by
    unfold putT at h
    split at h
    · rcases List.mem_cons.1 h with e | e
      · subst e; exact .inl rfl
      · exact .inr (by simp [e])
    · split at h
      · rcases List.mem_cons.1 h with e | e
        · subst e; exact .inl rfl
        · exact .inr e
      · rcases List.mem_cons.1 h with e | e
        · subst e; exact .inr (by simp)
        · rcases mem_putT e with g | g
          · exact .inl g
          · exact .inr (by simp [g])
theorem risT_put {c t : Int} : ∀ {l : List Lst}, RisT l → RisT (putT c t l)
  | [], _ => by simp [putT, RisT]
  | x :: l, h => by
    have hx := List.pairwise_cons.1 h
    unfold putT; split
    · rename_i hc
      exact List.pairwise_cons.2 ⟨fun y hy => by have := hx.1 y hy; show c < y.cart; omega, hx.2⟩
    · split
      · rename_i hlt
        refine List.pairwise_cons.2 ⟨fun y hy => ?_, h⟩
        rcases List.mem_cons.1 hy with e | e
        · subst e; exact hlt
        · have := hx.1 y e; show c < y.cart; omega
      · refine List.pairwise_cons.2 ⟨fun y hy => ?_, risT_put hx.2⟩
        rcases mem_putT hy with e | e
        · rw [e]; omega
        · exact hx.1 y e
theorem tick_mem {l : List Lst} (h : RisT l) (x : Lst) : x ∈ l ↔ tickP l x.cart = some x.tick := by
  induction l with
  | nil => simp [tickP]
  | cons y l ih =>
    have hy := List.pairwise_cons.1 h
    rw [List.mem_cons]
    by_cases he : y.cart = x.cart
    · have e1 : tickP (y :: l) x.cart = some y.tick := by simp [tickP, he]
      rw [e1]
      constructor
      · rintro (e | e)
        · subst e; rfl
        · have := hy.1 x e; omega
      · intro e
        left
        cases x; cases y
        simp at he e
        subst he; subst e; rfl
    · have e1 : tickP (y :: l) x.cart = tickP l x.cart := by simp [tickP, he]
      rw [e1, ← ih hy.2]
      constructor
      · rintro (e | e)
        · subst e; exact absurd rfl he
        · exact e
      · exact .inr
theorem ticks_eq {l m : List Lst} (hl : RisT l) (hm : RisT m) (h : ∀ c, tickP l c = tickP m c) : l = m :=
  risT_eq hl hm fun x => by rw [tick_mem hl, tick_mem hm, h]
end Go.Vx
namespace Go.Vx
def kindB (o : Opn) : Bool := if o.kind = 1 then decide (1 ≤ o.qty) else if o.kind = 2 then true else if o.kind = 3 then decide (o.qty = 0) else if o.kind = 4 ∨ o.kind = 5 then decide (o.item = 0) && decide (o.qty = 0) else false
def rightO (o : Opn) : Bool := decide (o.dot.rep < 16) && dotB o.dot && rightB o.ctx 16 && decide (vat o.ctx o.dot.rep.toNat = o.dot.seq - 1) && decide (o.tick ≤ 1073741824) && kindB o
def readyI (known : Vec) (o : Opn) : Int := if rightO o = false then 2 else if hasB known o.dot = true then 8 else if vle o.ctx known = false then 9 else 0
def knownL (l : List Opn) : Vec := l.foldl (fun v o => vset v o.dot.rep.toNat o.dot.seq) vzero
theorem knownL_snoc (l : List Opn) (o : Opn) : knownL (l ++ [o]) = vset (knownL l) o.dot.rep.toNat o.dot.seq := by unfold knownL; rw [List.foldl_append]; rfl
structure DotP (d : Dot) : Prop where
  r0 : 0 ≤ d.rep
  r1 : d.rep < 16
  s0 : 1 ≤ d.seq
  s1 : d.seq ≤ 1048576
theorem DotP.b {d : Dot} (h : DotP d) : dotB d = true := by
  obtain ⟨_, _, _, _⟩ := h
  simp [dotB]; omega
theorem has_iff {v : Vec} {d : Dot} (h : DotP d) : hasB v d = true ↔ d.seq ≤ vat v d.rep.toNat := by
  unfold hasB; rw [h.b, Bool.true_and, decide_eq_true_iff]
inductive Seq : List Opn → Prop
  | nil : Seq []
  | snoc {l : List Opn} {o : Opn} : Seq l → OpnOk o → rightO o = true → DotP o.dot → o.dot ∉ l.map (·.dot) → (∀ d, DotP d → hasB o.ctx d = true → d ∈ l.map (·.dot)) → Seq (l ++ [o])
theorem Seq.cut {l : List Opn} {o : Opn} (h : Seq (l ++ [o])) : Seq l ∧ OpnOk o ∧ rightO o = true ∧ DotP o.dot ∧ o.dot ∉ l.map (·.dot) ∧ ∀ d, DotP d → hasB o.ctx d = true → d ∈ l.map (·.dot) := by
  generalize hm : l ++ [o] = m at h
  cases h with
  | nil => simp at hm
  | snoc h1 h2 h3 h4 h5 h6 =>
    obtain ⟨e1, e2⟩ := List.append_inj' hm rfl
    simp at e2
    subst e1; subst e2
    exact ⟨h1, h2, h3, h4, h5, h6⟩
theorem Seq.dots {l : List Opn} (h : Seq l) : ∀ o ∈ l, DotP o.dot ∧ OpnOk o ∧ rightO o = true := by
  induction h with
  | nil => intro o ho; cases ho
  | snoc _ h2 h3 h4 _ _ ih =>
    intro o ho
    rcases List.mem_append.1 ho with h | h
    · exact ih o h
    · rw [List.mem_singleton.1 h]; exact ⟨h4, h2, h3⟩
theorem Seq.nodup {l : List Opn} (h : Seq l) : (l.map (·.dot)).Nodup := by
  induction h with
  | nil => simp
  | snoc _ _ _ _ h5 _ ih =>
    rw [List.map_append, List.nodup_append]
    exact ⟨ih, by simp, fun a ha b hb e => by simp at hb; subst hb; subst e; exact h5 ha⟩
theorem Seq.known {l : List Opn} (h : Seq l) : (∀ i, 0 ≤ vat (knownL l) i ∧ vat (knownL l) i ≤ 1048576) ∧ ∀ d, DotP d → (d.seq ≤ vat (knownL l) d.rep.toNat ↔ d ∈ l.map (·.dot)) := by
  induction h with
  | nil =>
    refine ⟨fun i => ?_, fun d hd => ?_⟩
    · show 0 ≤ vat vzero i ∧ vat vzero i ≤ _
      unfold vat vzero; split <;> omega
    · show d.seq ≤ vat vzero _ ↔ _
      have := hd.s0
      have h0 : vat vzero d.rep.toNat = 0 := by unfold vat vzero; split <;> rfl
      rw [h0]; simp; omega
  | @snoc l o h1 h2 h3 h4 h5 h6 ih =>
    have hr : o.dot.rep.toNat < 16 := by have := h4.r0; have := h4.r1; omega
    have hctx : vat o.ctx o.dot.rep.toNat = o.dot.seq - 1 := by
      unfold rightO at h3; simp only [Bool.and_eq_true, decide_eq_true_eq] at h3; exact h3.1.1.2
    have hlt : vat (knownL l) o.dot.rep.toNat < o.dot.seq := by
      have := (ih.2 o.dot h4).mp
      rcases Int.lt_or_le (vat (knownL l) o.dot.rep.toNat) o.dot.seq with g | g
      · exact g
      · exact absurd (this g) h5
    have hge : o.dot.seq - 1 ≤ vat (knownL l) o.dot.rep.toNat := by
      by_cases h0 : o.dot.seq = 1
      · have := (ih.1 o.dot.rep.toNat).1; omega
      · have hd : DotP ⟨o.dot.rep, o.dot.seq - 1⟩ := ⟨h4.r0, h4.r1, by have := h4.s0; show 1 ≤ o.dot.seq - 1; omega, by have := h4.s1; show o.dot.seq - 1 ≤ _; omega⟩
        exact (ih.2 _ hd).mpr (h6 _ hd ((has_iff hd).mpr (by show o.dot.seq - 1 ≤ vat o.ctx o.dot.rep.toNat; omega)))
    rw [knownL_snoc]
    refine ⟨fun i => ?_, fun d hd => ?_⟩
    · by_cases hi : i < 16
      · rw [vat_vset _ _ _ _ hi]; split
        · have := h4.s0; have := h4.s1; omega
        · exact ih.1 i
      · unfold vat; rw [dif_neg hi]; omega
    · have hdr : d.rep.toNat < 16 := by have := hd.r0; have := hd.r1; omega
      rw [vat_vset _ _ _ _ hdr, List.map_append, List.mem_append, ← ih.2 d hd]
      split
      · rename_i he
        have hrep : d.rep = o.dot.rep := by have := hd.r0; have := h4.r0; omega
        constructor
        · intro hle
          by_cases e : d.seq = o.dot.seq
          · right
            have : d = o.dot := by cases hdd : d; cases hoo : o.dot; rw [hdd, hoo] at hrep e; simp_all
            subst this; simp
          · left; rw [he]; omega
        · rintro (g | g)
          · rw [he] at g; omega
          · simp at g; subst g; exact Int.le_refl _
      · rename_i he
        constructor
        · exact .inl
        · rintro (g | g)
          · exact g
          · simp at g; subst g; exact absurd rfl he
theorem Seq.has {l : List Opn} (h : Seq l) {d : Dot} (hd : DotP d) : hasB (knownL l) d = true ↔ d ∈ l.map (·.dot) := by rw [has_iff hd]; exact h.known.2 d hd
def szero : Sta := ⟨vzero, [], []⟩
def applyE (s : Sta) (o : Opn) : Sta :=
  ⟨vset s.known o.dot.rep.toNat o.dot.seq, (if laysB o = true then putE (entO o) (s.ents.filter fun e => !endsB o (laidO e)) else s.ents.filter fun e => !endsB o (laidO e)), putT o.cart o.tick s.ticks⟩
def allE (l : List Opn) : Sta := l.foldl applyE szero
theorem allE_snoc (l : List Opn) (o : Opn) : allE (l ++ [o]) = applyE (allE l) o := by unfold allE; rw [List.foldl_append]; rfl
theorem allE_known (l : List Opn) : (allE l).known = knownL l := by
  refine snoc_ind (motive := fun l => (allE l).known = knownL l) rfl (fun l o ih => ?_) l
  rw [allE_snoc, knownL_snoc, ← ih]; rfl
theorem Seq.live_snoc {l : List Opn} {o : Opn} (h : Seq (l ++ [o])) : (∀ x, liveB (l ++ [o]) x = (liveB l x && !endsB o x)) ∧ liveB (l ++ [o]) o = laysB o := by
  obtain ⟨h1, h2, h3, h4, h5, h6⟩ := h.cut
  refine ⟨fun x => ?_, ?_⟩
  · unfold liveB; rw [List.any_append, List.any_cons, List.any_nil, Bool.or_false]
    cases laysB x <;> cases l.any (fun y => endsB y x) <;> cases endsB o x <;> rfl
  · unfold liveB
    have : ((l ++ [o]).any fun x => endsB x o) = false := by
      rw [List.any_eq_false]
      intro x hx he
      have hhas : hasB x.ctx o.dot = true := by
        unfold endsB at he; simp only [Bool.and_eq_true, decide_eq_true_eq] at he; exact he.1.2
      rcases List.mem_append.1 hx with g | g
      ·
        have key : ∀ {l : List Opn}, Seq l → ∀ x ∈ l, ∀ d, DotP d → hasB x.ctx d = true → d ∈ l.map (·.dot) := by
          intro l hl
          induction hl with
          | nil => intro x hx; cases hx
          | snoc _ _ _ _ _ g6 ih =>
            intro x hx d hd hh
            rw [List.map_append, List.mem_append]
            rcases List.mem_append.1 hx with q | q
            · exact .inl (ih x q d hd hh)
            · rw [List.mem_singleton.1 q] at hh; exact .inl (g6 d hd hh)
        exact h5 (key h1 x g o.dot h4 hhas)
      · rw [List.mem_singleton.1 g] at hhas; exact h5 (h6 _ h4 hhas)
    rw [this]; simp
theorem Seq.ents {l : List Opn} (h : Seq l) : RisE (allE l).ents ∧ ∀ e, e ∈ (allE l).ents ↔ ∃ o ∈ l, liveB l o = true ∧ e = entO o := by
  induction h with
  | nil => exact ⟨by simp [allE, szero, RisE], fun e => by simp [allE, szero]⟩
  | @snoc l o h1 h2 h3 h4 h5 h6 ih =>
    have hl := Seq.live_snoc (Seq.snoc h1 h2 h3 h4 h5 h6)
    rw [allE_snoc]
    have hfR : RisE ((allE l).ents.filter fun e => !endsB o (laidO e)) := List.Pairwise.sublist List.filter_sublist ih.1
    have hfm : ∀ e, e ∈ ((allE l).ents.filter fun e => !endsB o (laidO e)) ↔ ∃ x ∈ l, liveB (l ++ [o]) x = true ∧ e = entO x := by
      intro e
      rw [List.mem_filter, ih.2]
      constructor
      · rintro ⟨⟨x, hx, hlx, rfl⟩, hne⟩
        rw [ends_laid] at hne
        exact ⟨x, hx, by rw [hl.1, hlx, hne]; rfl, rfl⟩
      · rintro ⟨x, hx, hlx, rfl⟩
        rw [hl.1, Bool.and_eq_true] at hlx
        exact ⟨⟨x, hx, hlx.1, rfl⟩, by rw [ends_laid]; exact hlx.2⟩
    show RisE (if laysB o = true then _ else _) ∧ ∀ e, e ∈ (if laysB o = true then _ else _) ↔ _
    split
    · rename_i hly
      refine ⟨risE_put hfR ?_, fun e => ?_⟩
      · intro hm
        obtain ⟨e, he, hd⟩ := List.mem_map.1 hm
        obtain ⟨x, hx, _, rfl⟩ := (hfm e).1 he
        exact h5 (List.mem_map.2 ⟨x, hx, hd⟩)
      · rw [mem_putE, hfm]
        constructor
        · rintro (rfl | ⟨x, hx, g⟩)
          · exact ⟨o, by simp, by rw [hl.2, hly], rfl⟩
          · exact ⟨x, by simp [hx], g⟩
        · rintro ⟨x, hx, g⟩
          rcases List.mem_append.1 hx with q | q
          · exact .inr ⟨x, q, g⟩
          · rw [List.mem_singleton.1 q] at g; exact .inl g.2
    · rename_i hly
      refine ⟨hfR, fun e => ?_⟩
      rw [hfm]
      constructor
      · rintro ⟨x, hx, g⟩; exact ⟨x, by simp [hx], g⟩
      · rintro ⟨x, hx, g⟩
        rcases List.mem_append.1 hx with q | q
        · exact ⟨x, q, g⟩
        · rw [List.mem_singleton.1 q, hl.2] at g; exact absurd g.1 hly
def tmax (l : List Opn) (c : Int) : Option Int := l.foldl (fun a o => if o.cart = c then some (match a with | none => o.tick | some u => max u o.tick) else a) none
theorem tmax_snoc (l : List Opn) (o : Opn) (c : Int) : tmax (l ++ [o]) c = if o.cart = c then some (match tmax l c with | none => o.tick | some u => max u o.tick) else tmax l c := by unfold tmax; rw [List.foldl_append]; rfl
theorem allE_ticks (l : List Opn) : RisT (allE l).ticks ∧ ∀ c, tickP (allE l).ticks c = tmax l c := by
  refine snoc_ind (motive := fun l => RisT (allE l).ticks ∧ ∀ c, tickP (allE l).ticks c = tmax l c) ⟨by simp [allE, szero, RisT], fun c => rfl⟩ (fun l o ih => ?_) l
  rw [allE_snoc]
  refine ⟨risT_put ih.1, fun c => ?_⟩
  show tickP (putT _ _ _) c = _
  rw [tickP_put ih.1, tmax_snoc, ih.2, ih.2]
  by_cases h : c = o.cart
  · subst h; rw [if_pos rfl]; first | done | (first | rw [if_pos rfl] | skip); first | done | (cases tmax l o.cart <;> rfl)
  · rw [if_neg h, if_neg (fun e => h e.symm)]
theorem tmax_spec (l : List Opn) (c : Int) : (tmax l c = none ∧ ∀ o ∈ l, o.cart ≠ c) ∨ ∃ t, tmax l c = some t ∧ (∃ o ∈ l, o.cart = c ∧ o.tick = t) ∧ ∀ o ∈ l, o.cart = c → o.tick ≤ t := by
  refine snoc_ind (motive := fun l => (tmax l c = none ∧ ∀ o ∈ l, o.cart ≠ c) ∨ ∃ t, tmax l c = some t ∧ (∃ o ∈ l, o.cart = c ∧ o.tick = t) ∧ ∀ o ∈ l, o.cart = c → o.tick ≤ t) (.inl ⟨rfl, fun o ho => by cases ho⟩) (fun l a ih => ?_) l
  rw [tmax_snoc]
  by_cases hc : a.cart = c
  · right
    rw [if_pos hc]
    rcases ih with ⟨h1, h2⟩ | ⟨t, h1, ⟨o, ho, h3, h4⟩, h5⟩
    · refine ⟨a.tick, by rw [h1], ⟨a, by simp, hc, rfl⟩, fun o ho hoc => ?_⟩
      rcases List.mem_append.1 ho with g | g
      · exact absurd hoc (h2 o g)
      · rw [List.mem_singleton.1 g]; exact Int.le_refl _
    · refine ⟨max t a.tick, by rw [h1], ?_, fun o ho hoc => ?_⟩
      · rcases Int.le_total t a.tick with g | g
        · exact ⟨a, by simp, hc, by omega⟩
        · exact ⟨o, by simp [ho], h3, by omega⟩
      · rcases List.mem_append.1 ho with g | g
        · have := h5 o g hoc; omega
        · rw [List.mem_singleton.1 g]; omega
  · rw [if_neg hc]
    rcases ih with ⟨h1, h2⟩ | ⟨t, h1, ⟨o, ho, h3⟩, h5⟩
    · refine .inl ⟨h1, fun o ho => ?_⟩
      rcases List.mem_append.1 ho with g | g
      · exact h2 o g
      · rw [List.mem_singleton.1 g]; exact hc
    · refine .inr ⟨t, h1, ⟨o, by simp [ho], h3⟩, fun o ho hoc => ?_⟩
      rcases List.mem_append.1 ho with g | g
      · exact h5 o g hoc
      · rw [List.mem_singleton.1 g] at hoc; exact absurd hoc hc
end Go.Vx
namespace Go.Vx
theorem uniq_map {α β : Type} {f : α → β} : ∀ {l : List α}, (l.map f).Nodup → ∀ x ∈ l, ∀ y ∈ l, f x = f y → x = y
  | [], _, x, hx, _, _, _ => by cases hx
  | a :: l, h, x, hx, y, hy, e => by
    rw [List.map_cons, List.nodup_cons] at h
    rcases List.mem_cons.1 hx with p | p <;> rcases List.mem_cons.1 hy with q | q
    · rw [p, q]
    · subst p; exact absurd (List.mem_map.2 ⟨y, q, e.symm⟩) h.1
    · subst q; exact absurd (List.mem_map.2 ⟨x, p, e⟩) h.1
    · exact uniq_map h.2 x p y q e
theorem vat_ctx {o : Opn} (h : rightO o = true) (i : Nat) : vat o.ctx i ≤ 1048576 := by
  unfold rightO at h
  simp only [Bool.and_eq_true, decide_eq_true_eq] at h
  have h1 := h.1.1.1.2
  unfold rightB at h1
  simp only [Bool.and_eq_true, List.all_eq_true, List.mem_range] at h1
  by_cases hi : i < 16
  · have := h1.2 i hi
    unfold okAt at this
    simp at this
    omega
  · unfold vat; rw [dif_neg hi]; omega
theorem sum_le (f : Nat → Int) (b : Int) (h : ∀ i, 0 ≤ f i ∧ f i ≤ b) : ∀ n : Nat, 0 ≤ ((List.range n).map f).sum ∧ ((List.range n).map f).sum ≤ (n : Int) * b
  | 0 => by simp
  | n + 1 => by
    have ih := sum_le f b h n
    rw [List.range_succ, List.map_append, List.sum_append]
    have := h n
    simp only [List.map_cons, List.map_nil, List.sum_cons, List.sum_nil]
    have e : ((n + 1 : Nat) : Int) * b = (n : Int) * b + b := by rw [Int.natCast_add, Int.add_mul]; simp
    omega
theorem cnt_bd {o : Opn} (ho : OpnOk o) (h : rightO o = true) : 1 ≤ cntO o ∧ cntO o ≤ 16777217 := by
  have hv := ho.2.2.2.2.2.2
  have := sum_le (fun i => vat o.ctx i) 1048576 (fun i => ⟨by
    unfold vat; split
    · exact (hv _).1
    · omega, vat_ctx h i⟩) 16
  unfold cntO vsum
  omega
theorem lays_kind {o : Opn} : laysB o = true ↔ o.kind = 1 ∨ o.kind = 2 ∨ o.kind = 4 := by unfold laysB; simp [or_assoc]
theorem live_lays {l : List Opn} {o : Opn} (h : liveB l o = true) : laysB o = true := by unfold liveB at h; rw [Bool.and_eq_true] at h; exact h.1
theorem Seq.right {l : List Opn} (h : Seq l) : RightC (allE l) := by
  have hk := h.known
  have he := h.ents
  have ht := allE_ticks l
  have hd := h.dots
  refine ⟨?_, ht.1, fun x hx => ?_, he.1, fun e hm => ?_, ?_⟩
  · rw [allE_known]
    unfold rightB
    simp only [Bool.and_eq_true, List.all_eq_true, List.mem_range]
    refine ⟨by decide, fun i hi => ?_⟩
    have := hk.1 i
    unfold okAt; simp; omega
  · rw [tick_mem ht.1, ht.2] at hx
    rcases tmax_spec l x.cart with ⟨h1, _⟩ | ⟨t, h1, ⟨o, ho, _, h3⟩, _⟩
    · rw [h1] at hx; cases hx
    · rw [h1] at hx; cases hx
      have := (hd o ho).2.2
      unfold rightO at this
      simp only [Bool.and_eq_true, decide_eq_true_eq] at this
      rw [← h3]; exact this.1.2
  · obtain ⟨o, ho, hl, rfl⟩ := (he.2 e).1 hm
    have hdo := hd o ho
    have hc := cnt_bd hdo.2.1 hdo.2.2
    unfold entB
    simp only [Bool.and_eq_true, decide_eq_true_eq]
    refine ⟨⟨⟨⟨?_, ?_⟩, ?_⟩, hc.1⟩, hc.2⟩
    · rw [ht.2]
      rcases tmax_spec l o.cart with ⟨_, h2⟩ | ⟨t, h1, _⟩
      · exact absurd rfl (h2 o ho)
      · show (tmax l o.cart).isSome = true
        rw [h1]; rfl
    · have hr := hdo.2.2
      unfold rightO at hr
      simp only [Bool.and_eq_true] at hr
      have hkk := hr.2
      unfold kindB at hkk
      show shapedB (entO o) = true
      unfold shapedB entO
      rcases lays_kind.1 (live_lays hl) with g | g | g
      · simp [g] at hkk ⊢; exact hkk
      · simp [g]
      · simp [g] at hkk ⊢; exact hkk
    · rw [allE_known]
      exact (h.has hdo.1).2 (List.mem_map.2 ⟨o, ho, rfl⟩)
  · have hmap : (allE l).ents.map (·.dot) = (allE l).ents.map (·.dot) := rfl
    have hnd := h.nodup
    have hinj : ∀ a ∈ (allE l).ents, ∀ b ∈ (allE l).ents, a.dot = b.dot → a = b := by
      intro a ha b hb e
      obtain ⟨o, ho, _, rfl⟩ := (he.2 a).1 ha
      obtain ⟨p, hp, _, rfl⟩ := (he.2 b).1 hb
      rw [uniq_map hnd o ho p hp e]
    unfold List.Nodup
    rw [List.pairwise_map]
    have hne : (allE l).ents.Pairwise (· ≠ ·) := he.1.imp fun {a b} hab e => by subst e; rw [ahead_irrefl] at hab; cases hab
    rw [List.pairwise_iff_getElem] at hne ⊢
    intro i j hi hj hij e
    exact hne i j hi hj hij (hinj _ (List.getElem_mem hi) _ (List.getElem_mem hj) e)
theorem Seq.ext {l m : List Opn} (hl : Seq l) (hm : Seq m) (h : ∀ o, o ∈ l ↔ o ∈ m) : allE l = allE m := by
  have hdm : ∀ d, d ∈ l.map (·.dot) ↔ d ∈ m.map (·.dot) := fun d => by
    rw [List.mem_map, List.mem_map]
    constructor
    · rintro ⟨o, ho, e⟩; exact ⟨o, (h o).1 ho, e⟩
    · rintro ⟨o, ho, e⟩; exact ⟨o, (h o).2 ho, e⟩
  have hle : ∀ {l m : List Opn}, Seq l → Seq m → (∀ d, d ∈ l.map (·.dot) ↔ d ∈ m.map (·.dot)) → ∀ i, vat (knownL l) i ≤ vat (knownL m) i := by
    intro l m hl hm hd i
    by_cases hi : i < 16
    case neg => unfold vat; rw [dif_neg hi, dif_neg hi]; omega
    have b1 := hl.known.1 i
    have b2 := hm.known.1 i
    by_cases h0 : vat (knownL l) i = 0
    · omega
    · have hdp : DotP ⟨(i : Int), vat (knownL l) i⟩ := ⟨by show (0 : Int) ≤ (i : Int); omega, by show (i : Int) < 16; omega, by show 1 ≤ vat (knownL l) i; omega, b1.2⟩
      have := (hm.known.2 _ hdp).2 ((hd _).1 ((hl.known.2 _ hdp).1 (by show vat (knownL l) i ≤ vat (knownL l) ((i : Int)).toNat; rw [Int.toNat_natCast]; exact Int.le_refl _)))
      simpa using this
  have e1 : (allE l).known = (allE m).known := by
    rw [allE_known, allE_known]
    exact vec_ext fun i _ => Int.le_antisymm (hle hl hm hdm i) (hle hm hl (fun d => (hdm d).symm) i)
  have hlive : ∀ o, liveB l o = liveB m o := fun o => by
    unfold liveB
    have : (l.any fun x => endsB x o) = (m.any fun x => endsB x o) := by
      rw [Bool.eq_iff_iff, List.any_eq_true, List.any_eq_true]
      constructor
      · rintro ⟨x, hx, e⟩; exact ⟨x, (h x).1 hx, e⟩
      · rintro ⟨x, hx, e⟩; exact ⟨x, (h x).2 hx, e⟩
    rw [this]
  have e2 : (allE l).ents = (allE m).ents := risE_eq hl.ents.1 hm.ents.1 fun e => by
    rw [hl.ents.2, hm.ents.2]
    constructor
    · rintro ⟨o, ho, g, q⟩; exact ⟨o, (h o).1 ho, by rw [← hlive]; exact g, q⟩
    · rintro ⟨o, ho, g, q⟩; exact ⟨o, (h o).2 ho, by rw [hlive]; exact g, q⟩
  have e3 : (allE l).ticks = (allE m).ticks := ticks_eq (allE_ticks l).1 (allE_ticks m).1 fun c => by
    rw [(allE_ticks l).2, (allE_ticks m).2]
    rcases tmax_spec l c with ⟨h1, h2⟩ | ⟨t, h1, ⟨o, ho, h3, h4⟩, h5⟩ <;> rcases tmax_spec m c with ⟨g1, g2⟩ | ⟨u, g1, ⟨p, hp, g3, g4⟩, g5⟩
    · rw [h1, g1]
    · exact absurd g3 (h2 p ((h p).2 hp))
    · exact absurd h3 (g2 o ((h o).1 ho))
    · rw [h1, g1]
      have := h5 p ((h p).2 hp) g3
      have := g5 o ((h o).1 ho) h3
      congr 1; omega
  cases hx : allE l; cases hy : allE m
  rw [hx, hy] at e1 e2 e3
  simp at e1 e2 e3
  rw [e1, e2, e3]
end Go.Vx
namespace Go.Vx
theorem right_dot {o : Opn} (ho : OpnOk o) (h : rightO o = true) : DotP o.dot := by
  unfold rightO at h
  simp only [Bool.and_eq_true, decide_eq_true_eq] at h
  have h1 := h.1.1.1.1.1
  have h2 := dotB_spec h.1.1.1.1.2
  exact ⟨ho.1.1.1, h1, h2.2.1, h2.2.2⟩
theorem vle_at {a b : Vec} (h : vle a b = true) (i : Nat) : vat a i ≤ vat b i := by
  unfold vle at h
  rw [List.all_eq_true] at h
  by_cases hi : i < 16
  · simpa using h i (List.mem_range.2 hi)
  · unfold vat; rw [dif_neg hi, dif_neg hi]; exact Int.le_refl _
theorem ready_zero {known : Vec} {o : Opn} (h : readyI known o = 0) : rightO o = true ∧ hasB known o.dot = false ∧ vle o.ctx known = true := by
  unfold readyI at h
  split at h
  · omega
  · split at h
    · omega
    · split at h
      · omega
      · rename_i h1 h2 h3
        simp at h1 h2 h3
        exact ⟨h1, h2, h3⟩
theorem Seq.add {l : List Opn} {o : Opn} (h : Seq l) (ho : OpnOk o) (hr : readyI (knownL l) o = 0) : Seq (l ++ [o]) := by
  obtain ⟨h1, h2, h3⟩ := ready_zero hr
  have hd := right_dot ho h1
  refine Seq.snoc h ho h1 hd (fun hm => ?_) fun d hdp hh => ?_
  · rw [(h.has hd).2 hm] at h2; cases h2
  · refine (h.has hdp).1 ((has_iff hdp).2 (Int.le_trans ((has_iff hdp).1 hh) (vle_at h3 _)))
theorem Seq.ready {l : List Opn} {o : Opn} (h : Seq (l ++ [o])) : readyI (knownL l) o = 0 := by
  obtain ⟨h1, h2, h3, h4, h5, h6⟩ := h.cut
  unfold readyI
  rw [if_neg (by rw [h3]; decide), if_neg (fun g => h5 ((h1.has h4).1 g)), if_neg]
  rw [Bool.not_eq_false]
  refine vle_yes fun j hj => ?_
  have hb := vat_ctx h3 j
  have h0 := (h1.known.1 j).1
  by_cases hz : vat o.ctx j < 1
  · omega
  · have hdp : DotP ⟨(j : Int), vat o.ctx j⟩ := ⟨by show (0 : Int) ≤ (j : Int); omega, by show (j : Int) < 16; omega, by show 1 ≤ vat o.ctx j; omega, hb⟩
    have := (h1.known.2 _ hdp).2 (h6 _ hdp ((has_iff hdp).2 (by show vat o.ctx j ≤ vat o.ctx ((j : Int)).toNat; rw [Int.toNat_natCast]; exact Int.le_refl _)))
    simpa using this
def Down (l : List Opn) (p : Opn → Bool) : Prop := ∀ o ∈ l, p o = true → ∀ d, DotP d → hasB o.ctx d = true → ∃ q ∈ l, p q = true ∧ q.dot = d
theorem Seq.sub {l : List Opn} {p : Opn → Bool} (h : Seq l) (hp : Down l p) : Seq (l.filter p) := by
  have key : ∀ m : List Opn, Seq m → (∀ o ∈ m, o ∈ l) → Seq (m.filter p) := by
    intro m hm
    induction hm with
    | nil => intro _; exact Seq.nil
    | @snoc m o h1 h2 h3 h4 h5 h6 ih =>
      intro hin
      have ih := ih fun x hx => hin x (List.mem_append_left _ hx)
      rw [List.filter_append]
      by_cases hpo : p o = true
      · rw [List.filter_cons_of_pos hpo, List.filter_nil]
        refine Seq.snoc ih h2 h3 h4 (fun g => h5 ?_) fun d hd hh => ?_
        · obtain ⟨x, hx, e⟩ := List.mem_map.1 g
          exact List.mem_map.2 ⟨x, (List.mem_filter.1 hx).1, e⟩
        · obtain ⟨x, hx, e⟩ := List.mem_map.1 (h6 d hd hh)
          obtain ⟨q, hq, hpq, eq⟩ := hp o (hin o (by simp)) hpo d hd hh
          have := uniq_map h.nodup x (hin x (List.mem_append_left _ hx)) q hq (e.trans eq.symm)
          subst this
          exact List.mem_map.2 ⟨x, List.mem_filter.2 ⟨hx, hpq⟩, e⟩
      · rw [List.filter_cons_of_neg hpo, List.filter_nil, List.append_nil]; exact ih
  exact key l h fun _ h => h
end Go.Vx
namespace Go.Vx
def lessC (a b : Cen) : Bool := if a.count = b.count then (if a.dot.rep = b.dot.rep then decide (a.dot.seq < b.dot.seq) else decide (a.dot.rep < b.dot.rep)) else decide (a.count < b.count)
end Go.Vx
namespace Go.Vx
theorem sum_set : ∀ (n : Nat) (f : Nat → Int) (i : Nat) (x : Int), ((List.range n).map fun j => if j = i then x else f j).sum = ((List.range n).map f).sum + (if i < n then x - f i else 0)
  | 0, _, _, _ => by simp
  | n + 1, f, i, x => by
    rw [List.range_succ, List.map_append, List.sum_append, List.map_append, List.sum_append, sum_set n f i x]
    simp only [List.map_cons, List.map_nil, List.sum_cons, List.sum_nil]
    by_cases h : n = i
    · subst h; simp; omega
    · rw [if_neg h]
      by_cases h2 : i < n
      · rw [if_pos h2, if_pos (by omega)]; omega
      · rw [if_neg h2, if_neg (by omega)]; omega
theorem vsum_set {v : Vec} {i : Nat} {x : Int} (hi : i < 16) : vsum (vset v i x) = vsum v + (x - vat v i) := by
  unfold vsum
  have e : (List.range 16).map (fun j => vat (vset v i x) j) = (List.range 16).map fun j => if j = i then x else vat v j := by
    refine List.map_congr_left fun j hj => ?_
    rw [vat_vset _ _ _ _ (List.mem_range.1 hj)]
  rw [e, sum_set, if_pos hi]
theorem Seq.next {l : List Opn} {o : Opn} (h : Seq (l ++ [o])) : vat (knownL l) o.dot.rep.toNat = o.dot.seq - 1 := by
  obtain ⟨h1, h2, h3, h4, h5, h6⟩ := h.cut
  have hctx : vat o.ctx o.dot.rep.toNat = o.dot.seq - 1 := by
    unfold rightO at h3; simp only [Bool.and_eq_true, decide_eq_true_eq] at h3; exact h3.1.1.2
  have hlt : ¬ o.dot.seq ≤ vat (knownL l) o.dot.rep.toNat := fun g => h5 ((h1.known.2 o.dot h4).1 g)
  have h0 := (h1.known.1 o.dot.rep.toNat).1
  by_cases hz : o.dot.seq = 1
  · omega
  · have hd : DotP ⟨o.dot.rep, o.dot.seq - 1⟩ := ⟨h4.r0, h4.r1, by have := h4.s0; show 1 ≤ o.dot.seq - 1; omega, by have := h4.s1; show o.dot.seq - 1 ≤ _; omega⟩
    have := (h1.known.2 _ hd).2 (h6 _ hd ((has_iff hd).2 (by show o.dot.seq - 1 ≤ vat o.ctx o.dot.rep.toNat; omega)))
    have : o.dot.seq - 1 ≤ vat (knownL l) o.dot.rep.toNat := this
    omega
theorem Seq.sum {l : List Opn} (h : Seq l) : vsum (knownL l) = l.length := by
  induction h with
  | nil => rfl
  | @snoc l o h1 h2 h3 h4 h5 h6 ih =>
    have hn := Seq.next (Seq.snoc h1 h2 h3 h4 h5 h6)
    have hr : o.dot.rep.toNat < 16 := by have := h4.r0; have := h4.r1; omega
    rw [knownL_snoc, vsum_set hr, ih, hn, List.length_append, List.length_singleton]
    omega
end Go.Vx
namespace Go.Proofs
open Go Go.Vx Go.RowKit
namespace Tt
theorem HM : Tryz.prog.follows .mixedOrders = true := by kernel_rfl
theorem S1_3 : T1 Tryz.prog 3 := ⟨Tryz.sizeOf3, Tryz.isAgg3⟩
theorem S1_30 : T1 Tryz.prog 30 := ⟨Tryz.sizeOf30, Tryz.isAgg30⟩
theorem S1_5 : T1 Tryz.prog 5 := ⟨Tryz.sizeOf5, Tryz.isAgg5⟩
theorem SA_33 : TA Tryz.prog 33 2 := ⟨Tryz.sizeOf33, Tryz.isAgg33⟩
theorem SA_35 : TA Tryz.prog 35 16 := ⟨Tryz.sizeOf35, Tryz.isAgg35⟩
theorem SA_37 : TA Tryz.prog 37 23 := ⟨Tryz.sizeOf37, Tryz.isAgg37⟩
set_option maxRecDepth 20000 in
theorem EQ_35 (a b : Vec) : EqF Tryz.prog 2 35 (.agg (vc a).toArray) (.agg (vc b).toArray) (decide (a = b)) := EqF_vec Tryz.underlying35 Tryz.type31 rfl Tryz.runUnderlying31 ⟨Tryz.sizeOf31, Tryz.isAgg31⟩ a b
theorem UD_3 : Ud Tryz.prog 3 (.int .i64) := Tryz.runUnderlying3
theorem UD_5 : Ud Tryz.prog 5 (.int .u8) := Tryz.runUnderlying5
end Tt
end Go.Proofs
namespace Go.Vx
abbrev Bs := List Int
def ByOk (l : Bs) : Prop := ∀ c ∈ l, 0 ≤ c ∧ c < 256
theorem ByOk.tail {c : Int} {l : Bs} (h : ByOk (c :: l)) : ByOk l := fun x hx => h x (List.mem_cons_of_mem _ hx)
theorem ByOk.app {a b : Bs} (h : ByOk a) (h' : ByOk b) : ByOk (a ++ b) := fun x hx => (List.mem_append.1 hx).elim (h x) (h' x)
theorem ByOk.take {a : Bs} (h : ByOk a) (n : Nat) : ByOk (a.take n) := fun x hx => h x (List.mem_of_mem_take hx)
theorem ByOk.drop {a : Bs} (h : ByOk a) (n : Nat) : ByOk (a.drop n) := fun x hx => h x (List.mem_of_mem_drop hx)
structure Rdr where
  e : Nat
  l : Bs
end Go.Vx
namespace Go.Vx
structure Stc where
  what : Int
  a : Int
  b : Int
  n : Int
  kind : Int
  at_ : Int
  by_ : Int
  op : Opn
  vec : Vec
  cuts : Bs
def opz : Opn := ⟨⟨0, 0⟩, 0, 0, 0, 0, 0, vzero⟩
def stcz : Stc := ⟨0, 0, 0, 0, 0, 0, 0, opz, vzero, []⟩
def fixN (what : Nat) : Nat := if what = 1 then 7 else if what = 2 then 3 else if what = 3 then 4 else if what = 4 then 7 else if what = 5 then 2 else if what = 6 then 6 else if what = 7 then 4 else if what = 8 then 3 else 0
abbrev bat (b : Bs) (i : Nat) : Int := b.getD i 0
def putS (what : Nat) (b : Bs) (cuts : Bs) : Stc :=
  if what = 1 then { stcz with what := 1, a := bat b 0, op := { opz with kind := bat b 1, cart := bat b 2, item := bat b 3, qty := bat b 4, tick := bat b 5 } }
  else if what = 2 then { stcz with what := 2, a := bat b 0, b := bat b 1 }
  else if what = 3 then { stcz with what := 3, a := bat b 0, b := bat b 1, n := bat b 2 }
  else if what = 4 then { stcz with what := 4, a := bat b 0, b := bat b 1, n := bat b 2, kind := bat b 3, at_ := bat b 4, by_ := bat b 5 }
  else if what = 5 then { stcz with what := 5, a := bat b 0 }
  else if what = 6 then { stcz with what := 6, a := bat b 0, vec := vset (vset (vset (vset vzero 0 (bat b 1)) 1 (bat b 2)) 2 (bat b 3)) 3 (bat b 4) }
  else if what = 7 then { stcz with what := 7, a := bat b 0, by_ := bat b 1, cuts := cuts }
  else if what = 8 then { stcz with what := 8, a := bat b 0, n := bat b 1 }
  else stcz
def lenS (what : Nat) (b : Bs) : Nat := fixN what + (if what = 7 then (bat b 3).toNat % 8 else 0)
def whatS (b : Bs) : Nat := (bat b 0).toNat % 9
def tellS (b : Bs) : Stc := putS (whatS b) (b.drop 1) ((b.drop 4).take (lenS (whatS b) b - 4))
theorem fixN_pos {k : Nat} (h : k < 9) (h0 : k ≠ 0) : 2 ≤ fixN k := by
  match k, h, h0 with
  | 1, _, _ | 2, _, _ | 3, _, _ | 4, _, _ | 5, _, _ | 6, _, _ | 7, _, _ | 8, _, _ => decide
  | n + 9, h, _ => omega
theorem whatS_lt (b : Bs) : whatS b < 9 := Nat.mod_lt _ (by decide)
theorem lenS_ge (k : Nat) (b : Bs) : fixN k ≤ lenS k b := Nat.le_add_right _ _
def decS (b : Bs) (out : List Stc) : List Stc :=
  if b.length = 0 ∨ 100 ≤ out.length then out
  else if whatS b = 0 then decS (b.drop 1) out
  else if b.length < lenS (whatS b) b then out
  else decS (b.drop (lenS (whatS b) b)) (out ++ [tellS b])
termination_by b.length
decreasing_by
  · rw [List.length_drop]; omega
  · rw [List.length_drop]
    have := fixN_pos (whatS_lt b) ‹_›
    have := lenS_ge (whatS b) b
    omega
theorem decS_stop {b : Bs} {out : List Stc} (h : b.length = 0 ∨ 100 ≤ out.length) : decS b out = out := by rw [decS, if_pos h]
theorem decS_skip {b : Bs} {out : List Stc} (h : ¬ (b.length = 0 ∨ 100 ≤ out.length)) (h0 : whatS b = 0) : decS b out = decS (b.drop 1) out := by rw [decS, if_neg h, if_pos h0]
theorem decS_short {b : Bs} {out : List Stc} (h0 : whatS b ≠ 0) (h1 : b.length < lenS (whatS b) b) : decS b out = out := by
  by_cases h : b.length = 0 ∨ 100 ≤ out.length
  · exact decS_stop h
  · rw [decS, if_neg h, if_neg h0, if_pos h1]
theorem decS_step {b : Bs} {out : List Stc} (h : ¬ (b.length = 0 ∨ 100 ≤ out.length)) (h0 : whatS b ≠ 0) (h1 : ¬ b.length < lenS (whatS b) b) : decS b out = decS (b.drop (lenS (whatS b) b)) (out ++ [tellS b]) := by rw [decS, if_neg h, if_neg h0, if_neg h1]
theorem decS_ind {P : Bs → List Stc → Prop} (hs : ∀ b out, (b.length = 0 ∨ 100 ≤ out.length) → P b out) (hk : ∀ b out, ¬ (b.length = 0 ∨ 100 ≤ out.length) → whatS b = 0 → P (b.drop 1) out → P b out)
    (hh : ∀ b out, ¬ (b.length = 0 ∨ 100 ≤ out.length) → whatS b ≠ 0 → b.length < lenS (whatS b) b → P b out)
    (ht : ∀ b out, ¬ (b.length = 0 ∨ 100 ≤ out.length) → whatS b ≠ 0 → ¬ b.length < lenS (whatS b) b → P (b.drop (lenS (whatS b) b)) (out ++ [tellS b]) → P b out) : ∀ b out, P b out := by
  intro b
  generalize hn : b.length = n
  induction n using Nat.strongRecOn generalizing b with
  | ind n ih =>
    intro out
    by_cases h : b.length = 0 ∨ 100 ≤ out.length
    · exact hs b out h
    · by_cases h0 : whatS b = 0
      · exact hk b out h h0 (ih _ (by rw [← hn, List.length_drop]; omega) _ rfl out)
      · by_cases h1 : b.length < lenS (whatS b) b
        · exact hh b out h h0 h1
        · have := fixN_pos (whatS_lt b) h0
          have := lenS_ge (whatS b) b
          exact ht b out h h0 h1 (ih _ (by rw [← hn, List.length_drop]; omega) _ rfl _)
theorem decS_len : ∀ b out, out.length ≤ 100 → (decS b out).length ≤ 100 := decS_ind (fun b out h ho => by rw [decS_stop h]; exact ho) (fun b out h h0 ih ho => by rw [decS_skip h h0]; exact ih ho) (fun b out _ h0 h1 ho => by rw [decS_short h0 h1]; exact ho)
  (fun b out h h0 h1 ih _ => by rw [decS_step h h0 h1]; exact ih (by rw [List.length_append, List.length_singleton]; omega))
def sizS (s : Stc) : Nat := fixN s.what.toNat + (if s.what = 7 then s.cuts.length % 8 else 0)
def sumS (l : List Stc) : Nat := (l.map sizS).sum
theorem sumS_snoc (l : List Stc) (s : Stc) : sumS (l ++ [s]) = sumS l + sizS s := by simp [sumS]
theorem putS_what {k : Nat} (h : k < 9) (h0 : k ≠ 0) (b c : Bs) : (putS k b c).what = (k : Int) ∧ (putS k b c).cuts = if k = 7 then c else [] := by
  match k, h, h0 with
  | 1, _, _ | 2, _, _ | 3, _, _ | 4, _, _ | 5, _, _ | 6, _, _ | 7, _, _ | 8, _, _ => exact ⟨rfl, rfl⟩
  | n + 9, h, _ => omega
theorem sizS_tell {b : Bs} (h0 : whatS b ≠ 0) (h1 : ¬ b.length < lenS (whatS b) b) : sizS (tellS b) = lenS (whatS b) b := by
  obtain ⟨e1, e2⟩ := putS_what (whatS_lt b) h0 (b.drop 1) ((b.drop 4).take (lenS (whatS b) b - 4))
  unfold sizS tellS
  rw [e1, e2, Int.toNat_natCast]
  by_cases h7 : whatS b = 7
  · have hl : lenS (whatS b) b = 4 + (bat b 3).toNat % 8 := by unfold lenS; rw [h7]; rfl
    rw [if_pos (by omega), if_pos h7, List.length_take, List.length_drop, hl]
    rw [hl] at h1
    rw [h7]
    show 4 + _ = _
    omega
  · rw [if_neg (by omega)]
    unfold lenS
    rw [if_neg h7]
theorem sumS_dec : ∀ b out, sumS (decS b out) ≤ sumS out + b.length := decS_ind (fun b out h => by rw [decS_stop h]; omega) (fun b out h h0 ih => by rw [decS_skip h h0]; rw [List.length_drop] at ih; omega) (fun b out _ h0 h1 => by rw [decS_short h0 h1]; omega)
  (fun b out h h0 h1 ih => by rw [decS_step h h0 h1]; rw [sumS_snoc, sizS_tell h0 h1, List.length_drop] at ih; omega)
theorem bat_take {b : Bs} {k i : Nat} (h : i < k) : bat (b.take k) i = bat b i := by
  unfold bat
  rw [List.getD_eq_getElem?_getD, List.getD_eq_getElem?_getD, List.getElem?_take, if_pos h]
theorem bat_app {a b : Bs} {i : Nat} (h : i < a.length) : bat (a ++ b) i = bat a i := by
  unfold bat
  rw [List.getD_eq_getElem?_getD, List.getD_eq_getElem?_getD, List.getElem?_append_left h]
theorem whatS_take {b : Bs} {k : Nat} (h : 0 < k) : whatS (b.take k) = whatS b := by unfold whatS; rw [bat_take h]
theorem whatS_app {a b : Bs} (h : 0 < a.length) : whatS (a ++ b) = whatS a := by unfold whatS; rw [bat_app h]
theorem tellS_app {a b : Bs} (h0 : whatS a ≠ 0) (h1 : ¬ a.length < lenS (whatS a) a) : tellS (a ++ b) = tellS a ∧ lenS (whatS a) (a ++ b) = lenS (whatS a) a := by
  have hf := fixN_pos (whatS_lt a) h0
  have hg := lenS_ge (whatS a) a
  have hw : whatS (a ++ b) = whatS a := whatS_app (by omega)
  have hl : lenS (whatS a) (a ++ b) = lenS (whatS a) a := by
    unfold lenS
    by_cases h7 : whatS a = 7
    · rw [if_pos h7, if_pos h7, bat_app]
      rw [h7] at hf hg
      have : fixN 7 = 4 := rfl
      rw [h7] at h1
      omega
    · rw [if_neg h7, if_neg h7]
  refine ⟨?_, hl⟩
  unfold tellS
  rw [hw, hl]
  have hn : ∀ i, i + 1 < fixN (whatS a) → bat ((a ++ b).drop 1) i = bat (a.drop 1) i := by
    intro i hi
    unfold bat
    rw [List.getD_eq_getElem?_getD, List.getD_eq_getElem?_getD, List.getElem?_drop, List.getElem?_drop, List.getElem?_append_left (by omega)]
  have hc : whatS a = 7 → ((a ++ b).drop 4).take (lenS (whatS a) a - 4) = (a.drop 4).take (lenS (whatS a) a - 4) := by
    intro h7
    rw [h7] at hg h1
    have : fixN 7 = 4 := rfl
    rw [h7, List.drop_append_of_le_length (by omega), List.take_append_of_le_length (by rw [List.length_drop]; omega)]
  generalize hk : whatS a = k at hn hc h0 ⊢
  have hk9 : k < 9 := by rw [← hk]; exact whatS_lt a
  match k, hk9, h0, hn, hc with
  | 1, _, _, hn, _ => simp only [putS, hn 0 (by decide), hn 1 (by decide), hn 2 (by decide), hn 3 (by decide), hn 4 (by decide), hn 5 (by decide)]; rfl
  | 2, _, _, hn, _ => simp only [putS, hn 0 (by decide), hn 1 (by decide)]; rfl
  | 3, _, _, hn, _ => simp only [putS, hn 0 (by decide), hn 1 (by decide), hn 2 (by decide)]; rfl
  | 4, _, _, hn, _ => simp only [putS, hn 0 (by decide), hn 1 (by decide), hn 2 (by decide), hn 3 (by decide), hn 4 (by decide), hn 5 (by decide)]; rfl
  | 5, _, _, hn, _ => simp only [putS, hn 0 (by decide)]; rfl
  | 6, _, _, hn, _ => simp only [putS, hn 0 (by decide), hn 1 (by decide), hn 2 (by decide), hn 3 (by decide), hn 4 (by decide)]; rfl
  | 7, _, _, hn, hc => simp only [putS, hn 0 (by decide), hn 1 (by decide), hc rfl]; rfl
  | 8, _, _, hn, _ => simp only [putS, hn 0 (by decide), hn 1 (by decide)]; rfl
  | n + 9, h, _, _, _ => omega
end Go.Vx
namespace Go.Vx
open Go.RowKit
abbrev Str := List UInt8
abbrev sv (l : Str) : Value := .string ⟨l.toArray⟩
def sOf (l : List Int) : Str := l.map fun n => UInt8.ofNat n.toNat
section
variable {P : Program} {ty : TypeId} {e : Operand → Value} {w : World} {K : Value → World → Prop} {t u : TypeId} {x y : Operand} {a b : Str}
theorem L_eqS (hx : e x = sv a) (hy : e y = sv b) (h : K (.bool (decide (a = b))) w) : opW P (.binOp .eql t x y u) ty e w K := by
  refine opW_val (w' := w) ?_ h
  simp only [execOp, hx, hy, Sem.run_bind, Result.andThen_ok]
  simp [binOp_string_eql, eqGuard]
  by_cases q : a = b <;> simp [q]
theorem L_convS {s d el : TypeId} {v : Value} {l : List Int} (hs : P.underlying s = some (.slice el)) (hel : P.underlying el = some (.int .u8)) (hd : P.underlying d = some .string) (hr : Rd w v 1 (l.map (ic .u8))) (hx : e x = v) (h : K (sv (sOf l)) w) : opW P (.convert s d x) ty e w K := by
  refine opW_val (w' := w) ?_ h
  have key : (convert s d v).run P w = .ok (sv (sOf l)) w := by
    rcases hr.shape with ⟨rfl, hl⟩ | ⟨b, o, c, rfl⟩
    · have : l = [] := by simpa using hl
      subst this
      exact run_convert_bytes_nil w s el hs hel 0 0 d hd
    · have h1 : ∀ i, i < l.length → w.cell? ⟨b, o + i, none⟩ = some (.int .u8 (l.getD i 0)) := fun i hi => by
        have := hr.cell i 0 (ic .u8 l[i]) (.int .u8 l[i]) (by simp [hi]) rfl
        simp only [Nat.mul_one, Nat.add_zero] at this
        have e1 : l.getD i 0 = l[i] := by simp [List.getD, List.getElem?_eq_getElem hi]
        rw [e1]; exact this
      have := run_convert_bytes_arg w s el hs hel b o (l.map (ic .u8)).length c l (by simp) (by simpa using h1) d hd
      exact this
  simp only [execOp, hx, Sem.run_bind, key, Result.andThen_ok, Sem.run_pure]
end
theorem Own.starNil {w0 w : World} {M : Nat → Prop} {L : List Res} (h : Own w0 M w L) : Own w0 M w (L ++ [star []]) :=
  h.more (star []) ⟨fun _ _ => False, by simp, by simp, by simp⟩
end Go.Vx
namespace Go.Vx
open Go.RowKit
abbrev Pt := Option Addr
abbrev pt (p : Nat) : Pt := some ⟨p, 0, none⟩
structure Thg where
  p : Nat
  bs : List Int
  sf : Nat
structure Chg where
  to : Str
  fr : Str
  t : Pt
structure Dk where
  room : Int
  ts : List Thg
  nm : List (Str × Pt)
  sf : List (Str × Pt)
  ch : List Chg
instance : Inhabited Thg := ⟨⟨0, [], 0⟩⟩
instance : Inhabited Chg := ⟨⟨[], [], none⟩⟩
def pts (ts : List Thg) : List Pt := ts.map fun t => pt t.p
def doC (l : List (Str × Pt)) (c : Chg) : List (Str × Pt) :=
  let l1 := if c.fr = [] then l else mdel c.fr l
  match c.t with
  | none => mdel c.to l1
  | some a => mput c.to (some a) l1
def doAll (l : List (Str × Pt)) (cs : List Chg) : List (Str × Pt) := cs.foldl doC l
def chgD (m : Dk) (c : Chg) : Dk := { m with nm := doC m.nm c, ch := m.ch ++ [c] }
section
variable (TD TT U8 TP TC : Nat)
def thP (t : Thg) (a : Option Addr) (c : Nat) : List Res := [blk t.p [.slice a t.bs.length c, .int .i64 ((t.sf : Nat) : Int)] TT, row (.slice a t.bs.length c) (t.bs.map (ic .u8)) U8 1]
def thR (t : Thg) : Res := exR fun x : Option Addr × Nat => star (thP TT U8 t x.1 x.2)
structure DkA where
  a : Option Addr
  c : Nat
  r1 : Nat
  r2 : Nat
  a2 : Option Addr
  c2 : Nat
end
section
variable {TD TT U8 TP TC : Nat} {w w0 : World} {M : Nat → Prop} {L : List Res}
theorem th_apart {w : World} {S : Nat → Prop} : ∀ {ts : List Thg}, (star (ts.map (thR TT U8))).holds w S → (ts.map (·.p)).Nodup ∧ ∀ t ∈ ts, S t.p := by
  intro ts ⟨T, t1, t2, t3⟩
  have h1 : ∀ (i : Nat) t, ts[i]? = some t → T i t.p := by
    intro i t hi
    obtain ⟨x, T2, u1, u2, u3⟩ := t1 i (thR TT U8 t) (by rw [List.getElem?_map, hi]; rfl)
    have := (u1 0 _ rfl).1
    exact (u3 _).2 ⟨0, by simp [thP], this⟩
  refine ⟨?_, fun t ht => ?_⟩
  · unfold List.Nodup
    rw [List.pairwise_iff_getElem]
    intro i j hi hj hij he
    simp only [List.length_map] at hj
    simp only [List.getElem_map] at he
    have a1 := h1 i _ (List.getElem?_eq_getElem (Nat.lt_trans hij hj))
    have a2 := h1 j _ (List.getElem?_eq_getElem hj)
    rw [he] at a1
    have := t2 i j _ a1 a2
    omega
  · obtain ⟨i, hi⟩ := List.mem_iff_getElem?.1 ht
    exact (t3 _).2 ⟨i, by have := lt_of_get hi; simpa using this, h1 i t hi⟩
theorem Own.things (h : Own w0 M w L) (k : Nat) {ts : List Thg} (hk : L[k]? = some (star (ts.map (thR TT U8)))) : (ts.map (·.p)).Nodup := by
  obtain ⟨S, hS, _⟩ := h.get k hk
  exact (th_apart hS).1
def ThF (w : World) (ts : List Thg) : Prop := ∀ t ∈ ts, ∃ a c, CellsF w t.p [.slice a t.bs.length c, .int .i64 ((t.sf : Nat) : Int)] ∧ Rd w (.slice a t.bs.length c) 1 (t.bs.map (ic .u8))
theorem ThF.own' {ts : List Thg} (h : ThF w0 ts) (hs : Own w0 no w L) : ThF w ts := fun t ht => by
  obtain ⟨a, c, h1, h2⟩ := h t ht
  exact ⟨a, c, h1.own' hs, h2.own' hs⟩
end
end Go.Vx
namespace Go.Vx
open Go.RowKit
theorem pts_set {ts : List Thg} {i : Nat} {t t' : Thg} (hi : ts[i]? = some t) (hp : t'.p = t.p) : pts (ts.set i t') = pts ts := by
  unfold pts
  rw [List.map_set, hp]
  apply List.ext_getElem?
  intro j
  rw [List.getElem?_set]
  by_cases q : i = j
  · subst q; have := lt_of_get hi; simp [this, List.getElem?_eq_getElem this] at hi ⊢; rw [hi]
  · rw [if_neg q]
def newD (m : Dk) (s : Str) (p : Nat) (bs : List Int) : Dk := { m with ts := m.ts ++ [⟨p, bs, 0⟩], nm := doC m.nm ⟨s, [], pt p⟩, ch := m.ch ++ [⟨s, [], pt p⟩] }
end Go.Vx
namespace Go.Vx
open Go.RowKit
section
variable {κ ν : Type} [DecidableEq κ]
theorem d_mget_mem {k : κ} {v : ν} : ∀ {l : List (κ × ν)}, mget k l = some v → (k, v) ∈ l
  | [], h => by cases h
  | (a, b) :: l, h => by
    unfold mget at h
    split at h
    · rename_i e; subst e; cases h; simp
    · exact List.mem_cons_of_mem _ (d_mget_mem h)
theorem d_mdel_sub (k : κ) : ∀ (l : List (κ × ν)), (mdel k l).Sublist l
  | [] => List.Sublist.refl _
  | (a, b) :: l => by
    unfold mdel
    split
    · exact List.sublist_cons_self _ _
    · exact (d_mdel_sub k l).cons_cons _
theorem d_mput_keys (k : κ) (v : ν) : ∀ (l : List (κ × ν)), (mput k v l).map (·.1) = if k ∈ l.map (·.1) then l.map (·.1) else l.map (·.1) ++ [k]
  | [] => by simp [mput]
  | (a, b) :: l => by
    unfold mput
    split
    · rename_i e; subst e; simp
    · rename_i e
      simp only [List.map_cons, d_mput_keys k v l, List.mem_cons, e, false_or]
      split <;> simp
theorem d_mput_mem {k : κ} {v : ν} {x : κ × ν} : ∀ {l : List (κ × ν)}, x ∈ mput k v l → x = (k, v) ∨ x ∈ l
  | [], h => by simp [mput] at h; exact .inl h
  | (a, b) :: l, h => by
    unfold mput at h
    split at h
    · rcases List.mem_cons.1 h with e | e
      · exact .inl e
      · exact .inr (List.mem_cons_of_mem _ e)
    · rcases List.mem_cons.1 h with e | e
      · exact .inr (e ▸ List.mem_cons_self)
      · rcases d_mput_mem e with e | e
        · exact .inl e
        · exact .inr (List.mem_cons_of_mem _ e)
theorem d_mput_vals {k : κ} {v : ν} : ∀ {l : List (κ × ν)}, (l.map (·.2)).Nodup → v ∉ l.map (·.2) → ((mput k v l).map (·.2)).Nodup
  | [], _, _ => by simp [mput]
  | (a, b) :: l, hn, hv => by
    simp only [List.map_cons, List.nodup_cons, List.mem_cons, not_or] at hn hv
    unfold mput
    split
    · simp only [List.map_cons, List.nodup_cons]; exact ⟨hv.2, hn.2⟩
    · simp only [List.map_cons, List.nodup_cons]
      refine ⟨fun h => ?_, d_mput_vals hn.2 hv.2⟩
      obtain ⟨x, hx, he⟩ := List.mem_map.1 h
      rcases d_mput_mem hx with e | e
      · subst e; exact hv.1 he
      · exact hn.1 (List.mem_map.2 ⟨x, e, he⟩)
theorem d_mget_mput {k : κ} {v : ν} {j : κ} : ∀ {l : List (κ × ν)}, mget j (mput k v l) = if j = k then some v else mget j l
  | [] => by unfold mput mget; simp [mget]
  | (a, b) :: l => by
    unfold mput
    split
    · rename_i e; subst e
      unfold mget
      by_cases h : j = k <;> simp [h]
    · rename_i e
      unfold mget
      by_cases h : j = a
      · subst h; simp [show ¬ j = k from fun e2 => e e2.symm]
      · rw [if_neg h, d_mget_mput]; simp [h]
end
structure KOk (ts : List Thg) (l : List (Str × Pt)) : Prop where
  keys : (l.map (·.1)).Nodup
  vals : (l.map (·.2)).Nodup
  some : ∀ x ∈ l, x.2 ∈ pts ts
  long : ∀ x ∈ l, 1 ≤ x.1.length
theorem KOk.nil (ts : List Thg) : KOk ts [] := ⟨by simp, by simp, by simp, by simp⟩
theorem KOk.to {ts ts' : List Thg} {l : List (Str × Pt)} (h : KOk ts l) (hp : ∀ x ∈ pts ts, x ∈ pts ts') : KOk ts' l := ⟨h.keys, h.vals, fun x hx => hp _ (h.some x hx), h.long⟩
theorem KOk.del {ts : List Thg} {l : List (Str × Pt)} (h : KOk ts l) (s : Str) : KOk ts (mdel s l) :=
  ⟨((d_mdel_sub s l).map _).nodup h.keys, ((d_mdel_sub s l).map _).nodup h.vals, fun x hx => h.some x ((d_mdel_sub s l).subset hx), fun x hx => h.long x ((d_mdel_sub s l).subset hx)⟩
theorem KOk.put {ts : List Thg} {l : List (Str × Pt)} (h : KOk ts l) {s : Str} (hs : 1 ≤ s.length) {v : Pt} (hv : v ∉ l.map (·.2)) (ht : v ∈ pts ts) : KOk ts (mput s v l) := by
  refine ⟨?_, d_mput_vals h.vals hv, fun x hx => ?_, fun x hx => ?_⟩
  · rw [d_mput_keys]
    split
    · exact h.keys
    · rename_i q
      rw [List.nodup_append]
      exact ⟨h.keys, by simp, by intro a ha b hb; simp at hb; subst hb; exact fun e => q (e ▸ ha)⟩
  · rcases d_mput_mem hx with e | e
    · subst e; exact ht
    · exact h.some x e
  · rcases d_mput_mem hx with e | e
    · subst e; exact hs
    · exact h.long x e
structure DOk (N : Nat) (m : Dk) : Prop where
  nm : m.nm = doAll m.sf m.ch
  keys : ∀ k, k ≤ m.ch.length → KOk m.ts (doAll m.sf (m.ch.take k))
  chs : ∀ k ∈ m.ch, k.t = none ∨ ∃ p, k.t = pt p
  safe : ∀ t ∈ m.ts, t.sf ≤ t.bs.length
  nts : m.ts.length ≤ N
  nch : m.ch.length ≤ N
  bytes : (m.ts.map (·.bs.length)).sum ≤ 1000 * N
theorem DOk.now {N : Nat} {m : Dk} (h : DOk N m) : KOk m.ts m.nm := by
  have := h.keys m.ch.length (Nat.le_refl _)
  rw [List.take_length, ← h.nm] at this
  exact this
theorem DOk.mono {N N' : Nat} {m : Dk} (h : DOk N m) (hn : N ≤ N') : DOk N' m := ⟨h.nm, h.keys, h.chs, h.safe, by have := h.nts; omega, by have := h.nch; omega, by have := h.bytes; omega⟩
theorem DOk.new (room : Int) : DOk 0 ⟨room, [], [], [], []⟩ := ⟨rfl, fun k hk => by simp [doAll]; exact KOk.nil _, by simp, by simp, Nat.le_refl _, Nat.le_refl _, by simp⟩
theorem mem_len {ts : List Thg} {t : Thg} (h : t ∈ ts) : t.bs.length ≤ (ts.map (·.bs.length)).sum := by
  induction ts with
  | nil => cases h
  | cons u ts ih =>
    simp only [List.map_cons, List.sum_cons]
    rcases List.mem_cons.1 h with e | e
    · subst e; omega
    · have := ih e; omega
theorem DOk.len {N : Nat} {m : Dk} (h : DOk N m) {t : Thg} (ht : t ∈ m.ts) : t.bs.length ≤ 1000 * N := Nat.le_trans (mem_len ht) h.bytes
theorem take_app {α : Type} {l : List α} {a : α} {k : Nat} (h : k ≤ l.length) : (l ++ [a]).take k = l.take k := by
  rw [List.take_append_of_le_length h]
theorem doAll_app (l : List (Str × Pt)) (cs : List Chg) (c : Chg) : doAll l (cs ++ [c]) = doC (doAll l cs) c := by simp [doAll]
theorem DOk.chg {N : Nat} {m : Dk} (h : DOk N m) {c : Chg} (hc : c.t = none ∨ ∃ p, c.t = pt p) (hk : KOk m.ts (doC m.nm c)) : DOk (N + 1) (chgD m c) := by
  refine ⟨?_, fun k hkl => ?_, fun k hk1 => ?_, h.safe, by have := h.nts; show m.ts.length ≤ N + 1; omega, by have := h.nch; show (m.ch ++ [c]).length ≤ N + 1; simp; omega, by have := h.bytes; show (m.ts.map (·.bs.length)).sum ≤ 1000 * (N + 1); omega⟩
  · show doC m.nm c = doAll m.sf (m.ch ++ [c])
    rw [doAll_app, ← h.nm]
  · show KOk m.ts (doAll m.sf ((m.ch ++ [c]).take k))
    have hkl' : k ≤ m.ch.length + 1 := by have : k ≤ (m.ch ++ [c]).length := hkl; simpa using this
    by_cases q : k ≤ m.ch.length
    · rw [take_app q]; exact h.keys k q
    · have : k = (m.ch ++ [c]).length := by simp; omega
      rw [this, List.take_length, doAll_app, ← h.nm]; exact hk
  · have : k ∈ m.ch ++ [c] := hk1
    rcases List.mem_append.1 this with e | e
    · exact h.chs k e
    · simp at e; subst e; exact hc
theorem DOk.things {N : Nat} {m : Dk} {ts : List Thg} (h : DOk N m) (hp : pts ts = pts m.ts) (hs : ∀ t ∈ ts, t.sf ≤ t.bs.length) (hb : (ts.map (·.bs.length)).sum ≤ 1000 * (N + 1)) : DOk (N + 1) { m with ts := ts } := by
  have hl : ts.length = m.ts.length := by have := congrArg List.length hp; simpa [pts] using this
  exact ⟨h.nm, fun k hk => (h.keys k hk).to (by intro x hx; show x ∈ pts ts; rw [hp]; exact hx), h.chs, hs, by have := h.nts; show ts.length ≤ N + 1; omega, by have := h.nch; show m.ch.length ≤ N + 1; omega, hb⟩
theorem DOk.rem {N : Nat} {m : Dk} (h : DOk N m) (s : Str) : DOk (N + 1) (chgD m ⟨s, [], none⟩) := h.chg (.inl rfl) (by unfold doC; simp; exact h.now.del s)
theorem doC_new {l : List (Str × Pt)} {s : Str} {p : Nat} : doC l ⟨s, [], pt p⟩ = mput s (pt p) l := by unfold doC; simp
theorem DOk.newT {N : Nat} {m : Dk} (h : DOk N m) {s : Str} {p : Nat} {bs : List Int} (hs : 1 ≤ s.length) (hp : ∀ t ∈ m.ts, t.p ≠ p) (hb : bs.length ≤ 1000) : DOk (N + 1) (newD m s p bs) := by
  have hpts : pts (m.ts ++ [(⟨p, bs, 0⟩ : Thg)]) = pts m.ts ++ [pt p] := by simp [pts]
  have hno : pt p ∉ pts m.ts := fun hx => by
    obtain ⟨t, ht, he⟩ := List.mem_map.1 hx
    simp at he; exact hp t ht he
  have hto : ∀ x ∈ pts m.ts, x ∈ pts (m.ts ++ [(⟨p, bs, 0⟩ : Thg)]) := fun x hx => by rw [hpts]; simp [hx]
  have hput : KOk (m.ts ++ [(⟨p, bs, 0⟩ : Thg)]) (doC m.nm ⟨s, [], pt p⟩) := by
    rw [doC_new]
    exact (h.now.to hto).put hs (fun hx => by obtain ⟨y, hy, he⟩ := List.mem_map.1 hx; exact hno (he ▸ h.now.some y hy)) (by rw [hpts]; simp)
  refine ⟨?_, fun k hkl => ?_, fun k hk1 => ?_, fun t ht => ?_, ?_, ?_, ?_⟩
  · show doC m.nm ⟨s, [], pt p⟩ = doAll m.sf (m.ch ++ [(⟨s, [], pt p⟩ : Chg)])
    rw [doAll_app, ← h.nm]
  · show KOk (m.ts ++ [(⟨p, bs, 0⟩ : Thg)]) (doAll m.sf ((m.ch ++ [(⟨s, [], pt p⟩ : Chg)]).take k))
    have hkl' : k ≤ m.ch.length + 1 := by have : k ≤ (m.ch ++ [(⟨s, [], pt p⟩ : Chg)]).length := hkl; simpa using this
    by_cases q : k ≤ m.ch.length
    · rw [take_app q]; exact (h.keys k q).to hto
    · have : k = (m.ch ++ [(⟨s, [], pt p⟩ : Chg)]).length := by simp; omega
      rw [this, List.take_length, doAll_app, ← h.nm]; exact hput
  · have : k ∈ m.ch ++ [(⟨s, [], pt p⟩ : Chg)] := hk1
    rcases List.mem_append.1 this with e | e
    · exact h.chs k e
    · rw [List.mem_singleton] at e; subst e; exact .inr ⟨p, rfl⟩
  · have : t ∈ m.ts ++ [(⟨p, bs, 0⟩ : Thg)] := ht
    rcases List.mem_append.1 this with e | e
    · exact h.safe t e
    · simp at e; subst e; simp
  · have := h.nts; show (m.ts ++ [(⟨p, bs, 0⟩ : Thg)]).length ≤ N + 1; simp; omega
  · have := h.nch; show (m.ch ++ [(⟨s, [], pt p⟩ : Chg)]).length ≤ N + 1; simp; omega
  · have := h.bytes; show ((m.ts ++ [(⟨p, bs, 0⟩ : Thg)]).map (·.bs.length)).sum ≤ 1000 * (N + 1); simp; omega
theorem sum_setT {ts : List Thg} {i : Nat} {t t' : Thg} (hi : ts[i]? = some t) : ((ts.set i t').map (·.bs.length)).sum + t.bs.length = (ts.map (·.bs.length)).sum + t'.bs.length := by
  induction ts generalizing i with
  | nil => simp at hi
  | cons u ts ih =>
    cases i with
    | zero => simp at hi; subst hi; simp; omega
    | succ i => have := ih (i := i) (by simpa using hi); simp at this ⊢; omega
theorem DOk.app {N : Nat} {m : Dk} (h : DOk N m) {i : Nat} {t : Thg} (hi : m.ts[i]? = some t) {bs : List Int} (hb : bs.length ≤ 1000) : DOk (N + 1) { m with ts := m.ts.set i { t with bs := t.bs ++ bs } } := by
  refine h.things (pts_set hi rfl) (fun u hu => ?_) ?_
  · rcases List.mem_or_eq_of_mem_set hu with e | e
    · exact h.safe u e
    · subst e; have := h.safe t (List.mem_of_getElem? hi); simp; omega
  · have := sum_setT (t' := { t with bs := t.bs ++ bs }) hi
    have := h.bytes
    simp only [List.length_append] at *
    omega
end Go.Vx
namespace Go.Vx
open Go.RowKit
def RdX (w : World) (v : Value) (k : Nat) (ls : List (List Value)) : Prop := Rd w v k ls ∨ (ls = [] ∧ ∃ a, v = .slice (some a) 0 0)
section
variable {w w0 : World} {M : Nat → Prop} {L : List Res} {v : Value} {k : Nat} {ls : List (List Value)}
theorem Rd.emp_own (h : Rd w v k []) (w' : World) : Rd w' v k [] := ⟨h.len, h.small, h.shape, by simp, h.room⟩
theorem RdX.own (h : RdX w0 v k ls) (hs : Own w0 M w L) (hm : ls ≠ [] → ¬ M (bkS v)) : RdX w v k ls := by
  rcases h with h | h
  · by_cases q : ls = []
    · subst q; exact .inl (h.emp_own w)
    · exact .inl (h.own hs (hm q))
  · exact .inr h
theorem RdX.own' (h : RdX w0 v k ls) (hs : Own w0 no w L) : RdX w v k ls := h.own hs (fun _ h => h)
theorem RdX.pos (h : RdX w v k ls) (hp : ls.length ≠ 0) : Rd w v k ls := by
  rcases h with h | h
  · exact h
  · exact absurd (by rw [h.1]; rfl) hp
theorem RdX.sml {α : Type} {enc : α → List Value} {l : List α} (h : RdX w v k (l.map enc)) : l.length ≤ 9223372036854775807 := by
  rcases h with h | ⟨h, _⟩
  · exact h.sml
  · have : l = [] := by simpa using h
    subst this; simp
theorem RdX.old (h : RdX w v k ls) (hk : 0 < k) (hp : ls ≠ []) : bkS v < w.heap.size := by
  have h1 := h.pos (by intro e; exact hp (List.eq_nil_of_length_eq_zero e))
  rcases h1.shape with ⟨_, e⟩ | ⟨b, o, c, rfl⟩
  · exact absurd e hp
  · cases ls with
    | nil => exact absurd rfl hp
    | cons l ls =>
      have hl := h1.len l (by simp)
      have h2 := h1.cell 0 0 l (l[0]'(by omega)) (by simp) (List.getElem?_eq_getElem _)
      exact World.block_lt_of_cell? w ⟨b, o + 0 * k + 0, none⟩ h2
end
section
variable {P : Program} {ty : TypeId} {e : Operand → Value} {w : World} {K : Value → World → Prop} {w0 : World} {M : Nat → Prop} {L : List Res}
theorem L_convX {s d el : TypeId} {v : Value} {l : List Int} {x : Operand} (hs : P.underlying s = some (.slice el)) (hel : P.underlying el = some (.int .u8)) (hd : P.underlying d = some .string) (hr : RdX w v 1 (l.map (ic .u8))) (hx : e x = v) (h : K (sv (sOf l)) w) : opW P (.convert s d x) ty e w K := by
  rcases hr with hr | ⟨hl, a, rfl⟩
  · exact L_convS hs hel hd hr hx h
  · have : l = [] := by simpa using hl
    subst this
    refine opW_val (w' := w) ?_ h
    have key : (convert s d (.slice (some a) 0 0)).run P w = .ok (sv (sOf [])) w := by
      rw [run_convert_bytes_string w s d el _ _ _ hs hel hd]
      simp [Conv.bytesToString, loadCells, loadCellsFrom]
      rfl
    simp only [execOp, hx, Sem.run_bind, key, Result.andThen_ok, Sem.run_pure]
end
structure Dact where
  kind : Int
  nm : Str
  ot : Str
  ba : Option Addr
  bc : Nat
  bs : List Int
  chg : Int
  ca : Option Addr
  cc : Nat
  cuts : List Int
  num : Int
instance : Inhabited Dact := ⟨⟨0, [], [], none, 0, [], 0, none, 0, [], 0⟩⟩
def acc (x : Dact) : List Value := [.int .u8 x.kind, sv x.nm, sv x.ot, .slice x.ba x.bs.length x.bc, .int .u8 x.chg, .slice x.ca x.cuts.length x.cc, .int .i64 x.num]
structure ActOk (w : World) (x : Dact) : Prop where
  kind : 0 ≤ x.kind ∧ x.kind < 256
  rb : RdX w (.slice x.ba x.bs.length x.bc) 1 (x.bs.map (ic .u8))
  bs : ∀ y ∈ x.bs, 0 ≤ y ∧ y < 256
  chg : 0 ≤ x.chg ∧ x.chg < 256
  rc : RdX w (.slice x.ca x.cuts.length x.cc) 1 (x.cuts.map (ic .u8))
  cuts : ∀ y ∈ x.cuts, 0 ≤ y ∧ y < 256
  num : -9223372036854775808 ≤ x.num ∧ x.num ≤ 9223372036854775807
theorem ActOk.own' {w0 w : World} {L : List Res} {x : Dact} (h : ActOk w0 x) (hs : Own w0 no w L) : ActOk w x := ⟨h.kind, h.rb.own' hs, h.bs, h.chg, h.rc.own' hs, h.cuts, h.num⟩
end Go.Vx
namespace Go.Vx
open Go.RowKit
def zeroDk : List Value := [.int .i64 0, .slice none 0 0, .map none, .map none, .slice none 0 0, .bool false, .int .i64 0]
def Nob (w : World) (v : Value) : Prop := v = .pointer none ∨ ∃ b, v = .pointer (some ⟨b, 0, none⟩) ∧ CellsF w b zeroDk
theorem Nob.own' {w0 w : World} {L : List Res} {v : Value} (h : Nob w0 v) (hs : Own w0 no w L) : Nob w v := by
  rcases h with h | ⟨b, h, hc⟩
  · exact .inl h
  · exact .inr ⟨b, h, hc.own' hs⟩
structure Qs (N : Nat) (s : Str) (p : Nat) (bs : List Int) (sf : Nat) (room : Int) (m : Dk) : Prop where
  ok : DOk N m
  get : mget s m.nm = some (pt p)
  at_ : ∃ i : Nat, m.ts[i]? = some ⟨p, bs, sf⟩
  room : m.room = room
structure Qt (N : Nat) (s : Str) (p : Nat) (bs : List Int) (sf : Nat) (room : Int) (m : Dk) : Prop where
  q : Qs N s p bs sf room m
  safe : mget s m.sf = some (pt p)
  ch : ∀ k ∈ m.ch, k.fr = [] ∧ k.to ≠ s
theorem Qs.i {N : Nat} {s : Str} {p : Nat} {bs : List Int} {sf : Nat} {room : Int} {m : Dk} (h : Qs N s p bs sf room m) : ∃ i : Nat, m.ts[i]? = some ⟨p, bs, sf⟩ := h.at_
theorem Qt.app {N : Nat} {s : Str} {p : Nat} {bs cs : List Int} {sf : Nat} {room : Int} {m : Dk} (h : Qt N s p bs sf room m) {i : Nat} (hi : m.ts[i]? = some ⟨p, bs, sf⟩) (hc : cs.length ≤ 1000) : Qt (N + 1) s p (bs ++ cs) sf room { m with ts := m.ts.set i ⟨p, bs ++ cs, sf⟩ } :=
  ⟨⟨h.q.ok.app hi hc, h.q.get, ⟨i, by show (m.ts.set i _)[i]? = _; rw [List.getElem?_set_self (lt_of_get hi)]⟩, h.q.room⟩, h.safe, h.ch⟩
theorem Qt.new {N : Nat} {s s2 : Str} {p p2 : Nat} {bs cs : List Int} {sf : Nat} {room : Int} {m : Dk} (h : Qt N s p bs sf room m) (hs : 1 ≤ s2.length) (hne : s2 ≠ s) (hp : ∀ t ∈ m.ts, t.p ≠ p2) (hc : cs.length ≤ 1000) : Qt (N + 1) s p bs sf room (newD m s2 p2 cs) := by
  obtain ⟨i, hi⟩ := h.q.at_
  refine ⟨⟨h.q.ok.newT hs hp hc, ?_, ⟨i, ?_⟩, h.q.room⟩, h.safe, fun k hk => ?_⟩
  · show mget s (doC m.nm ⟨s2, [], pt p2⟩) = _
    rw [doC_new, d_mget_mput, if_neg (fun e => hne e.symm)]; exact h.q.get
  · show (m.ts ++ [_])[i]? = _
    rw [List.getElem?_append_left (lt_of_get hi)]; exact hi
  · have : k ∈ m.ch ++ [(⟨s2, [], pt p2⟩ : Chg)] := hk
    rcases List.mem_append.1 this with e | e
    · exact h.ch k e
    · rw [List.mem_singleton] at e; subst e; exact ⟨rfl, hne⟩
theorem Qt.other {N : Nat} {s s2 : Str} {p : Nat} {bs cs : List Int} {sf : Nat} {room : Int} {m : Dk} (h : Qt N s p bs sf room m) (hne : s2 ≠ s) {j : Nat} {t : Thg} (hj : m.ts[j]? = some t) (hg : mget s2 m.nm = some (pt t.p)) (hc : cs.length ≤ 1000) : Qt (N + 1) s p bs sf room { m with ts := m.ts.set j { t with bs := t.bs ++ cs } } := by
  obtain ⟨i, hi⟩ := h.q.at_
  have hij : j ≠ i := by
    intro e
    subst e
    rw [hi] at hj; cases hj
    have h1 := d_mget_mem hg
    have h2 := d_mget_mem h.q.get
    obtain ⟨a, ha⟩ := List.mem_iff_getElem?.1 h1
    obtain ⟨b, hb⟩ := List.mem_iff_getElem?.1 h2
    have hv := h.q.ok.now.vals
    unfold List.Nodup at hv
    rw [List.pairwise_iff_getElem] at hv
    have hal := lt_of_get ha
    have hbl := lt_of_get hb
    rw [List.getElem?_eq_getElem hal] at ha
    rw [List.getElem?_eq_getElem hbl] at hb
    rcases Nat.lt_trichotomy a b with q | q | q
    · exact hv a b (by simpa using hal) (by simpa using hbl) q (by simp only [List.getElem_map]; rw [Option.some.inj ha, Option.some.inj hb])
    · subst q
      have := (Option.some.inj ha).symm.trans (Option.some.inj hb)
      simp at this
      exact hne this
    · exact hv b a (by simpa using hbl) (by simpa using hal) q (by simp only [List.getElem_map]; rw [Option.some.inj ha, Option.some.inj hb])
  exact ⟨⟨h.q.ok.app hj hc, h.q.get, ⟨i, by show (m.ts.set j _)[i]? = _; rw [List.getElem?_set_ne hij]; exact hi⟩, h.q.room⟩, h.safe, h.ch⟩
end Go.Vx
namespace Go.Vx
open Go.RowKit
def PlainR (w : World) (v : Value) : Prop := ∃ b n c cur T, v = .slice (some ⟨b, 0, none⟩) n c ∧ w.heap[b]? = some (.cells cur T (0, 0))
theorem PlainR.own {w0 w : World} {M : Nat → Prop} {L : List Res} {v : Value} (h : PlainR w0 v) (hs : Own w0 M w L) (hm : ¬ M (bkS v)) : PlainR w v := by
  obtain ⟨b, n, c, cur, T, rfl, hb⟩ := h
  refine ⟨b, n, c, cur, T, rfl, ?_⟩
  rw [hs.old b (Array.getElem?_eq_some_iff.1 hb).1 hm]
  exact hb
section
variable {P : Program} {ty : TypeId} {e : Operand → Value} {w : World} {K : Value → World → Prop} {w0 : World} {M : Nat → Prop} {L : List Res}
theorem Own.plain {n : Nat} {v : Value} {ls : List (List Value)} {E k : Nat} (hs : Own w0 M w L) (i : Nat) (hi : L[i]? = some (row v ls E k)) (h0 : 0 < ls.length) (hn : n = ls.length) : PlainR w v ∧ True := by
  obtain ⟨S, ⟨_, hown, hSg⟩, hlt, _⟩ := hs.get i hi
  rcases hown.2 with ⟨hv, hn0⟩ | ⟨g, cap, cur, hv, h0g, hg, _⟩
  · omega
  · exact ⟨⟨g, _, cap, cur, E, hv, hg⟩, trivial⟩
end
end Go.Vx
namespace Go.Vx
theorem PlainR.lt {w : World} {v : Value} (h : PlainR w v) : bkS v < w.heap.size := by
  obtain ⟨b, n, c, cur, T, rfl, hb⟩ := h
  exact (Array.getElem?_eq_some_iff.1 hb).1
end Go.Vx
namespace Go.Vx
section
variable {α : Type} [Inhabited α]
structure CmpO (cf : α → α → Int) : Prop where
  irr : ∀ x, ¬ cf x x < 0
  tot : ∀ x y, cf x y < 0 → ¬ cf y x < 0
  tr : ∀ x y z, ¬ cf y x < 0 → ¬ cf z y < 0 → ¬ cf z x < 0
variable {cf : α → α → Int}
theorem gd_app_l {l m : List α} {i : Nat} (h : i < l.length) : gd (l ++ m) i = gd l i := by simp [gd, List.getElem?_append_left h]
theorem gd_app_r {l m : List α} {i : Nat} (h : l.length ≤ i) : gd (l ++ m) i = gd m (i - l.length) := by simp [gd, List.getElem?_append_right h]
theorem mem_gd {l : List α} {x : α} (h : x ∈ l) : ∃ i, i < l.length ∧ gd l i = x := by
  obtain ⟨i, hi, rfl⟩ := List.mem_iff_getElem.1 h
  exact ⟨i, hi, by simp [gd, hi]⟩
def PermSeg (l l2 : List α) (a b : Nat) : Prop := ∃ A X Z B, l = A ++ X ++ B ∧ l2 = A ++ Z ++ B ∧ A.length = a ∧ a + X.length = b ∧ Z.Perm X
omit [Inhabited α] in
theorem PermSeg.len {l l2 : List α} {a b : Nat} (h : PermSeg l l2 a b) : l2.length = l.length := by
  obtain ⟨A, X, Z, B, rfl, rfl, _, _, hp⟩ := h
  simp [hp.length_eq]
omit [Inhabited α] in
theorem cut3 (l : List α) {a b : Nat} (h : a ≤ b) (hb : b ≤ l.length) : l = l.take a ++ (l.take b).drop a ++ l.drop b ∧ (l.take a).length = a ∧ a + ((l.take b).drop a).length = b := by
  refine ⟨?_, by rw [List.length_take]; omega, by rw [List.length_drop, List.length_take]; omega⟩
  have e : l.take a = (l.take b).take a := by rw [List.take_take]; congr 1; omega
  rw [e, List.take_append_drop, List.take_append_drop]
omit [Inhabited α] in
theorem PermSeg.refl (l : List α) {a b : Nat} (h : a ≤ b) (hb : b ≤ l.length) : PermSeg l l a b := by
  obtain ⟨h1, h2, h3⟩ := cut3 l h hb
  exact ⟨_, _, _, _, h1, h1, h2, h3, List.Perm.refl _⟩
omit [Inhabited α] in
theorem app3_inj {A X B A2 X2 B2 : List α} (h : A ++ X ++ B = A2 ++ X2 ++ B2) (h1 : A.length = A2.length) (h2 : X.length = X2.length) : A = A2 ∧ X = X2 ∧ B = B2 := by
  rw [List.append_assoc, List.append_assoc] at h
  obtain ⟨e1, e2⟩ := List.append_inj h h1
  obtain ⟨e3, e4⟩ := List.append_inj e2 h2
  exact ⟨e1, e3, e4⟩
omit [Inhabited α] in
theorem PermSeg.trans {l m n : List α} {a b : Nat} (h : PermSeg l m a b) (g : PermSeg m n a b) : PermSeg l n a b := by
  obtain ⟨A, X, Z, B, rfl, rfl, ha, hb, hp⟩ := h
  obtain ⟨A2, X2, Z2, B2, e, rfl, ha2, hb2, hp2⟩ := g
  have hz := hp.length_eq
  obtain ⟨rfl, rfl, rfl⟩ := app3_inj e (by omega) (by omega)
  exact ⟨_, _, _, _, rfl, rfl, ha, hb, hp2.trans hp⟩
omit [Inhabited α] in
theorem PermSeg.wide {l m : List α} {a b a2 b2 : Nat} (h : PermSeg l m a b) (h1 : a2 ≤ a) (h2 : b ≤ b2) (h3 : b2 ≤ l.length) : PermSeg l m a2 b2 := by
  obtain ⟨A, X, Z, B, rfl, rfl, rfl, rfl, hp⟩ := h
  have hz := hp.length_eq
  simp only [List.length_append] at h3
  refine ⟨A.take a2, A.drop a2 ++ X ++ B.take (b2 - (A.length + X.length)), A.drop a2 ++ Z ++ B.take (b2 - (A.length + X.length)), B.drop (b2 - (A.length + X.length)), ?_, ?_, by rw [List.length_take]; omega, by simp only [List.length_append, List.length_drop, List.length_take]; omega, (hp.append_left _).append_right _⟩
  · have e1 := List.take_append_drop a2 A
    have e2 := List.take_append_drop (b2 - (A.length + X.length)) B
    calc A ++ X ++ B = (A.take a2 ++ A.drop a2) ++ X ++ (B.take (b2 - (A.length + X.length)) ++ B.drop (b2 - (A.length + X.length))) := by rw [e1, e2]
      _ = _ := by simp only [List.append_assoc]
  · have e1 := List.take_append_drop a2 A
    have e2 := List.take_append_drop (b2 - (A.length + X.length)) B
    calc A ++ Z ++ B = (A.take a2 ++ A.drop a2) ++ Z ++ (B.take (b2 - (A.length + X.length)) ++ B.drop (b2 - (A.length + X.length))) := by rw [e1, e2]
      _ = _ := by simp only [List.append_assoc]
theorem PermSeg.out {l m : List α} {a b i : Nat} (h : PermSeg l m a b) (hi : i < a ∨ b ≤ i) : gd m i = gd l i := by
  obtain ⟨A, X, Z, B, rfl, rfl, rfl, rfl, hp⟩ := h
  have hz := hp.length_eq
  rcases hi with hi | hi
  · rw [List.append_assoc, List.append_assoc, gd_app_l hi, gd_app_l hi]
  · rw [gd_app_r (by simp only [List.length_append]; omega), gd_app_r (by simp only [List.length_append]; omega)]
    simp only [List.length_append]; congr 1; omega
def OrdSeg (cf : α → α → Int) (l : List α) (a b : Nat) : Prop := ∀ i j, a ≤ i → i < j → j < b → ¬ cf (gd l j) (gd l i) < 0
theorem OrdSeg.out {l m : List α} {a b c d : Nat} (h : OrdSeg cf l a b) (g : PermSeg l m c d) (hd : b ≤ c ∨ d ≤ a) : OrdSeg cf m a b := by
  intro i j hi hij hj
  rw [g.out (by omega), g.out (by omega)]
  exact h i j hi hij hj
theorem OrdSeg.sub {l : List α} {a b c d : Nat} (h : OrdSeg cf l a b) (h1 : a ≤ c) (h2 : d ≤ b) : OrdSeg cf l c d := fun i j hi hij hj => h i j (by omega) hij (by omega)
theorem OrdSeg.small {l : List α} {a b : Nat} (h : b ≤ a + 1) : OrdSeg cf l a b := fun i j hi hij hj => by omega
theorem PermSeg.from {l m : List α} {a b i : Nat} (h : PermSeg l m a b) (h1 : a ≤ i) (h2 : i < b) : ∃ k, a ≤ k ∧ k < b ∧ gd m i = gd l k := by
  obtain ⟨A, X, Z, B, rfl, rfl, rfl, rfl, hp⟩ := h
  have hz := hp.length_eq
  have e1 : gd (A ++ Z ++ B) i = gd Z (i - A.length) := by rw [List.append_assoc, gd_app_r (by omega), gd_app_l (by omega)]
  have hm : gd Z (i - A.length) ∈ Z := gd_mem (by omega)
  obtain ⟨k, hk, e⟩ := mem_gd (hp.mem_iff.1 hm)
  refine ⟨A.length + k, by omega, by omega, ?_⟩
  rw [e1, ← e, List.append_assoc, gd_app_r (by omega), gd_app_l (by omega)]
  congr 1; omega
end
end Go.Vx
namespace Go.Vx
section
variable {α : Type} [Inhabited α] {cf : α → α → Int}
def RotSeg (l l2 : List α) (a m b : Nat) : Prop := ∃ A X Y B, l = A ++ X ++ Y ++ B ∧ l2 = A ++ Y ++ X ++ B ∧ A.length = a ∧ a + X.length = m ∧ m + Y.length = b
omit [Inhabited α] in
theorem RotSeg.refl {l : List α} {a m b : Nat} (h1 : a ≤ m) (h2 : m ≤ b) (h3 : b ≤ l.length) (h : a = m ∨ m = b) : RotSeg l l a m b := by
  obtain ⟨e1, e2, e3⟩ := cut3 l h1 (Nat.le_trans h2 h3)
  obtain ⟨f1, f2, f3⟩ := cut3 l h2 h3
  obtain ⟨g1, g2, g3⟩ := cut3 l (Nat.le_trans h1 h2) h3
  rcases h with h | h
  · subst h
    exact ⟨_, [], _, _, by simpa using g1, by simpa using g1, g2, by simp, g3⟩
  · subst h
    exact ⟨_, _, [], _, by simpa using e1, by simpa using e1, e2, e3, by simp⟩
end
end Go.Vx
namespace Go.Vx
def StaOk (s : Sta) : Prop := VecOk s.known ∧ (∀ e ∈ s.ents, CenOk e) ∧ ∀ x ∈ s.ticks, LstOk x
end Go.Vx
namespace Go.Vx
def cv (e : Cen) : Value := .agg (cec e).toArray
def setF (a e : Cen) : Cen := if e.kind = 1 then a else if lessC a e = true then e else a
end Go.Vx
namespace Go.Vx
theorem Seq.take {l : List Opn} (h : Seq l) : ∀ k, Seq (l.take k) := by
  induction h with
  | nil => intro k; rw [List.take_nil]; exact .nil
  | @snoc l o h1 h2 h3 h4 h5 h6 ih =>
    intro k
    rcases Nat.lt_or_ge l.length k with q | q
    · rw [List.take_of_length_le (by rw [List.length_append, List.length_singleton]; omega)]; exact .snoc h1 h2 h3 h4 h5 h6
    · rw [List.take_append_of_le_length q]; exact ih k
theorem putT_ok {c t : Int} (h : LstOk ⟨c, t⟩) : ∀ {l : List Lst}, (∀ x ∈ l, LstOk x) → ∀ x ∈ putT c t l, LstOk x
  | [], _, x, hx => by simp [putT] at hx; subst hx; exact h
  | y :: l, hl, x, hx => by
    have hy := hl y (by simp)
    have hl' : ∀ x ∈ l, LstOk x := fun z hz => hl z (by simp [hz])
    unfold putT at hx
    split at hx
    · rcases List.mem_cons.1 hx with g | g
      · subst g
        obtain ⟨h1, h2, h3⟩ := h
        obtain ⟨k1, k2, k3⟩ := hy
        dsimp only at h1 h2 h3
        exact ⟨h1, by show 0 ≤ max y.tick t; omega, by show max y.tick t < _; omega⟩
      · exact hl' x g
    · split at hx
      · rcases List.mem_cons.1 hx with g | g
        · subst g; exact h
        · exact hl x g
      · rcases List.mem_cons.1 hx with g | g
        · subst g; exact hy
        · exact putT_ok h hl' x g
theorem entO_ok {o : Opn} (h : OpnOk o) : CenOk (entO o) := by
  obtain ⟨h1, h2, h3, h4, h5, h6, h7⟩ := h
  have := vsum_bd h7
  exact ⟨h3, h4, h5, h2, h1, by show 0 ≤ cntO o; unfold cntO; omega, by show cntO o < _; unfold cntO; omega⟩
theorem applyE_ok {s : Sta} {o : Opn} (hs : StaOk s) (ho : OpnOk o) : StaOk (applyE s o) := by
  obtain ⟨h1, h2, h3⟩ := hs
  refine ⟨?_, ?_, ?_⟩
  · exact vset_ok h1 _ ho.1.2.1 ho.1.2.2
  · intro e he
    unfold applyE at he
    dsimp only at he
    split at he
    · rcases mem_putE.1 he with g | g
      · subst g; exact entO_ok ho
      · exact h2 e (List.mem_filter.1 g).1
    · exact h2 e (List.mem_filter.1 he).1
  · intro x hx
    exact putT_ok ⟨ho.2.2.1, ho.2.2.2.2.2.1⟩ h3 x hx
theorem szero_ok : StaOk szero := ⟨vzero_ok, (fun _ h => by cases h), (fun _ h => by cases h)⟩
theorem Seq.ok {l : List Opn} (h : Seq l) : StaOk (allE l) := by
  induction h with
  | nil => exact szero_ok
  | snoc h1 h2 h3 h4 h5 h6 ih => rw [allE_snoc]; exact applyE_ok ih h2
end Go.Vx
namespace Go.Vx
open Go.RowKit
def stcv (x : Stc) (a : Option Addr) (c : Nat) : List Value := [.int .i64 x.what, .int .u8 x.a, .int .u8 x.b, .int .i64 x.n, .int .i64 x.kind, .int .u16 x.at_, .int .u8 x.by_] ++ oc x.op ++ vc x.vec ++ [.slice a x.cuts.length c]
structure Stp where
  c : Stc
  a : Option Addr
  n : Nat
instance : Inhabited Stp := ⟨⟨stcz, none, 0⟩⟩
def stpz : Stp := ⟨stcz, none, 0⟩
def stp (x : Stp) : List Value := stcv x.c x.a x.n
theorem stp_one (x : Stp) : ∀ v ∈ stp x, v.oneCell' = true := by
  intro v hv
  unfold stp stcv at hv
  simp only [List.mem_append] at hv
  rcases hv with ((hv | hv) | hv) | hv
  · simp only [List.mem_cons, List.not_mem_nil, or_false] at hv
    rcases hv with h | h | h | h | h | h | h <;> subst h <;> rfl
  · exact oc_one _ v hv
  · exact vc_one _ v hv
  · simp only [List.mem_cons, List.not_mem_nil, or_false] at hv
    subst hv; rfl
def cutR (x : Stp) : Res := row (.slice x.a x.c.cuts.length x.n) (x.c.cuts.map (ic .u8)) 5 1
def sameC (x y : Stc) : Bool := decide (x.what = y.what) && decide (x.a = y.a) && decide (x.b = y.b) && decide (x.n = y.n) && decide (x.kind = y.kind) && decide (x.at_ = y.at_) && decide (x.by_ = y.by_) && decide (x.op = y.op) && decide (x.vec = y.vec) && decide (sOf x.cuts = sOf y.cuts)
theorem sameC_self (x : Stc) : sameC x x = true := by simp [sameC]
def decR (T : Nat) (a : Option Addr) (c : Nat) (l : List Stc) : Res := exR fun L : { L : List Stp // L.map (·.c) = l } => star [row (.slice a l.length c) (L.1.map stp) T 47, star (L.1.map cutR)]
theorem Own.unex {w0 w : World} {M : Nat → Prop} {L : List Res} {α : Type} {f : α → Res} (h : Own w0 M w L) (i : Nat) (hi : L[i]? = some (exR f)) : ∃ a, Own w0 M w (L.set i (f a)) := by
  obtain ⟨h1, h2, h3, h4, h5, S, h6, h7, h8, h9⟩ := h
  obtain ⟨a, ha⟩ := h6 i _ hi
  refine ⟨a, h1, h2, h3, h4, h5, S, fun k R hk => ?_, h7, h8, h9⟩
  rw [List.getElem?_set] at hk
  by_cases hki : i = k
  · subst hki
    rw [if_pos rfl] at hk
    split at hk
    · cases hk; exact ha
    · cases hk
  · rw [if_neg hki] at hk; exact h6 k R hk
theorem dec_own {w0 w : World} {M : Nat → Prop} {Q : List Stp} {T : TypeId} {a : Option Addr} {c : Nat} (h : Own w0 M w [row (.slice a Q.length c) (Q.map stp) T 47, star (Q.map cutR)]) : Own w0 M w [decR T a c (Q.map (·.c))] := by
  have h := h.shut
  unfold decR
  rw [List.length_map]
  exact Own.pack (f := fun L : { L : List Stp // L.map (·.c) = Q.map (·.c) } => star [row (.slice a Q.length c) (L.1.map stp) T 47, star (L.1.map cutR)]) ⟨Q, rfl⟩ h
theorem cut_rd {w0 w : World} {M : Nat → Prop} {L : List Res} {Q : List Stp} (h : Own w0 M w L) (i : Nat) (hi : L[i]? = some (star (Q.map cutR))) (j : Nat) (hj : j < Q.length) : Rd w (.slice (gd Q j).a (gd Q j).c.cuts.length (gd Q j).n) 1 ((gd Q j).c.cuts.map (ic .u8)) := by
  obtain ⟨S, hS, _⟩ := h.get i hi
  obtain ⟨T, h1, _, _⟩ := hS
  have : (Q.map cutR)[j]? = some (cutR (gd Q j)) := by
    rw [List.getElem?_map, List.getElem?_eq_getElem hj]
    simp [gd, List.getD_eq_getElem?_getD, hj]
  exact Rd.of_row (h1 j _ this)
theorem gd_core {Q : List Stp} {j : Nat} (hj : j < Q.length) : (gd Q j).c = (Q.map (·.c))[j]'(by simpa using hj) := by
  simp [gd, List.getD_eq_getElem?_getD, hj]
theorem cuts_snoc {w0 w : World} {M : Nat → Prop} {L : List Res} {Q : List Stp} {x : Stp} (h : Own w0 M w L) (i j : Nat) (hij : i ≠ j) (hi : L[i]? = some (star (Q.map cutR))) (hj : L[j]? = some (cutR x)) : Own w0 M w ((L.set j emp).set i (star ((Q ++ [x]).map cutR))) := by
  obtain ⟨h1, h2, h3, h4, h5, S, h6, h7, h8, h9⟩ := h
  obtain ⟨T, t1, t2, t3⟩ := h6 i _ hi
  have hxj := h6 j _ hj
  have hil : i < L.length := lt_of_get hi
  have hjl : j < L.length := lt_of_get hj
  refine ⟨h1, h2, h3, h4, h5, fun k b => if k = i then S i b ∨ S j b else if k = j then False else S k b, fun k R hk => ?_, fun k b hb => ?_, fun k k' b hb hb' => ?_, fun k b hb hlt => ?_⟩
  · rw [List.getElem?_set] at hk
    by_cases hki : i = k
    · subst hki
      rw [if_pos rfl, List.length_set, if_pos hil] at hk
      cases hk
      refine ⟨fun q b => if q < Q.length then T q b else q = Q.length ∧ S j b, fun q R hq => ?_, fun q q' b hb hb' => ?_, fun b => ?_⟩
      · rw [List.map_append, List.getElem?_append, List.length_map] at hq
        split at hq
        · rename_i hlt
          have e : (fun b => if q < Q.length then T q b else q = Q.length ∧ S j b) = T q := by funext b; rw [if_pos hlt]
          show R.holds w (fun b => if q < Q.length then T q b else q = Q.length ∧ S j b)
          rw [e]; exact t1 q R hq
        · rename_i hge
          have hq0 : q = Q.length := by
            have := lt_of_get hq; simp at this; omega
          subst hq0
          simp at hq
          subst hq
          have e : (fun b => if Q.length < Q.length then T Q.length b else Q.length = Q.length ∧ S j b) = S j := by funext b; simp
          show (cutR x).holds w (fun b => if Q.length < Q.length then T Q.length b else Q.length = Q.length ∧ S j b)
          rw [e]; exact hxj
      · have key : ∀ q, q < Q.length → T q b → S j b → False := fun q hq hT hS => hij (h8 i j b ((t3 b).2 ⟨q, by simpa using hq, hT⟩) hS)
        by_cases c1 : q < Q.length <;> by_cases c2 : q' < Q.length
        · simp only [c1, c2, if_true] at hb hb'; exact t2 q q' b hb hb'
        · simp only [c1, c2, if_true, if_false] at hb hb'; exact (key q c1 hb hb'.2).elim
        · simp only [c1, c2, if_true, if_false] at hb hb'; exact (key q' c2 hb' hb.2).elim
        · simp only [c1, c2, if_false] at hb hb'; exact hb.1.trans hb'.1.symm
      · simp only [if_true]
        constructor
        · rintro (hb | hb)
          · obtain ⟨q, hq, hT⟩ := (t3 b).1 hb
            have hq : q < Q.length := by simpa using hq
            exact ⟨q, by simp; omega, by rw [if_pos hq]; exact hT⟩
          · exact ⟨Q.length, by simp, by rw [if_neg (Nat.lt_irrefl _)]; exact ⟨rfl, hb⟩⟩
        · rintro ⟨q, hq, hT⟩
          split at hT
          · rename_i hlt
            exact .inl ((t3 b).2 ⟨q, by simpa using hlt, hT⟩)
          · exact .inr hT.2
    · rw [if_neg hki, List.getElem?_set] at hk
      have e1 : (fun b => if k = i then S i b ∨ S j b else if k = j then False else S k b) = fun b => if k = j then False else S k b := by funext b; rw [if_neg (fun e => hki e.symm)]
      show R.holds w (fun b => if k = i then S i b ∨ S j b else if k = j then False else S k b)
      rw [e1]
      by_cases hkj : j = k
      · subst hkj
        rw [if_pos rfl, if_pos hjl] at hk
        cases hk
        trivial
      · rw [if_neg hkj] at hk
        have e2 : (fun b => if k = j then False else S k b) = S k := by funext b; rw [if_neg (fun e => hkj e.symm)]
        rw [e2]; exact h6 k R hk
  · have hb : if k = i then S i b ∨ S j b else if k = j then False else S k b := hb
    split at hb
    · rcases hb with hb | hb
      · exact h7 i b hb
      · exact h7 j b hb
    · split at hb
      · exact hb.elim
      · exact h7 k b hb
  · have hb : if k = i then S i b ∨ S j b else if k = j then False else S k b := hb
    have hb' : if k' = i then S i b ∨ S j b else if k' = j then False else S k' b := hb'
    have own : ∀ {k}, (if k = i then S i b ∨ S j b else if k = j then False else S k b) → ∃ q, S q b ∧ (q = k ∨ (q = j ∧ k = i)) ∧ k ≠ j := by
      intro k hk
      by_cases c1 : k = i
      · rw [if_pos c1] at hk
        subst c1
        rcases hk with hk | hk
        · exact ⟨k, hk, .inl rfl, hij⟩
        · exact ⟨j, hk, .inr ⟨rfl, rfl⟩, hij⟩
      · rw [if_neg c1] at hk
        by_cases c2 : k = j
        · rw [if_pos c2] at hk; exact hk.elim
        · rw [if_neg c2] at hk; exact ⟨k, hk, .inl rfl, c2⟩
    obtain ⟨q, q1, q2, q3⟩ := own hb
    obtain ⟨q', q1', q2', q3'⟩ := own hb'
    have := h8 q q' b q1 q1'
    omega
  · have hb : if k = i then S i b ∨ S j b else if k = j then False else S k b := hb
    split at hb
    · rcases hb with hb | hb
      · exact h9 i b hb hlt
      · exact h9 j b hb hlt
    · split at hb
      · exact hb.elim
      · exact h9 k b hb hlt
end Go.Vx
namespace Go.Proofs
open Go Go.Vx Go.RowKit
namespace Tt
theorem S1_22 : T1 Tryz.prog 22 := ⟨Tryz.sizeOf22, Tryz.isAgg22⟩
theorem SA_39 : TA Tryz.prog 39 47 := ⟨Tryz.sizeOf39, Tryz.isAgg39⟩
theorem SA_41 : TA Tryz.prog 41 47 := ⟨Tryz.sizeOf41, Tryz.isAgg41⟩
set_option maxRecDepth 20000 in
theorem EQ_33 (a b : Dot) : EqF Tryz.prog 2 33 (.agg (dc a).toArray) (.agg (dc b).toArray) (decide (a = b)) := by
  rw [← dec_dot]
  exact EqF_struct Tryz.underlying33 Tryz.stoodInHeld33 (.cons (by decide) (PartF_one ⟨Tryz.sizeOf5, Tryz.isAgg5⟩ rfl) (PartF_one ⟨Tryz.sizeOf5, Tryz.isAgg5⟩ rfl) (EqF_int Tryz.runUnderlying5) (.cons (by decide) (PartF_one ⟨Tryz.sizeOf31, Tryz.isAgg31⟩ rfl) (PartF_one ⟨Tryz.sizeOf31, Tryz.isAgg31⟩ rfl) (EqF_int Tryz.runUnderlying31) .nil))
set_option maxRecDepth 20000 in
theorem EQ_37 (a b : Opn) : EqF Tryz.prog 3 37 (.agg (oc a).toArray) (.agg (oc b).toArray) (decide (a = b)) := by
  rw [← dec_opn]
  exact EqF_struct (D := 2) Tryz.underlying37 Tryz.stoodInHeld37 (.cons (by decide) (PartF_agg SA_33 rfl rfl) (PartF_agg SA_33 rfl rfl) ((EQ_33 _ _).up (by decide)) (.cons (by decide) (PartF_one ⟨Tryz.sizeOf5, Tryz.isAgg5⟩ rfl) (PartF_one ⟨Tryz.sizeOf5, Tryz.isAgg5⟩ rfl) ((EqF_int Tryz.runUnderlying5).up (by decide)) (.cons (by decide) (PartF_one ⟨Tryz.sizeOf30, Tryz.isAgg30⟩ rfl) (PartF_one ⟨Tryz.sizeOf30, Tryz.isAgg30⟩ rfl) ((EqF_int Tryz.runUnderlying30).up (by decide)) (.cons (by decide) (PartF_one ⟨Tryz.sizeOf30, Tryz.isAgg30⟩ rfl) (PartF_one ⟨Tryz.sizeOf30, Tryz.isAgg30⟩ rfl) ((EqF_int Tryz.runUnderlying30).up (by decide)) (.cons (by decide) (PartF_one ⟨Tryz.sizeOf30, Tryz.isAgg30⟩ rfl) (PartF_one ⟨Tryz.sizeOf30, Tryz.isAgg30⟩ rfl) ((EqF_int Tryz.runUnderlying30).up (by decide)) (.cons (by decide) (PartF_one ⟨Tryz.sizeOf31, Tryz.isAgg31⟩ rfl) (PartF_one ⟨Tryz.sizeOf31, Tryz.isAgg31⟩ rfl) ((EqF_int Tryz.runUnderlying31).up (by decide)) (.cons (by decide) (PartF_agg SA_35 rfl rfl) (PartF_agg SA_35 rfl rfl) ((EQ_35 _ _).up (by decide)) .nil)))))))
theorem FA_39_0 : FA Tryz.prog 39 0 0 := fun b o w => by simp [Instr.fieldAt, Instr.sureAddr, fieldPlace, add_eq]
theorem FA_39_1 : FA Tryz.prog 39 1 1 := fun b o w => by simp [Instr.fieldAt, Instr.sureAddr, fieldPlace, add_eq]
theorem FA_39_2 : FA Tryz.prog 39 2 2 := fun b o w => by simp [Instr.fieldAt, Instr.sureAddr, fieldPlace, add_eq]
theorem FA_39_3 : FA Tryz.prog 39 3 3 := fun b o w => by simp [Instr.fieldAt, Instr.sureAddr, fieldPlace, add_eq]
theorem FA_39_4 : FA Tryz.prog 39 4 4 := fun b o w => by simp [Instr.fieldAt, Instr.sureAddr, fieldPlace, add_eq]
theorem FA_39_5 : FA Tryz.prog 39 5 5 := fun b o w => by simp [Instr.fieldAt, Instr.sureAddr, fieldPlace, add_eq]
theorem FA_39_6 : FA Tryz.prog 39 6 6 := fun b o w => by simp [Instr.fieldAt, Instr.sureAddr, fieldPlace, add_eq]
theorem FA_39_7 : FA Tryz.prog 39 7 7 := fun b o w => by simp [Instr.fieldAt, Instr.sureAddr, fieldPlace, add_eq]
theorem FA_39_8 : FA Tryz.prog 39 8 30 := fun b o w => by simp [Instr.fieldAt, Instr.sureAddr, fieldPlace, add_eq]
theorem FA_39_9 : FA Tryz.prog 39 9 46 := fun b o w => by simp [Instr.fieldAt, Instr.sureAddr, fieldPlace, add_eq]
theorem UDR_22 : Tryz.prog.underlying 22 = some (.slice 5) := Tryz.underlying22
theorem UDR_5 : Tryz.prog.underlying 5 = some (.int .u8) := Tryz.underlying5
theorem UDR_9 : Tryz.prog.underlying 9 = some (.string) := Tryz.underlying9
theorem ZV_39 : Zv Tryz.prog 39 (.agg (stp stpz).toArray) := Tryz.zeroValue39
end Tt
end Go.Proofs
namespace Go.Ce
open Go.RowKit Go.Vx
variable [Tok]
theorem run_fn {C : Cfg} {P : Program} (HC : CfgOk C P) (HH : HookOk C P) {f fuel : Nat} {fn : Func} {c : Code} {args : List AV} {vs : List Value} (hf : C.fn f = some fn) (hc : fn.body = some c) (hargs : ∀ σ, RelL σ args vs)
    {outs : List (AV × Mem)} (h : callA C (exec C fuel) f args ⟨.lf, 64, []⟩ = some outs) {w : World} (hI : Tok.I w no) {N : Nat} (hN : ∀ o ∈ outs, o.2.c ≤ N) :
    Calls P f vs.toArray w (fun e w' => ∃ V σ, ∃ o ∈ outs, e = .returned V ∧ Rel σ o.1 V ∧ Good (N + 64) w no σ (fun _ => emp) o.2.h.get w') := by
  let σ : Sig := fun x => if x < 64 then some (x, 0) else none
  have hσ : ∀ x, x < 64 → σ x = some (x, 0) := fun x hx => if_pos hx
  have hget : ∀ x, (⟨.lf, 64, []⟩ : Mem).h.get x = none := fun x => rfl
  haveI : Inv w no := ⟨hI⟩
  have own : Own w no w (LH (N + 64) (resA σ (fun _ => emp) (⟨.lf, 64, []⟩ : Mem).h.get)) := by
    refine ⟨rfl, ⟨rfl, Nat.le_refl _⟩, rfl, Nat.le_refl _, fun _ _ _ => rfl, fun _ _ => False, fun x R hR => ?_, fun _ _ h => h.elim, fun _ _ _ h => h.elim, fun _ _ h => h.elim⟩
    obtain ⟨_, rfl⟩ := LH_getR hR
    unfold resA
    rw [hget]
    trivial
  have hpre : Pre (N + 64) w no σ (fun _ => emp) (⟨.lf, 64, []⟩ : Mem) w N := by
    refine ⟨fun x hx => ⟨0, hσ x hx⟩, ⟨own, fun x blk hx => by rw [hget] at hx; cases hx⟩, fun x h1 h2 => ?_, by omega⟩
    have h1 : 64 ≤ x := h1
    refine ⟨if_neg (by omega), rfl, hget x⟩
  have := run_ok HC HH fuel (B := N + 64) f args _ _ h hpre hN (hargs σ)
  rw [HC.en f fn c hf hc] at this
  refine Calls.mono this fun e w' hq => ?_
  obtain ⟨v, rfl, o, ho, σ', q1, q2, q3, q4⟩ := hq
  exact ⟨v, σ', o, ho, rfl, q1, q4⟩
theorem Good.rowOwn {B : Nat} {w0 w : World} {M : Nat → Prop} [Inv w0 M] {σ : Sig} {fr : Nat → Res} {h : Hp} (hg : Good B w0 M σ fr h w) {x : Nat} {cs : List AV} {T : Nat} (hx : h x = some (.row cs T 0 false)) :
    ∃ b e vs, σ x = some (b, e) ∧ RelL σ cs vs ∧ ((∀ v ∈ vs, v.oneCell' = true) → vs.length ≤ 1000000 → Own w0 M w [Go.Vx.row (.slice (some ⟨b, 0, none⟩) vs.length vs.length) (vs.map fun v => [v]) T 1]) := by
  obtain ⟨b, e, vs, rest, h1, h2, h3, h4⟩ := hg.row hx
  have h4 : rest = [] := List.length_eq_zero_iff.1 (by simpa using h4)
  subst h4
  rw [List.append_nil] at h2
  refine ⟨b, e, vs, h1, h3, fun hone hlen => ?_⟩
  have hfl : (vs.map fun v => [v]).flatten = vs := by
    clear h1 h2 h3 hone hlen
    induction vs with
    | nil => rfl
    | cons v vs ih => simp [ih]
  have hc := hg.own.conv x (R' := Go.Vx.row (.slice (some ⟨b, 0, none⟩) vs.length vs.length) (vs.map fun v => [v]) T 1) (LH_get _ (hg.bd x _ hx)) (fun S hS => by
    unfold resA at hS
    rw [hx] at hS
    obtain ⟨b', e', o, q1, q2, q3, _⟩ := hS
    rw [h1] at q1
    cases q1
    refine ⟨⟨fun l hl => ?_, fun l hl u hu => ?_⟩, ⟨by rw [hfl]; simp, .inr ⟨b, vs.length, vs.toArray, by simp, Nat.zero_le _, h2, by simp, by simp only [maxLen]; omega, by simp, ?_⟩⟩, fun g hg => by cases hg; exact q2⟩
    · obtain ⟨v, _, rfl⟩ := List.mem_map.1 hl; rfl
    · obtain ⟨v, hv, rfl⟩ := List.mem_map.1 hl
      have hu : u = v := by simpa using hu
      rw [hu]
      exact hone v hv
    · rw [hfl]; simp)
  exact hc.only x (by rw [List.getElem?_set]; simp [LH_len, hg.bd x _ hx])
theorem relL_map_tok {σ : Sig} : ∀ {l : List Nat} {vs : List Value}, RelL σ (l.map AV.tok) vs → vs = l.map Tok.v
  | [], _, h => by cases h; rfl
  | n :: l, vs, h => by
    have h : RelL σ (.tok n :: l.map AV.tok) vs := h
    cases h with | cons h1 h2 => ?_
    cases h1
    rw [relL_map_tok h2]; rfl
noncomputable def eqV (a b : AV) : Bool := match a, b with
  | .tok k, .tok j => Nat.beq k j
  | .i k n, .i j m => Nat.beq (kd k) (kd j) && eqI n m
  | .b x, .b y => x == y
  | .sn, .sn => true
  | _, _ => false
theorem eqV_eq {a b : AV} (h : eqV a b = true) : a = b := by
  unfold eqV at h
  split at h
  · rw [Nat.eq_of_beq_eq_true h]
  · rw [Bool.and_eq_true, eqI_eq, decide_eq_true_iff] at h
    rw [kd_inj (Nat.eq_of_beq_eq_true h.1), h.2]
  · rw [eq_of_beq h]
  · rfl
  · cases h
noncomputable def eqL (a b : List AV) : Bool := List.rec (fun b => match b with | [] => true | _ => false) (fun x _ ih b => match b with | y :: t => eqV x y && ih t | [] => false) a b
theorem eqL_eq : ∀ {a b : List AV}, eqL a b = true → a = b
  | [], [], _ => rfl
  | [], _ :: _, h => by cases h
  | _ :: _, [], h => by cases h
  | x :: a, y :: b, h => by
    have h : (eqV x y && eqL a b) = true := h
    rw [Bool.and_eq_true] at h
    rw [eqV_eq h.1, eqL_eq h.2]
end Go.Ce
