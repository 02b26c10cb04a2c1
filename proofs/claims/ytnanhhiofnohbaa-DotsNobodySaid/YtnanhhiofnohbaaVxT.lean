/- A set of dots and the document's answer. -/
import Derived.Test.YtnanhhiofnohbaaVxR
namespace Go.Vx
/-! ## strictly rising lists of dots -/
def ltD (x y : Dot) : Prop := x.rep < y.rep ∨ (x.rep = y.rep ∧ x.seq < y.seq)
theorem lt_nodup {l : List Dot} (h : l.Pairwise ltD) : l.Nodup := h.imp fun {a b} hab e => by subst e; unfold ltD at hab; omega
theorem lt_le {l : List Dot} (h : l.Pairwise ltD) : l.Pairwise (fun x y => leD x y = true) := h.imp fun {a b} hab => by rw [leD_iff]; unfold ltD at hab; omega
theorem rising_eq {l m : List Dot} (hl : l.Pairwise ltD) (hm : m.Pairwise ltD) (h : ∀ x, x ∈ l ↔ x ∈ m) : l = m :=
  sorted_unique ((List.perm_ext_iff_of_nodup (lt_nodup hl) (lt_nodup hm)).2 h) (lt_le hl) (lt_le hm)
theorem sortL_rising {l : List Dot} (h : l.Nodup) : (sortL l).Pairwise ltD := by
  have h1 : (sortL l).Pairwise (fun x y => leD x y = true) := List.pairwise_mergeSort leD_trans leD_total l
  have h2 : (sortL l).Nodup := (List.mergeSort_perm l leD).nodup_iff.2 h
  refine (h1.and h2).imp fun {a b} ⟨h3, h4⟩ => ?_
  rw [leD_iff] at h3
  unfold ltD
  rcases h3 with h3 | ⟨h3, h5⟩
  · exact .inl h3
  · refine .inr ⟨h3, ?_⟩
    rcases Int.lt_or_le a.seq b.seq with h6 | h6
    · exact h6
    · exact absurd (dot_ext h3 (by omega)) h4
theorem sortL_mem {l : List Dot} {x : Dot} : x ∈ sortL l ↔ x ∈ l := List.mem_mergeSort
theorem looseL_mem {g : Grp} {x : Dot} : x ∈ looseL g ↔ x ∈ g.l.map (·.1) := sortL_mem
theorem looseL_rising {g : Grp} (h : GOk g) : (looseL g).Pairwise ltD := sortL_rising h.nd
/-! ## the closed part, by what it is -/
/-- c is where the closed part of replica i ends -/
structure CloAt (l : List Dot) (i n c : Int) : Prop where
  le : n ≤ c
  inn : ∀ m, n < m → m ≤ c → (⟨i, m⟩ : Dot) ∈ l
  out : (⟨i, c + 1⟩ : Dot) ∉ l
theorem cloAt_of {l : List Dot} (hl : Dots l) {i c : Int} : ∀ (k : Nat) (n : Int), c = n + k → CloAt l i n c → cloAt l i n = c
  | 0, n, hk, h => by
    have : n = c := by omega
    subst this
    exact cloAt_end h.out
  | k + 1, n, hk, h => by
    rw [cloAt_step hl (h.inn (n + 1) (by omega) (by omega))]
    exact cloAt_of hl k (n + 1) (by omega) ⟨by omega, fun m h1 h2 => h.inn m (by omega) h2, h.out⟩
theorem cloAt_is {l : List Dot} (hl : Dots l) {i n c : Int} (h : CloAt l i n c) : cloAt l i n = c := cloAt_of hl (c - n).toNat n (by have := h.le; omega) h
theorem toNat_cast {i : Int} (h : 0 ≤ i) : ((i.toNat : Nat) : Int) = i := by omega
/-! ## a set stands for a vector and other dots -/
structure HRel (g : Grp) (v : Vec) (l : List Dot) : Prop where
  vv : VOk v
  dl : Dots l
  le : ∀ j, vat v j ≤ vat g.v j
  inn : ∀ j : Nat, j < 16 → ∀ m, vat v j < m → m ≤ vat g.v j → (⟨(j : Int), m⟩ : Dot) ∈ l
  mem : ∀ d, d ∈ g.l.map (·.1) ↔ d ∈ l ∧ vat g.v d.rep.toNat < d.seq
structure RelD (g : Grp) (v : Vec) (l : List Dot) : Prop extends HRel g v l where
  inv : GInv g
section
variable {g : Grp} {v : Vec} {l : List Dot}
theorem RelD.clo (h : RelD g v l) {j : Nat} (hj : j < 16) : CloAt l j (vat v j) (vat g.v j) := by
  refine ⟨h.le j, h.inn j hj, fun hin => ?_⟩
  have h1 := (h.mem ⟨(j : Int), vat g.v j + 1⟩).2 ⟨hin, by show vat g.v (j : Int).toNat < vat g.v j + 1; rw [Int.toNat_natCast]; omega⟩
  have h2 := h.inv.far _ h1
  dsimp only at h2
  rw [Int.toNat_natCast] at h2
  omega
theorem RelD.cloAt (h : RelD g v l) {j : Nat} (hj : j < 16) : Vx.cloAt l j (vat v j) = vat g.v j := cloAt_is h.dl (h.clo hj)
theorem RelD.cloV (h : RelD g v l) : cloV l v = g.v := vec_ext fun j hj => by rw [vat_cloV _ _ _ hj, h.cloAt hj]
theorem RelD.has (h : RelD g v l) {d : Dot} (hd : DotOk d) : gHas g d = hasG v l d := by
  have key : gHas g d = true ↔ hasG v l d = true := by
    unfold gHas hasG
    rw [Bool.or_eq_true, Bool.or_eq_true, mget_iff, decide_eq_true_iff, decide_eq_true_iff]
    constructor
    · rintro (hk | hb)
      · exact .inl ((h.mem d).1 hk).1
      · unfold hasB at hb ⊢
        rw [Bool.and_eq_true, decide_eq_true_iff] at hb
        rcases Int.lt_or_le (vat v d.rep.toNat) d.seq with h1 | h1
        · left
          have h2 := h.inn d.rep.toNat (by have := dotB_spec hb.1; omega) d.seq h1 hb.2
          rw [toNat_cast hd.1.1] at h2
          exact h2
        · right; rw [hb.1]; simpa using h1
    · rintro (hk | hb)
      · rcases Int.lt_or_le (vat g.v d.rep.toNat) d.seq with h1 | h1
        · exact .inl ((h.mem d).2 ⟨hk, h1⟩)
        · right; unfold hasB; rw [(h.dl d hk).2]; simpa using h1
      · right
        unfold hasB at hb ⊢
        rw [Bool.and_eq_true, decide_eq_true_iff] at hb
        rw [hb.1, Bool.true_and, decide_eq_true_iff]
        exact Int.le_trans hb.2 (h.le _)
  cases h1 : gHas g d <;> cases h2 : hasG v l d <;> simp_all
theorem relD_new {v : Vec} (hv : VecOk v) (h : rightB v 16 = true) : RelD ⟨v, []⟩ v [] :=
  { vv := right_ok hv h, dl := fun d hd => by simp at hd, le := fun _ => Int.le_refl _, inn := fun j hj m h1 h2 => by dsimp only at h2; omega, mem := fun d => by simp, inv := gInv_new hv h }
/-! ## a dot is added -/
theorem hrel_step {rep : Int} (h0 : 0 ≤ rep) (hr : rep < 16) (hh : GHalf rep g) (h : HRel g v l) (hm : (mget (⟨rep, vat g.v rep.toNat + 1⟩ : Dot) g.l).isSome = true) : HRel (setStep rep g) v l := by
  have hin := (h.mem _).1 (mget_mem hm)
  have hv : ∀ j, j < 16 → vat (setStep rep g).v j = if j = rep.toNat then vat g.v rep.toNat + 1 else vat g.v j := fun j hj => vat_vset _ _ _ _ hj
  refine ⟨h.vv, h.dl, fun j => ?_, fun j hj m h1 h2 => ?_, fun d => ?_⟩
  · by_cases hj : j < 16
    · rw [hv j hj]; have := h.le j; split
      · rename_i e; subst e; omega
      · exact this
    · show vat v j ≤ vat (vset _ _ _) j
      rw [vat_big _ (by omega), vat_big _ (by omega)]; omega
  · rw [hv j hj] at h2
    split at h2
    · rename_i e
      subst e
      rcases Int.lt_or_le (vat g.v rep.toNat) m with h3 | h3
      · have : m = vat g.v rep.toNat + 1 := by omega
        subst this
        rw [toNat_cast h0]; exact hin.1
      · exact h.inn _ hj m h1 h3
    · exact h.inn _ hj m h1 h2
  · show d ∈ (mdel (⟨rep, vat g.v rep.toNat + 1⟩ : Dot) g.l).map (·.1) ↔ _
    rw [mdel_keys hh.ok.nd, h.mem]
    constructor
    · rintro ⟨⟨h1, h2⟩, h3⟩
      refine ⟨h1, ?_⟩
      have hdb := (h.dl d h1)
      have hds := dotB_spec hdb.2
      rw [hv _ (by omega)]
      split
      · rename_i e
        have er : d.rep = rep := toNat_inj hdb.1.1.1 h0 e
        rw [e] at h2
        rcases Int.lt_or_le (vat g.v rep.toNat + 1) d.seq with h4 | h4
        · exact h4
        · exact absurd (dot_ext er (by show d.seq = vat g.v rep.toNat + 1; omega)) h3
      · exact h2
    · rintro ⟨h1, h2⟩
      have hdb := (h.dl d h1)
      have hds := dotB_spec hdb.2
      rw [hv _ (by omega)] at h2
      refine ⟨⟨h1, ?_⟩, fun e => ?_⟩
      · split at h2
        · rename_i e; rw [e]; omega
        · exact h2
      · subst e
        dsimp only at h2
        rw [if_pos rfl] at h2
        omega
theorem hrel_settle {rep : Int} (h0 : 0 ≤ rep) (h1 : rep < 16) : ∀ (f : Nat) (g : Grp), GHalf rep g → HRel g v l → HRel (settleGo rep f g) v l
  | 0, _, _, h => h
  | f + 1, g, hh, h => by
    unfold settleGo
    split
    · rename_i hm; exact hrel_settle h0 h1 f _ (half_step h0 hh hm) (hrel_step h0 h1 hh h hm)
    · exact h
theorem RelD.addE (h : RelD g v l) {d : Dot} (hd : DotOk d) : gAddE g d = Vx.addE v l d := by
  unfold gAddE Vx.addE nextE
  rw [h.cloV, ← h.has hd]
  cases hb : dotB d with
  | false => simp
  | true =>
    have hv := h.inv.ok.v.at d.rep.toNat
    have hds := dotB_spec hb
    simp only [Bool.true_eq_false, if_false]
    cases hB : hasB g.v d with
    | true => simp [gHas, hB]
    | false =>
      simp only [Bool.false_eq_true, if_false]
      by_cases hs : d.seq = (vat g.v d.rep.toNat + 1) % 4294967296
      · have hk : gHas g d = false := by
          unfold gHas
          rw [hB, Bool.or_false, mget_iff, decide_eq_false_iff_not]
          intro hk
          have := h.inv.far d hk
          omega
        rw [if_pos hs, hk]
        simp
        omega
      · rw [if_neg hs]; simp
theorem RelD.add (h : RelD g v l) {d : Dot} (hd : DotOk d) : RelD (gAddG g d) v (addL v l d) := by
  have hG := add_grows h.inv hd
  by_cases he : gAddE g d = 0
  · have hL : addL v l d = l ++ [d] := by unfold addL; rw [if_pos (by rw [← h.addE hd]; exact he)]
    have hb : dotB d = true := by
      cases hb : dotB d with
      | true => rfl
      | false => simp [gAddE, nextE, hb] at he
    have hbs := dotB_spec hb
    have hdl : Dots (l ++ [d]) := fun x hx => by
      rcases List.mem_append.1 hx with hx | hx
      · exact h.dl x hx
      · simp at hx; subst hx; exact ⟨hd, hb⟩
    have hnh : gHas g d = false := by
      rw [h.has hd]
      have := h.addE hd
      rw [he] at this
      unfold Vx.addE at this
      rw [if_neg (by simp [hb])] at this
      cases hh : hasG v l d with
      | false => rfl
      | true => rw [hh] at this; simp at this
    have hnb : hasB g.v d = false := by unfold gHas at hnh; rw [Bool.or_eq_false_iff] at hnh; exact hnh.2
    have hgt : vat g.v d.rep.toNat < d.seq := by
      unfold hasB at hnb; rw [hb] at hnb; simpa using hnb
    have h2 : ¬ nextE g.v d = 2 := by intro e; rw [(gAdd_2 e).1] at he; omega
    have h8 : ¬ nextE g.v d = 8 := by intro e; rw [(gAdd_8 e).1] at he; omega
    refine { toHRel := ?_, inv := hG.inv }
    rw [hL]
    by_cases h9 : nextE g.v d = 9
    · by_cases hf : vat g.v d.rep.toNat + 256 < d.seq
      · rw [(gAdd_f h9 hnh hf).1] at he; omega
      · rw [(gAdd_i h9 hnh hf).2]
        refine ⟨h.vv, hdl, h.le, fun j hj m h1 h3 => List.mem_append_left _ (h.inn j hj m h1 h3), fun x => ?_⟩
        show x ∈ (mput d () g.l).map (·.1) ↔ _
        have hnk : d ∉ g.l.map (·.1) := by
          unfold gHas at hnh; rw [Bool.or_eq_false_iff, mget_iff] at hnh; exact of_decide_eq_false hnh.1
        rw [mput_keys, if_neg hnk, List.mem_append, List.mem_append, h.mem]
        constructor
        · rintro (⟨h1, h3⟩ | hx)
          · exact ⟨.inl h1, h3⟩
          · have : x = d := by simpa using hx
            subst this; exact ⟨.inr hx, hgt⟩
        · rintro ⟨h1 | h1, h3⟩
          · exact .inl ⟨h1, h3⟩
          · exact .inr h1
    · obtain ⟨_, hhas, hseq⟩ := nextE_0 h2 h8 h9
      have hv := h.inv.ok.v.at d.rep.toNat
      have hnv : nextV g.v d = vset g.v d.rep.toNat (vat g.v d.rep.toNat + 1) := by
        unfold nextV; rw [if_neg (by simp [hb]), if_neg (by simp [hhas]), if_pos hseq]
      have hse : d.seq = vat g.v d.rep.toNat + 1 := by omega
      have hva : ∀ j, j < 16 → vat (nextV g.v d) j = if j = d.rep.toNat then vat g.v d.rep.toNat + 1 else vat g.v j := fun j hj => by rw [hnv]; exact vat_vset _ _ _ _ hj
      have hhalf : GHalf d.rep ⟨nextV g.v d, g.l⟩ := by
        refine ⟨next_ok h.inv.ok h2 h8 h9, fun x hx => ?_, fun x hx hne => ?_⟩
        · have hxo := h.inv.ok.l x hx
          have hf := h.inv.far x hx
          have hxb := dotB_spec hxo.2
          show vat (nextV g.v d) x.rep.toNat < x.seq
          rw [hva _ (by omega)]
          split
          · rename_i e; rw [e] at hf; omega
          · omega
        · have hxo := h.inv.ok.l x hx
          have hf := h.inv.far x hx
          have hr := hxo.1.1
          have hxb := dotB_spec hxo.2
          show vat (nextV g.v d) x.rep.toNat + 1 < x.seq
          rw [hva _ (by omega), if_neg (fun e => hne (toNat_inj hr.1 hd.1.1 e))]
          exact hf
      rw [(gAdd_0 h2 h8 h9).2]
      refine hrel_settle hd.1.1 hbs.1 _ _ hhalf ⟨h.vv, hdl, fun j => ?_, fun j hj m h1 h3 => ?_, fun x => ?_⟩
      · by_cases hj : j < 16
        · show vat v j ≤ vat (nextV g.v d) j
          rw [hva j hj]; have := h.le j; split
          · rename_i e; subst e; omega
          · exact this
        · show vat v j ≤ vat (nextV g.v d) j
          rw [vat_big _ (by omega), vat_big _ (by omega)]; omega
      · have h3' : m ≤ vat (nextV g.v d) j := h3
        rw [hva j hj] at h3'
        split at h3'
        · rename_i e
          subst e
          rcases Int.lt_or_le (vat g.v d.rep.toNat) m with h4 | h4
          · have : m = d.seq := by omega
            subst this
            rw [toNat_cast hd.1.1]
            exact List.mem_append_right _ (by simp)
          · exact List.mem_append_left _ (h.inn _ hj m h1 h4)
        · exact List.mem_append_left _ (h.inn _ hj m h1 h3')
      · show x ∈ g.l.map (·.1) ↔ x ∈ l ++ [d] ∧ vat (nextV g.v d) x.rep.toNat < x.seq
        constructor
        · intro hx
          exact ⟨List.mem_append_left _ ((h.mem x).1 hx).1, hhalf.near x hx⟩
        · rintro ⟨h1, h3⟩
          have hxo := hdl x h1
          have hxb := dotB_spec hxo.2
          rw [hva _ (by have := hxo.1.1; omega)] at h3
          rcases List.mem_append.1 h1 with h1 | h1
          · refine (h.mem x).2 ⟨h1, ?_⟩
            split at h3
            · rename_i e; rw [e]; omega
            · exact h3
          · have : x = d := by simpa using h1
            subst this
            rw [if_pos rfl] at h3
            omega
  · have hL : addL v l d = l := by unfold addL; rw [if_neg (by rw [← h.addE hd]; exact he)]
    rw [hL, hG.same he]; exact h
end
/-! ## what is loose, and what is missing -/
theorem stretch_rising (i n : Int) (c : Nat) : (stretch i n c).Pairwise ltD := by
  unfold stretch
  rw [List.pairwise_map]
  exact List.pairwise_lt_range.imp fun {a b} h => .inr ⟨rfl, by show n + (a : Int) < n + (b : Int); omega⟩
theorem stretch_mem {i n : Int} {c : Nat} {x : Dot} : x ∈ stretch i n c ↔ x.rep = i ∧ n ≤ x.seq ∧ x.seq < n + c := by
  unfold stretch
  rw [List.mem_map]
  constructor
  · rintro ⟨j, hj, rfl⟩
    rw [List.mem_range] at hj
    exact ⟨rfl, by show n ≤ n + (j : Int); omega, by show n + (j : Int) < n + (c : Int); omega⟩
  · rintro ⟨h1, h2, h3⟩
    exact ⟨(x.seq - n).toNat, List.mem_range.2 (by omega), dot_ext h1.symm (by show n + (((x.seq - n).toNat : Nat) : Int) = x.seq; omega)⟩
theorem above_mem {v : Vec} {l : List Dot} {b : Bool} {x : Dot} : x ∈ aboveG v l b ↔ (0 ≤ x.rep ∧ x.rep < 16) ∧ cloAt l x.rep (vat v x.rep.toNat) < x.seq ∧ x.seq ≤ topG v l x.rep ∧ hasG v l x = b := by
  unfold aboveG aboveAt
  simp only [List.mem_flatMap, List.mem_range, List.mem_filter, stretch_mem, beq_iff_eq]
  constructor
  · rintro ⟨i, hi, ⟨h1, h2, h3⟩, h4⟩
    rw [h1, Int.toNat_natCast]
    exact ⟨by omega, by omega, by omega, h4⟩
  · rintro ⟨⟨h1, h2⟩, h3, h4, h5⟩
    refine ⟨x.rep.toNat, by omega, ⟨(toNat_cast h1).symm, ?_, ?_⟩, h5⟩
    · rw [toNat_cast h1]; omega
    · rw [toNat_cast h1]; omega
theorem above_rising (v : Vec) (l : List Dot) (b : Bool) : (aboveG v l b).Pairwise ltD := by
  unfold aboveG
  rw [List.pairwise_flatMap]
  refine ⟨fun i _ => (stretch_rising _ _ _).filter _, ?_⟩
  refine List.pairwise_lt_range.imp fun {i j} h x hx y hy => ?_
  unfold aboveAt at hx hy
  have h1 := (stretch_mem.1 (List.mem_filter.1 hx).1).1
  have h2 := (stretch_mem.1 (List.mem_filter.1 hy).1).1
  left; omega
theorem topK_ge (v : Vec) (l : List Dot) (i : Int) : ∀ k, vat v i.toNat ≤ topK v l i k
  | 0 => Int.le_refl _
  | k + 1 => by have := topK_ge v l i k; unfold topK; split <;> omega
theorem topK_mem (v : Vec) (l : List Dot) (i : Int) : ∀ k j : Nat, j < k → (gd l j).rep = i → (gd l j).seq ≤ topK v l i k
  | k + 1, j, hj, h => by
    unfold topK
    by_cases e : j = k
    · subst e; rw [if_pos h]; omega
    · have := topK_mem v l i k j (by omega) h
      split <;> omega
theorem topG_mem {v : Vec} {l : List Dot} {x : Dot} (h : x ∈ l) : x.seq ≤ topG v l x.rep := by
  obtain ⟨j, hj, rfl⟩ := List.mem_iff_getElem.1 h
  have e : gd l j = l[j] := by simp [gd, hj]
  rw [← e]
  exact topK_mem v l _ l.length j hj rfl
theorem topK_wit (v : Vec) (l : List Dot) (i : Int) : ∀ k, k ≤ l.length → topK v l i k = vat v i.toNat ∨ ∃ y ∈ l, y.rep = i ∧ y.seq = topK v l i k
  | 0, _ => .inl rfl
  | k + 1, hk => by
    have h1 := topK_wit v l i k (by omega)
    unfold topK
    split
    · rename_i h
      by_cases h2 : topK v l i k ≤ (gd l k).seq
      · right; exact ⟨gd l k, gd_mem (by omega), h, by omega⟩
      · rcases h1 with h1 | ⟨y, h3, h4, h5⟩
        · left; omega
        · right; exact ⟨y, h3, h4, by omega⟩
    · exact h1
theorem RelD.loose {g : Grp} {v : Vec} {l : List Dot} (h : RelD g v l) : looseL g = aboveG v l true := by
  refine rising_eq (looseL_rising h.inv.ok) (above_rising _ _ _) fun x => ?_
  rw [looseL_mem, above_mem, h.mem]
  constructor
  · rintro ⟨h1, h2⟩
    have hx := h.dl x h1
    have hb := dotB_spec hx.2
    have hr := hx.1.1
    have hc := h.cloAt (j := x.rep.toNat) (by omega)
    rw [toNat_cast hr.1] at hc
    exact ⟨by omega, by omega, topG_mem h1, by unfold hasG; simp [h1]⟩
  · rintro ⟨hr, h1, h2, h3⟩
    have hc := h.cloAt (j := x.rep.toNat) (by omega)
    rw [toNat_cast hr.1] at hc
    rw [hc] at h1
    refine ⟨?_, h1⟩
    unfold hasG at h3
    rw [Bool.or_eq_true, decide_eq_true_iff] at h3
    rcases h3 with h3 | h3
    · exact h3
    · unfold hasB at h3
      rw [Bool.and_eq_true, decide_eq_true_iff] at h3
      have := h.le x.rep.toNat
      omega
/-- what is missing, of a rising list -/
theorem miss_mem : ∀ {m : List Dot} {v : Vec}, m.Pairwise ltD → (∀ d ∈ m, (0 ≤ d.rep ∧ d.rep < 16) ∧ vat v d.rep.toNat < d.seq) → ∀ x, x ∈ missGo v m ↔ vat v x.rep.toNat < x.seq ∧ x ∉ m ∧ ∃ y ∈ m, y.rep = x.rep ∧ x.seq < y.seq
  | [], v, _, _, x => by simp [missGo]
  | d :: m, v, hp, hd, x => by
    rw [List.pairwise_cons] at hp
    have h0 := hd d (by simp)
    have hd' : ∀ y ∈ m, (0 ≤ y.rep ∧ y.rep < 16) ∧ vat (vset v d.rep.toNat d.seq) y.rep.toNat < y.seq := by
      intro y hy
      have h1 := hd y (by simp [hy])
      have h2 := hp.1 y hy
      refine ⟨h1.1, ?_⟩
      rw [vat_vset _ _ _ _ (by omega)]
      split
      · rename_i e
        have : y.rep = d.rep := toNat_inj h1.1.1 h0.1.1 e
        unfold ltD at h2; omega
      · exact h1.2
    have ih := miss_mem hp.2 hd' x
    unfold missGo
    rw [List.mem_append, stretch_mem, ih]
    have hsame : ∀ y ∈ m, y.rep = d.rep → d.seq < y.seq := fun y hy e => by have := hp.1 y hy; unfold ltD at this; omega
    constructor
    · rintro (⟨h1, h2, h3⟩ | ⟨h1, h2, y, h3, h4, h5⟩)
      · refine ⟨by rw [h1]; omega, fun hx => ?_, d, by simp, h1.symm, by omega⟩
        rcases List.mem_cons.1 hx with rfl | hx
        · omega
        · have := hsame x hx h1; omega
      · have hyr := (hd' y h3).1
        have hxr : 0 ≤ x.rep ∧ x.rep < 16 := by omega
        rw [vat_vset _ _ _ _ (by omega)] at h1
        refine ⟨?_, fun hx => ?_, y, by simp [h3], h4, h5⟩
        · split at h1
          · rename_i e; rw [e]; omega
          · exact h1
        · rcases List.mem_cons.1 hx with rfl | hx
          · rw [if_pos rfl] at h1; omega
          · exact h2 hx
    · rintro ⟨h1, h2, y, h3, h4, h5⟩
      have hyr := (hd y h3).1
      have hxr : 0 ≤ x.rep ∧ x.rep < 16 := by omega
      by_cases e : x.rep = d.rep
      · by_cases hlt : x.seq < d.seq
        · left
          rw [e] at h1
          exact ⟨e, by omega, by omega⟩
        · right
          have hne : x ≠ d := fun h => h2 (by simp [h])
          have hgt : d.seq < x.seq := by
            rcases Int.lt_or_le d.seq x.seq with h6 | h6
            · exact h6
            · exact absurd (dot_ext e (by omega)) hne
          refine ⟨by rw [vat_vset _ _ _ _ (by omega), if_pos (by rw [e])]; exact hgt, fun h => h2 (by simp [h]), y, ?_, h4, h5⟩
          rcases List.mem_cons.1 h3 with rfl | h3
          · omega
          · exact h3
      · right
        refine ⟨?_, fun h => h2 (by simp [h]), y, ?_, h4, h5⟩
        · rw [vat_vset _ _ _ _ (by omega), if_neg (fun h => e (toNat_inj hxr.1 h0.1.1 h))]; exact h1
        · rcases List.mem_cons.1 h3 with rfl | h3
          · exact absurd h4.symm e
          · exact h3
theorem miss_rising : ∀ {m : List Dot} {v : Vec}, m.Pairwise ltD → (∀ d ∈ m, (0 ≤ d.rep ∧ d.rep < 16) ∧ vat v d.rep.toNat < d.seq) → (missGo v m).Pairwise ltD
  | [], v, _, _ => by simp [missGo]
  | d :: m, v, hp, hd => by
    rw [List.pairwise_cons] at hp
    have h0 := hd d (by simp)
    have hd' : ∀ y ∈ m, (0 ≤ y.rep ∧ y.rep < 16) ∧ vat (vset v d.rep.toNat d.seq) y.rep.toNat < y.seq := by
      intro y hy
      have h1 := hd y (by simp [hy])
      have h2 := hp.1 y hy
      refine ⟨h1.1, ?_⟩
      rw [vat_vset _ _ _ _ (by omega)]
      split
      · rename_i e
        have : y.rep = d.rep := toNat_inj h1.1.1 h0.1.1 e
        unfold ltD at h2; omega
      · exact h1.2
    unfold missGo
    rw [List.pairwise_append]
    refine ⟨stretch_rising _ _ _, miss_rising hp.2 hd', fun x hx y hy => ?_⟩
    have h1 := stretch_mem.1 hx
    obtain ⟨h2, h3, z, h4, h5, h6⟩ := (miss_mem hp.2 hd' y).1 hy
    have h7 := hp.1 z h4
    have hzr := (hd' z h4).1
    unfold ltD at h7 ⊢
    by_cases e : y.rep = d.rep
    · right
      rw [vat_vset _ _ _ _ (by omega), if_pos (by rw [e])] at h2
      omega
    · left; omega
theorem loose_far {g : Grp} (h : GInv g) : ∀ d ∈ looseL g, (0 ≤ d.rep ∧ d.rep < 16) ∧ vat g.v d.rep.toNat < d.seq := by
  intro d hd
  have h1 := looseL_mem.1 hd
  have h2 := h.ok.l d h1
  have h3 := dotB_spec h2.2
  have h4 := h.far d h1
  exact ⟨⟨h2.1.1.1, h3.1⟩, by omega⟩
theorem missL_mem {g : Grp} (h : GInv g) (x : Dot) : x ∈ missL g ↔ vat g.v x.rep.toNat < x.seq ∧ x ∉ looseL g ∧ ∃ y ∈ looseL g, y.rep = x.rep ∧ x.seq < y.seq := miss_mem (looseL_rising h.ok) (loose_far h) x
theorem RelD.miss {g : Grp} {v : Vec} {l : List Dot} (h : RelD g v l) : missL g = aboveG v l false := by
  refine rising_eq (miss_rising (looseL_rising h.inv.ok) (loose_far h.inv)) (above_rising _ _ _) fun x => ?_
  show x ∈ missL g ↔ _
  rw [missL_mem h.inv, above_mem, looseL_mem, h.mem]
  constructor
  · rintro ⟨h1, h2, y, h3, h4, h5⟩
    rw [looseL_mem, h.mem] at h3
    have hy := h.dl y h3.1
    have hb := dotB_spec hy.2
    have hr := hy.1.1
    have hc := h.cloAt (j := x.rep.toNat) (by omega)
    rw [toNat_cast (by omega)] at hc
    have ht := topG_mem (v := v) h3.1
    rw [h4] at ht
    refine ⟨by omega, by omega, by omega, ?_⟩
    unfold hasG
    rw [Bool.or_eq_false_iff, decide_eq_false_iff_not]
    refine ⟨fun hx => h2 ⟨hx, h1⟩, ?_⟩
    unfold hasB
    have := h.le x.rep.toNat
    rw [show decide (x.seq ≤ vat v x.rep.toNat) = false from decide_eq_false (by omega), Bool.and_false]
  · rintro ⟨hr, h1, h2, h3⟩
    have hc := h.cloAt (j := x.rep.toNat) (by omega)
    rw [toNat_cast hr.1] at hc
    rw [hc] at h1
    unfold hasG at h3
    rw [Bool.or_eq_false_iff, decide_eq_false_iff_not] at h3
    refine ⟨h1, fun hx => h3.1 hx.1, ?_⟩
    have hle := h.le x.rep.toNat
    rcases topK_wit v l x.rep l.length (Nat.le_refl _) with hw | ⟨y, h4, h5, h6⟩
    · have : topG v l x.rep = vat v x.rep.toNat := hw
      omega
    · have e6 : y.seq = topG v l x.rep := h6
      have hne : x.seq ≠ y.seq := fun e => h3.1 (by rw [dot_ext (a := x) (b := y) h5.symm e]; exact h4)
      refine ⟨y, looseL_mem.2 ((h.mem y).2 ⟨h4, ?_⟩), h5, by omega⟩
      rw [h5]; omega
/-- two sets of the same dots -/
theorem RelD.same {g1 g2 : Grp} {v : Vec} {l1 l2 : List Dot} (h1 : RelD g1 v l1) (h2 : RelD g2 v l2) (hm : ∀ x, x ∈ l1 ↔ x ∈ l2) : g1.v = g2.v ∧ looseL g1 = looseL g2 ∧ missL g1 = missL g2 := by
  have hv : g1.v = g2.v := vec_ext fun j hj => by
    rw [← h1.cloAt hj]
    have := h2.clo hj
    exact cloAt_is h1.dl ⟨this.le, fun m a b => (hm _).2 (this.inn m a b), fun h => this.out ((hm _).1 h)⟩
  have hl : looseL g1 = looseL g2 := rising_eq (looseL_rising h1.inv.ok) (looseL_rising h2.inv.ok) fun x => by
    rw [looseL_mem, looseL_mem, h1.mem, h2.mem, hv, hm]
  refine ⟨hv, hl, ?_⟩
  unfold missL
  rw [hv, hl]
end Go.Vx
