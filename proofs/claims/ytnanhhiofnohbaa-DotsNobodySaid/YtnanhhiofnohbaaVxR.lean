/- Sets only grow; how they stand to the document's. -/
import Derived.Test.YtnanhhiofnohbaaVxQ
namespace Go.Vx
/-- what is loose stands above what comes next -/
structure GInv (g : Grp) : Prop where
  ok : GOk g
  far : ∀ d ∈ g.l.map (·.1), vat g.v d.rep.toNat + 1 < d.seq
/-- .. while it is being settled -/
structure GHalf (rep : Int) (g : Grp) : Prop where
  ok : GOk g
  near : ∀ d ∈ g.l.map (·.1), vat g.v d.rep.toNat < d.seq
  far : ∀ d ∈ g.l.map (·.1), d.rep ≠ rep → vat g.v d.rep.toNat + 1 < d.seq
theorem mdel_keys {κ ν : Type} [DecidableEq κ] {k : κ} : ∀ {l : List (κ × ν)}, (l.map (·.1)).Nodup → ∀ x, x ∈ (mdel k l).map (·.1) ↔ x ∈ l.map (·.1) ∧ x ≠ k
  | [], _, x => by simp [mdel]
  | (a, b) :: l, h, x => by
    rw [List.map_cons, List.nodup_cons] at h
    unfold mdel
    split
    · rename_i e
      subst e
      simp only [List.map_cons, List.mem_cons]
      constructor
      · intro hx; exact ⟨.inr hx, fun e => h.1 (e ▸ hx)⟩
      · rintro ⟨hx | hx, hne⟩
        · exact absurd hx hne
        · exact hx
    · rename_i e
      simp only [List.map_cons, List.mem_cons, mdel_keys h.2]
      constructor
      · rintro (rfl | ⟨hx, hne⟩)
        · exact ⟨.inl rfl, fun e' => e e'.symm⟩
        · exact ⟨.inr hx, hne⟩
      · rintro ⟨hx | hx, hne⟩
        · exact .inl hx
        · exact .inr ⟨hx, hne⟩
theorem toNat_inj {a b : Int} (ha : 0 ≤ a) (hb : 0 ≤ b) (h : a.toNat = b.toNat) : a = b := by omega
theorem dot_ext {a b : Dot} (h1 : a.rep = b.rep) (h2 : a.seq = b.seq) : a = b := by cases a; cases b; simp_all
/-- one step of settling -/
theorem half_step {rep : Int} {g : Grp} (h0 : 0 ≤ rep) (h : GHalf rep g) (hm : (mget (⟨rep, vat g.v rep.toNat + 1⟩ : Dot) g.l).isSome = true) : GHalf rep (setStep rep g) := by
  refine ⟨settle_ok h.ok hm, fun d hd => ?_, fun d hd hne => ?_⟩
  · obtain ⟨hd1, hd2⟩ := (mdel_keys h.ok.nd d).1 hd
    have hok := (h.ok.l d hd1)
    have hb := dotB_spec hok.2
    have hr := hok.1.1
    show vat (vset g.v rep.toNat (vat g.v rep.toNat + 1)) d.rep.toNat < d.seq
    rw [vat_vset _ _ _ _ (by omega)]
    have hn := h.near d hd1
    split
    · rename_i e
      have er : d.rep = rep := toNat_inj hr.1 h0 e
      rw [e] at hn
      rcases Int.lt_or_le (vat g.v rep.toNat + 1) d.seq with h2 | h2
      · exact h2
      · exact absurd (dot_ext er (by show d.seq = vat g.v rep.toNat + 1; omega)) hd2
    · exact hn
  · obtain ⟨hd1, hd2⟩ := (mdel_keys h.ok.nd d).1 hd
    have hok := (h.ok.l d hd1)
    have hb := dotB_spec hok.2
    have hr := hok.1.1
    show vat (vset g.v rep.toNat (vat g.v rep.toNat + 1)) d.rep.toNat + 1 < d.seq
    rw [vat_vset _ _ _ _ (by omega), if_neg (fun e => hne (toNat_inj hr.1 h0 e))]
    exact h.far d hd1 hne
theorem half_end {rep : Int} {g : Grp} (h : GHalf rep g) (hm : (mget (⟨rep, vat g.v rep.toNat + 1⟩ : Dot) g.l).isSome = false) : GInv g := by
  refine ⟨h.ok, fun d hd => ?_⟩
  by_cases e : d.rep = rep
  · have hn := h.near d hd
    rcases Int.lt_or_le (vat g.v d.rep.toNat + 1) d.seq with h2 | h2
    · exact h2
    · have e2 : d = ⟨rep, vat g.v rep.toNat + 1⟩ := dot_ext e (by show d.seq = vat g.v rep.toNat + 1; rw [← e]; omega)
      rw [mget_iff] at hm
      exact absurd (e2 ▸ hd) (of_decide_eq_false hm)
  · exact h.far d hd e
/-! ## sums -/
theorem vsum_vset (v : Vec) (i : Nat) (x : Int) (h : i < 16) : vsum (vset v i x) = vsum v - vat v i + x := by
  have key : ∀ (l : List Nat), l.Nodup → (∀ j ∈ l, j < 16) → ((l.map fun j => vat (vset v i x) j).sum : Int) = (l.map fun j => vat v j).sum + (if i ∈ l then x - vat v i else 0) := by
    intro l
    induction l with
    | nil => intro _ _; simp
    | cons a l ih =>
      intro hn hl
      rw [List.nodup_cons] at hn
      have ha := hl a (by simp)
      simp only [List.map_cons, List.sum_cons, ih hn.2 (fun j hj => hl j (by simp [hj])), vat_vset _ _ _ _ ha]
      by_cases e : a = i
      · subst e
        simp [hn.1]
        omega
      · have : i ∈ a :: l ↔ i ∈ l := by
          rw [List.mem_cons]
          exact ⟨fun h => h.resolve_left (fun e' => e e'.symm), .inr⟩
        simp only [if_neg e, this]
        omega
  have := key (List.range 16) (List.nodup_range) (fun j hj => by simpa using hj)
  rw [if_pos (by simpa using h)] at this
  unfold vsum
  omega
/-- what settling keeps: the sum, and what is in it -/
theorem settle_keeps {rep : Int} (h0 : 0 ≤ rep) (h1 : rep < 16) : ∀ (f : Nat) (g : Grp), GHalf rep g → g.l.length ≤ f →
    GInv (settleGo rep f g) ∧ vsum (settleGo rep f g).v + (settleGo rep f g).l.length = vsum g.v + g.l.length ∧ (∀ d, DotOk d → gHas g d = true → gHas (settleGo rep f g) d = true) ∧ (∀ j, vat g.v j ≤ vat (settleGo rep f g).v j)
  | 0, g, h, hf => by
    have hl : g.l = [] := List.eq_nil_of_length_eq_zero (by omega)
    exact ⟨half_end h (by show (mget _ g.l).isSome = false; rw [hl]; rfl), rfl, fun _ _ h => h, fun _ => Int.le_refl _⟩
  | f + 1, g, h, hf => by
    unfold settleGo
    split
    · rename_i hm
      have hlen := mdel_len hm
      have hst := half_step h0 h hm
      obtain ⟨r1, r2, r3, r4⟩ := settle_keeps h0 h1 f (setStep rep g) hst (by show (mdel _ _).length ≤ f; omega)
      have hsum : vsum (setStep rep g).v = vsum g.v + 1 := by
        show vsum (vset g.v rep.toNat (vat g.v rep.toNat + 1)) = _
        rw [vsum_vset _ _ _ (by omega)]; omega
      have hl2 : (setStep rep g).l.length + 1 = g.l.length := hlen
      have hv : ∀ j, vat g.v j ≤ vat (setStep rep g).v j := by
        intro j
        show vat g.v j ≤ vat (vset g.v rep.toNat (vat g.v rep.toNat + 1)) j
        by_cases hj : j < 16
        · rw [vat_vset _ _ _ _ hj]; split
          · rename_i e; subst e; omega
          · omega
        · rw [vat_big _ (by omega), vat_big _ (by omega)]; omega
      refine ⟨r1, by omega, fun d hd hh => r3 d hd ?_, fun j => Int.le_trans (hv j) (r4 j)⟩
      unfold gHas at hh ⊢
      rw [Bool.or_eq_true] at hh ⊢
      rcases hh with hh | hh
      · rw [mget_iff] at hh ⊢
        have hk := of_decide_eq_true hh
        by_cases e : d = ⟨rep, vat g.v rep.toNat + 1⟩
        · right
          have hb := (h.ok.l d hk).2
          unfold hasB
          rw [hb]
          subst e
          show decide (vat g.v rep.toNat + 1 ≤ vat (vset g.v rep.toNat (vat g.v rep.toNat + 1)) rep.toNat) = true
          rw [vat_vset _ _ _ _ (by omega), if_pos rfl]; simp
        · left
          exact decide_eq_true ((mdel_keys h.ok.nd d).2 ⟨hk, e⟩)
      · right
        unfold hasB at hh ⊢
        rw [Bool.and_eq_true] at hh ⊢
        refine ⟨hh.1, decide_eq_true ?_⟩
        have := of_decide_eq_true hh.2
        exact Int.le_trans this (hv _)
    · rename_i hm
      exact ⟨half_end h (by simpa using hm), rfl, fun _ _ h => h, fun _ => Int.le_refl _⟩
/-! ## a dot is added -/
theorem gInv_new {v : Vec} (hv : VecOk v) (h : rightB v 16 = true) : GInv ⟨v, []⟩ := ⟨gNew_okg hv h, fun d hd => by simp at hd⟩
theorem mget_mput {κ ν : Type} [DecidableEq κ] {k x : κ} {v : ν} {l : List (κ × ν)} : (mget x (mput k v l)).isSome = (decide (x = k) || (mget x l).isSome) := by
  rw [mget_iff, mget_iff, mput_keys]
  split
  · rename_i h
    by_cases e : x = k
    · subst e; simp [h]
    · simp [e]
  · by_cases e : x = k
    · subst e; simp
    · simp [e]
structure Grows (g : Grp) (d : Dot) (g' : Grp) (e : Int) : Prop where
  inv : GInv g'
  sum : vsum g'.v + g'.l.length = vsum g.v + g.l.length + (if e = 0 then 1 else 0)
  keep : ∀ x, DotOk x → gHas g x = true → gHas g' x = true
  le : ∀ j, vat g.v j ≤ vat g'.v j
  same : e ≠ 0 → g' = g
  got : e = 0 → gHas g' d = true
theorem add_grows {g : Grp} {d : Dot} (hg : GInv g) (hd : DotOk d) : Grows g d (gAddG g d) (gAddE g d) := by
  have stay : ∀ e : Int, e ≠ 0 → gAddE g d = e → gAddG g d = g → Grows g d (gAddG g d) (gAddE g d) := by
    intro e he hE hG
    rw [hE, hG]
    exact ⟨hg, by rw [if_neg he]; omega, fun _ _ h => h, fun _ => Int.le_refl _, fun _ => rfl, fun h => absurd h he⟩
  by_cases h2 : nextE g.v d = 2
  · exact stay _ (by omega) ((gAdd_2 h2).1.trans h2) (gAdd_2 h2).2
  · by_cases h8 : nextE g.v d = 8
    · exact stay _ (by omega) ((gAdd_8 h8).1.trans h8) (gAdd_8 h8).2
    · by_cases h9 : nextE g.v d = 9
      · cases hh : gHas g d with
        | true => exact stay _ (by omega) (gAdd_h h9 hh).1 (gAdd_h h9 hh).2
        | false =>
          by_cases hf : vat g.v d.rep.toNat + 256 < d.seq
          · exact stay _ (by omega) (gAdd_f h9 hh hf).1 (gAdd_f h9 hh hf).2
          · obtain ⟨hE, hG⟩ := gAdd_i h9 hh hf
            have hok := gAddG_ok hg.ok hd
            rw [hE, hG] at *
            have hb := nextE_9 h9
            unfold gHas at hh
            rw [Bool.or_eq_false_iff] at hh
            have hnk : d ∉ g.l.map (·.1) := by rw [mget_iff] at hh; exact of_decide_eq_false hh.1
            have hnb : ¬ d.seq ≤ vat g.v d.rep.toNat := by
              have := hh.2
              unfold hasB at this
              rw [hb] at this
              simpa using this
            have hne : ¬ d.seq = (vat g.v d.rep.toNat + 1) % 4294967296 := by
              intro e
              unfold nextE at h9
              rw [if_neg (by simp [hb]), if_neg (by rw [hh.2]; decide), if_pos e] at h9
              cases h9
            have hv := hg.ok.v.at d.rep.toNat
            refine ⟨⟨hok, fun x hx => ?_⟩, ?_, fun x _ hx => ?_, fun _ => Int.le_refl _, fun h => absurd rfl h, fun _ => ?_⟩
            · have hx' : x ∈ (mput d () g.l).map (·.1) := hx
              rw [mput_keys, if_neg hnk, List.mem_append] at hx'
              rcases hx' with hx' | hx'
              · exact hg.far x hx'
              · simp at hx'; subst hx'
                show vat g.v x.rep.toNat + 1 < x.seq
                omega
            · show vsum g.v + (mput d () g.l).length = _
              have := congrArg List.length (mput_keys (k := d) (v := ()) (l := g.l))
              rw [if_neg hnk, List.length_map, List.length_append, List.length_map] at this
              rw [if_pos rfl, this]
              simp only [List.length_cons, List.length_nil]
              omega
            · unfold gHas at hx ⊢
              rw [Bool.or_eq_true] at hx ⊢
              rcases hx with hx | hx
              · left; show (mget x (mput d () g.l)).isSome = true; rw [mget_mput, hx]; simp
              · exact .inr hx
            · unfold gHas
              rw [show (mget d (mput d () g.l)).isSome = true by rw [mget_mput]; simp]; rfl
      · obtain ⟨hE, hG⟩ := gAdd_0 h2 h8 h9
        obtain ⟨hb, hhas, hseq⟩ := nextE_0 h2 h8 h9
        have hbs := dotB_spec hb
        have hv := hg.ok.v.at d.rep.toNat
        have hnv : nextV g.v d = vset g.v d.rep.toNat (vat g.v d.rep.toNat + 1) := by
          unfold nextV; rw [if_neg (by simp [hb]), if_neg (by simp [hhas]), if_pos hseq]
        have hhalf : GHalf d.rep ⟨nextV g.v d, g.l⟩ := by
          refine ⟨next_ok hg.ok h2 h8 h9, fun x hx => ?_, fun x hx hne => ?_⟩
          · have hxo := hg.ok.l x hx
            have hf := hg.far x hx
            have hr := hxo.1.1
            have hxb := dotB_spec hxo.2
            show vat (nextV g.v d) x.rep.toNat < x.seq
            rw [hnv, vat_vset _ _ _ _ (by omega)]
            split
            · rename_i e; rw [e] at hf; omega
            · omega
          · have hxo := hg.ok.l x hx
            have hf := hg.far x hx
            have hr := hxo.1.1
            have hxb := dotB_spec hxo.2
            show vat (nextV g.v d) x.rep.toNat + 1 < x.seq
            rw [hnv, vat_vset _ _ _ _ (by omega), if_neg (fun e => hne (toNat_inj hr.1 hd.1.1 e))]
            exact hf
        obtain ⟨r1, r2, r3, r4⟩ := settle_keeps hd.1.1 hbs.1 g.l.length ⟨nextV g.v d, g.l⟩ hhalf (Nat.le_refl _)
        have hmono : ∀ j, vat g.v j ≤ vat (nextV g.v d) j := by
          intro j
          rw [hnv]
          by_cases hj : j < 16
          · rw [vat_vset _ _ _ _ hj]; split
            · rename_i e; subst e; omega
            · omega
          · rw [vat_big _ (by omega), vat_big _ (by omega)]; omega
        have hGo : settleG d.rep ⟨nextV g.v d, g.l⟩ = settleGo d.rep g.l.length ⟨nextV g.v d, g.l⟩ := rfl
        rw [hE, hG, hGo]
        refine ⟨r1, ?_, fun x hxo hx => r3 x hxo ?_, fun j => Int.le_trans (hmono j) (r4 j), fun h => absurd rfl h, fun _ => r3 d hd ?_⟩
        · rw [r2, if_pos rfl]
          show vsum (nextV g.v d) + ((g.l.length : Nat) : Int) = _
          rw [hnv, vsum_vset _ _ _ (by omega)]; omega
        · unfold gHas at hx ⊢
          rw [Bool.or_eq_true] at hx ⊢
          rcases hx with hx | hx
          · exact .inl hx
          · right
            unfold hasB at hx ⊢
            rw [Bool.and_eq_true] at hx ⊢
            exact ⟨hx.1, decide_eq_true (Int.le_trans (of_decide_eq_true hx.2) (hmono _))⟩
        · unfold gHas
          rw [Bool.or_eq_true]
          right
          unfold hasB
          rw [hb]
          show decide (d.seq ≤ vat (nextV g.v d) d.rep.toNat) = true
          rw [hnv, vat_vset _ _ _ _ (by omega), if_pos rfl]
          exact decide_eq_true (by omega)
end Go.Vx
namespace Go.Vx
/-! ## sums, place by place -/
def vsumK (v : Vec) : Nat → Int
  | 0 => 0
  | k + 1 => vsumK v k + vat v k
theorem vsumK_eq (v : Vec) (k : Nat) : vsumK v k = ((List.range k).map fun i => vat v i).sum := by
  induction k with
  | zero => rfl
  | succ k ih => rw [List.range_succ, List.map_append, List.sum_append]; simp [vsumK, ih]
theorem vsum_K (v : Vec) : vsumK v 16 = vsum v := vsumK_eq v 16
theorem vsumK_step {v : Vec} {k : Nat} {n : Int} (h : n = vsumK v k) : n + vat v k = vsumK v (k + 1) := by subst h; rfl
theorem vle_of {a b : Vec} (h : ∀ j, vat a j ≤ vat b j) : vle a b = true := vle_yes fun j _ => h j
end Go.Vx
namespace Go.Vx
theorem vle_self (v : Vec) : vle v v = true := vle_of fun _ => Int.le_refl _
theorem grow_in_yes {inn : List Dot} {g g' : Grp} {d : Dot} {e : Int} (hin : ∀ x ∈ inn, DotOk x ∧ gHas g x = true) (h : Grows g d g' e) (hd : DotOk d) (he : e = 0) : ∀ x ∈ inn ++ [d], DotOk x ∧ gHas g' x = true := by
  intro x hx
  rcases List.mem_append.1 hx with hx | hx
  · exact ⟨(hin x hx).1, h.keep x (hin x hx).1 (hin x hx).2⟩
  · simp at hx; subst hx; exact ⟨hd, h.got he⟩
theorem grow_in_no {inn : List Dot} {g g' : Grp} {d : Dot} {e : Int} (hin : ∀ x ∈ inn, DotOk x ∧ gHas g x = true) (h : Grows g d g' e) : ∀ x ∈ inn, DotOk x ∧ gHas g' x = true :=
  fun x hx => ⟨(hin x hx).1, h.keep x (hin x hx).1 (hin x hx).2⟩
theorem vsumK_bd {v : Vec} (hv : VecOk v) : ∀ k, 0 ≤ vsumK v k ∧ vsumK v k ≤ (k : Int) * 4294967296
  | 0 => by simp [vsumK]
  | k + 1 => by
    have h1 := vsumK_bd hv k
    have h2 := vat_ok hv k
    show 0 ≤ vsumK v k + vat v k ∧ vsumK v k + vat v k ≤ _
    constructor
    · omega
    · push_cast; omega
theorem vsum_bd {v : Vec} (hv : VecOk v) : 0 ≤ vsum v ∧ vsum v ≤ 68719476736 := by
  have := vsumK_bd hv 16
  rw [vsum_K] at this
  omega
end Go.Vx
