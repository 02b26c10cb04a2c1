/- A part of a proof: what functions of the program compute, and plain facts on that. -/
import Derived.Test.YthejeobcehpdcaaGreatDoorScriptDecodesP2
import Derived.Laws.Externs
set_option linter.unusedVariables false
set_option linter.unusedSectionVars false
set_option linter.unusedSimpArgs false
namespace Go.Ce
open Go.RowKit Go.Vx
variable [Tok]
structure StepF (C : Cfg) (n : Nat) (cf yf : Nat → List AV → Mem → RL) (all : List Oper) (recs : List Rec) (env : Tr AV) (m : Mem) (o : Oper) (mask : Nat) (r : Rec) (a : AV) (m' : Mem) : Prop where
  lo : r.lo = m.c
  hi : r.hi = m'.c
  c : m.c ≤ m'.c
  bf : r.still = false ∨ r.wr ≠ [] → r.bf = m.h
  wrlt : ∀ x ∈ r.wr, x < m.c
  at_ : ∀ x, ¬ r.tch x → m'.h.get x = m.h.get x
  d : ∀ x, x ∈ m'.d ↔ x ∈ r.wr ∨ x ∈ m.d
  was : (wantA n all env o = some false ∧ a = .tu [] ∧ m' = m ∧ r.wr = [] ∧ r.sub = .lf) ∨
    (wantA n all env o = some true ∧ ((stillA o.op = true ∧ m' = m ∧ r.wr = [] ∧ r.still = true ∧ (∃ ns, r.sub = subA C n env o.op m.h (unA recs mask) ns) ∧ ∃ m'', anyA C n env ⟨r.sub, m.c, []⟩ cf yf o.op = some [(a, m'')]) ∨
      (r.sub = seesA n env o.op m.h (unA recs mask) ∧ r.still = false ∧ ∃ m'', anyA C n env ⟨r.sub, m.c, []⟩ cf yf o.op = some [(a, m'')] ∧ m''.c = m'.c ∧ (∀ x, x < m.c → (x ∈ m''.d ↔ x ∈ r.wr)) ∧ (∀ x, r.tch x → m'.h.get x = m''.h.get x) ∧ (∀ x ∈ r.wr, (∃ b, r.sub.get x = some b) ∧ ∃ b, m''.h.get x = some b) ∧
        ∀ u ∈ unA recs mask, ∀ x ∈ r.wr, ∀ a, u.sub.get x = some a → u.still = true ∧ ∃ b, m''.h.get x = some b ∧ Wk a b)))
section
variable {C : Cfg} {n : Nat} {cf yf : Nat → List AV → Mem → RL} {all : List Oper} {recs : List Rec} {env : Tr AV} {m m' : Mem} {o : Oper} {mask : Nat} {r : Rec} {a : AV}
theorem one_some {l : List (AV × Mem)} {r : AV × Mem} (h : oneA l = some r) : l = [r] := by
  unfold oneA at h
  split at h
  · cases h; rfl
  · cases h
theorem isSome_ex {α : Type} {o : Option α} (h : o.isSome = true) : ∃ b, o = some b := by
  cases o with
  | none => cases h
  | some b => exact ⟨b, rfl⟩
theorem step_facts (hcm : ∀ {op : Op} {env : Tr AV} {m : Mem} {outs : List (AV × Mem)}, anyA C n env m cf yf op = some outs → Cm m outs) (h : stepA C n cf yf all recs env m (o, mask) = some (r, a, m')) : StepF C n cf yf all recs env m o mask r a m' := by
  unfold stepA at h
  obtain ⟨w, hw, h1⟩ := bind_some h
  clear h
  cases w with
  | false =>
    cases h1
    exact ⟨rfl, rfl, Nat.le_refl _, fun h => by rcases h with h | h; cases h; exact absurd rfl h, by simp, fun _ _ => rfl, by simp, .inl ⟨hw, rfl, rfl, rfl, rfl⟩⟩
  | true =>
    rw [cond_true] at h1
    cases hs : stillA o.op with
    | true =>
      have h2 : ((needA n env o.op).bind fun ns => ((anyA C n env ⟨subA C n env o.op m.h (unA recs mask) ns, m.c, []⟩ cf yf o.op).bind oneA).bind fun a =>
        some ((⟨mask, true, subA C n env o.op m.h (unA recs mask) ns, [], m.c, m.c, m.h⟩ : Rec), a.1, m)) = some (r, a, m') := by
        rw [hs] at h1; exact h1
      clear h1
      obtain ⟨ns, hns, h3⟩ := bind_some h2
      clear h2
      obtain ⟨q, hq, h4⟩ := bind_some h3
      clear h3
      obtain ⟨l, hl, hq⟩ := bind_some hq
      have := one_some hq
      subst this
      cases h4
      exact ⟨rfl, rfl, Nat.le_refl _, fun _ => rfl, by simp, fun _ _ => rfl, by simp, .inr ⟨hw, .inl ⟨hs, rfl, rfl, rfl, ⟨ns, rfl⟩, q.2, hl⟩⟩⟩
    | false =>
      have h2 : (((anyA C n env ⟨seesA n env o.op m.h (unA recs mask), m.c, []⟩ cf yf o.op).bind oneA).bind fun r =>
        cond (okW (unA recs mask) (seesA n env o.op m.h (unA recs mask)) (r.2.d.filter (fun x => Nat.blt x m.c)) r.2.h)
          (some ((⟨mask, false, seesA n env o.op m.h (unA recs mask), r.2.d.filter (fun x => Nat.blt x m.c), m.c, r.2.c, m.h⟩ : Rec), r.1,
            (⟨backA m.h r.2.h (r.2.d.filter (fun x => Nat.blt x m.c)) m.c (r.2.c - m.c), r.2.c, r.2.d.filter (fun x => Nat.blt x m.c) ++ m.d⟩ : Mem))) none) = some (r, a, m') := by
        rw [hs] at h1; exact h1
      clear h1
      obtain ⟨q, hq, h3⟩ := bind_some h2
      clear h2
      obtain ⟨l, hl, hq⟩ := bind_some hq
      have := one_some hq
      subst this
      obtain ⟨hok, h4⟩ := cond_iff.1 h3
      clear h3
      cases h4
      have hc : m.c ≤ q.2.c := (hcm hl).2 q (by simp)
      unfold okW at hok
      rw [Bool.and_eq_true, List.all_eq_true, List.all_eq_true] at hok
      obtain ⟨ok1, ok2⟩ := hok
      have hmem : ∀ x, x ∈ q.2.d.filter (fun x => Nat.blt x m.c) ↔ x ∈ q.2.d ∧ x < m.c := fun x => by
        rw [List.mem_filter, blt_eq, decide_eq_true_iff]
      refine ⟨rfl, rfl, hc, fun _ => rfl, fun x hx => ((hmem x).1 hx).2, fun x hx => ?_, fun x => by simp [List.mem_append], .inr ⟨hw, .inr ⟨rfl, rfl, q.2, hl, rfl, fun x hx => ?_, fun x hx => ?_, fun x hx => ?_, fun u hu x hx a0 ha0 => ?_⟩⟩⟩
      · show (backA _ _ _ _ _).get x = _
        rw [back_get, if_neg]
        rintro (h | h)
        · exact hx (.inr ⟨h.1, by show x < q.2.c; omega⟩)
        · exact hx (.inl h)
      · exact ⟨fun h => (hmem x).2 ⟨h, hx⟩, fun h => ((hmem x).1 h).1⟩
      · show (backA _ _ _ _ _).get x = _
        rw [back_get, if_pos]
        rcases hx with h | h
        · exact .inr h
        · exact .inl ⟨h.1, by have : x < q.2.c := h.2; omega⟩
      · have := ok1 x hx
        rw [Bool.and_eq_true] at this
        exact ⟨isSome_ex this.1, isSome_ex this.2⟩
      · have h5 := ok2 u hu
        rw [List.all_eq_true] at h5
        have h6 := h5 x hx
        rw [ha0] at h6
        rw [Bool.and_eq_true] at h6
        refine ⟨h6.1, ?_⟩
        have h7 := h6.2
        split at h7
        · rename_i b hb
          exact ⟨b, hb, wkB_ok h7⟩
        · cases h7
structure Trc (C : Cfg) (n : Nat) (cf yf : Nat → List AV → Mem → RL) (all : List Oper) (l : List (Oper × Nat)) (recs : List Rec) (env env' : Tr AV) (m m' : Mem) (R : Nat → Rec) (A : Nat → AV) (E : Nat → Tr AV) (K : Nat → Mem) : Prop where
  e0 : E 0 = env
  k0 : K 0 = m
  e1 : E l.length = env'
  k1 : K l.length = m'
  st : ∀ j q, l[j]? = some q → stepA C n cf yf all (recs ++ (List.range j).map R) (E j) (K j) q = some (R j, A j, K (j + 1)) ∧ E (j + 1) = putO (E j) q.1.dst (A j)
theorem trc_of : ∀ {l : List (Oper × Nat)} {recs : List Rec} {env env' : Tr AV} {m m' : Mem}, drawA C n cf yf all l recs env m = some (env', m') → ∃ R A E K, Trc C n cf yf all l recs env env' m m' R A E K
  | [], recs, env, env', m, m', h => by
    cases h
    exact ⟨fun _ => ⟨0, true, .lf, [], 0, 0, .lf⟩, fun _ => .any, fun _ => env, fun _ => m, rfl, rfl, rfl, rfl, fun j q h => by simp at h⟩
  | q :: l, recs, env, env', m, m', h => by
    have h : (stepA C n cf yf all recs env m q).bind (fun r => drawA C n cf yf all l (recs ++ [r.1]) (putO env q.1.dst r.2.1) r.2.2) = some (env', m') := h
    obtain ⟨⟨r, a, m1⟩, h1, h2⟩ := bind_some h
    obtain ⟨R, A, E, K, t⟩ := trc_of (l := l) h2
    refine ⟨fun j => match j with | 0 => r | j + 1 => R j, fun j => match j with | 0 => a | j + 1 => A j, fun j => match j with | 0 => env | j + 1 => E j, fun j => match j with | 0 => m | j + 1 => K j, rfl, rfl, t.e1, t.k1, fun j p hj => ?_⟩
    cases j with
    | zero =>
      simp at hj
      subst hj
      refine ⟨?_, t.e0⟩
      show stepA C n cf yf all (recs ++ []) env m q = some (r, a, K 0)
      rw [List.append_nil, t.k0]
      exact h1
    | succ j =>
      have := t.st j p (by simpa using hj)
      rw [List.range_succ_eq_map, List.map_cons, List.map_map]
      rw [List.append_assoc] at this
      exact this
end
theorem masks_len : ∀ (l : List Oper) (acc : List Nat), (masksA l acc).length = acc.length + l.length
  | [], acc => rfl
  | o :: l, acc => by
    have : masksA (o :: l) acc = masksA l (acc ++ [(depsA o).foldl (fun s j => Nat.lor s (Nat.lor (Nat.pow 2 j) (acc.getD j 0))) 0]) := rfl
    rw [this, masks_len l]
    simp; omega
theorem masks_pre : ∀ (l : List Oper) (acc : List Nat) (j : Nat), j < acc.length → (masksA l acc)[j]? = acc[j]?
  | [], acc, j, _ => rfl
  | o :: l, acc, j, hj => by
    have : masksA (o :: l) acc = masksA l (acc ++ [(depsA o).foldl (fun s j => Nat.lor s (Nat.lor (Nat.pow 2 j) (acc.getD j 0))) 0]) := rfl
    rw [this, masks_pre l _ j (by simp; omega), List.getElem?_append_left hj]
theorem masks_at : ∀ (l : List Oper) (acc : List Nat) (j : Nat) (o : Oper), l[j]? = some o → (masksA l acc)[acc.length + j]? = some ((depsA o).foldl (fun s k => Nat.lor s (Nat.lor (Nat.pow 2 k) (((masksA l acc).take (acc.length + j)).getD k 0))) 0)
  | [], _, _, _, h => by simp at h
  | o' :: l, acc, j, o, h => by
    have e : masksA (o' :: l) acc = masksA l (acc ++ [(depsA o').foldl (fun s j => Nat.lor s (Nat.lor (Nat.pow 2 j) (acc.getD j 0))) 0]) := rfl
    cases j with
    | zero =>
      simp at h; subst h
      rw [e, Nat.add_zero, masks_pre l _ _ (by simp)]
      rw [List.getElem?_append_right (Nat.le_refl _)]
      simp only [Nat.sub_self, List.getElem?_cons_zero]
      congr 2
      funext s k
      congr 2
      have : ∀ q, (masksA l (acc ++ [q])).take acc.length = acc := fun q => by
        apply List.ext_getElem?
        intro i
        rw [List.getElem?_take]
        by_cases hi : i < acc.length
        · rw [if_pos hi, masks_pre l _ i (by simp; omega), List.getElem?_append_left hi]
        · rw [if_neg hi, List.getElem?_eq_none (by omega)]
      rw [this]
    | succ j =>
      have := masks_at l (acc ++ [(depsA o').foldl (fun s j => Nat.lor s (Nat.lor (Nat.pow 2 j) (acc.getD j 0))) 0]) j o (by simpa using h)
      rw [e]
      rw [List.length_append, List.length_singleton, show acc.length + 1 + j = acc.length + (j + 1) by omega] at this
      exact this
theorem fold_lor (f : Nat → Nat) (j : Nat) : ∀ (d : List Nat) (s : Nat), (d.foldl (fun s k => Nat.lor s (Nat.lor (Nat.pow 2 k) (f k))) s).testBit j = true → s.testBit j = true ∨ ∃ k ∈ d, j = k ∨ (f k).testBit j = true
  | [], s, h => .inl h
  | k :: d, s, h => by
    rcases fold_lor f j d _ h with h | ⟨x, hx, h⟩
    · have h : (s ||| (2 ^ k ||| f k)).testBit j = true := h
      rw [Nat.testBit_or, Nat.testBit_or, Bool.or_eq_true, Bool.or_eq_true] at h
      rcases h with h | h | h
      · exact .inl h
      · rw [Nat.testBit_two_pow] at h
        exact .inr ⟨k, by simp, .inl (of_decide_eq_true h).symm⟩
      · exact .inr ⟨k, by simp, .inr h⟩
    · exact .inr ⟨x, by simp [hx], h⟩
theorem mask_done {l : List Oper} {D : Nat → Bool} (hdc : ∀ j o', l[j]? = some o' → D j = true → ∀ k ∈ deps o', D k = true) : ∀ (i : Nat) (o : Oper) (mask : Nat), l[i]? = some o → (masksA l [])[i]? = some mask → (∀ k ∈ deps o, D k = true) → ∀ j, mask.testBit j = true → D j = true := by
  intro i
  induction i using Nat.strongRecOn with
  | _ i ih =>
    intro o mask ho hm hd j hj
    have h := masks_at l [] i o ho
    simp only [List.length_nil, Nat.zero_add] at h
    rw [hm] at h
    cases h
    rcases fold_lor _ j _ _ hj with h | ⟨k, hk, h⟩
    · simp at h
    · have hDk := hd k hk
      rcases h with rfl | h
      · exact hDk
      · rw [List.getD_eq_getElem?_getD, List.getElem?_take] at h
        by_cases hki : k < i
        · rw [if_pos hki] at h
          cases hk2 : (masksA l [])[k]? with
          | none => rw [hk2] at h; simp at h
          | some mk =>
            rw [hk2] at h
            have hkl : k < l.length := by have := lt_of_get hk2; rw [masks_len] at this; simpa using this
            exact ih k hki l[k] mk (List.getElem?_eq_getElem hkl) hk2 (hdc k l[k] (List.getElem?_eq_getElem hkl) hDk) j h
        · rw [if_neg hki] at h; simp at h
structure RegK (l : List Oper) : Prop where
  rise : rising l = true
  tmp : ∀ (i : Nat) (o : Oper) (mask : Nat), l[i]? = some o → (masksA l [])[i]? = some mask → ∀ t, (.tmp t) ∈ o.op.operands.toList → ∀ j p, l[j]? = some p → p.dst = some t → (j < i ∧ mask.testBit j = true) ∨ (i < j ∧ ∀ mask', (masksA l [])[j]? = some mask' → mask'.testBit i = true)
  guard : ∀ (i : Nat) (o : Oper) (mask : Nat), l[i]? = some o → (masksA l [])[i]? = some mask → ∀ j t, o.guard = some (j, t) → j < i ∧ mask.testBit j = true
  nd : ∀ (i j : Nat) (o p : Oper) (t : Nat), l[i]? = some o → l[j]? = some p → o.dst = some t → p.dst = some t → i = j
theorem dstT_ok : ∀ {l : List Oper} {i : Nat} {t T : Tr Nat}, dstT l i t = some T → (∀ x y, t.get x = some y → T.get x = some y) ∧ (∀ j p d, l[j]? = some p → p.dst = some d → T.get d = some (i + j) ∧ t.get d = none)
  | [], i, t, T, h => by cases h; exact ⟨fun _ _ h => h, fun j p d h => by simp at h⟩
  | o :: l, i, t, T, h => by
    have h : (match o.dst with
      | none => dstT l (Nat.succ i) t
      | some d => (match t.get d with | none => dstT l (Nat.succ i) (t.put d (some i)) | some _ => none)) = some T := h
    split at h
    · rename_i ho
      obtain ⟨h1, h2⟩ := dstT_ok h
      refine ⟨h1, fun j p d hj hp => ?_⟩
      cases j with
      | zero => simp at hj; subst hj; rw [ho] at hp; cases hp
      | succ j =>
        have := h2 j p d (by simpa using hj) hp
        rw [show i + (j + 1) = Nat.succ i + j by omega]; exact this
    · rename_i d0 ho
      split at h
      · rename_i ht
        obtain ⟨h1, h2⟩ := dstT_ok h
        refine ⟨fun x y hx => h1 x y ?_, fun j p d hj hp => ?_⟩
        · rw [Tr.get_put, if_neg]
          · exact hx
          · intro e; subst e; rw [ht] at hx; cases hx
        · cases j with
          | zero =>
            simp at hj; subst hj; rw [ho] at hp; cases hp
            exact ⟨h1 _ _ (by rw [Tr.get_put, if_pos rfl]; rfl), ht⟩
          | succ j =>
            obtain ⟨q1, q2⟩ := h2 j p d (by simpa using hj) hp
            rw [show i + (j + 1) = Nat.succ i + j by omega]
            refine ⟨q1, ?_⟩
            rw [Tr.get_put] at q2
            split at q2
            · cases q2
            · exact q2
      · cases h
theorem regA_at {T : Tr Nat} {ms : List Nat} : ∀ {l : List (Oper × Nat)} {i : Nat}, regA T ms l i = true → ∀ j q, l[j]? = some q → ((depsA q.1).all (fun d => Nat.blt d (i + j)) && tmpsA T ms q.2 (i + j) q.1.op.operands.toList && (match q.1.guard with | none => true | some (k, _) => Nat.blt k (i + j) && Nat.testBit q.2 k)) = true
  | [], _, _, j, q, h => by simp at h
  | q0 :: l, i, h, j, q, hj => by
    have h : ((depsA q0.1).all (fun d => Nat.blt d i) && tmpsA T ms q0.2 i q0.1.op.operands.toList && (match q0.1.guard with | none => true | some (k, _) => Nat.blt k i && Nat.testBit q0.2 k) && regA T ms l (Nat.succ i)) = true := h
    rw [Bool.and_eq_true] at h
    cases j with
    | zero => simp at hj; subst hj; exact h.1
    | succ j =>
      have := regA_at h.2 j q (by simpa using hj)
      rw [show i + (j + 1) = Nat.succ i + j by omega]
      exact this
theorem regK {l : List Oper} {T : Tr Nat} (hT : dstT l 0 .lf = some T) (h : regA T (masksA l []) (l.zip (masksA l [])) 0 = true) : RegK l := by
  obtain ⟨_, t2⟩ := dstT_ok hT
  have hz : ∀ i o mask, l[i]? = some o → (masksA l [])[i]? = some mask → (l.zip (masksA l []))[i]? = some (o, mask) := fun i o mask h1 h2 => by
    rw [List.getElem?_zip_eq_some]; exact ⟨h1, h2⟩
  have hat : ∀ i o mask, l[i]? = some o → (masksA l [])[i]? = some mask → _ := fun i o mask h1 h2 => regA_at h i (o, mask) (hz i o mask h1 h2)
  have hmk : ∀ {i : Nat} {o : Oper}, l[i]? = some o → ∃ mask, (masksA l [])[i]? = some mask := fun {i o} ho => by
    have : i < (masksA l []).length := by rw [masks_len]; simpa using lt_of_get ho
    exact ⟨_, List.getElem?_eq_getElem this⟩
  refine ⟨?_, ?_, ?_, ?_⟩
  · unfold rising
    rw [List.all_eq_true]
    rintro ⟨o, i⟩ hi
    have ho : l[i]? = some o := List.mem_zipIdx_iff_getElem?.1 hi
    obtain ⟨mask, hm⟩ := hmk ho
    have := hat i o mask ho hm
    rw [Bool.and_eq_true, Bool.and_eq_true, Nat.zero_add] at this
    exact this.1.1
  · intro i o mask ho hm t ht j p hj hp
    have := hat i o mask ho hm
    rw [Bool.and_eq_true, Bool.and_eq_true, Nat.zero_add] at this
    have h2 := this.1.2
    unfold tmpsA at h2
    rw [List.all_eq_true] at h2
    have h3 := h2 _ ht
    have h4 := (t2 j p t hj hp).1
    rw [Nat.zero_add] at h4
    dsimp only at h3
    rw [h4] at h3
    dsimp only at h3
    by_cases hji : j < i
    · left
      rw [blt_eq, decide_eq_true hji, cond_true] at h3
      exact ⟨hji, h3⟩
    · right
      rw [blt_eq, decide_eq_false hji, cond_false, Bool.and_eq_true, blt_eq, decide_eq_true_iff] at h3
      refine ⟨h3.1, fun mask' hm' => ?_⟩
      have := h3.2
      rw [List.getD_eq_getElem?_getD, hm'] at this
      exact this
  · intro i o mask ho hm j t hg
    have := hat i o mask ho hm
    rw [Bool.and_eq_true, Bool.and_eq_true, Nat.zero_add] at this
    have h2 := this.2
    dsimp only at h2
    rw [hg] at h2
    dsimp only at h2
    rw [Bool.and_eq_true, blt_eq, decide_eq_true_iff] at h2
    exact h2
  · intro i j o p t hi hj ho hp
    have h1 := (t2 i o t hi ho).1
    have h2 := (t2 j p t hj hp).1
    rw [h1] at h2
    simpa using h2
end Go.Ce
namespace Go.Ce
open Go.RowKit Go.Vx
variable [Tok]
structure TrF (C : Cfg) (n : Nat) (cf yf : Nat → List AV → Mem → RL) (l : List Oper) (R : Nat → Rec) (A : Nat → AV) (E : Nat → Tr AV) (K : Nat → Mem) : Prop where
  reg : RegK l
  st : ∀ j o mask, l[j]? = some o → (masksA l [])[j]? = some mask → StepF C n cf yf l ((List.range j).map R) (E j) (K j) o mask (R j) (A j) (K (j + 1))
  e : ∀ j o, l[j]? = some o → E (j + 1) = putO (E j) o.dst (A j)
theorem trF_of {C : Cfg} {n : Nat} {cf yf : Nat → List AV → Mem → RL} {l : List Oper} {env env' : Tr AV} {m m' : Mem} (hcm : ∀ {op : Op} {env : Tr AV} {m : Mem} {outs : List (AV × Mem)}, anyA C n env m cf yf op = some outs → Cm m outs) (h : drawR C n cf yf l env m = some (env', m')) :
    ∃ R A E K, TrF C n cf yf l R A E K ∧ E 0 = env ∧ K 0 = m ∧ E l.length = env' ∧ K l.length = m' := by
  unfold drawR at h
  obtain ⟨h1, h2⟩ := cond_iff.1 h
  clear h
  have hlen : (l.zip (masksA l [])).length = l.length := by rw [List.length_zip, masks_len]; simp
  split at h1
  · rename_i T hT
    have reg := regK hT h1
    obtain ⟨R, A, E, K, t⟩ := trc_of h2
    refine ⟨R, A, E, K, ⟨reg, fun j o mask ho hm => ?_, fun j o ho => ?_⟩, t.e0, t.k0, hlen ▸ t.e1, hlen ▸ t.k1⟩
    · exact step_facts hcm (t.st j (o, mask) (by rw [List.getElem?_zip_eq_some]; exact ⟨ho, hm⟩)).1
    · have hml : j < (masksA l []).length := by rw [masks_len]; simpa using lt_of_get ho
      exact (t.st j (o, _) (by rw [List.getElem?_zip_eq_some]; exact ⟨ho, List.getElem?_eq_getElem hml⟩)).2
  · cases h1
open Classical in
noncomputable def hpK (R : Nat → Rec) (K : Nat → Mem) (D : Nat → Bool) : Nat → Hp
  | 0 => (K 0).h.get
  | k + 1 => fun x => if D k = true ∧ (R k).tch x then (K (k + 1)).h.get x else hpK R K D k x
section
variable {C : Cfg} {n : Nat} {cf yf : Nat → List AV → Mem → RL} {l : List Oper} {R : Nat → Rec} {A : Nat → AV} {E : Nat → Tr AV} {K : Nat → Mem} (T : TrF C n cf yf l R A E K) {D : Nat → Bool} {hi : Nat} {σ : Sig} {fr : Nat → Res}
theorem hp_tch {k x : Nat} (h1 : D k = true) (h2 : (R k).tch x) : hpK R K D (k + 1) x = (K (k + 1)).h.get x := by
  unfold hpK; rw [if_pos ⟨h1, h2⟩]
theorem hp_un {k x : Nat} (h2 : ¬ (D k = true ∧ (R k).tch x)) : hpK R K D (k + 1) x = hpK R K D k x := by
  conv => lhs; unfold hpK
  rw [if_neg h2]
theorem hp_congr {D' : Nat → Bool} : ∀ k, (∀ j, j < k → D j = D' j) → hpK R K D k = hpK R K D' k
  | 0, _ => rfl
  | k + 1, h => by
    funext x
    have ih := hp_congr k (fun j hj => h j (by omega))
    by_cases hc : D k = true ∧ (R k).tch x
    · rw [hp_tch hc.1 hc.2, hp_tch (by rw [← h k (by omega)]; exact hc.1) hc.2]
    · rw [hp_un hc, hp_un (by rw [← h k (by omega)]; exact hc), ih]
include T
theorem T_at {j : Nat} (hj : j < l.length) : ∃ o mask, l[j]? = some o ∧ (masksA l [])[j]? = some mask ∧ StepF C n cf yf l ((List.range j).map R) (E j) (K j) o mask (R j) (A j) (K (j + 1)) := by
  have h2 : j < (masksA l []).length := by rw [masks_len]; simpa using hj
  exact ⟨_, _, List.getElem?_eq_getElem hj, List.getElem?_eq_getElem h2, T.st j _ _ (List.getElem?_eq_getElem hj) (List.getElem?_eq_getElem h2)⟩
theorem T_c : ∀ {k j : Nat}, k ≤ l.length → j ≤ k → (K j).c ≤ (K k).c
  | 0, j, _, h => by have : j = 0 := by omega
                     subst this; exact Nat.le_refl _
  | k + 1, j, hk, h => by
    obtain ⟨_, _, _, _, s⟩ := T_at T (j := k) (by omega)
    rcases Nat.lt_or_ge j (k + 1) with h1 | h1
    · exact Nat.le_trans (T_c (k := k) (by omega) (by omega)) s.c
    · have : j = k + 1 := by omega
      subst this; exact Nat.le_refl _
theorem tch_lt {j x : Nat} (hj : j < l.length) (h : (R j).tch x) : x < (K (j + 1)).c := by
  obtain ⟨_, _, _, _, s⟩ := T_at T hj
  rcases h with h | h
  · exact Nat.lt_of_lt_of_le (s.wrlt x h) s.c
  · rw [← s.hi]; exact h.2
theorem T_E : ∀ {k : Nat}, k ≤ l.length → ∀ {t : Nat} {a : AV}, (E k).get t = some a → (∃ j o, j < k ∧ l[j]? = some o ∧ o.dst = some t ∧ a = A j) ∨ ((∀ j o, j < k → l[j]? = some o → o.dst ≠ some t) ∧ (E 0).get t = some a)
  | 0, _, t, a, h => .inr ⟨fun j _ hj => by omega, h⟩
  | k + 1, hk, t, a, h => by
    have hkl : k < l.length := by omega
    have hok := List.getElem?_eq_getElem hkl
    rw [T.e k _ hok] at h
    have prev : (E k).get t = some a → l[k].dst ≠ some t → (∃ j o, j < k + 1 ∧ l[j]? = some o ∧ o.dst = some t ∧ a = A j) ∨ ((∀ j o, j < k + 1 → l[j]? = some o → o.dst ≠ some t) ∧ (E 0).get t = some a) := fun h hne => by
      rcases T_E (k := k) (by omega) h with ⟨j, o, h1, h2⟩ | ⟨h1, h2⟩
      · exact .inl ⟨j, o, by omega, h2⟩
      · refine .inr ⟨fun j o hj ho => ?_, h2⟩
        rcases Nat.lt_or_ge j k with h3 | h3
        · exact h1 j o h3 ho
        · have : j = k := by omega
          subst this
          rw [hok] at ho; cases ho; exact hne
    cases hd : l[k].dst with
    | none =>
      rw [hd] at h
      exact prev h (by rw [hd]; simp)
    | some d =>
      rw [hd] at h
      have h2 : ((E k).put d (some (A k))).get t = some a := h
      clear h
      rw [Tr.get_put] at h2
      split at h2
      · rename_i e; subst e; cases h2
        exact .inl ⟨k, _, by omega, hok, hd, rfl⟩
      · rename_i e
        exact prev h2 (by rw [hd]; intro h; cases h; exact e rfl)
theorem T_up : ∀ {k : Nat}, k ≤ l.length → ∀ {x : Nat}, (K k).c ≤ x → (K k).h.get x = (K 0).h.get x
  | 0, _, _, _ => rfl
  | k + 1, hk, x, hx => by
    obtain ⟨_, _, _, _, s⟩ := T_at T (j := k) (by omega)
    rw [s.at_ x (fun h => by have := tch_lt T (by omega) h; omega)]
    exact T_up (k := k) (by omega) (Nat.le_trans s.c hx)
theorem T_old : ∀ {k : Nat}, k ≤ l.length → (∀ x, x ∈ (K 0).d → x ∈ (K k).d) ∧ ∀ x, x < (K 0).c → x ∉ (K k).d → (K k).h.get x = (K 0).h.get x
  | 0, _ => ⟨fun _ h => h, fun _ _ _ => rfl⟩
  | k + 1, hk => by
    obtain ⟨_, _, _, _, s⟩ := T_at T (j := k) (by omega)
    obtain ⟨h1, h2⟩ := T_old (k := k) (by omega)
    refine ⟨fun x hx => (s.d x).2 (.inr (h1 x hx)), fun x hx hd => ?_⟩
    rw [s.at_ x ?_]
    · exact h2 x hx fun h => hd ((s.d x).2 (.inr h))
    · rintro (h | h)
      · exact hd ((s.d x).2 (.inl h))
      · have := T_c T (k := k) (j := 0) (by omega) (by omega)
        rw [s.lo] at h
        omega
theorem T_mle : MLe (K 0) (K l.length) :=
  ⟨T_c T (Nat.le_refl _) (Nat.zero_le _), (T_old T (Nat.le_refl _)).1, fun _ hx => T_up T (Nat.le_refl _) hx, (T_old T (Nat.le_refl _)).2⟩
theorem hp_all : ∀ {k : Nat}, k ≤ l.length → (∀ j, j < k → D j = true) → hpK R K D k = (K k).h.get
  | 0, _, _ => rfl
  | k + 1, hk, hD => by
    funext x
    obtain ⟨_, _, _, _, s⟩ := T_at T (j := k) (by omega)
    by_cases hc : (R k).tch x
    · rw [hp_tch (hD k (by omega)) hc]
    · rw [hp_un (fun h => hc h.2), hp_all (k := k) (by omega) (fun j hj => hD j (by omega)), s.at_ x hc]
theorem hp_to {i mask : Nat} (hm : ∀ j, mask.testBit j = true → D j = true) (x : Nat) : ∀ {k : Nat}, k ≤ i → i ≤ l.length → hpK R K D k x = (K k).h.get x ∨ ∃ j, j < k ∧ mask.testBit j = false ∧ (R j).tch x ∧ hpK R K D k x = (K j).h.get x
  | 0, _, _ => .inl rfl
  | k + 1, hk, hil => by
    obtain ⟨_, _, _, _, s⟩ := T_at T (j := k) (by omega)
    have ih := hp_to (k := k) hm x (by omega) hil
    by_cases hD : D k = true
    · by_cases hc : (R k).tch x
      · exact .inl (hp_tch hD hc)
      · rw [hp_un (fun h => hc h.2)]
        rcases ih with h | ⟨j, h1, h2⟩
        · rw [h, s.at_ x hc]; exact .inl rfl
        · exact .inr ⟨j, by omega, h2⟩
    · rw [hp_un (fun h => hD h.1)]
      rcases ih with h | ⟨j, h1, h2⟩
      · by_cases hc : (R k).tch x
        · refine .inr ⟨k, by omega, ?_, hc, h⟩
          cases hb : mask.testBit k with
          | false => rfl
          | true => exact absurd (hm k hb) hD
        · rw [h, s.at_ x hc]; exact .inl rfl
      · exact .inr ⟨j, by omega, h2⟩
omit T in
theorem T_un {i k mask : Nat} (hik : i < k) (hb : mask.testBit i = false) : R i ∈ unA ((List.range k).map R) mask :=
  mem_un (j := i) (by rw [List.getElem?_map, List.getElem?_range hik]; rfl) hb
variable (hdc : ∀ j o', l[j]? = some o' → D j = true → ∀ k ∈ deps o', D k = true) {i : Nat} (hil : i < l.length) (hDi : D i = false)
include hdc hDi
omit T in
theorem T_sep {k : Nat} (hik : i < k) (hkl : k < l.length) (hDk : D k = true) {mask : Nat} (hm : (masksA l [])[k]? = some mask) : mask.testBit i = false := by
  cases hb : mask.testBit i with
  | false => rfl
  | true =>
    have := mask_done hdc k l[k] mask (List.getElem?_eq_getElem hkl) hm (hdc k _ (List.getElem?_eq_getElem hkl) hDk) i hb
    rw [hDi] at this; cases this
include hil
theorem T_apart {k x : Nat} (hik : i < k) (hkl : k < l.length) (hDk : D k = true) (hx : (R i).tch x) : ¬ (R k).tch x := by
  obtain ⟨o, mask, ho, hm, s⟩ := T_at T hkl
  have hb := T_sep hdc hDi hik hkl hDk hm
  have hu := T_un (R := R) (k := k) hik hb
  have hlt : x < (K k).c := Nat.lt_of_lt_of_le (tch_lt T hil hx) (T_c T (by omega) (by omega))
  have hnew : ¬ ((R k).lo ≤ x ∧ x < (R k).hi) := fun h => by rw [s.lo] at h; omega
  rintro (h | h)
  · rcases s.was with ⟨_, _, _, h1, _⟩ | ⟨_, ⟨_, _, h1, _⟩ | ⟨h1, _, m'', _, _, _, _, h2, _⟩⟩
    · rw [h1] at h; cases h
    · rw [h1] at h; cases h
    · obtain ⟨⟨b, hb'⟩, _⟩ := h2 x h
      rw [h1] at hb'
      exact (sees_get hb').2 _ hu hx
  · exact hnew h
theorem hp_new {x : Nat} (hfr : ∀ x, (K 0).c ≤ x → x < hi → (K 0).h.get x = none) (hhi : (K l.length).c ≤ hi) (h1 : (K i).c ≤ x) (h2 : x < (K (i + 1)).c) : ∀ {k : Nat}, k ≤ l.length → hpK R K D k x = none
  | 0, _ => hfr x (Nat.le_trans (T_c T (k := i) (j := 0) (by omega) (by omega)) h1) (Nat.lt_of_lt_of_le h2 (Nat.le_trans (T_c T (k := l.length) (j := i + 1) (by omega) (by omega)) hhi))
  | k + 1, hk => by
    rw [hp_un, hp_new hfr hhi h1 h2 (k := k) (by omega)]
    rintro ⟨hDk, hc⟩
    obtain ⟨_, _, _, _, s⟩ := T_at T (j := i) hil
    rcases Nat.lt_trichotomy k i with h | h | h
    · have := tch_lt T (by omega) hc
      have := T_c T (k := i) (j := k + 1) (by omega) (by omega)
      omega
    · subst h; rw [hDi] at hDk; cases hDk
    · exact T_apart T hdc hil hDi h (by omega) hDk (.inr ⟨by rw [s.lo]; exact h1, by rw [s.hi]; exact h2⟩) hc
theorem hp_mine {x : Nat} (hx : (R i).tch x) : ∀ {k : Nat}, i < k → k ≤ l.length → hpK R K (Go.Vx.mark D i) k x = (K (i + 1)).h.get x
  | 0, h, _ => by omega
  | k + 1, h, hk => by
    rcases Nat.lt_or_ge i k with h1 | h1
    · rw [hp_un, hp_mine hx (k := k) h1 (by omega)]
      rintro ⟨h2, h3⟩
      have h2 : D k = true := by
        unfold Go.Vx.mark at h2
        rw [beq_eq] at h2
        have hne : ¬ k = i := by omega
        simpa [hne] using h2
      exact T_apart T hdc hil hDi h1 (by omega) h2 hx h3
    · have : k = i := by omega
      subst this
      rw [hp_tch (by unfold Go.Vx.mark; simp) hx]
omit hil hdc in
theorem hp_else {x : Nat} (hx : ¬ (R i).tch x) : ∀ {k : Nat}, k ≤ l.length → hpK R K (Go.Vx.mark D i) k x = hpK R K D k x
  | 0, _ => rfl
  | k + 1, hk => by
    have ih := hp_else hx (k := k) (by omega)
    by_cases hki : k = i
    · subst hki
      rw [hp_un (fun h => hx h.2), hp_un (fun h => hx h.2), ih]
    · have e : Go.Vx.mark D i k = D k := by unfold Go.Vx.mark; rw [beq_eq]; simp [hki]
      by_cases hc : D k = true ∧ (R k).tch x
      · rw [hp_tch (by rw [e]; exact hc.1) hc.2, hp_tch hc.1 hc.2]
      · rw [hp_un (by rw [e]; exact hc), hp_un hc, ih]
variable {o : Oper} {mask : Nat} (ho : l[i]? = some o) (hm : (masksA l [])[i]? = some mask) (hd : ∀ k ∈ deps o, D k = true)
include ho hm hd
theorem hp_view (hfr : ∀ x, (K 0).c ≤ x → x < hi → (K 0).h.get x = none) (hhi : (K l.length).c ≤ hi) {x : Nat} {a : AB} (ha : (R i).sub.get x = some a) : ∃ c, hpK R K D l.length x = some c ∧ Wk a c ∧ ((R i).still = false → a = c) := by
  have hmd := mask_done hdc i o mask ho hm hd
  have s := T.st i o mask ho hm
  have h0 : (∃ c, hpK R K D i x = some c ∧ Wk a c ∧ ((R i).still = false → a = c)) ∧ ∃ b, (K i).h.get x = some b := by
    have still : ∀ ns, (R i).sub = subA C n (E i) o.op (K i).h (unA ((List.range i).map R) mask) ns → (R i).still = true → (∃ c, hpK R K D i x = some c ∧ Wk a c ∧ ((R i).still = false → a = c)) ∧ ∃ b, (K i).h.get x = some b := fun ns hs hst => by
      rw [hs] at ha
      obtain ⟨b, h1, h2, h3⟩ := sub_get ha
      refine ⟨?_, b, h1⟩
      rcases hp_to T hmd x (Nat.le_refl i) (by omega) with h | ⟨j, h4, h5, h6, h7⟩
      · exact ⟨b, h.trans h1, h2, fun h => by rw [hst] at h; cases h⟩
      · obtain ⟨h8, h9⟩ := h3 _ (T_un h4 h5)
        rcases h6 with h6 | h6
        · obtain ⟨c, h10, h11⟩ := h9 h6
          obtain ⟨_, _, _, _, sj⟩ := T_at T (j := j) (by omega)
          rw [sj.bf (.inr (by intro e; rw [e] at h6; cases h6))] at h10
          exact ⟨c, h7.trans h10, h11, fun h => by rw [hst] at h; cases h⟩
        · exact absurd h6 h8
    rcases s.was with ⟨_, _, _, _, h1⟩ | ⟨_, ⟨_, _, _, hst, ⟨ns, h1⟩, _⟩ | ⟨h1, h2, _⟩⟩
    · rw [h1, Tr.get_lf] at ha; cases ha
    · exact still ns h1 hst
    · have ha' := ha
      rw [h1] at ha'
      obtain ⟨h3, h4⟩ := sees_get ha'
      refine ⟨?_, a, h3⟩
      rcases hp_to T hmd x (Nat.le_refl i) (by omega) with h | ⟨j, h5, h6, h7, h8⟩
      · exact ⟨a, h.trans h3, Wk.refl _, fun _ => rfl⟩
      · exact absurd h7 (h4 _ (T_un h5 h6))
  obtain ⟨h0, b0, hb0⟩ := h0
  have hxlt : x < hi → x < (K i).c := fun hx => by
    rcases Nat.lt_or_ge x (K i).c with h | h
    · exact h
    · rw [T_up T (k := i) (by omega) h, hfr x (Nat.le_trans (T_c T (k := i) (j := 0) (by omega) (by omega)) h) hx] at hb0
      cases hb0
  have key : ∀ k, i ≤ k → k ≤ l.length → ∃ c, hpK R K D k x = some c ∧ Wk a c ∧ ((R i).still = false → a = c) := by
    intro k hk
    induction k with
    | zero =>
      intro _
      have : i = 0 := by omega
      subst this; exact h0
    | succ k ih =>
      intro hkl
      rcases Nat.lt_or_ge k i with h | h
      · have : i = k + 1 := by omega
        subst this; exact h0
      · have ih := ih h (by omega)
        by_cases hc : D k = true ∧ (R k).tch x
        · have hne : i ≠ k := fun e => by subst e; rw [hDi] at hc; cases hc.1
          have hik : i < k := by omega
          rw [hp_tch hc.1 hc.2]
          obtain ⟨ok, mk, hok, hmk, sk⟩ := T_at T (j := k) (by omega)
          have hb := T_sep hdc hDi hik (by omega) hc.1 hmk
          have hu := T_un (R := R) (k := k) hik hb
          rcases hc.2 with h4 | h4
          · rcases sk.was with ⟨_, _, _, h1, _⟩ | ⟨_, ⟨_, _, h1, _⟩ | ⟨_, _, m'', _, _, _, h5, _, h6⟩⟩
            · rw [h1] at h4; cases h4
            · rw [h1] at h4; cases h4
            · obtain ⟨h7, b, h8, h9⟩ := h6 _ hu x h4 a ha
              refine ⟨b, (h5 x hc.2).trans h8, h9, fun h => by rw [h7] at h; cases h⟩
          · exfalso
            rw [sk.lo, sk.hi] at h4
            have h5 := T_c T (k := l.length) (j := k + 1) (by omega) (by omega)
            have h6 := hxlt (by omega)
            have h7 := T_c T (k := k) (j := i) (by omega) (by omega)
            omega
        · rw [hp_un hc]; exact ih
  exact key l.length (by omega) (Nat.le_refl _)
end
end Go.Ce
namespace Go.Ce
open Go.RowKit Go.Vx
variable [Tok]
theorem Good.re {B : Nat} {w0 : World} {M : Nat → Prop} {σ σ' : Sig} {fr fr' : Nat → Res} {h h' : Hp} {w : World} (hg : Good B w0 M σ fr h w) (hh : ∀ x, x < B → ∀ S, (resA σ fr h x).holds w S → (resA σ' fr' h' x).holds w S) (bd : ∀ x blk, h' x = some blk → x < B) : Good B w0 M σ' fr' h' w := by
  refine ⟨Own.imp hg.own fun k R' hk => ?_, bd⟩
  obtain ⟨hl', e⟩ := LH_getR hk
  subst e
  exact ⟨_, LH_get _ hl', hh k hl'⟩
theorem resA_some {σ : Sig} {fr : Nat → Res} {h : Hp} {x : Nat} {blk : AB} (e : h x = some blk) : resA σ fr h x = res σ x blk := by unfold resA; rw [e]
theorem resA_none {σ : Sig} {fr : Nat → Res} {h : Hp} {x : Nat} (e : h x = none) : resA σ fr h x = fr x := by unfold resA; rw [e]
theorem want_okG {n : Nat} {env : Tr AV} {σ : Sig} {all : List Oper} {o : Oper} {ρ : Env} {q : Bool} (h : wantA n all env o = some q) (hE : ∀ j want p d v, o.guard = some (j, want) → all[j]? = some p → p.dst = some d → env.get d = some v → Rel σ v (ρ d)) : Region.wanted o (yielded all.toArray (frd n [] ρ).tmps) = q := by
  unfold wantA at h
  unfold Region.wanted
  cases hg : o.guard with
  | none => rw [hg] at h; cases h; rfl
  | some jw =>
    obtain ⟨j, want⟩ := jw
    rw [hg] at h
    dsimp only at h ⊢
    obtain ⟨q', hq', ha⟩ := bind_some h
    clear h
    obtain ⟨d, hd, h3⟩ := bind_some ha
    clear ha
    obtain ⟨hb, h2⟩ := cond_some h3
    clear h3
    obtain ⟨v, hv, h⟩ := bind_some h2
    clear h2
    have hr := hE j want q' d v hg hq' hd hv
    have hgv : gv n ρ all j = ρ d := by
      unfold gv
      rw [hq', ]
      dsimp only
      rw [hd]
      dsimp only
      rw [hb]
      rfl
    rw [yielded_fr, hgv]
    generalize ρ d = V at hr
    cases v <;> first | (cases h; done) | skip
    · cases h; cases hr
      rename_i t
      cases t <;> cases want <;> rfl
    · cases h; cases hr; rfl
section
variable {C : Cfg} {P : Program} (HC : CfgOk C P) {n : Nat} {env : Tr AV} {m : Mem} {B : Nat} {op : Op} {w0 w : World} {M : Nat → Prop} [Inv w0 M] {σ : Sig} {fr : Nat → Res} {e : Operand → Value} {cf yf : Nat → List AV → Mem → RL}
include HC
theorem still_ok {a : AV} {m'' : Mem} (h : anyA C n env m cf yf op = some [(a, m'')]) (hs : stillA op = true) (hg : Good B w0 M σ fr m.h.get w) (H : HE n env e σ op.operands.toList) : PureOk P op e w σ a ∧ notDefer op = true := by
  unfold stillA at hs
  split at hs
  · rename_i t x
    obtain ⟨b, h1, h2⟩ := cm1 (show ret1 m (o_load C n env m t x) = some _ from h)
    cases h2
    exact ⟨p_load HC H hg h1, rfl⟩
  · rename_i t x y ok
    obtain ⟨b, h1, h2⟩ := cm1 (show ret1 m (o_look C n env m t x y ok) = some _ from h)
    cases h2
    exact ⟨p_look HC H hg h1, rfl⟩
  · rename_i c
    split at hs
    · rename_i hc
      obtain ⟨callee, args, ts⟩ := c
      dsimp only at hc
      subst hc
      have h0 : o_built C n env m .len args ts = some [(a, m'')] := h
      clear h
      unfold o_built at h0
      obtain ⟨vs, hvs, h⟩ := bind_some h0
      clear h0
      have hr := aevs_ok (H.sub fun y hy => by simp [Op.operands, Call.operands] at hy ⊢; exact hy) hvs
      generalize hvv : args.toList.map e = VV at hr
      split at h
      · cases hr with | cons r1 t => ?_
        cases t
        have h : (ts.toList.head?.bind (und C)).bind (fun d => ret1 m (o_len C m _ d)) = some [(a, m'')] := h
        obtain ⟨d, hd, h⟩ := bind_some h
        obtain ⟨b, h1, h2⟩ := cm1 h
        cases h2
        exact ⟨p_len HC hvv r1 hd hg h1, rfl⟩
      · exfalso
        rename_i x y
        have h : (ts.toList.head?.bind (und C)).bind (fun d => (none : RL)) = some [(a, m'')] := h
        obtain ⟨d, hd, h⟩ := bind_some h
        cases h
      · cases h
    · cases hs
  · cases hs
end
def InvD (B : Nat) (w0 : World) (M : Nat → Prop) (σ : Sig) (fr : Nat → Res) (l : List Oper) (R : Nat → Rec) (A : Nat → AV) (K : Nat → Mem) (ρ0 : Env) (D : Nat → Bool) : St := fun ρ w =>
  ∃ σ', Le σ σ' ∧ (∀ x, σ x = none → (∀ j, j < l.length → D j = true → ¬ ((K j).c ≤ x ∧ x < (K (j + 1)).c)) → σ' x = none) ∧ Good B w0 M σ' fr (hpK R K D l.length) w ∧
    ∀ j o d, l[j]? = some o → o.dst = some d → (D j = true → Rel σ' (A j) (ρ d)) ∧ (D j = false → ρ d = ρ0 d)
section
variable {C : Cfg} {P : Program} (HC : CfgOk C P) {n : Nat} {B hi : Nat} {w0 : World} {M : Nat → Prop} [Inv w0 M] {σ : Sig} {fr : Nat → Res} {cf yf : Nat → List AV → Mem → RL} {l : List Oper} {R : Nat → Rec} {A : Nat → AV} {E : Nat → Tr AV} {K : Nat → Mem} (T : TrF C n cf yf l R A E K) {ρ0 : Env}
include T
theorem slots_step {σ' σ'' : Sig} (hl : Le σ' σ'') {D : Nat → Bool} {ρ : Env} {i : Nat} {o : Oper} (ho : l[i]? = some o) {v : Value} (hv : Rel σ'' (A i) v)
    (h : ∀ j o d, l[j]? = some o → o.dst = some d → (D j = true → Rel σ' (A j) (ρ d)) ∧ (D j = false → ρ d = ρ0 d)) :
    ∀ j o' d, l[j]? = some o' → o'.dst = some d → (Go.Vx.mark D i j = true → Rel σ'' (A j) (updO ρ o.dst v d)) ∧ (Go.Vx.mark D i j = false → updO ρ o.dst v d = ρ0 d) := by
  intro j o' d hj hd
  by_cases hij : j = i
  · subst hij
    rw [ho] at hj
    cases hj
    rw [hd]
    refine ⟨fun _ => ?_, fun h => by unfold Go.Vx.mark at h; simp at h⟩
    show Rel σ'' (A j) (upd ρ d v d)
    rw [upd_eq, if_pos rfl]
    exact hv
  · have hm : Go.Vx.mark D i j = D j := by unfold Go.Vx.mark; rw [beq_eq]; simp [hij]
    have hu : updO ρ o.dst v d = ρ d := by
      cases hdd : o.dst with
      | none => rfl
      | some t =>
        show upd ρ t v d = ρ d
        rw [upd_eq, if_neg]
        intro e
        subst e
        exact hij (T.reg.nd j i o' o d hj ho hd hdd)
    rw [hm, hu]
    exact ⟨fun hD => ((h j o' d hj hd).1 hD).mono hl, (h j o' d hj hd).2⟩
include HC
theorem any_step (hcf : CallOk P B cf) (hyf : YieldOk P B yf) (hcm : ∀ {op : Op} {env : Tr AV} {m : Mem} {outs : List (AV × Mem)}, anyA C n env m cf yf op = some outs → Cm m outs) (hE : RelE σ (E 0) ρ0) (hG : Gl σ) (hfr : Fresh (K 0).c hi σ fr (K 0).h.get) (hhi : (K l.length).c ≤ hi) (hB : hi ≤ B) {i : Nat} {o : Oper} (ho : l[i]? = some o) :
    AnyStep P n l ρ0 (InvD B w0 M σ fr l R A K ρ0) i o := by
  intro D ρ w hDi hd hdc hf hI
  obtain ⟨σ', hle, hout, hg, hs⟩ := hI
  have hil := lt_of_get ho
  obtain ⟨o', mask, ho', hm, s⟩ := T_at T hil
  rw [ho] at ho'
  cases ho'
  have hmd := mask_done hdc i o mask ho hm hd
  have hG' := hG.mono hle
  have hfr0 : ∀ x, (K 0).c ≤ x → x < hi → (K 0).h.get x = none := fun x h1 h2 => (hfr x h1 h2).2.2
  have slot : ∀ t a, (E i).get t = some a → (∀ j p, l[j]? = some p → p.dst = some t → (j < i ∧ mask.testBit j = true) ∨ (i < j ∧ ∀ mask', (masksA l [])[j]? = some mask' → mask'.testBit i = true)) → Rel σ' a (ρ t) := by
    intro t a hta ht
    rcases T_E T (Nat.le_of_lt hil) hta with ⟨j, p, h1, h2, h3, rfl⟩ | ⟨h1, h2⟩
    · rcases ht j p h2 h3 with h4 | h4
      · exact (hs j p t h2 h3).1 (hmd j h4.2)
      · omega
    · by_cases hx : t ∈ dsts l
      · unfold dsts at hx
        obtain ⟨p, hp, hpt⟩ := List.mem_filterMap.1 hx
        obtain ⟨j, hj⟩ := List.mem_iff_getElem?.1 hp
        rcases ht j p hj hpt with h4 | ⟨h4, h5⟩
        · exact absurd hpt (h1 j p h4.1 hj)
        · have hDj : D j = false := by
            cases hD : D j with
            | false => rfl
            | true =>
              exfalso
              have hml : j < (masksA l []).length := by rw [masks_len]; simpa using lt_of_get hj
              have hmj := List.getElem?_eq_getElem hml
              have := mask_done hdc j p _ hj hmj (hdc j p hj hD) i (h5 _ hmj)
              rw [hDi] at this
              cases this
          rw [(hs j p t hj hpt).2 hDj]
          exact (hE t a h2).mono hle
      · rw [hf t hx]
        exact (hE t a h2).mono hle
  have H : HE n (E i) (ev n ρ) σ' o.op.operands.toList := by
    intro x hx a hxa
    cases x with
    | tmp t =>
      have hxa : cond (Nat.blt t n) ((E i).get t) none = some a := hxa
      obtain ⟨hb, hxa⟩ := cond_iff.1 hxa
      show Rel σ' a (cond (Nat.blt t n) (ρ t) undef)
      rw [hb]
      exact slot t a hxa fun j p hj hp => T.reg.tmp i o mask ho hm t hx j p hj hp
    | const v => exact aev_ok (env := .lf) (ρ := ρ) (fun t v h => by rw [Tr.get_lf] at h; cases h) hG' (x := .const v) hxa
    | func f => exact aev_ok (env := .lf) (ρ := ρ) (fun t v h => by rw [Tr.get_lf] at h; cases h) hG' (x := .func f) hxa
    | global g => exact aev_ok (env := .lf) (ρ := ρ) (fun t v h => by rw [Tr.get_lf] at h; cases h) hG' (x := .global g) hxa
  have hw : ∀ {q : Bool}, wantA n l (E i) o = some q → Region.wanted o (yielded l.toArray (frd n [] ρ).tmps) = q := fun {q} hq => by
    refine want_okG (σ := σ') hq fun j want p d v hgd hp hpd hv => ?_
    obtain ⟨h1, h2⟩ := T.reg.guard i o mask ho hm j want hgd
    exact slot d v hv fun j' p' hj' hp' => by
      have := T.reg.nd j' j p' p d hj' hp hp' hpd
      subst this; exact .inl ⟨h1, h2⟩
  have stay : ∀ {v : Value}, Rel σ' (A i) v → (R i).wr = [] → K (i + 1) = K i → InvD B w0 M σ fr l R A K ρ0 (Go.Vx.mark D i) (updO ρ o.dst v) w := by
    intro v hv hwr hK
    refine ⟨σ', hle, fun x hx hj => hout x hx fun j hjl hDj => hj j hjl ?_, ?_, slots_step T (Le.refl _) ho hv hs⟩
    · unfold Go.Vx.mark; rw [hDj]; cases Nat.beq j i <;> rfl
    · have : hpK R K (Go.Vx.mark D i) l.length = hpK R K D l.length := by
        funext x
        refine hp_else T hDi (fun h => ?_) (Nat.le_refl _)
        rcases h with h | h
        · rw [hwr] at h; cases h
        · rw [s.lo, s.hi, hK] at h; omega
      rw [this]
      exact hg
  have view := fun {x : Nat} {a : AB} (ha : (R i).sub.get x = some a) => hp_view T hdc hil hDi ho hm hd (hi := hi) hfr0 hhi ha
  rcases s.was with ⟨h1, h2, h3, h4, _⟩ | ⟨h1, ⟨h2, h3, h4, _, _, m'', h6⟩ | ⟨h2, h3, m'', h4, h5, h6, h7, h8, _⟩⟩
  · refine .inr ⟨hw h1, stay ?_ h4 h3⟩
    rw [h2]; exact .tu .nil
  · refine .inl ⟨hw h1, ?_⟩
    have hgw : Good B w0 M σ' (fun x => resA σ' fr (hpK R K D l.length) x) (R i).sub.get w := by
      refine hg.re (fun x hx S hS => ?_) (fun x blk hb => ?_)
      · cases hb : (R i).sub.get x with
        | none => rw [resA_none hb]; exact hS
        | some a =>
          obtain ⟨c, hc, hwk, _⟩ := view hb
          rw [resA_some hb]
          rw [resA_some hc] at hS
          exact hwk _ _ _ _ hS
      · obtain ⟨c, hc, _⟩ := view hb
        exact hg.bd x c hc
    obtain ⟨⟨V, hV, hX⟩, hnd⟩ := still_ok HC (m := ⟨(R i).sub, (K i).c, []⟩) h6 h2 hgw H
    exact opW_val (hX o.type) (stay hV h4 h3) hnd
  · refine .inl ⟨hw h1, ?_⟩
    have hcc := T_c T (k := l.length) (j := i + 1) (Nat.le_refl _) hil
    have hc1 := T_c T (k := i) (j := 0) (Nat.le_of_lt hil) (Nat.zero_le _)
    have hview : ∀ {x : Nat} {a : AB}, (R i).sub.get x = some a → hpK R K D l.length x = some a := fun {x a} ha => by
      obtain ⟨c, hc, _, he⟩ := view ha
      rw [he h3]; exact hc
    have hgw : Good B w0 M σ' (fun x => resA σ' fr (hpK R K D l.length) x) (R i).sub.get w := by
      refine hg.re (fun x hx S hS => ?_) (fun x blk hb => hg.bd x blk (hview hb))
      cases hb : (R i).sub.get x with
      | none => rw [resA_none hb]; exact hS
      | some a =>
        rw [resA_some hb]
        rw [resA_some (hview hb)] at hS
        exact hS
    have hnew : ∀ x, (K i).c ≤ x → x < (K (i + 1)).c → hpK R K D l.length x = none := fun x q1 q2 => hp_new T hdc hil hDi (hi := hi) hfr0 hhi q1 q2 (Nat.le_refl _)
    have hσ' : ∀ x, σ x = none → (K i).c ≤ x → x < (K (i + 1)).c → σ' x = none := fun x q0 q1 q2 => hout x q0 fun j hj hDj => by
      rintro ⟨q3, q4⟩
      rcases Nat.lt_trichotomy j i with h | h | h
      · have := T_c T (k := i) (j := j + 1) (Nat.le_of_lt hil) h; omega
      · subst h; rw [hDi] at hDj; cases hDj
      · have := T_c T (k := j) (j := i + 1) (Nat.le_of_lt hj) h; omega
    have hpre : Pre B w0 M σ' (fun x => resA σ' fr (hpK R K D l.length) x) ⟨(R i).sub, (K i).c, []⟩ w (K (i + 1)).c := by
      refine ⟨hG', hgw, fun x q1 q2 => ?_, Nat.le_trans hcc (Nat.le_trans hhi hB)⟩
      have q1 : (K i).c ≤ x := q1
      obtain ⟨f1, f2, f3⟩ := hfr x (Nat.le_trans hc1 q1) (by omega)
      refine ⟨hσ' x f1 q1 q2, ?_, ?_⟩
      · show resA σ' fr (hpK R K D l.length) x = emp
        rw [resA_none (hnew x q1 q2)]; exact f2
      · show (R i).sub.get x = none
        cases hb : (R i).sub.get x with
        | none => rfl
        | some a => have := hview hb; rw [hnew x q1 q2] at this; cases this
    refine opW_mono (any_ok HC hcf hyf h4 hpre (fun r hr => by simp at hr; subst hr; exact Nat.le_of_eq h5) H) fun v w' hK => ?_
    obtain ⟨r, hr, σ'', k1, k2, k3, k4⟩ := hK
    simp at hr
    subst hr
    have k2 : SLe (K i).c m''.c σ' σ'' := k2
    rw [h5] at k2
    refine ⟨σ'', hle.trans k2.le, fun x q0 hj => ?_, ?_, slots_step T k2.le ho k1 hs⟩
    · refine k2.out x (hout x q0 fun j hjl hDj => hj j hjl ?_) ?_
      · unfold Go.Vx.mark; rw [hDj]; cases Nat.beq j i <;> rfl
      · have := hj i hil (by unfold Go.Vx.mark; simp)
        omega
    · have tch : ∀ x, (R i).tch x → hpK R K (Go.Vx.mark D i) l.length x = m''.h.get x := fun x hx => by
        rw [hp_mine T hdc hil hDi hx hil (Nat.le_refl _), h7 x hx]
      have ntch : ∀ x, ¬ (R i).tch x → hpK R K (Go.Vx.mark D i) l.length x = hpK R K D l.length x ∧ m''.h.get x = (R i).sub.get x := fun x hx => by
        refine ⟨hp_else T hDi hx (Nat.le_refl _), ?_⟩
        rcases Nat.lt_or_ge x (K i).c with h | h
        · exact k3.old x h fun hd' => hx (.inl ((h6 x h).1 hd'))
        · refine k3.up x ?_
          show m''.c ≤ x
          rw [h5]
          rcases Nat.lt_or_ge x (K (i + 1)).c with h' | h'
          · exact absurd (.inr ⟨by rw [s.lo]; exact h, by rw [s.hi]; exact h'⟩) hx
          · exact h'
      have k4 : Good B w0 M σ'' (fun x => resA σ' fr (hpK R K D l.length) x) m''.h.get w' := k4
      refine k4.re (fun x hx S hS => ?_) (fun x blk hb => ?_)
      · by_cases hc : (R i).tch x
        · have e := tch x hc
          cases hb : m''.h.get x with
          | some blk =>
            rw [resA_some hb] at hS
            rw [resA_some (e.trans hb)]
            exact hS
          | none =>
            rw [resA_none (e.trans hb)]
            rw [resA_none hb] at hS
            rcases hc with h | h
            · obtain ⟨_, b, hb'⟩ := h8 x h
              rw [hb] at hb'; cases hb'
            · rw [s.lo, s.hi] at h
              rw [resA_none (hnew x h.1 h.2)] at hS
              exact hS
        · obtain ⟨e1, e2⟩ := ntch x hc
          cases hb : (R i).sub.get x with
          | some a =>
            rw [resA_some (e2.trans hb)] at hS
            rw [resA_some (e1.trans (hview hb))]
            exact hS
          | none =>
            rw [resA_none (e2.trans hb)] at hS
            cases hb' : hpK R K D l.length x with
            | some blk =>
              rw [resA_some hb'] at hS
              rw [resA_some (e1.trans hb')]
              exact res_mono k2.le hS
            | none =>
              rw [resA_none hb'] at hS
              rw [resA_none (e1.trans hb')]
              exact hS
      · by_cases hc : (R i).tch x
        · rw [tch x hc] at hb; exact k4.bd x blk hb
        · rw [(ntch x hc).1] at hb; exact hg.bd x blk hb
end
section
variable {C : Cfg} {P : Program} (HC : CfgOk C P) {B : Nat}
theorem draw_cm {cf yf : Nat → List AV → Mem → RL} (hcf : CfCm cf) (hyf : CfCm yf) : DrawCm C cf yf := by
  intro n l env env' m m' h
  obtain ⟨R, A, E, K, T, h1, h2, h3, h4⟩ := trF_of (fun h => any_cm hcf hyf h) h
  rw [← h2, ← h4]
  exact T_c T (Nat.le_refl _) (Nat.zero_le _)
include HC
theorem draw_ok {cf yf : Nat → List AV → Mem → RL} (hcf : CallOk P B cf) (hyf : YieldOk P B yf) (hcc : CfCm cf) (hyc : CfCm yf) : DrawOk C P B cf yf := by
  intro n id ops env env' m m' ds h w0 M _ σ fr w hi ρ dsv rdv hp hb hE hD
  have hcm : ∀ {op : Op} {env : Tr AV} {m : Mem} {outs : List (AV × Mem)}, anyA C n env m cf yf op = some outs → Cm m outs := fun h => any_cm hcc hyc h
  obtain ⟨R, A, E, K, T, h1, h2, h3, h4⟩ := trF_of hcm h
  subst h1
  subst h2
  subst h3
  subst h4
  have key : W ⟨rdv, dsv⟩ P n (.region id ops.toList.toArray true) (fun ρ' w' => OutQ B w0 M fr σ (K 0) [⟨.nm, E ops.toList.length, ds, K ops.toList.length⟩] .nm dsv ρ' w') (fun _ _ => False) (fun _ _ _ => False) ρ w := by
    refine W_draw HC.mixed T.reg.rise (InvD B w0 M σ fr ops.toList R A K ρ) (fun D D' ρ w hDD hI => ?_) ?_ (fun i o ho => any_step HC T hcf hyf hcm hE hp.gl hp.fresh hb hp.hb ho) (fun ρ' w' hf hI => ?_)
    · obtain ⟨σ', q1, q2, q3, q4⟩ := hI
      refine ⟨σ', q1, fun x hx hj => q2 x hx fun j hjl hDj => hj j hjl (by rw [← hDD j hjl]; exact hDj), ?_, fun j o d hj hd => ?_⟩
      · rw [← hp_congr _ hDD]; exact q3
      · rw [← hDD j (lt_of_get hj)]; exact q4 j o d hj hd
    · refine ⟨σ, Le.refl _, fun x hx _ => hx, ?_, fun j o d _ _ => And.intro (fun h => Bool.noConfusion h) (fun _ => rfl)⟩
      have : ∀ k, hpK R K (fun _ => false) k = (K 0).h.get := by
        intro k
        induction k with
        | zero => rfl
        | succ k ih =>
          funext x
          rw [hp_un (by simp), ih]
      rw [this]
      exact hp.good.drew
    · obtain ⟨σ', q1, q2, q3, q4⟩ := hI
      rw [hp_all T (Nat.le_refl _) (fun _ _ => rfl)] at q3
      refine ⟨_, List.mem_cons_self, rfl, σ', fun t v ht => ?_, hD.mono q1, ⟨q1, fun x hx hr => q2 x hx fun j hj _ => ?_⟩, T_mle T, q3⟩
      · have ht : (E ops.toList.length).get t = some v := ht
        rcases T_E T (Nat.le_refl _) ht with ⟨j, p, _, k2, k3, rfl⟩ | ⟨k1, k2⟩
        · exact (q4 j p t k2 k3).1 rfl
        · rw [hf t fun hx => by
            unfold dsts at hx
            obtain ⟨p, hp, hpt⟩ := List.mem_filterMap.1 hx
            obtain ⟨j, hj⟩ := List.mem_iff_getElem?.1 hp
            exact k1 j p (lt_of_get hj) hj hpt]
          exact (hE t v k2).mono q1
      · have hr : x < (K 0).c ∨ (K ops.toList.length).c ≤ x := hr
        have a1 := T_c T (k := j) (j := 0) (Nat.le_of_lt hj) (Nat.zero_le _)
        have a2 := T_c T (k := ops.toList.length) (j := j + 1) (Nat.le_refl _) hj
        omega
  have := wpIn_mono key (Q' := postX n (OutQ B w0 M fr σ (K 0) [⟨.nm, E ops.toList.length, ds, K ops.toList.length⟩])) fun e a w hq => by
    cases e with
    | normal => obtain ⟨ρ', e1, hq⟩ := hq; exact ⟨dsv, ρ', e1, hq⟩
    | ret => obtain ⟨_, _, hq⟩ := hq; exact hq.elim
    | exit i => obtain ⟨_, _, hq⟩ := hq; exact hq.elim
    | _ => exact hq.elim
  have e : ops.toList.toArray = ops := by simp
  rw [e] at this
  exact this
theorem exec_ok (HH : HookOk C P) : ∀ fuel, RunCm (exec C fuel) ∧ RunOk P B (exec C fuel) ∧ LoopOk P B (exec C fuel)
  | 0 => by
    refine ⟨?_, ?_, ?_⟩
    · intro n rd c env ds m outs h; cases h
    · intro n rd c env ds m outs h; cases h
    · intro n rd c env ds m outs h; cases h
  | fuel + 1 => by
    obtain ⟨h1, h2, h3⟩ := exec_ok HH fuel
    have hd := draw_cm (C := C) (callH_cm HH h1) (yield_cm h1)
    have hk := draw_ok HC (callH_ok HC HH h2 h1) (yield_ok h2 h1) (callH_cm HH h1) (yield_cm h1)
    have h4 := execF_ok HC HH h2 h1 h3 hk
    exact ⟨execF_cm HH h1 hd, h4.1, h4.2⟩
theorem run_ok (HH : HookOk C P) (fuel : Nat) : CallOk P B (callA C (exec C fuel)) := call_ok HC (exec_ok (B := B) HC HH fuel).2.1 (exec_ok (B := B) HC HH fuel).1
end
end Go.Ce
namespace Go.Ce
open Go.RowKit Go.Vx
variable [Tok]
theorem beqC_cons {a b : AV} {l m : List AV} {r : Bool} (h : beqC (a :: l) (b :: m) = some r) : ∃ x y, beqS a b = some x ∧ beqC l m = some y ∧ r = (x && y) := by
  have h : (beqS a b).bind (fun x => (beqC l m).map fun y => x && y) = some r := h
  obtain ⟨x, hx, h⟩ := bind_some h
  obtain ⟨y, hy, h⟩ := map_some h
  exact ⟨x, y, hx, hy, h.symm⟩
theorem beqC_split : ∀ (k : Nat) {l m : List AV} {r : Bool}, beqC l m = some r → ∃ x y, beqC (l.take k) (m.take k) = some x ∧ beqC (l.drop k) (m.drop k) = some y ∧ r = (x && y)
  | 0, l, m, r, h => ⟨true, r, by simp; rfl, by simpa using h, by simp⟩
  | k + 1, [], [], r, h => by
    cases h
    exact ⟨true, true, rfl, rfl, rfl⟩
  | k + 1, [], _ :: _, r, h => by cases h
  | k + 1, _ :: _, [], r, h => by cases h
  | k + 1, a :: l, b :: m, r, h => by
    obtain ⟨x, y, h1, h2, h3⟩ := beqC_cons h
    obtain ⟨u, v, h4, h5, h6⟩ := beqC_split k h2
    refine ⟨x && u, v, ?_, h5, by rw [h3, h6, Bool.and_assoc]⟩
    show (beqS a b).bind (fun x => (beqC (l.take k) (m.take k)).map fun y => x && y) = _
    rw [h1, h4]; rfl
def Eqp (P : Program) (D t : Nat) (sh : List Nat) : Prop := ∀ (σ : Sig) (xs ys : List AV) (vs us : List Value) (r : Bool) (off : Nat), RelL σ xs vs → RelL σ ys us → ((xs.drop off).take sh.length).map shp = sh → ((ys.drop off).take sh.length).map shp = sh →
  beqC ((xs.drop off).take sh.length) ((ys.drop off).take sh.length) = some r → ∃ v u, PartF P t vs off v ∧ PartF P t us off u ∧ EqF P D t v u r
def Eqa (P : Program) (D t : Nat) (sh : List Nat) : Prop := ∀ (σ : Sig) (xs ys : List AV) (vs us : List Value) (r : Bool), RelL σ xs vs → RelL σ ys us → xs.map shp = sh → ys.map shp = sh → beqC xs ys = some r → EqF P D t (.agg vs.toArray) (.agg us.toArray) r
theorem Eqp.up {P : Program} {D D' t : Nat} {sh : List Nat} (h : Eqp P D t sh) (hd : D ≤ D') : Eqp P D' t sh := fun σ xs ys vs us r off h1 h2 h3 h4 h5 => by
  obtain ⟨v, u, a, b, c⟩ := h σ xs ys vs us r off h1 h2 h3 h4 h5
  exact ⟨v, u, a, b, c.up hd⟩
theorem one_at {σ : Sig} {xs : List AV} {vs : List Value} {off s : Nat} (h1 : RelL σ xs vs) (h : ((xs.drop off).take 1).map shp = [s]) : ∃ a v, (xs.drop off).take 1 = [a] ∧ shp a = s ∧ vs[off]? = some v ∧ Rel σ a v := by
  have hl : off < xs.length := by
    rcases Nat.lt_or_ge off xs.length with h2 | h2
    · exact h2
    · rw [List.drop_eq_nil_of_le h2] at h; cases h
  have d1 : (xs.drop off).take 1 = [xs[off]] := by rw [List.drop_eq_getElem_cons hl]; rfl
  obtain ⟨v, hv, rv⟩ := h1.at (List.getElem?_eq_getElem hl)
  rw [d1] at h
  exact ⟨_, v, d1, by simpa using h, hv, rv⟩
theorem shp_int {a : AV} {k : IntKind} (h : shp a = kd k) : ∃ x, a = .i k x := by
  cases a
  case i j x => exact ⟨x, by rw [kd_inj h]⟩
  all_goals (cases k <;> cases h)
theorem beq_one {a b : AV} {r : Bool} (h : beqC [a] [b] = some r) : beqS a b = some r := by
  obtain ⟨x, y, h6, h7, h8⟩ := beqC_cons h
  have h7 : some true = some y := h7
  cases h7
  rw [h6, h8]; simp
theorem Eqp_int {P : Program} {t : Nat} {k : IntKind} (ht : T1 P t) (hu : Ud P t (.int k)) : Eqp P 1 t [kd k] := by
  intro σ xs ys vs us r off h1 h2 h3 h4 h5
  obtain ⟨a, v, e1, e2, e3, e4⟩ := one_at h1 h3
  obtain ⟨b, u, f1, f2, f3, f4⟩ := one_at h2 h4
  obtain ⟨x, rfl⟩ := shp_int e2
  obtain ⟨y, rfl⟩ := shp_int f2
  cases e4; cases f4
  have h5 : beqC ((xs.drop off).take 1) ((ys.drop off).take 1) = some r := h5
  rw [e1, f1] at h5
  have h6 := beq_one h5
  have h6 : cond (Nat.beq (kd k) (kd k)) (some (eqI x y)) none = some r := h6
  rw [Nat.beq_refl, cond_true, eqI_eq] at h6
  cases h6
  exact ⟨_, _, PartF_one ht e3, PartF_one ht f3, EqF_int hu⟩
theorem Eqp_agg {P : Program} {D t : Nat} {sh : List Nat} (ht : TA P t sh.length) (h : Eqa P D t sh) : Eqp P D t sh := by
  intro σ xs ys vs us r off h1 h2 h3 h4 h5
  have l1 : ((vs.drop off).take sh.length).length = sh.length := by
    rw [((h1.drop off).take sh.length).len]
    have := congrArg List.length h3
    simpa using this
  have l2 : ((us.drop off).take sh.length).length = sh.length := by
    rw [((h2.drop off).take sh.length).len]
    have := congrArg List.length h4
    simpa using this
  exact ⟨_, _, PartF_agg ht l1 rfl, PartF_agg ht l2 rfl, h σ _ _ _ _ r ((h1.drop off).take _) ((h2.drop off).take _) h3 h4 h5⟩
inductive FsS (P : Program) (D : Nat) : Nat → List Field → List Nat → Prop where
  | nil {off : Nat} : FsS P D off [] []
  | cons {off : Nat} {f : Field} {fs : List Field} {sh sh' : List Nat} (h1 : f.offset = off) (h2 : f.name ≠ "_") (h3 : Eqp P D f.type sh) (h4 : FsS P D (off + sh.length) fs sh') : FsS P D off (f :: fs) (sh ++ sh')
theorem FsS.more {P : Program} {D off : Nat} {f : Field} {fs : List Field} {sh sh' tot : List Nat} (h3 : Eqp P D f.type sh) (ht : tot = sh ++ sh') (h1 : f.offset = off) (h2 : f.name ≠ "_") (h4 : FsS P D (off + sh.length) fs sh') : FsS P D off (f :: fs) tot := by
  subst ht; exact .cons h1 h2 h3 h4
theorem map_app {l : List AV} {s s' : List Nat} (h : l.map shp = s ++ s') : (l.take s.length).map shp = s ∧ (l.drop s.length).map shp = s' := by
  rw [List.map_take, List.map_drop, h]
  exact ⟨List.take_left' rfl, List.drop_left' rfl⟩
theorem FsS.eqs {P : Program} {D off : Nat} {fs : List Field} {sh : List Nat} (h : FsS P D off fs sh) : ∀ {σ : Sig} {xs ys : List AV} {vs us : List Value} {r : Bool}, RelL σ xs vs → RelL σ ys us → (xs.drop off).map shp = sh → (ys.drop off).map shp = sh → beqC (xs.drop off) (ys.drop off) = some r → EqFs P D vs us fs r := by
  induction h with
  | nil =>
    intro σ xs ys vs us r h1 h2 h3 h4 h5
    rw [List.map_eq_nil_iff.1 h3, List.map_eq_nil_iff.1 h4] at h5
    cases h5
    exact .nil
  | @cons off f fs sh sh' e1 e2 e3 _ ih =>
    intro σ xs ys vs us r h1 h2 h3 h4 h5
    obtain ⟨x, y, q1, q2, rfl⟩ := beqC_split sh.length h5
    obtain ⟨a1, a2⟩ := map_app h3
    obtain ⟨b1, b2⟩ := map_app h4
    obtain ⟨v, u, p1, p2, p3⟩ := e3 σ xs ys vs us x off h1 h2 a1 b1 q1
    rw [List.drop_drop] at a2 b2 q2
    rw [List.drop_drop] at q2
    refine .cons e2 (by rw [e1]; exact p1) (by rw [e1]; exact p2) p3 (ih h1 h2 a2 b2 q2)
theorem Eqa_struct {P : Program} {D t : Nat} {fs : Array Field} {sh : List Nat} (ht : P.underlying t = some (.struct fs)) (hp : P.stoodInHeld t = false) (h : FsS P D 0 fs.toList sh) : Eqa P (D + 1) t sh := by
  intro σ xs ys vs us r h1 h2 h3 h4 h5
  exact EqF_struct ht hp (h.eqs (σ := σ) (xs := xs) (ys := ys) h1 h2 (by simpa using h3) (by simpa using h4) (by simpa using h5))
theorem beqC_all {k : IntKind} : ∀ {l m : List AV} {r : Bool}, (∀ a ∈ l, shp a = kd k) → (∀ a ∈ m, shp a = kd k) → beqC l m = some r → l.length = m.length ∧ (r = true ↔ ∀ (i : Nat) (a b : AV), l[i]? = some a → m[i]? = some b → beqS a b = some true)
  | [], [], r, _, _, h => by cases h; simp
  | [], _ :: _, r, _, _, h => by cases h
  | _ :: _, [], r, _, _, h => by cases h
  | a :: l, b :: m, r, h1, h2, h => by
    obtain ⟨x, y, e1, e2, rfl⟩ := beqC_cons h
    obtain ⟨i1, i2⟩ := beqC_all (fun a ha => h1 a (by simp [ha])) (fun a ha => h2 a (by simp [ha])) e2
    refine ⟨by simp [i1], ?_⟩
    rw [Bool.and_eq_true, i2]
    constructor
    · rintro ⟨rfl, h3⟩ i a' b' ha hb
      cases i with
      | zero => simp at ha hb; subst ha; subst hb; exact e1
      | succ i => exact h3 i a' b' (by simpa using ha) (by simpa using hb)
    · intro h3
      refine ⟨?_, fun i a' b' ha hb => h3 (i + 1) a' b' (by simpa using ha) (by simpa using hb)⟩
      have := h3 0 a b (by simp) (by simp)
      rw [e1] at this
      simpa using this
theorem Eqa_arr {P : Program} {t n el : Nat} {ie : TypeInfo} {k : IntKind} (ht : P.underlying t = some (.array n el)) (hi : P.info? el = some ie) (hk : P.cellsOf el = 1) (h1 : T1 P el) (hu : Ud P el (.int k)) : Eqa P 2 t (List.replicate n (kd k)) := by
  intro σ xs ys vs us r r1 r2 s1 s2 hb
  have l1 : xs.length = n := by have := congrArg List.length s1; simpa using this
  have l2 : ys.length = n := by have := congrArg List.length s2; simpa using this
  have m1 : ∀ a ∈ xs, shp a = kd k := fun a ha => by
    have : shp a ∈ xs.map shp := List.mem_map.2 ⟨a, ha, rfl⟩
    rw [s1] at this
    exact (List.mem_replicate.1 this).2
  have m2 : ∀ a ∈ ys, shp a = kd k := fun a ha => by
    have : shp a ∈ ys.map shp := List.mem_map.2 ⟨a, ha, rfl⟩
    rw [s2] at this
    exact (List.mem_replicate.1 this).2
  obtain ⟨_, hall⟩ := beqC_all m1 m2 hb
  have at1 : ∀ i, i < n → ∃ x, xs[i]? = some (.i k x) ∧ vs[i]? = some (.int k x) := fun i hi => by
    have e := List.getElem?_eq_getElem (l := xs) (i := i) (by omega)
    obtain ⟨x, hx⟩ := shp_int (m1 _ (List.getElem_mem (l := xs) (n := i) (by omega)))
    obtain ⟨v, hv, rv⟩ := r1.at e
    rw [hx] at e rv
    cases rv
    exact ⟨x, e, hv⟩
  have at2 : ∀ i, i < n → ∃ x, ys[i]? = some (.i k x) ∧ us[i]? = some (.int k x) := fun i hi => by
    have e := List.getElem?_eq_getElem (l := ys) (i := i) (by omega)
    obtain ⟨x, hx⟩ := shp_int (m2 _ (List.getElem_mem (l := ys) (n := i) (by omega)))
    obtain ⟨v, hv, rv⟩ := r2.at e
    rw [hx] at e rv
    cases rv
    exact ⟨x, e, hv⟩
  let X := fun (l : List AV) (i : Nat) => (match l[i]? with | some (.i _ x) => x | _ => 0 : Int)
  have eX : ∀ {l : List AV} {i : Nat} {x : Int}, l[i]? = some (.i k x) → X l i = x := fun {l i x} h => by
    show (match l[i]? with | some (.i _ x) => x | _ => 0) = x
    rw [h]
  have e : r = allB (fun i => decide (X xs i = X ys i)) n := by
    rw [Bool.eq_iff_iff, hall]
    simp only [allB, List.all_eq_true, List.mem_range, decide_eq_true_iff]
    constructor
    · intro h i hi
      obtain ⟨x, a1, _⟩ := at1 i hi
      obtain ⟨y, b1, _⟩ := at2 i hi
      have := h i _ _ a1 b1
      have this : cond (Nat.beq (kd k) (kd k)) (some (eqI x y)) none = some true := this
      rw [Nat.beq_refl, cond_true, eqI_eq] at this
      rw [eX a1, eX b1]
      simpa using this
    · intro h i a b ha hb'
      have hi : i < n := by have := lt_of_get ha; omega
      obtain ⟨x, a1, _⟩ := at1 i hi
      obtain ⟨y, b1, _⟩ := at2 i hi
      have := h i hi
      rw [eX a1, eX b1] at this
      rw [a1] at ha; rw [b1] at hb'
      cases ha; cases hb'
      show cond (Nat.beq (kd k) (kd k)) (some (eqI x y)) none = some true
      rw [Nat.beq_refl, cond_true, eqI_eq, decide_eq_true this]
  rw [e]
  refine EqF_array ht hi hk (us := fun i => .int k (X xs i)) (vs := fun i => .int k (X ys i)) (fun i hi => ?_) (fun i hi => ?_) (fun i _ => EqF_int hu)
  · obtain ⟨x, a1, a2⟩ := at1 i hi
    exact PartF_one h1 (by rw [Nat.mul_one, a2, eX a1])
  · obtain ⟨x, a1, a2⟩ := at2 i hi
    exact PartF_one h1 (by rw [Nat.mul_one, a2, eX a1])
theorem eqsOk_of {P : Program} {D t : Nat} {sh : List Nat} (hg : P.eqGuardType P.depth t = false) (h : Eqa P D t sh) (hD : Nat.ble D 10000 = true) : EqsOk P t sh := by
  intro σ xs ys vs us r h1 h2 h3 h4 h5
  refine ⟨hg, fun w => ?_⟩
  have := (h σ xs ys vs us r h1 h2 h3 h4 h5).up (Nat.le_of_ble_eq_true hD) 0 w
  simpa only [Nat.add_zero, Op.equal, Op.maxDepth] using this
noncomputable def cfgOf (types : List TypeInfo) (funcs : List Func) (es : List (Nat × List Nat)) (hk : Nat → List AV → Mem → Option (List (AV × Mem)) := fun _ _ _ => none) (bop : BinOp → Nat → IntKind → Int → Option AV := fun _ _ _ _ => none) (tlen : Nat → Option AV := fun _ => none) (tk : TokT := noTok) (kys : Nat → Bool := fun _ => false) : Cfg :=
  ⟨(Tr.ofL types 0 .lf).get, (Tr.ofL funcs 0 .lf).get, fun t => (es.find? fun e => Nat.beq e.1 t).map Prod.snd, hk, bop, tlen, tk, kys⟩
omit [Tok] in
theorem info_of {P : Program} {t : Nat} {i : TypeInfo} (h : P.types[t]? = some i) : P.info? t = some i := by
  have ht : t < P.types.size := by
    rcases Nat.lt_or_ge t P.types.size with h2 | h2
    · exact h2
    · rw [Array.getElem?_eq_none h2] at h; cases h
  unfold Tables.info?
  rw [if_pos ht]
  exact h
structure TabOk (P : Program) (es : List (Nat × List Nat)) : Prop where
  info : ∀ t i, (Tr.ofL P.types.toList 0 .lf).get t = some i → P.info? t = some i
  fn : ∀ f fn, (Tr.ofL P.funcs.toList 0 .lf).get f = some fn → P.funcs[f]? = some fn
  en : ∀ f fn c, (Tr.ofL P.funcs.toList 0 .lf).get f = some fn → fn.body = some c → En P f
  eqs : ∀ e ∈ es, ∀ [Tok], EqsOk P e.1 e.2
  ext : ∀ f fn, (Tr.ofL P.funcs.toList 0 .lf).get f = some fn → fn.body = none → fn.name = "maps.clone" → ∀ t b es clock (w : World), w.heap[b]? = some (.map es clock) → (callFunc f #[.iface t (.map (some b))]).run P w = .ok (.value (.iface t (.map (some w.heap.size)))) (w.alloc (.map es clock))
  mixed : P.follows .mixedOrders = true
omit [Tok] in
theorem tab_ok {P : Program} {es : List (Nat × List Nat)} {fc : Nat} {fnc : Func} (hE : ∀ e ∈ es, ∀ [Tok], EqsOk P e.1 e.2) (hN : (P.funcs.toList.all fun fn => fn.body.isNone || !(fn.name == "runtime.NumGoroutine")) = true)
    (hX : (P.funcs.toList.zipIdx.all fun q => q.1.body.isSome || !(q.1.name == "maps.clone") || Nat.beq q.2 fc) = true) (hf : P.funcs[fc]? = some fnc) (hname : (fnc.name == "runtime.NumGoroutine") = false) (hb : fnc.body.isNone = true) (hn : Extern.findNext fnc = none) (he : Extern.find fnc = some Extern.MapsClone.clone) (hM : P.follows .mixedOrders = true) :
    TabOk P es := by
  have fnat : ∀ f fn, (Tr.ofL P.funcs.toList 0 .lf).get f = some fn → P.funcs[f]? = some fn := fun f fn h => by
    have := Tr.ofL_get (show (Tr.ofL P.funcs.toList 0 .lf).get f = some fn from h)
    rwa [Array.getElem?_toList] at this
  refine ⟨fun t i h => ?_, fnat, fun f fn c h hc => ?_, hE, fun f fn h hb' hnm t b es' clock w hw => ?_, hM⟩
  · have := Tr.ofL_get (show (Tr.ofL P.types.toList 0 .lf).get t = some i from h)
    rw [Array.getElem?_toList] at this
    exact info_of this
  · have hf := fnat f fn h
    have hmem : fn ∈ P.funcs.toList := List.mem_of_getElem? (by rw [Array.getElem?_toList]; exact hf)
    rw [List.all_eq_true] at hN
    have h2 := hN fn hmem
    rw [hc] at h2
    have h3 : (fn.name == "runtime.NumGoroutine") = false := by simpa using h2
    intro args w
    simp only [callFunc, Sem.run_bind, run_program, Result.andThen_ok, hf, h3, hc]
    simp
  · have hf' := fnat f fn h
    have hmem : (fn, f) ∈ P.funcs.toList.zipIdx := List.mem_zipIdx_iff_getElem?.2 (by rw [Array.getElem?_toList]; exact hf')
    rw [List.all_eq_true] at hX
    have h2 := hX _ hmem
    dsimp only at h2
    rw [hb', hnm] at h2
    have h3 : f = fc := by
      have : Nat.beq f fc = true := by simpa using h2
      exact Nat.eq_of_beq_eq_true this
    subst h3
    rw [run_callFunc_extern hf hname hb hn he]
    have e : Extern.MapsClone.clone #[.iface t (.map (some b))] = (getObj b >>= fun o => match o with
        | .map entries clock => (newObj (.map entries clock) >>= fun n => pure (.iface t (.map (some n))))
        | _ => stuck "maps.clone: a map expected") := rfl
    rw [e]
    simp [MapKept.run_getObj_map hw, Result.andThen, go_sem]
theorem cfg_ok {P : Program} {es : List (Nat × List Nat)} (T : TabOk P es) {hk : Nat → List AV → Mem → Option (List (AV × Mem))} {bop : BinOp → Nat → IntKind → Int → Option AV} {tlen : Nat → Option AV} {tk : TokT} {kys : Nat → Bool}
    (hb : ∀ op k j b a, bop op k j b = some a → ∃ p, Tok.v k = .int j p ∧ ∀ t, binA (cfgOf P.types.toList P.funcs.toList es hk bop tlen tk kys) op t (.i j p) (.i j b) = some a)
    (hl : ∀ k r, tlen k = some r → ∃ q l c, Tok.v k = .slice q l c ∧ ∀ σ, Rel σ r (.int .i64 (l : Int))) (ht : TkOk tk := by exact noTok_ok) (hkys : ∀ t, kys t = true → KeyOk P t dv := by exact fun _ h => (nomatch h)) : CfgOk (cfgOf P.types.toList P.funcs.toList es hk bop tlen tk kys) P := by
  refine ⟨T.info, T.fn, T.en, fun t sh h => ?_, T.ext, hb, hl, T.mixed, ht, hkys⟩
  have h : ((es.find? fun e => Nat.beq e.1 t).map Prod.snd) = some sh := h
  obtain ⟨e, h1, h2⟩ := map_some h
  have h3 := List.find?_some h1
  have h4 := T.eqs e (List.mem_of_find?_eq_some h1)
  rw [Nat.eq_of_beq_eq_true h3, h2] at h4
  exact h4
noncomputable def mem0 (g : Nat) (cs : List AV) (T : Nat) : Mem := ⟨(Tr.lf).put g (some (.row cs T 0 false)), 64, []⟩
def nums (k : IntKind) (l : List Nat) : List AV := l.map fun n => .i k (Int.ofNat n)
def numsV (k : IntKind) (l : List Nat) : List Value := l.map fun n => .int k (Int.ofNat n)
theorem nums_rel {σ : Sig} {k : IntKind} : ∀ l : List Nat, RelL σ (nums k l) (numsV k l)
  | [] => .nil
  | n :: l => .cons (.i k _) (nums_rel l)
theorem no_hook {types : List TypeInfo} {funcs : List Func} {es : List (Nat × List Nat)} {bop : BinOp → Nat → IntKind → Int → Option AV} {tlen : Nat → Option AV} {tk : TokT} {kys : Nat → Bool} {P : Program} : HookOk (cfgOf types funcs es (fun _ _ _ => none) bop tlen tk kys) P :=
  by
  refine ⟨?_, fun B => ?_⟩
  · intro f args m outs h; cases h
  · intro f args m outs h; cases h
end Go.Ce
namespace Go.Ce
open Go.RowKit Go.Vx
variable [Tok]
noncomputable def trueB (g : Nat) (r : RL) : Bool := match r with
  | some [(.b true, m)] => m.d.all fun x => !(Nat.beq x g)
  | _ => false
theorem nums_eq {σ : Sig} {k : IntKind} : ∀ {l : List Nat} {vs : List Value}, RelL σ (nums k l) vs → vs = numsV k l
  | [], _, h => by cases h; rfl
  | n :: l, _, h => by
    have h2 : RelL σ (.i k (Int.ofNat n) :: nums k l) _ := h
    clear h
    cases h2 with | cons h t => ?_
    cases h
    rw [nums_eq t]; rfl
section
variable {B : Nat} {w0 w : World} {M : Nat → Prop} {σ : Sig} {fr : Nat → Res} {k : IntKind} {l : List Nat} {g T : Nat} {m : Mem}
theorem row_at (hh : m.h.get g = some (.row (nums k l) T 0 false)) (hq : Good B w0 M σ fr m.h.get w) {e : Nat} (hσ : σ g = some (g, e)) : w.heap[g]? = some (.cells (numsV k l).toArray T (0, 0)) := by
  obtain ⟨b, ee, ob, u1, u2, vs', rest, u3, u4, u5⟩ := hq.block hh rfl
  rw [hσ] at u1
  cases u1
  have u4 : rest = [] := by
    have : rest.length = 0 := u4
    exact List.length_eq_zero_iff.1 this
  subst u4
  rw [nums_eq u3, List.append_nil] at u5
  subst u5
  exact u2
end
theorem run_law {C : Cfg} {P : Program} (HC : CfgOk C P) (HH : HookOk C P) {f fuel g T : Nat} {k : IntKind} {l : List Nat} {fn : Func} {c : Code} {args : List AV} {vs : List Value} (hf : C.fn f = some fn) (hc : fn.body = some c) (hg : g < 64) (hargs : ∀ σ, RelL σ args vs)
    (h : trueB g (callA C (exec C fuel) f args (mem0 g (nums k l) T)) = true)
    {w : World} (hI : Tok.I w (· = g)) (hw : w.heap[g]? = some (.cells (numsV k l).toArray T (0, 0))) : Calls P f vs.toArray w (fun e w' => e = .returned (.bool true) ∧ Own w no w' []) := by
  unfold trueB at h
  split at h
  · rename_i m hm
    have hlt : g < w.heap.size := by
      rcases Nat.lt_or_ge g w.heap.size with h | h
      · exact h
      · rw [Array.getElem?_eq_none h] at hw; cases hw
    let σ : Sig := fun x => if x < 64 then some (x, 0) else none
    have hσ : ∀ x, x < 64 → σ x = some (x, 0) := fun x hx => if_pos hx
    have hget : ∀ x, (mem0 g (nums k l) T).h.get x = if x = g then some (.row (nums k l) T 0 false) else none := fun x => by
      show ((Tr.lf (α := AB)).put g (some (.row (nums k l) T 0 false))).get x = _
      rw [Tr.get_put, Tr.get_lf]
    have own : Own w (· = g) w (LH (m.c + 64) (resA σ (fun _ => emp) (mem0 g (nums k l) T).h.get)) := by
      refine ⟨rfl, ⟨rfl, Nat.le_refl _⟩, rfl, Nat.le_refl _, fun _ _ _ => rfl, fun x b => x = g ∧ b = g, fun x R hR => ?_, fun x b hx => by rw [hx.2]; exact hlt, fun x x' b h h' => h.1.trans h'.1.symm, fun x b h _ => h.2⟩
      obtain ⟨_, rfl⟩ := LH_getR hR
      by_cases hx : x = g
      · subst hx
        have e : (mem0 x (nums k l) T).h.get x = some (.row (nums k l) T 0 false) := by rw [hget, if_pos rfl]
        unfold resA
        rw [e]
        refine ⟨x, 0, _, hσ x hg, ⟨rfl, rfl⟩, hw, numsV k l, [], nums_rel l, rfl, ?_⟩
        simp
      · have e : (mem0 g (nums k l) T).h.get x = none := by rw [hget, if_neg hx]
        unfold resA
        rw [e]
        trivial
    have hpre : Pre (m.c + 64) w (· = g) σ (fun _ => emp) (mem0 g (nums k l) T) w m.c := by
      refine ⟨fun x hx => ⟨0, hσ x hx⟩, ⟨own, fun x blk hx => ?_⟩, fun x h1 h2 => ?_, by omega⟩
      · rw [hget] at hx
        split at hx
        · rename_i e; omega
        · cases hx
      · have h1 : 64 ≤ x := h1
        refine ⟨if_neg (by omega), rfl, ?_⟩
        rw [hget, if_neg (by omega)]
    haveI : Inv w (· = g) := ⟨hI⟩
    have := run_ok HC HH fuel (B := m.c + 64) f args (mem0 g (nums k l) T) _ hm hpre (fun o ho => by simp at ho; subst ho; exact Nat.le_refl _) (hargs σ)
    rw [HC.en f fn c hf hc] at this
    refine Calls.mono this fun e w' hq => ?_
    obtain ⟨v, rfl, o, ho, σ', q1, q2, q3, q4⟩ := hq
    simp at ho
    subst ho
    cases q1
    refine ⟨rfl, ?_⟩
    have hnd : g ∉ m.d := fun hx => by
      rw [List.all_eq_true] at h
      have := h g hx
      rw [Nat.beq_refl] at this
      cases this
    have hh : m.h.get g = some (.row (nums k l) T 0 false) := by
      have e1 := q3.old g (show g < 64 from hg) hnd
      rw [hget, if_pos rfl] at e1
      exact e1
    have u2 := row_at hh q4 (q2.le _ _ (hσ g hg))
    have o := q4.own
    refine ⟨o.os, o.tape, o.output, o.size, fun b hb _ => ?_, fun _ _ => False, by simp, fun _ _ h => h.elim, fun _ _ _ h => h.elim, fun _ _ h => h.elim⟩
    by_cases hbg : b = g
    · subst hbg; rw [u2, hw]
    · exact o.old b hb hbg
  · cases h
end Go.Ce
