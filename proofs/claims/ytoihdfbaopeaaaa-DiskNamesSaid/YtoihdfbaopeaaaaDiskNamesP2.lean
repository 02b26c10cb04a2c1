/- A part of a proof: what functions of the program compute, and plain facts on that. -/
import Derived.Test.YtoihdfbaopeaaaaDiskNamesP1
import Derived.Laws.BytesArg
import Derived.Sort.EncStr
import Derived.MapKept
import Derived.OpenShut
import Derived.ChangeArms
import Derived.ProofKit
import Derived.Deep.Slices
import Derived.KernelRfl
import Derived.Test.YtoihdfbaopeaaaaProg
import Derived.WideKeyEntry
import Derived.Laws.CopyRow
import Derived.Lib.AppendZeros
import Derived.Lib.Overlaps
import Derived.Laws.Externs
import Derived.Laws.Cover3
import Derived.Shelf.SlSortCmp.WholeK
import Derived.Shelf.SortM.Plain
import Derived.Shelf.SortM.SortNone
set_option linter.unusedVariables false
set_option linter.unusedSimpArgs false
namespace Go.Vx
open Go.RowKit
abbrev Str := List UInt8
abbrev sv (l : Str) : Value := .string ⟨l.toArray⟩
def sc (l : Str) : List Value := [sv l]
theorem sc_one (l : Str) : ∀ v ∈ sc l, v.oneCell' = true := by intro v hv; simp [sc] at hv; subst hv; rfl
def sOf (l : List Int) : Str := l.map fun n => UInt8.ofNat n.toNat
section
variable {P : Program} {ty : TypeId} {e : Operand → Value} {w : World} {K : Value → World → Prop} {t u : TypeId} {x y : Operand} {a b : Str}
theorem L_eqS (hx : e x = sv a) (hy : e y = sv b) (h : K (.bool (decide (a = b))) w) : opW P (.binOp .eql t x y u) ty e w K := by
  refine opW_val (w' := w) ?_ h
  simp only [execOp, hx, hy, Sem.run_bind, Result.andThen_ok]
  simp [binOp_string_eql, eqGuard]
  by_cases q : a = b <;> simp [q]
theorem L_neS (hx : e x = sv a) (hy : e y = sv b) (h : K (.bool (!decide (a = b))) w) : opW P (.binOp .neq t x y u) ty e w K := by
  refine opW_val (w' := w) ?_ h
  simp only [execOp, hx, hy, Sem.run_bind, Result.andThen_ok]
  simp [binOp_string_neq, eqGuard]
  by_cases q : a = b <;> simp [q]
theorem L_lenS' (ht : P.underlying t = some .string) (hx : e x = sv a) (h : K (.int .i64 ((a.length : Nat) : Int)) w) : opW P (.call { callee := .builtin .len, args := #[x], argTypes := #[t] }) ty e w K := by
  refine opW_val (w' := w) ?_ h
  rw [BigFrame.execOp_builtin]
  simp only [List.map_toArray, List.map_cons, List.map_nil, hx, BigFrame.builtin_len, Sem.run_bind, run_len_string w t ty _ ht, Result.andThen_ok, Sem.run_pure]
  rfl
theorem L_convS {s d el : TypeId} {v : Value} {l : List Int} (hs : P.underlying s = some (.slice el)) (hel : P.underlying el = some (.int .u8)) (hd : P.underlying d = some .string) (hr : Rd w v 1 (l.map (ic .u8))) (hx : e x = v) (h : K (sv (sOf l)) w) : opW P (.convert s d x) ty e w K := by
  refine opW_val (w' := w) ?_ h
  have key : (convert s d v).run P w = .ok (sv (sOf l)) w := by
    rcases hr.shape with ⟨rfl, hl⟩ | ⟨b, o, c, rfl⟩
    · have : l = [] := by simpa using hl
      subst this
      exact run_convert_bytes_nil w s el hs hel 0 0 d hd
    · have h1 : ∀ i, i < l.length → w.cell? ⟨b, o + i, none⟩ = some (.int .u8 (l.getD i 0)) := fun i hi => by
        have := hr.cell i 0 (ic .u8 l[i]) (.int .u8 l[i]) (by simp [hi]) rfl
        simp only [Nat.mul_one, Nat.add_zero] at this
        have e1 : l.getD i 0 = l[i] := by simp [List.getD, List.getElem?_eq_getElem hi]
        rw [e1]; exact this
      have := run_convert_bytes_arg w s el hs hel b o (l.map (ic .u8)).length c l (by simp) (by simpa using h1) d hd
      exact this
  simp only [execOp, hx, Sem.run_bind, key, Result.andThen_ok, Sem.run_pure]
end
theorem findNow_str (k : Str) : ∀ (ks : List Str) (es : List MapEntry) (i : Nat), es.map (·.key) = ks.map sv → Instr.findNow .string (sv k) es i = some (lfind k (ks.zip (es.map (·.val))) i)
  | [], es, i, h => by
    have : es = [] := by simpa using h
    subst this
    simp [Instr.findNow, lfind]
  | a :: ks, [], i, h => by simp at h
  | a :: ks, e :: es, i, h => by
    simp only [List.map_cons, List.cons.injEq] at h
    unfold Instr.findNow
    rw [h.1]
    have hb : ((⟨k.toArray⟩ : ByteArray) == ⟨a.toArray⟩) = decide (k = a) := by
      have h1 := MapKept.bytes_beq ⟨k.toArray⟩ ⟨a.toArray⟩
      by_cases q : k = a
      · subst q; simp only [decide_true]; exact h1.2 rfl
      · have : ¬ (⟨k.toArray⟩ : ByteArray) = ⟨a.toArray⟩ := fun h => q (by simpa using h)
        simp only [q, decide_false]
        cases hb : ((⟨k.toArray⟩ : ByteArray) == ⟨a.toArray⟩) with
        | false => rfl
        | true => exact absurd (h1.1 hb) this
    simp only [Instr.sameNow, List.map_cons, List.zip_cons_cons, lfind, hb]
    by_cases hk : k = a
    · simp [hk]
    · simp only [hk, decide_false, if_false]
      exact findNow_str k ks es (i + 1) h.2
theorem KeyOk_str {P : Program} {kt : Nat} (ht : P.underlying kt = some .string) : KeyOk P kt sv where
  chk := fun b k w => by
    show (Instr.checkKey b (9999 + 1) kt (sv k)).run P w = _
    generalize 9999 = n
    simp only [Instr.checkKey, Sem.run_bind, run_underlying ht, Result.andThen_ok, Sem.run_pure]
  bits := fun k => by
    generalize 10000 = n
    simp only [Instr.sameBits]
    exact (MapKept.bytes_beq _ _).2 rfl
  find := fun k ks es w h => by
    unfold Instr.findKey
    simp only [Sem.run_bind, run_underlying ht, Result.andThen_ok, findNow_str k ks es 0 h, Sem.run_pure]
def setAll (L : List Res) : List Nat → List Res → List Res
  | i :: is, R :: Rs => setAll (L.set i R) is Rs
  | _, _ => L
theorem setAll_len : ∀ (is : List Nat) (Rs L : List Res), (setAll L is Rs).length = L.length
  | [], _, _ => by simp [setAll]
  | _ :: _, [], _ => by simp [setAll]
  | i :: is, R :: Rs, L => by simp [setAll, setAll_len is Rs]
theorem setAll_not : ∀ (is : List Nat) (Rs L : List Res) (k : Nat), k ∉ is → (setAll L is Rs)[k]? = L[k]?
  | [], _, _, _, _ => by simp [setAll]
  | _ :: _, [], _, _, _ => by simp [setAll]
  | i :: is, R :: Rs, L, k, h => by
    simp only [List.mem_cons, not_or] at h
    simp only [setAll]
    rw [setAll_not is Rs _ k h.2, List.getElem?_set_ne (fun e => h.1 e.symm)]
theorem setAll_at : ∀ (is : List Nat) (Rs L : List Res), is.Nodup → is.length = Rs.length → (∀ i ∈ is, i < L.length) → ∀ (j i : Nat), is[j]? = some i → (setAll L is Rs)[i]? = Rs[j]?
  | [], _, _, _, _, _, j, i, h => by simp at h
  | _ :: _, [], _, _, hl, _, _, _, _ => by simp at hl
  | a :: is, R :: Rs, L, hn, hl, hb, j, i, h => by
    simp only [List.nodup_cons] at hn
    simp only [setAll]
    cases j with
    | zero =>
      simp at h; subst h
      rw [setAll_not is Rs _ a hn.1, List.getElem?_set_self (hb a (by simp))]; simp
    | succ j =>
      have := setAll_at is Rs (L.set a R) hn.2 (by simpa using hl) (fun i hi => by simpa using hb i (by simp [hi])) j i (by simpa using h)
      simpa using this
theorem idx_nodup : ∀ {is : List Nat} (_ : is.Nodup) {j j' i : Nat} (_ : is[j]? = some i) (_ : is[j']? = some i), j = j'
  | [], _, j, j', i, h, _ => by simp at h
  | a :: is, hn, j, j', i, h, h' => by
    simp only [List.nodup_cons] at hn
    cases j with
    | zero =>
      simp at h; subst h
      cases j' with
      | zero => rfl
      | succ j' => exact absurd (List.mem_of_getElem? (by simpa using h')) hn.1
    | succ j =>
      cases j' with
      | zero => simp at h'; subst h'; exact absurd (List.mem_of_getElem? (by simpa using h)) hn.1
      | succ j' => rw [idx_nodup hn.2 (j := j) (j' := j') (by simpa using h) (by simpa using h')]
theorem Own.lendS {w0 w : World} {M : Nat → Prop} {L : List Res} (h : Own w0 M w L) (is : List Nat) (Rs : List Res) (hn : is.Nodup) (hi : ∀ (j i : Nat), is[j]? = some i → L[i]? = Rs[j]?) (hlen : is.length = Rs.length) :
    ∃ S, (star Rs).holds w S ∧ (∀ b, S b → b < w.heap.size) ∧ ∀ w' Rs' Lo, Rs'.length = Rs.length → Own w S w' (Rs' ++ Lo) → Own w0 M w' (setAll L is Rs' ++ Lo) := by
  obtain ⟨a, b, c, d, e, S, f, g, i', j'⟩ := h
  have hget : ∀ (j i : Nat), is[j]? = some i → ∃ R, Rs[j]? = some R ∧ L[i]? = some R := by
    intro j i hji
    have hj : j < Rs.length := by have := lt_of_get hji; omega
    exact ⟨Rs[j], by simp [hj], by rw [hi j i hji]; simp [hj]⟩
  have hidx : ∀ j : Nat, j < Rs.length → ∃ i, is[j]? = some i := fun j hj => ⟨is[j]'(by omega), by simp [show j < is.length by omega]⟩
  refine ⟨fun b => ∃ i ∈ is, S i b, ⟨fun j b => ∃ i, is[j]? = some i ∧ S i b, ?_, ?_, ?_⟩, ?_, ?_⟩
  · intro j R hj
    obtain ⟨i, hji⟩ := hidx j (lt_of_get hj)
    obtain ⟨R', hR1, hR2⟩ := hget j i hji
    rw [hj] at hR1; cases hR1
    have e1 : (fun b => ∃ i, is[j]? = some i ∧ S i b) = S i := by
      funext b; apply propext; constructor
      · rintro ⟨i2, h1, h2⟩; rw [hji] at h1; cases h1; exact h2
      · exact fun h => ⟨i, hji, h⟩
    show R.holds w (fun b => ∃ i, is[j]? = some i ∧ S i b)
    rw [e1]; exact f i R hR2
  · rintro j j2 b ⟨i, h1, h2⟩ ⟨i2, h3, h4⟩
    have := i' i i2 b h2 h4; subst this
    exact idx_nodup hn h1 h3
  · intro b; constructor
    · rintro ⟨i, hi1, hb⟩
      obtain ⟨j, hj⟩ := List.mem_iff_getElem?.1 hi1
      exact ⟨j, by have := lt_of_get hj; omega, i, hj, hb⟩
    · rintro ⟨j, _, i, h1, h2⟩; exact ⟨i, List.mem_of_getElem? h1, h2⟩
  · rintro b ⟨i, _, hb⟩; exact g i b hb
  · intro w' Rs' Lo hl hc
    obtain ⟨a', b', c', d', e', S', f', g', i'', j''⟩ := hc
    have hsub : ∀ k b, S' k b → b < w.heap.size → ∃ i ∈ is, S i b := fun k b h hb => j'' k b h hb
    refine ⟨a'.trans a, ⟨b'.1.trans b.1, Nat.le_trans b.2 b'.2⟩, c'.trans c, by omega, fun k hk hm => ?_,
      fun k b => (k < L.length ∧ k ∉ is ∧ S k b) ∨ (∃ j, is[j]? = some k ∧ S' j b) ∨ (L.length ≤ k ∧ S' (k - L.length + Rs.length) b), ?_, ?_, ?_, ?_⟩
    · rw [e' k (by omega) (fun ⟨i, _, hs⟩ => hm (j' i k hs hk))]; exact e k hk hm
    · have hbd : ∀ i ∈ is, i < L.length := fun i hi1 => by
        obtain ⟨j, hj⟩ := List.mem_iff_getElem?.1 hi1
        obtain ⟨R, _, h2⟩ := hget j i hj
        exact lt_of_get h2
      intro k Q hk
      rw [List.getElem?_append, setAll_len] at hk
      by_cases hkl : k < L.length
      · rw [if_pos hkl] at hk
        by_cases hki : k ∈ is
        · obtain ⟨j, hj⟩ := List.mem_iff_getElem?.1 hki
          rw [setAll_at is Rs' L hn (by omega) hbd j k hj] at hk
          have hjl := lt_of_get hk
          have e1 : (fun b => (k < L.length ∧ k ∉ is ∧ S k b) ∨ (∃ j, is[j]? = some k ∧ S' j b) ∨ (L.length ≤ k ∧ S' (k - L.length + Rs.length) b)) = S' j := by
            funext b; apply propext; constructor
            · rintro (⟨_, h, _⟩ | ⟨j2, h1, h2⟩ | ⟨h, _⟩)
              · exact absurd hki h
              · rw [idx_nodup hn hj h1]; exact h2
              · omega
            · exact fun h => .inr (.inl ⟨j, hj, h⟩)
          exact (congrArg (Q.holds w') e1).mpr (f' j Q (by rw [List.getElem?_append_left hjl]; exact hk))
        · rw [setAll_not is Rs' L k hki] at hk
          have e1 : (fun b => (k < L.length ∧ k ∉ is ∧ S k b) ∨ (∃ j, is[j]? = some k ∧ S' j b) ∨ (L.length ≤ k ∧ S' (k - L.length + Rs.length) b)) = S k := by
            funext b; apply propext; constructor
            · rintro (⟨_, _, h⟩ | ⟨j2, h1, h2⟩ | ⟨h, _⟩)
              · exact h
              · exact absurd (List.mem_of_getElem? h1) hki
              · omega
            · exact fun h => .inl ⟨hkl, hki, h⟩
          refine (congrArg (Q.holds w') e1).mpr ?_
          refine Q.loc w w' _ (fun b hb => e' b (g k b hb) (fun ⟨i, h1, h2⟩ => hki (by rw [i' k i b hb h2]; exact h1))) (f k Q hk)
      · rw [if_neg hkl] at hk
        have e1 : (fun b => (k < L.length ∧ k ∉ is ∧ S k b) ∨ (∃ j, is[j]? = some k ∧ S' j b) ∨ (L.length ≤ k ∧ S' (k - L.length + Rs.length) b)) = S' (k - L.length + Rs.length) := by
          funext b; apply propext; constructor
          · rintro (⟨h, _⟩ | ⟨j2, h1, h2⟩ | ⟨_, h⟩)
            · omega
            · exact absurd (hbd k (List.mem_of_getElem? h1)) hkl
            · exact h
          · exact fun h => .inr (.inr ⟨by omega, h⟩)
        refine (congrArg (Q.holds w') e1).mpr ?_
        refine f' _ Q ?_
        rw [List.getElem?_append_right (by omega), ← hk]
        congr 1; omega
    · rintro k b (⟨_, _, h⟩ | ⟨j, _, h⟩ | ⟨_, h⟩)
      · have := g k b h; omega
      · exact g' _ b h
      · exact g' _ b h
    · have hbd : ∀ (j k : Nat), is[j]? = some k → k < L.length := fun j k h => by
        obtain ⟨R, _, h2⟩ := hget j k h
        exact lt_of_get h2
      have hjl : ∀ (j k : Nat), is[j]? = some k → j < Rs.length := fun j k h => by have := lt_of_get h; omega
      have hno : ∀ k b j, k ∉ is → S k b → S' j b → False := fun k b j h1 h2 h3 => by
        obtain ⟨i, hi1, h4⟩ := hsub j b h3 (g k b h2)
        exact h1 (by rw [i' k i b h2 h4]; exact hi1)
      rintro k k' b (⟨h1, h2, h3⟩ | ⟨j, h1, h2⟩ | ⟨h1, h2⟩) (⟨h4, h5, h6⟩ | ⟨j2, h4, h5⟩ | ⟨h4, h5⟩)
      · exact i' k k' b h3 h6
      · exact (hno k b _ h2 h3 h5).elim
      · exact (hno k b _ h2 h3 h5).elim
      · exact (hno k' b _ h5 h6 h2).elim
      · have := i'' j j2 b h2 h5; subst this; rw [h1] at h4; cases h4; rfl
      · have := i'' _ _ b h2 h5; have := hjl _ _ h1; omega
      · exact (hno k' b _ h5 h6 h2).elim
      · have := i'' _ _ b h2 h5; have := hjl _ _ h4; omega
      · have := i'' _ _ b h2 h5; omega
    · rintro k b (⟨_, _, h⟩ | ⟨j, _, h⟩ | ⟨_, h⟩) hb
      · exact j' k b h hb
      · obtain ⟨i, _, h2⟩ := hsub _ b h (by omega)
        exact j' i b h2 hb
      · obtain ⟨i, _, h2⟩ := hsub _ b h (by omega)
        exact j' i b h2 hb
section
variable {P : Program} {ty : TypeId} {e : Operand → Value} {w : World} {K : Value → World → Prop} {w0 : World} {M : Nat → Prop} {L : List Res}
theorem L_callS {α : Type} {f : FuncId} {xs : List Operand} {vs : List Value} {ats : Array TypeId} {V : α → Value} {Rs : List Res} {Rs' : α → List Res} {Lo : α → List Res} {F : α → World → Prop} (hf : En P f) (hef : e (.func f) = .func (.func f) #[] #[]) (hv : xs.map e = vs)
    (hs : Own w0 M w L) (is : List Nat) (hn : is.Nodup) (hi : is.map (fun i => L[i]?) = Rs.map some) (hl : ∀ x, (Rs' x).length = Rs.length)
    (hc : ∀ S, (star Rs).holds w S → (∀ b, S b → b < w.heap.size) → Calls P f vs.toArray w fun r w' => ∃ x, r = .returned (V x) ∧ Own w S w' (Rs' x ++ Lo x) ∧ F x w') (h : ∀ x w', Own w0 M w' (setAll L is (Rs' x) ++ Lo x) → F x w' → K (V x) w') :
    opW P (.call { callee := .value (.func f), args := xs.toArray, argTypes := ats }) ty e w K := by
  have hlen : is.length = Rs.length := by have := congrArg List.length hi; simpa using this
  obtain ⟨S, hR, hlt, hback⟩ := hs.lendS is Rs hn (fun j i hji => by
    have h1 := congrArg (·[j]?) hi
    have hj : j < Rs.length := by have := lt_of_get hji; omega
    simp only [List.getElem?_map, hji, Option.map_some, List.getElem?_eq_getElem hj, Option.some.injEq] at h1
    rw [h1]; simp [hj]) hlen
  exact L_callN hf hef (by rw [List.map_toArray, hv]) ((hc S hR hlt).mono fun r w' ⟨x, hr, ho, hF⟩ => ⟨V x, hr, h x w' (hback w' _ _ (hl x) ho) hF⟩)
end
theorem Own.focus {w0 w : World} {M : Nat → Prop} {L Ts : List Res} (h : Own w0 M w L) (k i : Nat) {R : Res} (hk : L[k]? = some (star Ts)) (hi : Ts[i]? = some R) : Own w0 M w (L.set k (star (Ts.set i emp)) ++ [R]) := by
  obtain ⟨a, b, c, d, e, S, f, g, i', j⟩ := h
  obtain ⟨T, t1, t2, t3⟩ := f k _ hk
  have hkl := lt_of_get hk
  have hil := lt_of_get hi
  refine ⟨a, b, c, d, e, fun m x => (m < L.length ∧ m ≠ k ∧ S m x) ∨ (m = k ∧ S k x ∧ ¬ T i x) ∨ (m = L.length ∧ T i x), ?_, ?_, ?_, ?_⟩
  · intro m Q hm
    rw [List.getElem?_append, List.length_set] at hm
    by_cases hml : m < L.length
    · rw [if_pos hml, List.getElem?_set] at hm
      by_cases hmk : k = m
      · subst hmk
        simp [hkl] at hm
        subst hm
        have e1 : (fun x => (k < L.length ∧ k ≠ k ∧ S k x) ∨ (k = k ∧ S k x ∧ ¬ T i x) ∨ (k = L.length ∧ T i x)) = fun x => S k x ∧ ¬ T i x := by
          funext x; simp; intro h; omega
        refine (congrArg ((star (Ts.set i emp)).holds w) e1).mpr ?_
        refine ⟨fun m x => m ≠ i ∧ T m x, fun m Q hm => ?_, fun m m' x h h' => t2 m m' x h.2 h'.2, fun x => ?_⟩
        · rw [List.getElem?_set] at hm
          by_cases hmi : i = m
          · subst hmi; simp [hil] at hm; subst hm; trivial
          · rw [if_neg hmi] at hm
            have e2 : (fun x => m ≠ i ∧ T m x) = T m := by funext x; simp [show ¬ m = i from fun e => hmi e.symm]
            show Q.holds w (fun x => m ≠ i ∧ T m x)
            rw [e2]; exact t1 m Q hm
        · constructor
          · rintro ⟨h1, h2⟩
            obtain ⟨m, hm1, hm2⟩ := (t3 x).1 h1
            exact ⟨m, by simpa using hm1, fun e => h2 (e ▸ hm2), hm2⟩
          · rintro ⟨m, hm1, hm2, hm3⟩
            exact ⟨(t3 x).2 ⟨m, by simpa using hm1, hm3⟩, fun h => hm2 (t2 m i x hm3 h)⟩
      · rw [if_neg hmk] at hm
        have e1 : (fun x => (m < L.length ∧ m ≠ k ∧ S m x) ∨ (m = k ∧ S k x ∧ ¬ T i x) ∨ (m = L.length ∧ T i x)) = S m := by
          funext x; apply propext; constructor
          · rintro (⟨_, _, h⟩ | ⟨h, _⟩ | ⟨h, _⟩)
            · exact h
            · exact absurd h.symm hmk
            · omega
          · exact fun h => .inl ⟨hml, fun e => hmk e.symm, h⟩
        exact (congrArg (Q.holds w) e1).mpr (f m Q hm)
    · rw [if_neg hml] at hm
      have : m = L.length := by
        rcases Nat.lt_or_ge (m - L.length) 1 with h | h
        · omega
        · rw [List.getElem?_eq_none (by simpa using h)] at hm; cases hm
      subst this
      simp at hm; subst hm
      have e1 : (fun x => (L.length < L.length ∧ L.length ≠ k ∧ S L.length x) ∨ (L.length = k ∧ S k x ∧ ¬ T i x) ∨ (L.length = L.length ∧ T i x)) = T i := by
        funext x; simp; intro h; omega
      exact (congrArg (R.holds w) e1).mpr (t1 i R hi)
  · rintro m x (⟨_, _, h⟩ | ⟨_, h, _⟩ | ⟨_, h⟩)
    · exact g m x h
    · exact g k x h
    · exact g k x ((t3 x).2 ⟨i, hil, h⟩)
  · rintro m m' x (⟨h1, h2, h3⟩ | ⟨h1, h2, h3⟩ | ⟨h1, h2⟩) (⟨h4, h5, h6⟩ | ⟨h4, h5, h6⟩ | ⟨h4, h5⟩)
    · exact i' m m' x h3 h6
    · exact absurd (i' m k x h3 h5) h2
    · exact absurd (i' m k x h3 ((t3 x).2 ⟨i, hil, h5⟩)) h2
    · exact absurd (i' m' k x h6 h2) h5
    · omega
    · exact absurd h5 h3
    · exact absurd (i' m' k x h6 ((t3 x).2 ⟨i, hil, h2⟩)) h5
    · exact absurd h2 h6
    · omega
  · rintro m x (⟨_, _, h⟩ | ⟨_, h, _⟩ | ⟨_, h⟩) hb
    · exact j m x h hb
    · exact j k x h hb
    · exact j k x ((t3 x).2 ⟨i, hil, h⟩) hb
theorem Own.unfocus {w0 w : World} {M : Nat → Prop} {L Ts : List Res} (h : Own w0 M w L) (k m i : Nat) (hkm : k ≠ m) {R : Res} (hk : L[k]? = some (star (Ts.set i emp))) (hi : i < Ts.length) (hm : L[m]? = some R) : Own w0 M w ((L.set m emp).set k (star (Ts.set i R))) := by
  obtain ⟨a, b, c, d, e, S, f, g, i', j⟩ := h
  obtain ⟨T, t1, t2, t3⟩ := f k _ hk
  have hkl := lt_of_get hk
  have hml := lt_of_get hm
  refine ⟨a, b, c, d, e, fun n x => (n ≠ k ∧ n ≠ m ∧ S n x) ∨ (n = k ∧ ((S k x ∧ ¬ T i x) ∨ S m x)), ?_, ?_, ?_, ?_⟩
  · intro n Q hn
    rw [List.getElem?_set, List.length_set] at hn
    by_cases hnk : k = n
    · subst hnk
      simp [hkl] at hn
      subst hn
      have e1 : (fun x => (k ≠ k ∧ k ≠ m ∧ S k x) ∨ (k = k ∧ ((S k x ∧ ¬ T i x) ∨ S m x))) = fun x => (S k x ∧ ¬ T i x) ∨ S m x := by funext x; simp
      refine (congrArg ((star (Ts.set i R)).holds w) e1).mpr ?_
      refine ⟨fun n x => if n = i then S m x else T n x ∧ n < Ts.length, fun n Q hn => ?_, fun n n' x h h' => ?_, fun x => ?_⟩
      · rw [List.getElem?_set] at hn
        by_cases hni : i = n
        · subst hni
          simp [hi] at hn; subst hn
          simp only [if_true]; exact f m _ hm
        · rw [if_neg hni] at hn
          have hnl := lt_of_get hn
          have e2 : (fun x => if n = i then S m x else T n x ∧ n < Ts.length) = T n := by funext x; simp [show ¬ n = i from fun e => hni e.symm, hnl]
          refine (congrArg (Q.holds w) e2).mpr ?_
          exact t1 n Q (by rw [List.getElem?_set_ne hni]; exact hn)
      · have hd : ∀ n, n < Ts.length → T n x → S m x → False := fun n h1 h2 h3 => hkm (i' k m x ((t3 x).2 ⟨n, by simpa using h1, h2⟩) h3)
        by_cases q : n = i <;> by_cases q' : n' = i <;> simp only [q, q', if_true, if_false] at h h'
        · omega
        · exact (hd n' h'.2 h'.1 h).elim
        · exact (hd n h.2 h.1 h').elim
        · exact t2 n n' x h.1 h'.1
      · constructor
        · rintro (⟨h, h0⟩ | h)
          · obtain ⟨n, h1, h2⟩ := (t3 x).1 h
            have q : n ≠ i := fun q => h0 (q ▸ h2)
            exact ⟨n, by simpa using h1, by simp [q, h2]; simpa using h1⟩
          · exact ⟨i, by simpa using hi, by simp [h]⟩
        · rintro ⟨n, h1, h2⟩
          by_cases q : n = i
          · simp only [q, if_true] at h2; exact .inr h2
          · simp only [q, if_false] at h2; exact .inl ⟨(t3 x).2 ⟨n, by simpa using h2.2, h2.1⟩, fun h => q (t2 n i x h2.1 h)⟩
    · rw [if_neg hnk, List.getElem?_set] at hn
      by_cases hnm : m = n
      · subst hnm
        simp [hml] at hn; subst hn; trivial
      · rw [if_neg hnm] at hn
        have e1 : (fun x => (n ≠ k ∧ n ≠ m ∧ S n x) ∨ (n = k ∧ ((S k x ∧ ¬ T i x) ∨ S m x))) = S n := by
          funext x; simp [show ¬ n = k from fun e => hnk e.symm, show ¬ n = m from fun e => hnm e.symm]
        exact (congrArg (Q.holds w) e1).mpr (f n Q hn)
  · rintro n x (⟨_, _, h⟩ | ⟨_, ⟨h, _⟩ | h⟩)
    · exact g n x h
    · exact g k x h
    · exact g m x h
  · rintro n n' x (⟨h1, h2, h3⟩ | ⟨h1, h3⟩) (⟨h4, h5, h6⟩ | ⟨h4, h6⟩)
    · exact i' n n' x h3 h6
    · rcases h6 with ⟨h, _⟩ | h
      · exact absurd (i' n k x h3 h) h1
      · exact absurd (i' n m x h3 h) h2
    · rcases h3 with ⟨h, _⟩ | h
      · exact absurd (i' n' k x h6 h) h4
      · exact absurd (i' n' m x h6 h) h5
    · omega
  · rintro n x (⟨_, _, h⟩ | ⟨_, ⟨h, _⟩ | h⟩) hb
    · exact j n x h hb
    · exact j k x h hb
    · exact j m x h hb
section
variable {P : Program} {ty : TypeId} {e : Operand → Value} {w : World} {K : Value → World → Prop} {w0 : World} {M : Nat → Prop} {L : List Res}
def frz (b : Nat) (l : List Int) (el : Nat) : Res := obj b (.cells (l.map (Value.int .u8)).toArray el (l.length, l.length + 1))
theorem flat_ic (k : IntKind) : ∀ l : List Int, (l.map (ic k)).flatten = l.map (Value.int k)
  | [] => rfl
  | x :: l => by simp only [List.map_cons, List.flatten_cons, flat_ic k l]; rfl
theorem L_convSl {s d el : TypeId} {b n : Nat} {l : List Int} (hsd : s = d) (hs' : P.underlying s = some (.slice el)) (hel : P.underlying el = some (.int .u8)) (hs : Own w0 M w L) (i : Nat) (hi : L[i]? = some (row (.slice (some ⟨b, 0, none⟩) n n) (l.map (ic .u8)) el 1)) (hn : l.length = n) {x : Operand} (hx : e x = .slice (some ⟨b, 0, none⟩) n n)
    (h : ∀ w', Own w0 M w' (L.set i (frz b l el)) → K (.slice (some ⟨b, 0, none⟩) n n) w') : opW P (.convert s d x) ty e w K := by
  subst hsd; subst hn
  obtain ⟨S, ⟨_, hown, hS⟩, _⟩ := hs.get i hi
  have hrow : w.heap[b]? = some (.cells (l.map (Value.int .u8)).toArray el (0, 0)) := by
    rcases hown.2 with ⟨hv, _⟩ | ⟨g', cap', cur, hv, _, hg, hnc, hcm, hcs, htake⟩
    · cases hv
    · simp only [Value.slice.injEq, Option.some.injEq, Addr.mk.injEq, and_true] at hv
      obtain ⟨rfl, hn, rfl⟩ := hv
      simp only [List.length_map] at hcs htake
      rw [flat_ic] at htake
      rw [hg]
      have : cur = (l.map (Value.int .u8)).toArray := by
        apply Array.ext'
        rw [← htake]
        rw [List.take_of_length_le (by simp; omega)]
      rw [this]
  have hlt := (Array.getElem?_eq_some_iff.1 hrow).1
  have hsh : w.shape? b = some (el, l.length) := by unfold World.shape?; rw [hrow]; simp
  have hfr : w.freeze ⟨b, l.length, none⟩ 1 = ChangeMaps.setBlock w b (.cells (l.map (Value.int .u8)).toArray el (l.length, l.length + 1)) := by
    unfold World.freeze
    rw [if_neg (by decide)]
    unfold ChangeMaps.setBlock
    congr 1
    apply Array.ext_getElem?
    intro j
    rw [Array.getElem?_modify]
    by_cases q : b = j
    · subst q; rw [if_pos rfl, hrow]; simp [hlt]
    · rw [if_neg q, Array.getElem?_setIfInBounds_ne q]
  refine opW_val (w' := ChangeMaps.setBlock w b (.cells (l.map (Value.int .u8)).toArray el (l.length, l.length + 1))) ?_ (h _ ?_)
  · have : (convert s s (.slice (some ⟨b, 0, none⟩) l.length l.length)).run P w = .ok (.slice (some ⟨b, 0, none⟩) l.length l.length) (ChangeMaps.setBlock w b (.cells (l.map (Value.int .u8)).toArray el (l.length, l.length + 1))) := by
      simp [convert, run_underlying hs', run_underlying hel, markStringish, hsh]
      exact hfr
    simp only [execOp, hx, Sem.run_bind, this, Result.andThen_ok, Sem.run_pure]
  · exact hs.change i (b := b) (R' := frz b l el) hi (setBlock_size _ _ _) rfl rfl rfl (fun c hc => setBlock_ne _ _ _ _ hc) fun S ⟨_, _, hS⟩ => ⟨hS b rfl, hS b rfl, setBlock_at hrow _⟩
theorem Rd.frz {b : Nat} {l : List Int} {el : Nat} (h : w.heap[b]? = some (.cells (l.map (Value.int .u8)).toArray el (l.length, l.length + 1))) (hn : l.length ≤ 1000000) : Rd w (.slice (some ⟨b, 0, none⟩) l.length l.length) 1 (l.map (ic .u8)) := by
  refine ⟨by simp [ic], by simp; omega, .inr ⟨b, 0, l.length, by simp⟩, fun i j m u hi hj => ?_, by simp [cOf]⟩
  simp only [List.getElem?_map] at hi
  cases hl : l[i]? with
  | none => rw [hl] at hi; cases hi
  | some x =>
    rw [hl] at hi
    simp only [Option.map_some, Option.some.injEq] at hi
    subst hi
    have hj0 : j = 0 := by have := lt_of_get hj; simp [ic] at this; omega
    subst hj0
    simp [ic] at hj; subst hj
    show w.cell? ⟨b, 0 + i * 1 + 0, none⟩ = _
    have : w.cell? ⟨b, i, none⟩ = (l.map (Value.int .u8)).toArray[i]? := by
      unfold World.cell?; simp only [h]; simp
    simp only [Nat.zero_add, Nat.mul_one, Nat.add_zero]
    rw [this]; simp [hl]
theorem L_entryV {x : Operand} {es : Array MapEntry} {clock it r : Nat} {seen : Array Nat} {a : MapEntry} {V : Value} (hr : w.heap[r]? = some (.map es clock)) (hinc : es.toList.Pairwise (fun a b => a.born < b.born)) (ha : a ∈ es.toList) (hV : a.val = V) (hs : Own w0 M w L) (i : Nat) (hi : L[i]? = some (iterR it r clock (seen.push a.born))) (hx : e x = .pointer (some ⟨it, 0, none⟩))
    (h : K (.tuple #[a.key, V]) w) : opW P (.entry x) ty e w K := by
  subst hV
  exact L_entry hr hinc ha hs i hi hx h
end
theorem ents_kv {κ ν : Type} {ke : κ → Value} {ve : ν → Value} {l : List (κ × ν)} {es : Array MapEntry} {clock : Nat} (h : Ents ke ve l es clock) {a : MapEntry} (ha : a ∈ es.toList) : ∃ x ∈ l, a.key = ke x.1 ∧ a.val = ve x.2 := by
  have : (a.key, a.val) ∈ es.toList.map (fun e => (e.key, e.val)) := List.mem_map.2 ⟨a, ha, rfl⟩
  rw [h.kv] at this
  obtain ⟨x, hx, he⟩ := List.mem_map.1 this
  simp only [Prod.mk.injEq] at he
  exact ⟨x, hx, he.1.symm, he.2.symm⟩
theorem mapR_of_alloc {κ ν : Type} {ke : κ → Value} {ve : ν → Value} {l : List (κ × ν)} {w : World} {r : Nat} (h : MapF w r ke ve l) {P : Program} {f : Nat} {args : Array Value}
    (hc : ∀ es clock, w.heap[r]? = some (.map es clock) → Calls P f args w fun e w' => e = .returned (.map (some w.heap.size)) ∧ w' = w.alloc (.map es clock)) :
    Calls P f args w fun e w' => ∃ x : Nat, e = .returned (.map (some x)) ∧ Own w no w' [mapR x ke ve l] ∧ True := by
  obtain ⟨es, clock, h1, h2⟩ := h
  refine (hc es clock h1).mono fun e w' ⟨he, hw⟩ => ⟨w.heap.size, he, ?_, trivial⟩
  subst hw
  have := (Own.start w).new (.map es clock) (mapR w.heap.size ke ve l) ⟨rfl, es, clock, _root_.Go.heap_alloc_new w _, h2⟩
  simpa using this
theorem Own.starNil {w0 w : World} {M : Nat → Prop} {L : List Res} (h : Own w0 M w L) : Own w0 M w (L ++ [star []]) :=
  h.more (star []) ⟨fun _ _ => False, by simp, by simp, by simp⟩
end Go.Vx
namespace Go.Vx
open Go.RowKit
abbrev Pt := Option Addr
abbrev pt (p : Nat) : Pt := some ⟨p, 0, none⟩
structure Thg where
  p : Nat
  bs : List Int
  sf : Nat
structure Chg where
  to : Str
  fr : Str
  t : Pt
structure Dk where
  room : Int
  ts : List Thg
  nm : List (Str × Pt)
  sf : List (Str × Pt)
  ch : List Chg
instance : Inhabited Thg := ⟨⟨0, [], 0⟩⟩
instance : Inhabited Chg := ⟨⟨[], [], none⟩⟩
def chc (c : Chg) : List Value := [sv c.to, sv c.fr, .pointer c.t]
theorem chc_one (c : Chg) : ∀ v ∈ chc c, v.oneCell' = true := by intro v hv; simp [chc] at hv; rcases hv with h | h | h <;> subst h <;> rfl
def pts (ts : List Thg) : List Pt := ts.map fun t => pt t.p
theorem pts_len (ts : List Thg) : (pts ts).length = ts.length := by simp [pts]
def mayB (n : Str) : Bool := decide (1 ≤ n.length) && decide (n.length ≤ 32)
def doC (l : List (Str × Pt)) (c : Chg) : List (Str × Pt) :=
  let l1 := if c.fr = [] then l else mdel c.fr l
  match c.t with
  | none => mdel c.to l1
  | some a => mput c.to (some a) l1
def doAll (l : List (Str × Pt)) (cs : List Chg) : List (Str × Pt) := cs.foldl doC l
def lenAt (ts : List Thg) (a : Pt) : Nat := ((ts.find? fun t => decide (pt t.p = a)).map (·.bs.length)).getD 0
def usedL (ts : List Thg) (nm : List (Str × Pt)) : Nat := (nm.map fun x => lenAt ts x.2).sum
def chgD (m : Dk) (c : Chg) : Dk := { m with nm := doC m.nm c, ch := m.ch ++ [c] }
section
variable (TD TT U8 TP TC : Nat)
def thP (t : Thg) (a : Option Addr) (c : Nat) : List Res := [blk t.p [.slice a t.bs.length c, .int .i64 ((t.sf : Nat) : Int)] TT, row (.slice a t.bs.length c) (t.bs.map (ic .u8)) U8 1]
def thR (t : Thg) : Res := exR fun x : Option Addr × Nat => star (thP TT U8 t x.1 x.2)
def dcl (room : Int) (a : Option Addr) (n c r1 r2 : Nat) (a2 : Option Addr) (n2 c2 : Nat) : List Value := [.int .i64 room, .slice a n c, .map (some r1), .map (some r2), .slice a2 n2 c2, .bool false, .int .i64 0]
def dkP (b : Nat) (m : Dk) (a : Option Addr) (c r1 r2 : Nat) (a2 : Option Addr) (c2 : Nat) : List Res :=
  [blk b (dcl m.room a m.ts.length c r1 r2 a2 m.ch.length c2) TD, row (.slice a m.ts.length c) ((pts m.ts).map po) TP 1, mapR r1 sv Value.pointer m.nm, mapR r2 sv Value.pointer m.sf, row (.slice a2 m.ch.length c2) (m.ch.map chc) TC 3, star (m.ts.map (thR TT U8))]
structure DkA where
  a : Option Addr
  c : Nat
  r1 : Nat
  r2 : Nat
  a2 : Option Addr
  c2 : Nat
def dkR (b : Nat) (m : Dk) : Res := exR fun x : DkA => star (dkP TD TT U8 TP TC b m x.a x.c x.r1 x.r2 x.a2 x.c2)
end
section
variable {TD TT U8 TP TC : Nat} {w w0 : World} {M : Nat → Prop} {L : List Res}
theorem dk_open {b : Nat} {m : Dk} {S : Nat → Prop} (h : (dkR TD TT U8 TP TC b m).holds w S) (hlt : ∀ b, S b → b < w.heap.size) : ∃ a c r1 r2 a2 c2, Own w S w (dkP TD TT U8 TP TC b m a c r1 r2 a2 c2) := by
  obtain ⟨x, hx⟩ := h
  exact ⟨x.a, x.c, x.r1, x.r2, x.a2, x.c2, Own.open hx hlt⟩
theorem dk_shut {b : Nat} {m : Dk} {a : Option Addr} {c r1 r2 : Nat} {a2 : Option Addr} {c2 : Nat} (h : Own w0 M w (dkP TD TT U8 TP TC b m a c r1 r2 a2 c2)) : Own w0 M w [dkR TD TT U8 TP TC b m] :=
  Own.pack (f := fun x : DkA => star (dkP TD TT U8 TP TC b m x.a x.c x.r1 x.r2 x.a2 x.c2)) ⟨a, c, r1, r2, a2, c2⟩ h.shut
theorem th_out (h : Own w0 M w L) (k i : Nat) {ts : List Thg} {t : Thg} (hk : L[k]? = some (star (ts.map (thR TT U8)))) (hi : ts[i]? = some t) :
    ∃ a c, Own w0 M w (L.set k (star ((ts.map (thR TT U8)).set i emp)) ++ thP TT U8 t a c) := by
  have h1 := h.focus k i hk (R := thR TT U8 t) (by rw [List.getElem?_map, hi]; rfl)
  obtain ⟨x, h2⟩ := h1.unpack L.length (f := fun x : Option Addr × Nat => star (thP TT U8 t x.1 x.2)) (by rw [List.getElem?_append_right (by simp)]; simp; rfl)
  have h3 := h2.split L.length (R := blk t.p [.slice x.1 t.bs.length x.2, .int .i64 ((t.sf : Nat) : Int)] TT) (Rs := [row (.slice x.1 t.bs.length x.2) (t.bs.map (ic .u8)) U8 1]) (by rw [List.getElem?_set_self (by simp)]; rfl)
  refine ⟨x.1, x.2, ?_⟩
  have e : ∀ (A : List Res) (B C : Res) (D : List Res), A.length = L.length → ((A ++ [B]).set L.length C ++ D) = A ++ (C :: D) := by
    intro A B C D hl
    rw [← hl, List.set_append_right _ _ (Nat.le_refl _)]
    simp
  rw [List.set_set, e _ _ _ _ (by simp)] at h3
  exact h3
theorem th_in (h : Own w0 M w L) (k n n' i : Nat) (hkn : k ≠ n) (hkn' : k ≠ n') (hnn : n ≠ n') {ts : List Thg} {t : Thg} {a : Option Addr} {c : Nat} (hk : L[k]? = some (star ((ts.map (thR TT U8)).set i emp))) (hi : i < ts.length)
    (hn : L[n]? = some (blk t.p [.slice a t.bs.length c, .int .i64 ((t.sf : Nat) : Int)] TT)) (hn' : L[n']? = some (row (.slice a t.bs.length c) (t.bs.map (ic .u8)) U8 1)) :
    Own w0 M w (((L.set n' emp).set n emp).set k (star ((ts.set i t).map (thR TT U8)))) := by
  have h1 := h.join n n' hnn hn hn'
  have hnl := lt_of_get hn
  have h2 := h1.conv n (R' := thR TT U8 t) (by rw [List.getElem?_set_self (by simpa using hnl)]; rfl) fun S hS => ⟨(a, c), hS⟩
  have h3 := h2.unfocus k n i hkn (R := thR TT U8 t) (by rw [List.getElem?_set_ne hkn.symm, List.getElem?_set_ne hkn.symm, List.getElem?_set_ne hkn'.symm]; exact hk) (by simpa using hi) (by rw [List.getElem?_set_self (by simpa using hnl)])
  rw [List.set_set, List.set_set, ← List.map_set] at h3
  exact h3
theorem th_new (h : Own w0 M w L) (k n n' : Nat) (hkn : k ≠ n) (hkn' : k ≠ n') (hnn : n ≠ n') {ts : List Thg} {t : Thg} {a : Option Addr} {c : Nat} (hk : L[k]? = some (star (ts.map (thR TT U8))))
    (hn : L[n]? = some (blk t.p [.slice a t.bs.length c, .int .i64 ((t.sf : Nat) : Int)] TT)) (hn' : L[n']? = some (row (.slice a t.bs.length c) (t.bs.map (ic .u8)) U8 1)) :
    Own w0 M w (((L.set n' emp).set n emp).set k (star ((ts ++ [t]).map (thR TT U8)))) := by
  have hkl := lt_of_get hk
  have h0 := h.conv k (R' := star (((ts ++ [t]).map (thR TT U8)).set ts.length emp)) hk fun S ⟨T, t1, t2, t3⟩ => by
    refine ⟨fun j x => j < ts.length ∧ T j x, fun j Q hj => ?_, fun j j' x h h' => t2 j j' x h.2 h'.2, fun x => ?_⟩
    · rw [List.getElem?_set] at hj
      by_cases q : ts.length = j
      · subst q; simp at hj; subst hj; trivial
      · rw [if_neg q] at hj
        have hjl := lt_of_get hj
        simp at hjl
        have hjl' : j < ts.length := by omega
        have e : (fun x => j < ts.length ∧ T j x) = T j := by funext x; simp [hjl']
        refine (congrArg (Q.holds w) e).mpr (t1 j Q ?_)
        rw [List.map_append, List.getElem?_append_left (by simpa using hjl')] at hj
        exact hj
    · rw [t3 x]
      constructor
      · rintro ⟨j, h1, h2⟩
        have : j < ts.length := by simpa using h1
        exact ⟨j, by simp; omega, this, h2⟩
      · rintro ⟨j, _, h1, h2⟩; exact ⟨j, by simpa using h1, h2⟩
  have h1 := th_in h0 k n n' ts.length hkn hkn' hnn (t := t) (ts := ts ++ [t]) (by rw [List.getElem?_set_self hkl]) (by simp) (by rw [List.getElem?_set_ne hkn]; exact hn) (by rw [List.getElem?_set_ne hkn']; exact hn')
  have e1 : (ts ++ [t]).set ts.length t = ts ++ [t] := by rw [List.set_append_right _ _ (Nat.le_refl _)]; simp
  rw [e1] at h1
  have e2 : ((((L.set k (star (((ts ++ [t]).map (thR TT U8)).set ts.length emp))).set n' emp).set n emp).set k (star ((ts ++ [t]).map (thR TT U8)))) = (((L.set n' emp).set n emp).set k (star ((ts ++ [t]).map (thR TT U8)))) := by
    apply List.ext_getElem?
    intro j
    simp only [List.getElem?_set, List.length_set]
    repeat' split <;> simp_all
  rw [e2] at h1
  exact h1
theorem th_apart {w : World} {S : Nat → Prop} : ∀ {ts : List Thg}, (star (ts.map (thR TT U8))).holds w S → (ts.map (·.p)).Nodup ∧ ∀ t ∈ ts, S t.p := by
  intro ts ⟨T, t1, t2, t3⟩
  have h1 : ∀ (i : Nat) t, ts[i]? = some t → T i t.p := by
    intro i t hi
    obtain ⟨x, T2, u1, u2, u3⟩ := t1 i (thR TT U8 t) (by rw [List.getElem?_map, hi]; rfl)
    have := (u1 0 _ rfl).1
    exact (u3 _).2 ⟨0, by simp [thP], this⟩
  refine ⟨?_, fun t ht => ?_⟩
  · unfold List.Nodup
    rw [List.pairwise_iff_getElem]
    intro i j hi hj hij he
    simp only [List.length_map] at hj
    simp only [List.getElem_map] at he
    have a1 := h1 i _ (List.getElem?_eq_getElem (Nat.lt_trans hij hj))
    have a2 := h1 j _ (List.getElem?_eq_getElem hj)
    rw [he] at a1
    have := t2 i j _ a1 a2
    omega
  · obtain ⟨i, hi⟩ := List.mem_iff_getElem?.1 ht
    exact (t3 _).2 ⟨i, by have := lt_of_get hi; simpa using this, h1 i t hi⟩
theorem Own.things (h : Own w0 M w L) (k : Nat) {ts : List Thg} (hk : L[k]? = some (star (ts.map (thR TT U8)))) : (ts.map (·.p)).Nodup := by
  obtain ⟨S, hS, _⟩ := h.get k hk
  exact (th_apart hS).1
theorem Own.newth (h : Own w0 M w L) (k n : Nat) (hkn : k ≠ n) {ts : List Thg} (hk : L[k]? = some (star (ts.map (thR TT U8)))) {b : Nat} {cs : List Value} {T : TypeId} (hn : L[n]? = some (blk b cs T)) : ∀ t ∈ ts, t.p ≠ b := by
  obtain ⟨a, b', c, d, e, S, f, g, i', j⟩ := h
  intro t ht he
  have h1 := (th_apart (f k _ hk)).2 t ht
  have h2 := (f n _ hn).1
  rw [he] at h1
  exact hkn (i' k n _ h1 h2)
def ThF (w : World) (ts : List Thg) : Prop := ∀ t ∈ ts, ∃ a c, CellsF w t.p [.slice a t.bs.length c, .int .i64 ((t.sf : Nat) : Int)] ∧ Rd w (.slice a t.bs.length c) 1 (t.bs.map (ic .u8))
theorem Own.thf (h : Own w0 M w L) (k : Nat) {ts : List Thg} (hk : L[k]? = some (star (ts.map (thR TT U8)))) : ThF w ts := by
  intro t ht
  obtain ⟨i, hi⟩ := List.mem_iff_getElem?.1 ht
  obtain ⟨a, c, h1⟩ := th_out h k i hk hi
  refine ⟨a, c, h1.cellsf L.length (T := TT) (by rw [List.getElem?_append_right (by simp)]; simp; rfl), h1.rd (L.length + 1) (e := U8) (by rw [List.getElem?_append_right (by simp)]; simp; rfl)⟩
theorem ThF.own' {ts : List Thg} (h : ThF w0 ts) (hs : Own w0 no w L) : ThF w ts := fun t ht => by
  obtain ⟨a, c, h1, h2⟩ := h t ht
  exact ⟨a, c, h1.own' hs, h2.own' hs⟩
end
end Go.Vx
namespace Go.Vx
open Go.RowKit
def lenV (ts : List Thg) : Value → Nat
  | .pointer a => lenAt ts a
  | _ => 0
def Names (ts : List Thg) (l : List (Str × Pt)) : Prop := ∀ x ∈ l, ∃ t ∈ ts, x.2 = pt t.p
theorem lenAt_of {ts : List Thg} (hn : (ts.map (·.p)).Nodup) {t : Thg} (ht : t ∈ ts) : lenAt ts (pt t.p) = t.bs.length := by
  induction ts with
  | nil => cases ht
  | cons u ts ih =>
    simp only [List.map_cons, List.nodup_cons] at hn
    unfold lenAt
    rw [List.find?_cons]
    rcases List.mem_cons.1 ht with e | e
    · subst e; simp
    · have : ¬ pt u.p = pt t.p := by
        intro h
        simp at h
        exact hn.1 (h ▸ List.mem_map.2 ⟨t, e, rfl⟩)
      simp only [this, decide_false]
      exact ih hn.2 e
theorem used_start {ts : List Thg} {l : List (Str × Pt)} {es : Array MapEntry} {clock : Nat} (hE : Ents sv Value.pointer l es clock) : 0 + ((left es #[]).map fun e => lenV ts e.val).sum = usedL ts l := by
  unfold usedL
  rw [left_none, Nat.zero_add]
  have := congrArg (List.map fun (p : Value × Value) => lenV ts p.2) hE.kv
  simp only [List.map_map, Function.comp_def] at this
  rw [this]; rfl
theorem used_step {ts : List Thg} {es : Array MapEntry} (hinc : es.toList.Pairwise (fun a b => a.born < b.born)) {seen : Array Nat} {a : MapEntry} (ha : a ∈ left es seen) {n U k : Nat} (h : n + ((left es seen).map fun e => lenV ts e.val).sum = U) (hk : lenV ts a.val = k) :
    n + k + ((left es (seen.push a.born)).map fun e => lenV ts e.val).sum = U ∧ (left es (seen.push a.born)).length < (left es seen).length := by
  have h1 := left_push hinc ha
  have h2 := (h1.map fun e => lenV ts e.val).sum_nat
  have h3 := h1.length_eq
  simp only [List.map_cons, List.sum_cons, List.length_cons] at h2 h3
  omega
end Go.Vx
namespace Go.Vx
open Go.RowKit
theorem pts_set {ts : List Thg} {i : Nat} {t t' : Thg} (hi : ts[i]? = some t) (hp : t'.p = t.p) : pts (ts.set i t') = pts ts := by
  unfold pts
  rw [List.map_set, hp]
  apply List.ext_getElem?
  intro j
  rw [List.getElem?_set]
  by_cases q : i = j
  · subst q; have := lt_of_get hi; simp [this, List.getElem?_eq_getElem this] at hi ⊢; rw [hi]
  · rw [if_neg q]
def CloneC (P : Program) (f : Nat) : Prop := ∀ (w : World) (r : Nat) (l : List (Str × Pt)), MapF w r sv Value.pointer l → Calls P f #[.map (some r)] w fun e w' => ∃ x : Nat, e = .returned (.map (some x)) ∧ Own w no w' [mapR x sv Value.pointer l] ∧ True
theorem dk_shut' {TD TT U8 TP TC : Nat} {w w0 : World} {M : Nat → Prop} {b : Nat} {room : Int} {a : Option Addr} {n c r1 r2 : Nat} {a2 : Option Addr} {n2 c2 : Nat} {al : List Pt} {ts : List Thg} {nm sf : List (Str × Pt)} {ch : List Chg}
    (h : Own w0 M w [blk b (dcl room a n c r1 r2 a2 n2 c2) TD, row (.slice a n c) (al.map po) TP 1, mapR r1 sv Value.pointer nm, mapR r2 sv Value.pointer sf, row (.slice a2 n2 c2) (ch.map chc) TC 3, star (ts.map (thR TT U8))]) (hn : n = ts.length) (ha : al = pts ts) (hn2 : n2 = ch.length) : Own w0 M w [dkR TD TT U8 TP TC b ⟨room, ts, nm, sf, ch⟩] := by
  subst hn; subst ha; subst hn2
  exact dk_shut (m := ⟨room, ts, nm, sf, ch⟩) h
def newD (m : Dk) (s : Str) (p : Nat) (bs : List Int) : Dk := { m with ts := m.ts ++ [⟨p, bs, 0⟩], nm := doC m.nm ⟨s, [], pt p⟩, ch := m.ch ++ [⟨s, [], pt p⟩] }
end Go.Vx
namespace Go.Vx
open Go.RowKit
def cutN (cuts : List Int) (i : Nat) (t : Thg) : Nat := if cuts.length = 0 then t.sf else t.sf + (gd cuts (i % cuts.length)).toNat % (t.bs.length - t.sf + 1)
def crt (cuts : List Int) (i : Nat) (t : Thg) : Thg := { t with bs := t.bs.take (cutN cuts i t), sf := cutN cuts i t }
def crT (cuts : List Int) (ts : List Thg) (i : Nat) : List Thg := ts.mapIdx fun j t => if j < i then crt cuts j t else t
theorem crT_len (cuts : List Int) (ts : List Thg) (i : Nat) : (crT cuts ts i).length = ts.length := by simp [crT]
theorem crT_zero (cuts : List Int) (ts : List Thg) : crT cuts ts 0 = ts := by
  unfold crT
  apply List.ext_getElem?
  intro j
  rw [List.getElem?_mapIdx]
  cases ts[j]? <;> simp
theorem crT_at {cuts : List Int} {ts : List Thg} {i : Nat} {t : Thg} (h : ts[i]? = some t) : (crT cuts ts i)[i]? = some t := by
  unfold crT; rw [List.getElem?_mapIdx, h]; simp
theorem crT_step {cuts : List Int} {ts : List Thg} {i : Nat} {t : Thg} (h : ts[i]? = some t) : (crT cuts ts i).set i (crt cuts i t) = crT cuts ts (i + 1) := by
  have hl := lt_of_get h
  unfold crT
  apply List.ext_getElem?
  intro j
  rw [List.getElem?_set, List.getElem?_mapIdx, List.getElem?_mapIdx, List.length_mapIdx]
  by_cases q : i = j
  · subst q; rw [h]; simp [hl]
  · rw [if_neg q]
    cases ts[j]? with
    | none => rfl
    | some u =>
      simp only [Option.map_some]
      by_cases h1 : j < i
      · simp [h1, show j < i + 1 by omega]
      · simp [h1, show ¬ j < i + 1 by omega]
theorem pts_crT (cuts : List Int) (ts : List Thg) (i : Nat) : pts (crT cuts ts i) = pts ts := by
  unfold pts crT
  apply List.ext_getElem?
  intro j
  rw [List.getElem?_map, List.getElem?_map, List.getElem?_mapIdx]
  cases ts[j]? with
  | none => rfl
  | some u => simp only [Option.map_some]; split <;> rfl
theorem pts_gd {ts : List Thg} {i : Nat} {t : Thg} (h : ts[i]? = some t) : gd (pts ts) i = pt t.p := by
  unfold gd pts
  simp [List.getD, h]
theorem doAll_step {l : List (Str × Pt)} {cs : List Chg} {j : Nat} (h : j < cs.length) : doC (doAll l (cs.take j)) (gd cs j) = doAll l (cs.take (j + 1)) := by
  unfold doAll
  rw [List.take_add_one, gd_get h]
  simp
theorem tmodZ {x : Int} {n : Nat} (h : 0 ≤ x) : x.tmod ((n : Nat) : Int) = ((x.toNat % n : Nat) : Int) := by
  obtain ⟨k, rfl⟩ := Int.eq_ofNat_of_zero_le h
  exact (Int.ofNat_tmod k n).symm
theorem tmodN (a n : Nat) : ((a : Nat) : Int).tmod ((n : Nat) : Int) = ((a % n : Nat) : Int) := tmodZ (by omega)
def crD (m : Dk) (k : Nat) (cuts : List Int) : Dk := ⟨m.room, crT cuts m.ts m.ts.length, doAll m.sf (m.ch.take k), doAll m.sf (m.ch.take k), []⟩
end Go.Vx
namespace Go.Vx
open Go.RowKit Go.ChangeShapes Go.WideShapes Go.ChangeAt
def inK (k : IntKind) (a : Int) : Prop := (Lit.int k a).wf = true
theorem inK_u8 {a : Int} (h : inK .u8 a) : 0 ≤ a ∧ a < 256 := by
  unfold inK at h
  simp [Lit.wf, IntKind.min, IntKind.max, IntKind.signed, IntKind.bits] at h
  omega
end Go.Vx
namespace Go.Proofs
open Go Go.Vx Go.RowKit
namespace Tt
theorem HM : Try.prog.follows .mixedOrders = true := by kernel_rfl
theorem S1_4 : T1 Try.prog 4 := ⟨Try.sizeOf4, Try.isAgg4⟩
theorem S1_41 : T1 Try.prog 41 := ⟨Try.sizeOf41, Try.isAgg41⟩
theorem S1_42 : T1 Try.prog 42 := ⟨Try.sizeOf42, Try.isAgg42⟩
theorem S1_52 : T1 Try.prog 52 := ⟨Try.sizeOf52, Try.isAgg52⟩
theorem S1_9 : T1 Try.prog 9 := ⟨Try.sizeOf9, Try.isAgg9⟩
theorem SA_57 : TA Try.prog 57 3 := ⟨Try.sizeOf57, Try.isAgg57⟩
set_option maxRecDepth 20000 in
theorem EL_42 : El Try.prog 42 57 3 40 := ⟨Try.underlying42, _, _, Try.type57, rfl, rfl, rfl, rfl, by decide⟩
theorem EN_25 : En Try.prog 25 := Try.call25
theorem EN_26 : En Try.prog 26 := Try.call26
theorem FA_44_2 : FA Try.prog 44 2 2 := fun b o w => by simp [Instr.fieldAt, Instr.sureAddr, fieldPlace, add_eq]
theorem FA_44_4 : FA Try.prog 44 4 4 := fun b o w => by simp [Instr.fieldAt, Instr.sureAddr, fieldPlace, add_eq]
theorem FA_44_5 : FA Try.prog 44 5 5 := fun b o w => by simp [Instr.fieldAt, Instr.sureAddr, fieldPlace, add_eq]
theorem FA_57_0 : FA Try.prog 57 0 0 := fun b o w => by simp [Instr.fieldAt, Instr.sureAddr, fieldPlace, add_eq]
theorem FA_57_1 : FA Try.prog 57 1 1 := fun b o w => by simp [Instr.fieldAt, Instr.sureAddr, fieldPlace, add_eq]
theorem FA_57_2 : FA Try.prog 57 2 2 := fun b o w => by simp [Instr.fieldAt, Instr.sureAddr, fieldPlace, add_eq]
theorem KO_9 : KeyOk Try.prog 9 sv := KeyOk_str Try.underlying9
theorem UD_28 : Ud Try.prog 28 (.pointer 44) := Try.runUnderlying28
theorem UD_41 : Ud Try.prog 41 (.map 9 52) := Try.runUnderlying41
theorem UD_52 : Ud Try.prog 52 (.pointer 60) := Try.runUnderlying52
theorem UDR_9 : Try.prog.underlying 9 = some (.string) := Try.underlying9
theorem ZV_52 : Zv Try.prog 52 (.pointer none) := Try.zeroValue52
end Tt
end Go.Proofs
namespace Go.Vx
theorem mget_put {κ ν : Type} [DecidableEq κ] {k x : κ} {v : ν} : ∀ {l : List (κ × ν)}, mget x (mput k v l) = if x = k then some v else mget x l
  | [] => by unfold mput mget; split <;> rfl
  | (a, b) :: l => by
    unfold mput
    split
    · rename_i e
      subst e
      unfold mget
      split <;> rename_i h
      · rfl
      · rfl
    · rename_i e
      unfold mget
      split
      · rename_i h; subst h; rw [if_neg (fun h => e h.symm)]
      · exact mget_put
end Go.Vx
namespace Go.Vx
theorem Rd.roomM {α : Type} {enc : α → List Value} {w : World} {a : Option Addr} {n c k : Nat} {l : List α} (h : Rd w (.slice a n c) k (l.map enc)) : l.length ≤ c := by
  have := h.room; rw [List.length_map] at this; exact this
structure UpTo (cs : List Int) (last : Int) (out : List Int) : Prop where
  inc : out.Pairwise (· < ·)
  mem : ∀ x, x ∈ out ↔ x ∈ cs ∧ x ≤ last
end Go.Vx
namespace Go.Vx
theorem snoc_ind {α : Type} {motive : List α → Prop} (h0 : motive []) (h1 : ∀ l a, motive l → motive (l ++ [a])) : ∀ l, motive l := by
  suffices key : ∀ (n : Nat) (l : List α), l.length = n → motive l from fun l => key _ l rfl
  intro n
  induction n with
  | zero => intro l hl; rw [List.eq_nil_of_length_eq_zero hl]; exact h0
  | succ n ih =>
    intro l hl
    rcases List.eq_nil_or_concat l with h | ⟨m, a, h⟩
    · subst h; simp at hl
    · rw [List.concat_eq_append] at h
      subst h
      exact h1 m a (ih m (by simpa using hl))
structure IsClosed (l : List Opn) : Prop where
  nd : (l.map (·.dot)).Nodup
  dot : ∀ o ∈ l, dotB o.dot = true
  known : ∀ o ∈ l, ∀ r : Nat, r < 16 → ∀ j : Nat, ((j + 1 : Nat) : Int) ≤ min (vat o.ctx r) 1048576 → (⟨(r : Int), ((j + 1 : Nat) : Int)⟩ : Dot) ∈ l.map (·.dot)
end Go.Vx
namespace Go.Vx
structure EqS (s t : VSt) : Prop where
  tick : s.tick = t.tick
  out : s.out = t.out
  items : ∀ n, mget n s.items = mget n t.items
theorem EqS.refl (s : VSt) : EqS s s := ⟨rfl, rfl, fun _ => rfl⟩
theorem EqS.trans {s t u : VSt} (h : EqS s t) (g : EqS t u) : EqS s u := ⟨h.tick.trans g.tick, h.out.trans g.out, fun n => (h.items n).trans (g.items n)⟩
theorem EqS.step {L : List Opn} {cart : Int} {s t : VSt} (h : EqS s t) (o : Opn) : EqS (vstep L cart s o) (vstep L cart t o) := by
  unfold vstep
  split
  · split
    · split
      · exact ⟨by rw [h.tick], rfl, h.items⟩
      · refine ⟨by rw [h.tick], h.out, fun n => ?_⟩
        show mget n (mput _ _ _) = mget n (mput _ _ _)
        rw [mget_put, mget_put, h.items, h.items]
    · exact ⟨by rw [h.tick], h.out, h.items⟩
  · exact h
end Go.Vx
namespace Go.Vx
structure Cen where
  cart : Int
  item : Int
  qty : Int
  kind : Int
  dot : Dot
  count : Int
  deriving DecidableEq
instance : Inhabited Cen := ⟨⟨0, 0, 0, 0, ⟨0, 0⟩, 0⟩⟩
structure Lst where
  cart : Int
  tick : Int
  deriving DecidableEq
instance : Inhabited Lst := ⟨⟨0, 0⟩⟩
structure Sta where
  known : Vec
  ents : List Cen
  ticks : List Lst
def CenOk (e : Cen) : Prop := (0 ≤ e.cart ∧ e.cart < 65536) ∧ (0 ≤ e.item ∧ e.item < 65536) ∧ (0 ≤ e.qty ∧ e.qty < 65536) ∧ (0 ≤ e.kind ∧ e.kind < 256) ∧ DotOk e.dot ∧ (0 ≤ e.count ∧ e.count < 18446744073709551616)
def LstOk (x : Lst) : Prop := (0 ≤ x.cart ∧ x.cart < 65536) ∧ (0 ≤ x.tick ∧ x.tick < 4294967296)
def aheadB (a b : Cen) : Bool := if a.cart = b.cart then (if a.dot.rep = b.dot.rep then decide (a.dot.seq < b.dot.seq) else decide (a.dot.rep < b.dot.rep)) else decide (a.cart < b.cart)
theorem ahead_iff (a b : Cen) : aheadB a b = true ↔ (a.cart < b.cart ∨ (a.cart = b.cart ∧ (a.dot.rep < b.dot.rep ∨ (a.dot.rep = b.dot.rep ∧ a.dot.seq < b.dot.seq)))) := by
  unfold aheadB
  split
  · split
    · rw [decide_eq_true_iff]; omega
    · rw [decide_eq_true_iff]; omega
  · rw [decide_eq_true_iff]; omega
theorem ahead_trans {a b c : Cen} (h : aheadB a b = true) (g : aheadB b c = true) : aheadB a c = true := by rw [ahead_iff] at *; omega
theorem ahead_irrefl (a : Cen) : aheadB a a = false := by
  rw [Bool.eq_false_iff, ne_eq, ahead_iff]; omega
def RisE (l : List Cen) : Prop := l.Pairwise fun a b => aheadB a b = true
theorem risE_eq {l m : List Cen} (hl : RisE l) (hm : RisE m) (h : ∀ x, x ∈ l ↔ x ∈ m) : l = m := by
  induction l generalizing m with
  | nil =>
    cases m with
    | nil => rfl
    | cons b m => exact absurd ((h b).2 (by simp)) (by simp)
  | cons a l ih =>
    cases m with
    | nil => exact absurd ((h a).1 (by simp)) (by simp)
    | cons b m =>
      rw [RisE, List.pairwise_cons] at hl hm
      have hab : a = b := by
        rcases List.mem_cons.1 ((h a).1 (by simp)) with e | e
        · exact e
        · rcases List.mem_cons.1 ((h b).2 (by simp)) with e2 | e2
          · exact e2.symm
          · have := ahead_trans (hl.1 b e2) (hm.1 a e)
            rw [ahead_irrefl] at this; cases this
      subst hab
      congr 1
      refine ih hl.2 hm.2 fun x => ?_
      have hx := h x
      simp only [List.mem_cons] at hx
      constructor
      · intro hxl
        rcases hx.1 (.inr hxl) with e | e
        · subst e; have := hl.1 x hxl; rw [ahead_irrefl] at this; cases this
        · exact e
      · intro hxm
        rcases hx.2 (.inr hxm) with e | e
        · subst e; have := hm.1 x hxm; rw [ahead_irrefl] at this; cases this
        · exact e
def RisT (l : List Lst) : Prop := l.Pairwise fun a b => a.cart < b.cart
theorem risT_eq {l m : List Lst} (hl : RisT l) (hm : RisT m) (h : ∀ x, x ∈ l ↔ x ∈ m) : l = m := by
  induction l generalizing m with
  | nil =>
    cases m with
    | nil => rfl
    | cons b m => exact absurd ((h b).2 (by simp)) (by simp)
  | cons a l ih =>
    cases m with
    | nil => exact absurd ((h a).1 (by simp)) (by simp)
    | cons b m =>
      rw [RisT, List.pairwise_cons] at hl hm
      have hab : a = b := by
        rcases List.mem_cons.1 ((h a).1 (by simp)) with e | e
        · exact e
        · rcases List.mem_cons.1 ((h b).2 (by simp)) with e2 | e2
          · exact e2.symm
          · have h1 := hl.1 b e2; have h2 := hm.1 a e; omega
      subst hab
      congr 1
      refine ih hl.2 hm.2 fun x => ?_
      have hx := h x
      simp only [List.mem_cons] at hx
      constructor
      · intro hxl
        rcases hx.1 (.inr hxl) with e | e
        · subst e; have := hl.1 x hxl; omega
        · exact e
      · intro hxm
        rcases hx.2 (.inr hxm) with e | e
        · subst e; have := hm.1 x hxm; omega
        · exact e
def tickP (ts : List Lst) (c : Int) : Option Int := (ts.find? fun x => decide (x.cart = c)).map (·.tick)
def shapedB (e : Cen) : Bool := if e.kind = 1 then decide (1 ≤ e.qty) else if e.kind = 2 then true else decide (e.kind = 4) && (decide (e.item = 0) && decide (e.qty = 0))
def entB (s : Sta) (e : Cen) : Bool := (tickP s.ticks e.cart).isSome && shapedB e && hasB s.known e.dot && decide (1 ≤ e.count) && decide (e.count ≤ 16777217)
structure RightC (s : Sta) : Prop where
  known : rightB s.known 16 = true
  rt : RisT s.ticks
  tick : ∀ x ∈ s.ticks, x.tick ≤ 1073741824
  re : RisE s.ents
  ent : ∀ e ∈ s.ents, entB s e = true
  nd : (s.ents.map (·.dot)).Nodup
def laidO (e : Cen) : Opn := ⟨e.dot, e.kind, e.cart, e.item, e.qty, 0, vzero⟩
def entO (o : Opn) : Cen := ⟨o.cart, o.item, o.qty, o.kind, o.dot, cntO o⟩
theorem ends_laid (o x : Opn) : endsB o (laidO (entO x)) = endsB o x := rfl
def putE (e : Cen) : List Cen → List Cen
  | [] => [e]
  | x :: l => if aheadB e x = true then e :: x :: l else x :: putE e l
theorem mem_putE {e x : Cen} : ∀ {l : List Cen}, x ∈ putE e l ↔ x = e ∨ x ∈ l
  | [] => by simp [putE]
  | y :: l => by
    unfold putE; split
    · simp
    · rw [List.mem_cons, mem_putE, List.mem_cons]
      constructor
      · rintro (h | h | h)
        · exact .inr (.inl h)
        · exact .inl h
        · exact .inr (.inr h)
      · rintro (h | h | h)
        · exact .inr (.inl h)
        · exact .inl h
        · exact .inr (.inr h)
theorem ahead_total {a b : Cen} (h : a.dot ≠ b.dot) : aheadB a b = true ∨ aheadB b a = true := by
  have hd : ¬ (a.dot.rep = b.dot.rep ∧ a.dot.seq = b.dot.seq) := fun ⟨h1, h2⟩ => h (by cases ha : a.dot; cases hb : b.dot; rw [ha, hb] at h1 h2; simp_all)
  rw [ahead_iff, ahead_iff]; omega
theorem risE_put {e : Cen} : ∀ {l : List Cen}, RisE l → e.dot ∉ l.map (·.dot) → RisE (putE e l)
  | [], _, _ => by simp [putE, RisE]
  | x :: l, h, hn => by
    rw [List.map_cons, List.mem_cons] at hn
    have hx := List.pairwise_cons.1 h
    unfold putE; split
    · rename_i ha
      refine List.pairwise_cons.2 ⟨fun y hy => ?_, h⟩
      rcases List.mem_cons.1 hy with e1 | e1
      · subst e1; exact ha
      · exact ahead_trans ha (hx.1 y e1)
    · rename_i ha
      refine List.pairwise_cons.2 ⟨fun y hy => ?_, risE_put hx.2 fun hm => hn (.inr hm)⟩
      rcases mem_putE.1 hy with e1 | e1
      · subst e1
        rcases ahead_total (a := y) (b := x) (fun e2 => hn (.inl e2)) with g | g
        · exact absurd g ha
        · exact g
      · exact hx.1 y e1
def putT (c t : Int) : List Lst → List Lst
  | [] => [⟨c, t⟩]
  | x :: l => if x.cart = c then ⟨c, max x.tick t⟩ :: l else if c < x.cart then ⟨c, t⟩ :: x :: l else x :: putT c t l
theorem tickP_put {c t d : Int} : ∀ {l : List Lst}, RisT l → tickP (putT c t l) d = if d = c then some (match tickP l c with | none => t | some u => max u t) else tickP l d
  | [], _ => by
    unfold putT tickP
    by_cases h : d = c
    · subst h; simp
    · simp [h, show ¬ c = d from fun e => h e.symm]
  | x :: l, h => by
    have hx := List.pairwise_cons.1 h
    unfold putT
    split
    · rename_i hc
      by_cases hd : d = c
      · subst hd; simp [tickP, hc]
      · simp [tickP, hc, hd, show ¬ c = d from fun e => hd e.symm]
    · rename_i hc
      split
      · rename_i hlt
        have hno : tickP (x :: l) c = none := by
          unfold tickP
          rw [Option.map_eq_none_iff, List.find?_eq_none]
          intro y hy
          rcases List.mem_cons.1 hy with e1 | e1
          · subst e1; simpa using hc
          · have := hx.1 y e1; simp; omega
        by_cases hd : d = c
        · subst hd; rw [if_pos rfl, hno]; simp [tickP]
        · rw [if_neg hd]; simp [tickP, show ¬ c = d from fun e => hd e.symm]
      · have ih := tickP_put (c := c) (t := t) (d := d) hx.2
        by_cases hd : x.cart = d
        · subst hd
          rw [if_neg hc]; simp [tickP]
        · have e1 : tickP (x :: putT c t l) d = tickP (putT c t l) d := by simp [tickP, hd]
          have e2 : tickP (x :: l) d = tickP l d := by simp [tickP, hd]
          have e3 : tickP (x :: l) c = tickP l c := by simp [tickP, hc]
          rw [e1, ih, e2, e3]
theorem mem_putT {c t : Int} {x : Lst} : ∀ {l : List Lst}, x ∈ putT c t l → x.cart = c ∨ x ∈ l
  | [], h => by simp [putT] at h; subst h; exact .inl rfl
  | y :: l, h => by
    unfold putT at h
    split at h
    · rcases List.mem_cons.1 h with e | e
      · subst e; exact .inl rfl
      · exact .inr (by simp [e])
    · split at h
      · rcases List.mem_cons.1 h with e | e
        · subst e; exact .inl rfl
        · exact .inr e
      · rcases List.mem_cons.1 h with e | e
        · subst e; exact .inr (by simp)
        · rcases mem_putT e with g | g
          · exact .inl g
          · exact .inr (by simp [g])
theorem risT_put {c t : Int} : ∀ {l : List Lst}, RisT l → RisT (putT c t l)
  | [], _ => by simp [putT, RisT]
  | x :: l, h => by
    have hx := List.pairwise_cons.1 h
    unfold putT; split
    · rename_i hc
      exact List.pairwise_cons.2 ⟨fun y hy => by have := hx.1 y hy; show c < y.cart; omega, hx.2⟩
    · split
      · rename_i hlt
        refine List.pairwise_cons.2 ⟨fun y hy => ?_, h⟩
        rcases List.mem_cons.1 hy with e | e
        · subst e; exact hlt
        · have := hx.1 y e; show c < y.cart; omega
      · refine List.pairwise_cons.2 ⟨fun y hy => ?_, risT_put hx.2⟩
        rcases mem_putT hy with e | e
        · rw [e]; omega
        · exact hx.1 y e
theorem tick_mem {l : List Lst} (h : RisT l) (x : Lst) : x ∈ l ↔ tickP l x.cart = some x.tick := by
  induction l with
  | nil => simp [tickP]
  | cons y l ih =>
    have hy := List.pairwise_cons.1 h
    rw [List.mem_cons]
    by_cases he : y.cart = x.cart
    · have e1 : tickP (y :: l) x.cart = some y.tick := by simp [tickP, he]
      rw [e1]
      constructor
      · rintro (e | e)
        · subst e; rfl
        · have := hy.1 x e; omega
      · intro e
        left
        cases x; cases y
        simp at he e
        subst he; subst e; rfl
    · have e1 : tickP (y :: l) x.cart = tickP l x.cart := by simp [tickP, he]
      rw [e1, ← ih hy.2]
      constructor
      · rintro (e | e)
        · subst e; exact absurd rfl he
        · exact e
      · exact .inr
theorem ticks_eq {l m : List Lst} (hl : RisT l) (hm : RisT m) (h : ∀ c, tickP l c = tickP m c) : l = m :=
  risT_eq hl hm fun x => by rw [tick_mem hl, tick_mem hm, h]
end Go.Vx
namespace Go.Vx
def kindB (o : Opn) : Bool := if o.kind = 1 then decide (1 ≤ o.qty) else if o.kind = 2 then true else if o.kind = 3 then decide (o.qty = 0) else if o.kind = 4 ∨ o.kind = 5 then decide (o.item = 0) && decide (o.qty = 0) else false
def rightO (o : Opn) : Bool := decide (o.dot.rep < 16) && dotB o.dot && rightB o.ctx 16 && decide (vat o.ctx o.dot.rep.toNat = o.dot.seq - 1) && decide (o.tick ≤ 1073741824) && kindB o
def readyI (known : Vec) (o : Opn) : Int := if rightO o = false then 2 else if hasB known o.dot = true then 8 else if vle o.ctx known = false then 9 else 0
def knownL (l : List Opn) : Vec := l.foldl (fun v o => vset v o.dot.rep.toNat o.dot.seq) vzero
theorem knownL_snoc (l : List Opn) (o : Opn) : knownL (l ++ [o]) = vset (knownL l) o.dot.rep.toNat o.dot.seq := by unfold knownL; rw [List.foldl_append]; rfl
structure DotP (d : Dot) : Prop where
  r0 : 0 ≤ d.rep
  r1 : d.rep < 16
  s0 : 1 ≤ d.seq
  s1 : d.seq ≤ 1048576
theorem DotP.b {d : Dot} (h : DotP d) : dotB d = true := by
  obtain ⟨_, _, _, _⟩ := h
  simp [dotB]; omega
theorem has_iff {v : Vec} {d : Dot} (h : DotP d) : hasB v d = true ↔ d.seq ≤ vat v d.rep.toNat := by
  unfold hasB; rw [h.b, Bool.true_and, decide_eq_true_iff]
inductive Seq : List Opn → Prop
  | nil : Seq []
  | snoc {l : List Opn} {o : Opn} : Seq l → OpnOk o → rightO o = true → DotP o.dot → o.dot ∉ l.map (·.dot) → (∀ d, DotP d → hasB o.ctx d = true → d ∈ l.map (·.dot)) → Seq (l ++ [o])
theorem Seq.cut {l : List Opn} {o : Opn} (h : Seq (l ++ [o])) : Seq l ∧ OpnOk o ∧ rightO o = true ∧ DotP o.dot ∧ o.dot ∉ l.map (·.dot) ∧ ∀ d, DotP d → hasB o.ctx d = true → d ∈ l.map (·.dot) := by
  generalize hm : l ++ [o] = m at h
  cases h with
  | nil => simp at hm
  | snoc h1 h2 h3 h4 h5 h6 =>
    obtain ⟨e1, e2⟩ := List.append_inj' hm rfl
    simp at e2
    subst e1; subst e2
    exact ⟨h1, h2, h3, h4, h5, h6⟩
theorem Seq.dots {l : List Opn} (h : Seq l) : ∀ o ∈ l, DotP o.dot ∧ OpnOk o ∧ rightO o = true := by
  induction h with
  | nil => intro o ho; cases ho
  | snoc _ h2 h3 h4 _ _ ih =>
    intro o ho
    rcases List.mem_append.1 ho with h | h
    · exact ih o h
    · rw [List.mem_singleton.1 h]; exact ⟨h4, h2, h3⟩
theorem Seq.nodup {l : List Opn} (h : Seq l) : (l.map (·.dot)).Nodup := by
  induction h with
  | nil => simp
  | snoc _ _ _ _ h5 _ ih =>
    rw [List.map_append, List.nodup_append]
    exact ⟨ih, by simp, fun a ha b hb e => by simp at hb; subst hb; subst e; exact h5 ha⟩
theorem Seq.known {l : List Opn} (h : Seq l) : (∀ i, 0 ≤ vat (knownL l) i ∧ vat (knownL l) i ≤ 1048576) ∧ ∀ d, DotP d → (d.seq ≤ vat (knownL l) d.rep.toNat ↔ d ∈ l.map (·.dot)) := by
  induction h with
  | nil =>
    refine ⟨fun i => ?_, fun d hd => ?_⟩
    · show 0 ≤ vat vzero i ∧ vat vzero i ≤ _
      unfold vat vzero; split <;> omega
    · show d.seq ≤ vat vzero _ ↔ _
      have := hd.s0
      have h0 : vat vzero d.rep.toNat = 0 := by unfold vat vzero; split <;> rfl
      rw [h0]; simp; omega
  | @snoc l o h1 h2 h3 h4 h5 h6 ih =>
    have hr : o.dot.rep.toNat < 16 := by have := h4.r0; have := h4.r1; omega
    have hctx : vat o.ctx o.dot.rep.toNat = o.dot.seq - 1 := by
      unfold rightO at h3; simp only [Bool.and_eq_true, decide_eq_true_eq] at h3; exact h3.1.1.2
    have hlt : vat (knownL l) o.dot.rep.toNat < o.dot.seq := by
      have := (ih.2 o.dot h4).mp
      rcases Int.lt_or_le (vat (knownL l) o.dot.rep.toNat) o.dot.seq with g | g
      · exact g
      · exact absurd (this g) h5
    have hge : o.dot.seq - 1 ≤ vat (knownL l) o.dot.rep.toNat := by
      by_cases h0 : o.dot.seq = 1
      · have := (ih.1 o.dot.rep.toNat).1; omega
      · have hd : DotP ⟨o.dot.rep, o.dot.seq - 1⟩ := ⟨h4.r0, h4.r1, by have := h4.s0; show 1 ≤ o.dot.seq - 1; omega, by have := h4.s1; show o.dot.seq - 1 ≤ _; omega⟩
        exact (ih.2 _ hd).mpr (h6 _ hd ((has_iff hd).mpr (by show o.dot.seq - 1 ≤ vat o.ctx o.dot.rep.toNat; omega)))
    rw [knownL_snoc]
    refine ⟨fun i => ?_, fun d hd => ?_⟩
    · by_cases hi : i < 16
      · rw [vat_vset _ _ _ _ hi]; split
        · have := h4.s0; have := h4.s1; omega
        · exact ih.1 i
      · unfold vat; rw [dif_neg hi]; omega
    · have hdr : d.rep.toNat < 16 := by have := hd.r0; have := hd.r1; omega
      rw [vat_vset _ _ _ _ hdr, List.map_append, List.mem_append, ← ih.2 d hd]
      split
      · rename_i he
        have hrep : d.rep = o.dot.rep := by have := hd.r0; have := h4.r0; omega
        constructor
        · intro hle
          by_cases e : d.seq = o.dot.seq
          · right
            have : d = o.dot := by cases hdd : d; cases hoo : o.dot; rw [hdd, hoo] at hrep e; simp_all
            subst this; simp
          · left; rw [he]; omega
        · rintro (g | g)
          · rw [he] at g; omega
          · simp at g; subst g; exact Int.le_refl _
      · rename_i he
        constructor
        · exact .inl
        · rintro (g | g)
          · exact g
          · simp at g; subst g; exact absurd rfl he
theorem Seq.has {l : List Opn} (h : Seq l) {d : Dot} (hd : DotP d) : hasB (knownL l) d = true ↔ d ∈ l.map (·.dot) := by rw [has_iff hd]; exact h.known.2 d hd
def szero : Sta := ⟨vzero, [], []⟩
def applyE (s : Sta) (o : Opn) : Sta :=
  ⟨vset s.known o.dot.rep.toNat o.dot.seq, (if laysB o = true then putE (entO o) (s.ents.filter fun e => !endsB o (laidO e)) else s.ents.filter fun e => !endsB o (laidO e)), putT o.cart o.tick s.ticks⟩
def allE (l : List Opn) : Sta := l.foldl applyE szero
theorem allE_snoc (l : List Opn) (o : Opn) : allE (l ++ [o]) = applyE (allE l) o := by unfold allE; rw [List.foldl_append]; rfl
theorem allE_known (l : List Opn) : (allE l).known = knownL l := by
  refine snoc_ind (motive := fun l => (allE l).known = knownL l) rfl (fun l o ih => ?_) l
  rw [allE_snoc, knownL_snoc, ← ih]; rfl
theorem Seq.live_snoc {l : List Opn} {o : Opn} (h : Seq (l ++ [o])) : (∀ x, liveB (l ++ [o]) x = (liveB l x && !endsB o x)) ∧ liveB (l ++ [o]) o = laysB o := by
  obtain ⟨h1, h2, h3, h4, h5, h6⟩ := h.cut
  refine ⟨fun x => ?_, ?_⟩
  · unfold liveB; rw [List.any_append, List.any_cons, List.any_nil, Bool.or_false]
    cases laysB x <;> cases l.any (fun y => endsB y x) <;> cases endsB o x <;> rfl
  · unfold liveB
    have : ((l ++ [o]).any fun x => endsB x o) = false := by
      rw [List.any_eq_false]
      intro x hx he
      have hhas : hasB x.ctx o.dot = true := by
        unfold endsB at he; simp only [Bool.and_eq_true, decide_eq_true_eq] at he; exact he.1.2
      rcases List.mem_append.1 hx with g | g
      ·
        have key : ∀ {l : List Opn}, Seq l → ∀ x ∈ l, ∀ d, DotP d → hasB x.ctx d = true → d ∈ l.map (·.dot) := by
          intro l hl
          induction hl with
          | nil => intro x hx; cases hx
          | snoc _ _ _ _ _ g6 ih =>
            intro x hx d hd hh
            rw [List.map_append, List.mem_append]
            rcases List.mem_append.1 hx with q | q
            · exact .inl (ih x q d hd hh)
            · rw [List.mem_singleton.1 q] at hh; exact .inl (g6 d hd hh)
        exact h5 (key h1 x g o.dot h4 hhas)
      · rw [List.mem_singleton.1 g] at hhas; exact h5 (h6 _ h4 hhas)
    rw [this]; simp
theorem Seq.ents {l : List Opn} (h : Seq l) : RisE (allE l).ents ∧ ∀ e, e ∈ (allE l).ents ↔ ∃ o ∈ l, liveB l o = true ∧ e = entO o := by
  induction h with
  | nil => exact ⟨by simp [allE, szero, RisE], fun e => by simp [allE, szero]⟩
  | @snoc l o h1 h2 h3 h4 h5 h6 ih =>
    have hl := Seq.live_snoc (Seq.snoc h1 h2 h3 h4 h5 h6)
    rw [allE_snoc]
    have hfR : RisE ((allE l).ents.filter fun e => !endsB o (laidO e)) := List.Pairwise.sublist List.filter_sublist ih.1
    have hfm : ∀ e, e ∈ ((allE l).ents.filter fun e => !endsB o (laidO e)) ↔ ∃ x ∈ l, liveB (l ++ [o]) x = true ∧ e = entO x := by
      intro e
      rw [List.mem_filter, ih.2]
      constructor
      · rintro ⟨⟨x, hx, hlx, rfl⟩, hne⟩
        rw [ends_laid] at hne
        exact ⟨x, hx, by rw [hl.1, hlx, hne]; rfl, rfl⟩
      · rintro ⟨x, hx, hlx, rfl⟩
        rw [hl.1, Bool.and_eq_true] at hlx
        exact ⟨⟨x, hx, hlx.1, rfl⟩, by rw [ends_laid]; exact hlx.2⟩
    show RisE (if laysB o = true then _ else _) ∧ ∀ e, e ∈ (if laysB o = true then _ else _) ↔ _
    split
    · rename_i hly
      refine ⟨risE_put hfR ?_, fun e => ?_⟩
      · intro hm
        obtain ⟨e, he, hd⟩ := List.mem_map.1 hm
        obtain ⟨x, hx, _, rfl⟩ := (hfm e).1 he
        exact h5 (List.mem_map.2 ⟨x, hx, hd⟩)
      · rw [mem_putE, hfm]
        constructor
        · rintro (rfl | ⟨x, hx, g⟩)
          · exact ⟨o, by simp, by rw [hl.2, hly], rfl⟩
          · exact ⟨x, by simp [hx], g⟩
        · rintro ⟨x, hx, g⟩
          rcases List.mem_append.1 hx with q | q
          · exact .inr ⟨x, q, g⟩
          · rw [List.mem_singleton.1 q] at g; exact .inl g.2
    · rename_i hly
      refine ⟨hfR, fun e => ?_⟩
      rw [hfm]
      constructor
      · rintro ⟨x, hx, g⟩; exact ⟨x, by simp [hx], g⟩
      · rintro ⟨x, hx, g⟩
        rcases List.mem_append.1 hx with q | q
        · exact ⟨x, q, g⟩
        · rw [List.mem_singleton.1 q, hl.2] at g; exact absurd g.1 hly
def tmax (l : List Opn) (c : Int) : Option Int := l.foldl (fun a o => if o.cart = c then some (match a with | none => o.tick | some u => max u o.tick) else a) none
theorem tmax_snoc (l : List Opn) (o : Opn) (c : Int) : tmax (l ++ [o]) c = if o.cart = c then some (match tmax l c with | none => o.tick | some u => max u o.tick) else tmax l c := by unfold tmax; rw [List.foldl_append]; rfl
theorem allE_ticks (l : List Opn) : RisT (allE l).ticks ∧ ∀ c, tickP (allE l).ticks c = tmax l c := by
  refine snoc_ind (motive := fun l => RisT (allE l).ticks ∧ ∀ c, tickP (allE l).ticks c = tmax l c) ⟨by simp [allE, szero, RisT], fun c => rfl⟩ (fun l o ih => ?_) l
  rw [allE_snoc]
  refine ⟨risT_put ih.1, fun c => ?_⟩
  show tickP (putT _ _ _) c = _
  rw [tickP_put ih.1, tmax_snoc, ih.2, ih.2]
  by_cases h : c = o.cart
  · subst h; rw [if_pos rfl]; first | done | (first | rw [if_pos rfl] | skip); first | done | (cases tmax l o.cart <;> rfl)
  · rw [if_neg h, if_neg (fun e => h e.symm)]
theorem tmax_spec (l : List Opn) (c : Int) : (tmax l c = none ∧ ∀ o ∈ l, o.cart ≠ c) ∨ ∃ t, tmax l c = some t ∧ (∃ o ∈ l, o.cart = c ∧ o.tick = t) ∧ ∀ o ∈ l, o.cart = c → o.tick ≤ t := by
  refine snoc_ind (motive := fun l => (tmax l c = none ∧ ∀ o ∈ l, o.cart ≠ c) ∨ ∃ t, tmax l c = some t ∧ (∃ o ∈ l, o.cart = c ∧ o.tick = t) ∧ ∀ o ∈ l, o.cart = c → o.tick ≤ t) (.inl ⟨rfl, fun o ho => by cases ho⟩) (fun l a ih => ?_) l
  rw [tmax_snoc]
  by_cases hc : a.cart = c
  · right
    rw [if_pos hc]
    rcases ih with ⟨h1, h2⟩ | ⟨t, h1, ⟨o, ho, h3, h4⟩, h5⟩
    · refine ⟨a.tick, by rw [h1], ⟨a, by simp, hc, rfl⟩, fun o ho hoc => ?_⟩
      rcases List.mem_append.1 ho with g | g
      · exact absurd hoc (h2 o g)
      · rw [List.mem_singleton.1 g]; exact Int.le_refl _
    · refine ⟨max t a.tick, by rw [h1], ?_, fun o ho hoc => ?_⟩
      · rcases Int.le_total t a.tick with g | g
        · exact ⟨a, by simp, hc, by omega⟩
        · exact ⟨o, by simp [ho], h3, by omega⟩
      · rcases List.mem_append.1 ho with g | g
        · have := h5 o g hoc; omega
        · rw [List.mem_singleton.1 g]; omega
  · rw [if_neg hc]
    rcases ih with ⟨h1, h2⟩ | ⟨t, h1, ⟨o, ho, h3⟩, h5⟩
    · refine .inl ⟨h1, fun o ho => ?_⟩
      rcases List.mem_append.1 ho with g | g
      · exact h2 o g
      · rw [List.mem_singleton.1 g]; exact hc
    · refine .inr ⟨t, h1, ⟨o, by simp [ho], h3⟩, fun o ho hoc => ?_⟩
      rcases List.mem_append.1 ho with g | g
      · exact h5 o g hoc
      · rw [List.mem_singleton.1 g] at hoc; exact absurd hoc hc
end Go.Vx
namespace Go.Vx
theorem uniq_map {α β : Type} {f : α → β} : ∀ {l : List α}, (l.map f).Nodup → ∀ x ∈ l, ∀ y ∈ l, f x = f y → x = y
  | [], _, x, hx, _, _, _ => by cases hx
  | a :: l, h, x, hx, y, hy, e => by
    rw [List.map_cons, List.nodup_cons] at h
    rcases List.mem_cons.1 hx with p | p <;> rcases List.mem_cons.1 hy with q | q
    · rw [p, q]
    · subst p; exact absurd (List.mem_map.2 ⟨y, q, e.symm⟩) h.1
    · subst q; exact absurd (List.mem_map.2 ⟨x, p, e⟩) h.1
    · exact uniq_map h.2 x p y q e
theorem vat_ctx {o : Opn} (h : rightO o = true) (i : Nat) : vat o.ctx i ≤ 1048576 := by
  unfold rightO at h
  simp only [Bool.and_eq_true, decide_eq_true_eq] at h
  have h1 := h.1.1.1.2
  unfold rightB at h1
  simp only [Bool.and_eq_true, List.all_eq_true, List.mem_range] at h1
  by_cases hi : i < 16
  · have := h1.2 i hi
    unfold okAt at this
    simp at this
    omega
  · unfold vat; rw [dif_neg hi]; omega
theorem sum_le (f : Nat → Int) (b : Int) (h : ∀ i, 0 ≤ f i ∧ f i ≤ b) : ∀ n : Nat, 0 ≤ ((List.range n).map f).sum ∧ ((List.range n).map f).sum ≤ (n : Int) * b
  | 0 => by simp
  | n + 1 => by
    have ih := sum_le f b h n
    rw [List.range_succ, List.map_append, List.sum_append]
    have := h n
    simp only [List.map_cons, List.map_nil, List.sum_cons, List.sum_nil]
    have e : ((n + 1 : Nat) : Int) * b = (n : Int) * b + b := by rw [Int.natCast_add, Int.add_mul]; simp
    omega
theorem cnt_bd {o : Opn} (ho : OpnOk o) (h : rightO o = true) : 1 ≤ cntO o ∧ cntO o ≤ 16777217 := by
  have hv := ho.2.2.2.2.2.2
  have := sum_le (fun i => vat o.ctx i) 1048576 (fun i => ⟨by
    unfold vat; split
    · exact (hv _).1
    · omega, vat_ctx h i⟩) 16
  unfold cntO vsum
  omega
theorem lays_kind {o : Opn} : laysB o = true ↔ o.kind = 1 ∨ o.kind = 2 ∨ o.kind = 4 := by unfold laysB; simp [or_assoc]
theorem live_lays {l : List Opn} {o : Opn} (h : liveB l o = true) : laysB o = true := by unfold liveB at h; rw [Bool.and_eq_true] at h; exact h.1
theorem Seq.right {l : List Opn} (h : Seq l) : RightC (allE l) := by
  have hk := h.known
  have he := h.ents
  have ht := allE_ticks l
  have hd := h.dots
  refine ⟨?_, ht.1, fun x hx => ?_, he.1, fun e hm => ?_, ?_⟩
  · rw [allE_known]
    unfold rightB
    simp only [Bool.and_eq_true, List.all_eq_true, List.mem_range]
    refine ⟨by decide, fun i hi => ?_⟩
    have := hk.1 i
    unfold okAt; simp; omega
  · rw [tick_mem ht.1, ht.2] at hx
    rcases tmax_spec l x.cart with ⟨h1, _⟩ | ⟨t, h1, ⟨o, ho, _, h3⟩, _⟩
    · rw [h1] at hx; cases hx
    · rw [h1] at hx; cases hx
      have := (hd o ho).2.2
      unfold rightO at this
      simp only [Bool.and_eq_true, decide_eq_true_eq] at this
      rw [← h3]; exact this.1.2
  · obtain ⟨o, ho, hl, rfl⟩ := (he.2 e).1 hm
    have hdo := hd o ho
    have hc := cnt_bd hdo.2.1 hdo.2.2
    unfold entB
    simp only [Bool.and_eq_true, decide_eq_true_eq]
    refine ⟨⟨⟨⟨?_, ?_⟩, ?_⟩, hc.1⟩, hc.2⟩
    · rw [ht.2]
      rcases tmax_spec l o.cart with ⟨_, h2⟩ | ⟨t, h1, _⟩
      · exact absurd rfl (h2 o ho)
      · show (tmax l o.cart).isSome = true
        rw [h1]; rfl
    · have hr := hdo.2.2
      unfold rightO at hr
      simp only [Bool.and_eq_true] at hr
      have hkk := hr.2
      unfold kindB at hkk
      show shapedB (entO o) = true
      unfold shapedB entO
      rcases lays_kind.1 (live_lays hl) with g | g | g
      · simp [g] at hkk ⊢; exact hkk
      · simp [g]
      · simp [g] at hkk ⊢; exact hkk
    · rw [allE_known]
      exact (h.has hdo.1).2 (List.mem_map.2 ⟨o, ho, rfl⟩)
  · have hmap : (allE l).ents.map (·.dot) = (allE l).ents.map (·.dot) := rfl
    have hnd := h.nodup
    have hinj : ∀ a ∈ (allE l).ents, ∀ b ∈ (allE l).ents, a.dot = b.dot → a = b := by
      intro a ha b hb e
      obtain ⟨o, ho, _, rfl⟩ := (he.2 a).1 ha
      obtain ⟨p, hp, _, rfl⟩ := (he.2 b).1 hb
      rw [uniq_map hnd o ho p hp e]
    unfold List.Nodup
    rw [List.pairwise_map]
    have hne : (allE l).ents.Pairwise (· ≠ ·) := he.1.imp fun {a b} hab e => by subst e; rw [ahead_irrefl] at hab; cases hab
    rw [List.pairwise_iff_getElem] at hne ⊢
    intro i j hi hj hij e
    exact hne i j hi hj hij (hinj _ (List.getElem_mem hi) _ (List.getElem_mem hj) e)
theorem Seq.ext {l m : List Opn} (hl : Seq l) (hm : Seq m) (h : ∀ o, o ∈ l ↔ o ∈ m) : allE l = allE m := by
  have hdm : ∀ d, d ∈ l.map (·.dot) ↔ d ∈ m.map (·.dot) := fun d => by
    rw [List.mem_map, List.mem_map]
    constructor
    · rintro ⟨o, ho, e⟩; exact ⟨o, (h o).1 ho, e⟩
    · rintro ⟨o, ho, e⟩; exact ⟨o, (h o).2 ho, e⟩
  have hle : ∀ {l m : List Opn}, Seq l → Seq m → (∀ d, d ∈ l.map (·.dot) ↔ d ∈ m.map (·.dot)) → ∀ i, vat (knownL l) i ≤ vat (knownL m) i := by
    intro l m hl hm hd i
    by_cases hi : i < 16
    case neg => unfold vat; rw [dif_neg hi, dif_neg hi]; omega
    have b1 := hl.known.1 i
    have b2 := hm.known.1 i
    by_cases h0 : vat (knownL l) i = 0
    · omega
    · have hdp : DotP ⟨(i : Int), vat (knownL l) i⟩ := ⟨by show (0 : Int) ≤ (i : Int); omega, by show (i : Int) < 16; omega, by show 1 ≤ vat (knownL l) i; omega, b1.2⟩
      have := (hm.known.2 _ hdp).2 ((hd _).1 ((hl.known.2 _ hdp).1 (by show vat (knownL l) i ≤ vat (knownL l) ((i : Int)).toNat; rw [Int.toNat_natCast]; exact Int.le_refl _)))
      simpa using this
  have e1 : (allE l).known = (allE m).known := by
    rw [allE_known, allE_known]
    exact vec_ext fun i _ => Int.le_antisymm (hle hl hm hdm i) (hle hm hl (fun d => (hdm d).symm) i)
  have hlive : ∀ o, liveB l o = liveB m o := fun o => by
    unfold liveB
    have : (l.any fun x => endsB x o) = (m.any fun x => endsB x o) := by
      rw [Bool.eq_iff_iff, List.any_eq_true, List.any_eq_true]
      constructor
      · rintro ⟨x, hx, e⟩; exact ⟨x, (h x).1 hx, e⟩
      · rintro ⟨x, hx, e⟩; exact ⟨x, (h x).2 hx, e⟩
    rw [this]
  have e2 : (allE l).ents = (allE m).ents := risE_eq hl.ents.1 hm.ents.1 fun e => by
    rw [hl.ents.2, hm.ents.2]
    constructor
    · rintro ⟨o, ho, g, q⟩; exact ⟨o, (h o).1 ho, by rw [← hlive]; exact g, q⟩
    · rintro ⟨o, ho, g, q⟩; exact ⟨o, (h o).2 ho, by rw [hlive]; exact g, q⟩
  have e3 : (allE l).ticks = (allE m).ticks := ticks_eq (allE_ticks l).1 (allE_ticks m).1 fun c => by
    rw [(allE_ticks l).2, (allE_ticks m).2]
    rcases tmax_spec l c with ⟨h1, h2⟩ | ⟨t, h1, ⟨o, ho, h3, h4⟩, h5⟩ <;> rcases tmax_spec m c with ⟨g1, g2⟩ | ⟨u, g1, ⟨p, hp, g3, g4⟩, g5⟩
    · rw [h1, g1]
    · exact absurd g3 (h2 p ((h p).2 hp))
    · exact absurd h3 (g2 o ((h o).1 ho))
    · rw [h1, g1]
      have := h5 p ((h p).2 hp) g3
      have := g5 o ((h o).1 ho) h3
      congr 1; omega
  cases hx : allE l; cases hy : allE m
  rw [hx, hy] at e1 e2 e3
  simp at e1 e2 e3
  rw [e1, e2, e3]
end Go.Vx
namespace Go.Vx
theorem right_dot {o : Opn} (ho : OpnOk o) (h : rightO o = true) : DotP o.dot := by
  unfold rightO at h
  simp only [Bool.and_eq_true, decide_eq_true_eq] at h
  have h1 := h.1.1.1.1.1
  have h2 := dotB_spec h.1.1.1.1.2
  exact ⟨ho.1.1.1, h1, h2.2.1, h2.2.2⟩
theorem vle_at {a b : Vec} (h : vle a b = true) (i : Nat) : vat a i ≤ vat b i := by
  unfold vle at h
  rw [List.all_eq_true] at h
  by_cases hi : i < 16
  · simpa using h i (List.mem_range.2 hi)
  · unfold vat; rw [dif_neg hi, dif_neg hi]; exact Int.le_refl _
theorem ready_zero {known : Vec} {o : Opn} (h : readyI known o = 0) : rightO o = true ∧ hasB known o.dot = false ∧ vle o.ctx known = true := by
  unfold readyI at h
  split at h
  · omega
  · split at h
    · omega
    · split at h
      · omega
      · rename_i h1 h2 h3
        simp at h1 h2 h3
        exact ⟨h1, h2, h3⟩
theorem Seq.add {l : List Opn} {o : Opn} (h : Seq l) (ho : OpnOk o) (hr : readyI (knownL l) o = 0) : Seq (l ++ [o]) := by
  obtain ⟨h1, h2, h3⟩ := ready_zero hr
  have hd := right_dot ho h1
  refine Seq.snoc h ho h1 hd (fun hm => ?_) fun d hdp hh => ?_
  · rw [(h.has hd).2 hm] at h2; cases h2
  · refine (h.has hdp).1 ((has_iff hdp).2 (Int.le_trans ((has_iff hdp).1 hh) (vle_at h3 _)))
theorem Seq.ready {l : List Opn} {o : Opn} (h : Seq (l ++ [o])) : readyI (knownL l) o = 0 := by
  obtain ⟨h1, h2, h3, h4, h5, h6⟩ := h.cut
  unfold readyI
  rw [if_neg (by rw [h3]; decide), if_neg (fun g => h5 ((h1.has h4).1 g)), if_neg]
  rw [Bool.not_eq_false]
  refine vle_yes fun j hj => ?_
  have hb := vat_ctx h3 j
  have h0 := (h1.known.1 j).1
  by_cases hz : vat o.ctx j < 1
  · omega
  · have hdp : DotP ⟨(j : Int), vat o.ctx j⟩ := ⟨by show (0 : Int) ≤ (j : Int); omega, by show (j : Int) < 16; omega, by show 1 ≤ vat o.ctx j; omega, hb⟩
    have := (h1.known.2 _ hdp).2 (h6 _ hdp ((has_iff hdp).2 (by show vat o.ctx j ≤ vat o.ctx ((j : Int)).toNat; rw [Int.toNat_natCast]; exact Int.le_refl _)))
    simpa using this
def Down (l : List Opn) (p : Opn → Bool) : Prop := ∀ o ∈ l, p o = true → ∀ d, DotP d → hasB o.ctx d = true → ∃ q ∈ l, p q = true ∧ q.dot = d
theorem Seq.sub {l : List Opn} {p : Opn → Bool} (h : Seq l) (hp : Down l p) : Seq (l.filter p) := by
  have key : ∀ m : List Opn, Seq m → (∀ o ∈ m, o ∈ l) → Seq (m.filter p) := by
    intro m hm
    induction hm with
    | nil => intro _; exact Seq.nil
    | @snoc m o h1 h2 h3 h4 h5 h6 ih =>
      intro hin
      have ih := ih fun x hx => hin x (List.mem_append_left _ hx)
      rw [List.filter_append]
      by_cases hpo : p o = true
      · rw [List.filter_cons_of_pos hpo, List.filter_nil]
        refine Seq.snoc ih h2 h3 h4 (fun g => h5 ?_) fun d hd hh => ?_
        · obtain ⟨x, hx, e⟩ := List.mem_map.1 g
          exact List.mem_map.2 ⟨x, (List.mem_filter.1 hx).1, e⟩
        · obtain ⟨x, hx, e⟩ := List.mem_map.1 (h6 d hd hh)
          obtain ⟨q, hq, hpq, eq⟩ := hp o (hin o (by simp)) hpo d hd hh
          have := uniq_map h.nodup x (hin x (List.mem_append_left _ hx)) q hq (e.trans eq.symm)
          subst this
          exact List.mem_map.2 ⟨x, List.mem_filter.2 ⟨hx, hpq⟩, e⟩
      · rw [List.filter_cons_of_neg hpo, List.filter_nil, List.append_nil]; exact ih
  exact key l h fun _ h => h
end Go.Vx
namespace Go.Vx
theorem sum_set : ∀ (n : Nat) (f : Nat → Int) (i : Nat) (x : Int), ((List.range n).map fun j => if j = i then x else f j).sum = ((List.range n).map f).sum + (if i < n then x - f i else 0)
  | 0, _, _, _ => by simp
  | n + 1, f, i, x => by
    rw [List.range_succ, List.map_append, List.sum_append, List.map_append, List.sum_append, sum_set n f i x]
    simp only [List.map_cons, List.map_nil, List.sum_cons, List.sum_nil]
    by_cases h : n = i
    · subst h; simp; omega
    · rw [if_neg h]
      by_cases h2 : i < n
      · rw [if_pos h2, if_pos (by omega)]; omega
      · rw [if_neg h2, if_neg (by omega)]; omega
theorem vsum_set {v : Vec} {i : Nat} {x : Int} (hi : i < 16) : vsum (vset v i x) = vsum v + (x - vat v i) := by
  unfold vsum
  have e : (List.range 16).map (fun j => vat (vset v i x) j) = (List.range 16).map fun j => if j = i then x else vat v j := by
    refine List.map_congr_left fun j hj => ?_
    rw [vat_vset _ _ _ _ (List.mem_range.1 hj)]
  rw [e, sum_set, if_pos hi]
theorem Seq.next {l : List Opn} {o : Opn} (h : Seq (l ++ [o])) : vat (knownL l) o.dot.rep.toNat = o.dot.seq - 1 := by
  obtain ⟨h1, h2, h3, h4, h5, h6⟩ := h.cut
  have hctx : vat o.ctx o.dot.rep.toNat = o.dot.seq - 1 := by
    unfold rightO at h3; simp only [Bool.and_eq_true, decide_eq_true_eq] at h3; exact h3.1.1.2
  have hlt : ¬ o.dot.seq ≤ vat (knownL l) o.dot.rep.toNat := fun g => h5 ((h1.known.2 o.dot h4).1 g)
  have h0 := (h1.known.1 o.dot.rep.toNat).1
  by_cases hz : o.dot.seq = 1
  · omega
  · have hd : DotP ⟨o.dot.rep, o.dot.seq - 1⟩ := ⟨h4.r0, h4.r1, by have := h4.s0; show 1 ≤ o.dot.seq - 1; omega, by have := h4.s1; show o.dot.seq - 1 ≤ _; omega⟩
    have := (h1.known.2 _ hd).2 (h6 _ hd ((has_iff hd).2 (by show o.dot.seq - 1 ≤ vat o.ctx o.dot.rep.toNat; omega)))
    have : o.dot.seq - 1 ≤ vat (knownL l) o.dot.rep.toNat := this
    omega
theorem Seq.sum {l : List Opn} (h : Seq l) : vsum (knownL l) = l.length := by
  induction h with
  | nil => rfl
  | @snoc l o h1 h2 h3 h4 h5 h6 ih =>
    have hn := Seq.next (Seq.snoc h1 h2 h3 h4 h5 h6)
    have hr : o.dot.rep.toNat < 16 := by have := h4.r0; have := h4.r1; omega
    rw [knownL_snoc, vsum_set hr, ih, hn, List.length_append, List.length_singleton]
    omega
end Go.Vx
namespace Go.Vx
open Go.RowKit
def PlainR (w : World) (v : Value) : Prop := ∃ b n c cur T, v = .slice (some ⟨b, 0, none⟩) n c ∧ w.heap[b]? = some (.cells cur T (0, 0))
theorem PlainR.own {w0 w : World} {M : Nat → Prop} {L : List Res} {v : Value} (h : PlainR w0 v) (hs : Own w0 M w L) (hm : ¬ M (bkS v)) : PlainR w v := by
  obtain ⟨b, n, c, cur, T, rfl, hb⟩ := h
  refine ⟨b, n, c, cur, T, rfl, ?_⟩
  rw [hs.old b (Array.getElem?_eq_some_iff.1 hb).1 hm]
  exact hb
end Go.Vx
namespace Go.Vx
theorem PlainR.lt {w : World} {v : Value} (h : PlainR w v) : bkS v < w.heap.size := by
  obtain ⟨b, n, c, cur, T, rfl, hb⟩ := h
  exact (Array.getElem?_eq_some_iff.1 hb).1
end Go.Vx
namespace Go.Vx
open Go.RowKit
section
variable {P : Program} {ty : TypeId} {e : Operand → Value} {w : World} {K : Value → World → Prop} {w0 : World} {M : Nat → Prop} {L : List Res}
theorem L_slN {t u d : TypeId} {x y : Operand} {a : Option Addr} {n c : Nat} (ht : P.underlying t = some (.slice d)) (hx : e x = .slice a n c) (hy : e y = .slice none 0 0) (h : K (.bool a.isNone) w) : opW P (.binOp .eql t x y u) ty e w K := by
  refine opW_val (w' := w) ?_ h
  simp only [execOp, hx, hy, eqGuard_at_slice, Sem.run_bind, Sem.run_pure, Result.andThen_ok, binOp, run_equal_slice_nil w t d a n c ht]
end
theorem Rd.isN {α : Type} {enc : α → List Value} {l : List α} {w : World} {a : Option Addr} {n c k : Nat} (h : Rd w (.slice a n c) k (l.map enc)) (ha : a.isNone = true) : l = [] := by
  rcases h.shape with ⟨_, h2⟩ | ⟨b, o, c', h2⟩
  · simpa using h2
  · cases h2; cases ha
end Go.Vx
namespace Go.Proofs
open Go Go.Vx Go.RowKit
namespace Tt
theorem S1_23 : T1 Try.prog 23 := ⟨Try.sizeOf23, Try.isAgg23⟩
set_option maxRecDepth 20000 in
theorem EL_23 : El Try.prog 23 5 1 1 := ⟨Try.underlying23, _, _, Try.type5, rfl, rfl, rfl, rfl, by decide⟩
theorem EN_21 : En Try.prog 21 := Try.call21
theorem EN_27 : En Try.prog 27 := Try.call27
theorem FA_60_0 : FA Try.prog 60 0 0 := fun b o w => by simp [Instr.fieldAt, Instr.sureAddr, fieldPlace, add_eq]
theorem UD_23 : Ud Try.prog 23 (.slice 5) := Try.runUnderlying23
theorem UDR_23 : Try.prog.underlying 23 = some (.slice 5) := Try.underlying23
end Tt
end Go.Proofs
namespace Go.Vx
open Go.RowKit
section
variable {κ ν : Type} [DecidableEq κ]
theorem d_mget_mem {k : κ} {v : ν} : ∀ {l : List (κ × ν)}, mget k l = some v → (k, v) ∈ l
  | [], h => by cases h
  | (a, b) :: l, h => by
    unfold mget at h
    split at h
    · rename_i e; subst e; cases h; simp
    · exact List.mem_cons_of_mem _ (d_mget_mem h)
theorem d_mget_none {k : κ} : ∀ {l : List (κ × ν)}, mget k l = none ↔ k ∉ l.map (·.1)
  | [] => by simp [mget]
  | (a, b) :: l => by
    unfold mget
    split
    · rename_i e; subst e; simp
    · rename_i e; rw [d_mget_none]; simp [e]
theorem d_mget_of_mem {k : κ} {v : ν} : ∀ {l : List (κ × ν)}, (l.map (·.1)).Nodup → (k, v) ∈ l → mget k l = some v
  | [], _, h => by cases h
  | (a, b) :: l, hn, h => by
    simp only [List.map_cons, List.nodup_cons] at hn
    unfold mget
    rcases List.mem_cons.1 h with e | e
    · cases e; simp
    · have : k ≠ a := fun e2 => hn.1 (e2 ▸ List.mem_map.2 ⟨(k, v), e, rfl⟩)
      rw [if_neg this]; exact d_mget_of_mem hn.2 e
theorem d_mdel_sub (k : κ) : ∀ (l : List (κ × ν)), (mdel k l).Sublist l
  | [] => List.Sublist.refl _
  | (a, b) :: l => by
    unfold mdel
    split
    · exact List.sublist_cons_self _ _
    · exact (d_mdel_sub k l).cons_cons _
theorem d_mdel_not {k : κ} : ∀ {l : List (κ × ν)}, (l.map (·.1)).Nodup → k ∉ (mdel k l).map (·.1)
  | [], _ => by simp [mdel]
  | (a, b) :: l, hn => by
    simp only [List.map_cons, List.nodup_cons] at hn
    unfold mdel
    split
    · rename_i e; subst e; exact hn.1
    · rename_i e; simp only [List.map_cons, List.mem_cons, not_or]; exact ⟨e, d_mdel_not hn.2⟩
theorem d_mdel_val {k : κ} {v : ν} : ∀ {l : List (κ × ν)}, (l.map (·.2)).Nodup → mget k l = some v → v ∉ (mdel k l).map (·.2)
  | [], _, h => by cases h
  | (a, b) :: l, hn, h => by
    simp only [List.map_cons, List.nodup_cons] at hn
    unfold mget at h
    unfold mdel
    split at h
    · rename_i e; cases h; rw [if_pos e]; exact hn.1
    · rename_i e
      rw [if_neg e]
      simp only [List.map_cons, List.mem_cons, not_or]
      have h1 := d_mget_mem h
      refine ⟨fun e2 => hn.1 (e2 ▸ List.mem_map.2 ⟨(k, v), h1, rfl⟩), d_mdel_val hn.2 h⟩
theorem d_mput_keys (k : κ) (v : ν) : ∀ (l : List (κ × ν)), (mput k v l).map (·.1) = if k ∈ l.map (·.1) then l.map (·.1) else l.map (·.1) ++ [k]
  | [] => by simp [mput]
  | (a, b) :: l => by
    unfold mput
    split
    · rename_i e; subst e; simp
    · rename_i e
      simp only [List.map_cons, d_mput_keys k v l, List.mem_cons, e, false_or]
      split <;> simp
theorem d_mput_mem {k : κ} {v : ν} {x : κ × ν} : ∀ {l : List (κ × ν)}, x ∈ mput k v l → x = (k, v) ∨ x ∈ l
  | [], h => by simp [mput] at h; exact .inl h
  | (a, b) :: l, h => by
    unfold mput at h
    split at h
    · rcases List.mem_cons.1 h with e | e
      · exact .inl e
      · exact .inr (List.mem_cons_of_mem _ e)
    · rcases List.mem_cons.1 h with e | e
      · exact .inr (e ▸ List.mem_cons_self)
      · rcases d_mput_mem e with e | e
        · exact .inl e
        · exact .inr (List.mem_cons_of_mem _ e)
theorem d_mput_vals {k : κ} {v : ν} : ∀ {l : List (κ × ν)}, (l.map (·.2)).Nodup → v ∉ l.map (·.2) → ((mput k v l).map (·.2)).Nodup
  | [], _, _ => by simp [mput]
  | (a, b) :: l, hn, hv => by
    simp only [List.map_cons, List.nodup_cons, List.mem_cons, not_or] at hn hv
    unfold mput
    split
    · simp only [List.map_cons, List.nodup_cons]; exact ⟨hv.2, hn.2⟩
    · simp only [List.map_cons, List.nodup_cons]
      refine ⟨fun h => ?_, d_mput_vals hn.2 hv.2⟩
      obtain ⟨x, hx, he⟩ := List.mem_map.1 h
      rcases d_mput_mem hx with e | e
      · subst e; exact hv.1 he
      · exact hn.1 (List.mem_map.2 ⟨x, e, he⟩)
theorem d_mget_mput {k : κ} {v : ν} {j : κ} : ∀ {l : List (κ × ν)}, mget j (mput k v l) = if j = k then some v else mget j l
  | [] => by unfold mput mget; simp [mget]
  | (a, b) :: l => by
    unfold mput
    split
    · rename_i e; subst e
      unfold mget
      by_cases h : j = k <;> simp [h]
    · rename_i e
      unfold mget
      by_cases h : j = a
      · subst h; simp [show ¬ j = k from fun e2 => e e2.symm]
      · rw [if_neg h, d_mget_mput]; simp [h]
theorem d_mget_mdel {k j : κ} (hjk : j ≠ k) : ∀ {l : List (κ × ν)}, mget j (mdel k l) = mget j l
  | [] => rfl
  | (a, b) :: l => by
    unfold mdel
    split
    · rename_i e; subst e; conv => rhs; unfold mget; rw [if_neg hjk]
    · unfold mget
      by_cases h : j = a
      · simp [h]
      · rw [if_neg h, if_neg h]; exact d_mget_mdel hjk
end
structure KOk (ts : List Thg) (l : List (Str × Pt)) : Prop where
  keys : (l.map (·.1)).Nodup
  vals : (l.map (·.2)).Nodup
  some : ∀ x ∈ l, x.2 ∈ pts ts
  long : ∀ x ∈ l, 1 ≤ x.1.length
theorem KOk.nil (ts : List Thg) : KOk ts [] := ⟨by simp, by simp, by simp, by simp⟩
theorem KOk.names {ts : List Thg} {l : List (Str × Pt)} (h : KOk ts l) : Names ts l := fun x hx => by
  obtain ⟨t, ht, he⟩ := List.mem_map.1 (h.some x hx)
  exact ⟨t, ht, he.symm⟩
theorem KOk.to {ts ts' : List Thg} {l : List (Str × Pt)} (h : KOk ts l) (hp : ∀ x ∈ pts ts, x ∈ pts ts') : KOk ts' l := ⟨h.keys, h.vals, fun x hx => hp _ (h.some x hx), h.long⟩
theorem KOk.del {ts : List Thg} {l : List (Str × Pt)} (h : KOk ts l) (s : Str) : KOk ts (mdel s l) :=
  ⟨((d_mdel_sub s l).map _).nodup h.keys, ((d_mdel_sub s l).map _).nodup h.vals, fun x hx => h.some x ((d_mdel_sub s l).subset hx), fun x hx => h.long x ((d_mdel_sub s l).subset hx)⟩
theorem KOk.put {ts : List Thg} {l : List (Str × Pt)} (h : KOk ts l) {s : Str} (hs : 1 ≤ s.length) {v : Pt} (hv : v ∉ l.map (·.2)) (ht : v ∈ pts ts) : KOk ts (mput s v l) := by
  refine ⟨?_, d_mput_vals h.vals hv, fun x hx => ?_, fun x hx => ?_⟩
  · rw [d_mput_keys]
    split
    · exact h.keys
    · rename_i q
      rw [List.nodup_append]
      exact ⟨h.keys, by simp, by intro a ha b hb; simp at hb; subst hb; exact fun e => q (e ▸ ha)⟩
  · rcases d_mput_mem hx with e | e
    · subst e; exact ht
    · exact h.some x e
  · rcases d_mput_mem hx with e | e
    · subst e; exact hs
    · exact h.long x e
theorem sum_erase {α : Type} [DecidableEq α] (f : α → Nat) : ∀ (l : List α) (a : α), a ∈ l → (l.map f).sum = f a + ((l.erase a).map f).sum := by
  intro l a ha
  have := ((List.perm_cons_erase ha).map f).sum_nat
  simpa using this
theorem sum_sub {α : Type} [DecidableEq α] (f : α → Nat) : ∀ (l m : List α), l.Nodup → (∀ x ∈ l, x ∈ m) → (l.map f).sum ≤ (m.map f).sum
  | [], _, _, _ => by simp
  | a :: l, m, hn, hs => by
    simp only [List.nodup_cons] at hn
    rw [sum_erase f m a (hs a (by simp)), List.map_cons, List.sum_cons]
    have := sum_sub f l (m.erase a) hn.2 fun x hx => (List.mem_erase_of_ne (fun e => hn.1 (by rw [← e]; exact hx))).2 (hs x (by simp [hx]))
    omega
theorem used_le {ts : List Thg} {l : List (Str × Pt)} (hn : (ts.map (·.p)).Nodup) (h : KOk ts l) : usedL ts l ≤ (ts.map (·.bs.length)).sum := by
  have h1 := sum_sub (lenAt ts) (l.map (·.2)) (pts ts) h.vals (fun x hx => by obtain ⟨y, hy, he⟩ := List.mem_map.1 hx; exact he ▸ h.some y hy)
  unfold usedL
  rw [List.map_map] at h1
  have h2 : (pts ts).map (lenAt ts) = ts.map (·.bs.length) := by
    unfold pts
    rw [List.map_map]
    exact List.map_congr_left fun t ht => lenAt_of hn ht
  rw [h2] at h1
  exact h1
structure DOk (N : Nat) (m : Dk) : Prop where
  nm : m.nm = doAll m.sf m.ch
  keys : ∀ k, k ≤ m.ch.length → KOk m.ts (doAll m.sf (m.ch.take k))
  chs : ∀ k ∈ m.ch, k.t = none ∨ ∃ p, k.t = pt p
  safe : ∀ t ∈ m.ts, t.sf ≤ t.bs.length
  nts : m.ts.length ≤ N
  nch : m.ch.length ≤ N
  bytes : (m.ts.map (·.bs.length)).sum ≤ 1000 * N
theorem DOk.now {N : Nat} {m : Dk} (h : DOk N m) : KOk m.ts m.nm := by
  have := h.keys m.ch.length (Nat.le_refl _)
  rw [List.take_length, ← h.nm] at this
  exact this
theorem DOk.mono {N N' : Nat} {m : Dk} (h : DOk N m) (hn : N ≤ N') : DOk N' m := ⟨h.nm, h.keys, h.chs, h.safe, by have := h.nts; omega, by have := h.nch; omega, by have := h.bytes; omega⟩
theorem DOk.new (room : Int) : DOk 0 ⟨room, [], [], [], []⟩ := ⟨rfl, fun k hk => by simp [doAll]; exact KOk.nil _, by simp, by simp, Nat.le_refl _, Nat.le_refl _, by simp⟩
theorem mem_len {ts : List Thg} {t : Thg} (h : t ∈ ts) : t.bs.length ≤ (ts.map (·.bs.length)).sum := by
  induction ts with
  | nil => cases h
  | cons u ts ih =>
    simp only [List.map_cons, List.sum_cons]
    rcases List.mem_cons.1 h with e | e
    · subst e; omega
    · have := ih e; omega
theorem DOk.len {N : Nat} {m : Dk} (h : DOk N m) {t : Thg} (ht : t ∈ m.ts) : t.bs.length ≤ 1000 * N := Nat.le_trans (mem_len ht) h.bytes
theorem DOk.used {N : Nat} {m : Dk} (h : DOk N m) (hn : (m.ts.map (·.p)).Nodup) : usedL m.ts m.nm ≤ 1000 * N := Nat.le_trans (used_le hn h.now) h.bytes
theorem DOk.thing {N : Nat} {m : Dk} (h : DOk N m) {s : Str} {v : Pt} (hg : mget s m.nm = some v) : ∃ (i : Nat) (t : Thg), m.ts[i]? = some t ∧ v = pt t.p := by
  obtain ⟨t, ht, he⟩ := h.now.names _ (d_mget_mem hg)
  obtain ⟨i, hi⟩ := List.mem_iff_getElem?.1 ht
  exact ⟨i, t, hi, he⟩
theorem take_app {α : Type} {l : List α} {a : α} {k : Nat} (h : k ≤ l.length) : (l ++ [a]).take k = l.take k := by
  rw [List.take_append_of_le_length h]
theorem doAll_app (l : List (Str × Pt)) (cs : List Chg) (c : Chg) : doAll l (cs ++ [c]) = doC (doAll l cs) c := by simp [doAll]
theorem DOk.chg {N : Nat} {m : Dk} (h : DOk N m) {c : Chg} (hc : c.t = none ∨ ∃ p, c.t = pt p) (hk : KOk m.ts (doC m.nm c)) : DOk (N + 1) (chgD m c) := by
  refine ⟨?_, fun k hkl => ?_, fun k hk1 => ?_, h.safe, by have := h.nts; show m.ts.length ≤ N + 1; omega, by have := h.nch; show (m.ch ++ [c]).length ≤ N + 1; simp; omega, by have := h.bytes; show (m.ts.map (·.bs.length)).sum ≤ 1000 * (N + 1); omega⟩
  · show doC m.nm c = doAll m.sf (m.ch ++ [c])
    rw [doAll_app, ← h.nm]
  · show KOk m.ts (doAll m.sf ((m.ch ++ [c]).take k))
    have hkl' : k ≤ m.ch.length + 1 := by have : k ≤ (m.ch ++ [c]).length := hkl; simpa using this
    by_cases q : k ≤ m.ch.length
    · rw [take_app q]; exact h.keys k q
    · have : k = (m.ch ++ [c]).length := by simp; omega
      rw [this, List.take_length, doAll_app, ← h.nm]; exact hk
  · have : k ∈ m.ch ++ [c] := hk1
    rcases List.mem_append.1 this with e | e
    · exact h.chs k e
    · simp at e; subst e; exact hc
theorem DOk.things {N : Nat} {m : Dk} {ts : List Thg} (h : DOk N m) (hp : pts ts = pts m.ts) (hs : ∀ t ∈ ts, t.sf ≤ t.bs.length) (hb : (ts.map (·.bs.length)).sum ≤ 1000 * (N + 1)) : DOk (N + 1) { m with ts := ts } := by
  have hl : ts.length = m.ts.length := by have := congrArg List.length hp; simpa [pts] using this
  exact ⟨h.nm, fun k hk => (h.keys k hk).to (by intro x hx; show x ∈ pts ts; rw [hp]; exact hx), h.chs, hs, by have := h.nts; show ts.length ≤ N + 1; omega, by have := h.nch; show m.ch.length ≤ N + 1; omega, hb⟩
theorem DOk.rem {N : Nat} {m : Dk} (h : DOk N m) (s : Str) : DOk (N + 1) (chgD m ⟨s, [], none⟩) := h.chg (.inl rfl) (by unfold doC; simp; exact h.now.del s)
theorem DOk.ren {N : Nat} {m : Dk} (h : DOk N m) {s s2 : Str} {p : Nat} (hg : mget s m.nm = some (pt p)) (h2 : mayB s2 = true) : DOk (N + 1) (chgD m ⟨s2, s, pt p⟩) := by
  have hm := d_mget_mem hg
  have hs : ¬ s = [] := fun e => by have := h.now.long _ hm; subst e; simp at this
  refine h.chg (.inr ⟨p, rfl⟩) ?_
  unfold doC
  simp only [hs, if_false]
  have h2' : 1 ≤ s2.length := by unfold mayB at h2; simp at h2; exact h2.1
  exact (h.now.del s).put h2' (d_mdel_val h.now.vals hg) (h.now.some _ hm)
theorem doC_new {l : List (Str × Pt)} {s : Str} {p : Nat} : doC l ⟨s, [], pt p⟩ = mput s (pt p) l := by unfold doC; simp
theorem DOk.newT {N : Nat} {m : Dk} (h : DOk N m) {s : Str} {p : Nat} {bs : List Int} (hs : 1 ≤ s.length) (hp : ∀ t ∈ m.ts, t.p ≠ p) (hb : bs.length ≤ 1000) : DOk (N + 1) (newD m s p bs) := by
  have hpts : pts (m.ts ++ [(⟨p, bs, 0⟩ : Thg)]) = pts m.ts ++ [pt p] := by simp [pts]
  have hno : pt p ∉ pts m.ts := fun hx => by
    obtain ⟨t, ht, he⟩ := List.mem_map.1 hx
    simp at he; exact hp t ht he
  have hto : ∀ x ∈ pts m.ts, x ∈ pts (m.ts ++ [(⟨p, bs, 0⟩ : Thg)]) := fun x hx => by rw [hpts]; simp [hx]
  have hput : KOk (m.ts ++ [(⟨p, bs, 0⟩ : Thg)]) (doC m.nm ⟨s, [], pt p⟩) := by
    rw [doC_new]
    exact (h.now.to hto).put hs (fun hx => by obtain ⟨y, hy, he⟩ := List.mem_map.1 hx; exact hno (he ▸ h.now.some y hy)) (by rw [hpts]; simp)
  refine ⟨?_, fun k hkl => ?_, fun k hk1 => ?_, fun t ht => ?_, ?_, ?_, ?_⟩
  · show doC m.nm ⟨s, [], pt p⟩ = doAll m.sf (m.ch ++ [(⟨s, [], pt p⟩ : Chg)])
    rw [doAll_app, ← h.nm]
  · show KOk (m.ts ++ [(⟨p, bs, 0⟩ : Thg)]) (doAll m.sf ((m.ch ++ [(⟨s, [], pt p⟩ : Chg)]).take k))
    have hkl' : k ≤ m.ch.length + 1 := by have : k ≤ (m.ch ++ [(⟨s, [], pt p⟩ : Chg)]).length := hkl; simpa using this
    by_cases q : k ≤ m.ch.length
    · rw [take_app q]; exact (h.keys k q).to hto
    · have : k = (m.ch ++ [(⟨s, [], pt p⟩ : Chg)]).length := by simp; omega
      rw [this, List.take_length, doAll_app, ← h.nm]; exact hput
  · have : k ∈ m.ch ++ [(⟨s, [], pt p⟩ : Chg)] := hk1
    rcases List.mem_append.1 this with e | e
    · exact h.chs k e
    · rw [List.mem_singleton] at e; subst e; exact .inr ⟨p, rfl⟩
  · have : t ∈ m.ts ++ [(⟨p, bs, 0⟩ : Thg)] := ht
    rcases List.mem_append.1 this with e | e
    · exact h.safe t e
    · simp at e; subst e; simp
  · have := h.nts; show (m.ts ++ [(⟨p, bs, 0⟩ : Thg)]).length ≤ N + 1; simp; omega
  · have := h.nch; show (m.ch ++ [(⟨s, [], pt p⟩ : Chg)]).length ≤ N + 1; simp; omega
  · have := h.bytes; show ((m.ts ++ [(⟨p, bs, 0⟩ : Thg)]).map (·.bs.length)).sum ≤ 1000 * (N + 1); simp; omega
theorem sum_setT {ts : List Thg} {i : Nat} {t t' : Thg} (hi : ts[i]? = some t) : ((ts.set i t').map (·.bs.length)).sum + t.bs.length = (ts.map (·.bs.length)).sum + t'.bs.length := by
  induction ts generalizing i with
  | nil => simp at hi
  | cons u ts ih =>
    cases i with
    | zero => simp at hi; subst hi; simp; omega
    | succ i => have := ih (i := i) (by simpa using hi); simp at this ⊢; omega
theorem DOk.sync {N : Nat} {m : Dk} (h : DOk N m) {i : Nat} {t : Thg} (hi : m.ts[i]? = some t) : DOk (N + 1) { m with ts := m.ts.set i { t with sf := t.bs.length } } := by
  refine h.things (pts_set hi rfl) (fun u hu => ?_) ?_
  · rcases List.mem_or_eq_of_mem_set hu with e | e
    · exact h.safe u e
    · subst e; exact Nat.le_refl _
  · have := sum_setT (t' := { t with sf := t.bs.length }) hi
    have := h.bytes
    simp only at *
    omega
theorem DOk.app {N : Nat} {m : Dk} (h : DOk N m) {i : Nat} {t : Thg} (hi : m.ts[i]? = some t) {bs : List Int} (hb : bs.length ≤ 1000) : DOk (N + 1) { m with ts := m.ts.set i { t with bs := t.bs ++ bs } } := by
  refine h.things (pts_set hi rfl) (fun u hu => ?_) ?_
  · rcases List.mem_or_eq_of_mem_set hu with e | e
    · exact h.safe u e
    · subst e; have := h.safe t (List.mem_of_getElem? hi); simp; omega
  · have := sum_setT (t' := { t with bs := t.bs ++ bs }) hi
    have := h.bytes
    simp only [List.length_append] at *
    omega
theorem DOk.syncDir {N : Nat} {m : Dk} (h : DOk N m) : DOk (N + 1) { m with sf := m.nm, ch := [] } :=
  ⟨rfl, fun k _ => by simp [doAll]; exact h.now, by simp, h.safe, by have := h.nts; show m.ts.length ≤ N + 1; omega, Nat.zero_le _, by have := h.bytes; show (m.ts.map (·.bs.length)).sum ≤ 1000 * (N + 1); omega⟩
theorem cutN_le {cuts : List Int} {i : Nat} {t : Thg} (h : t.sf ≤ t.bs.length) : t.sf ≤ cutN cuts i t ∧ cutN cuts i t ≤ t.bs.length := by
  unfold cutN
  split
  · omega
  · have : (gd cuts (i % cuts.length)).toNat % (t.bs.length - t.sf + 1) < t.bs.length - t.sf + 1 := Nat.mod_lt _ (by omega)
    omega
theorem sum_crT (cuts : List Int) (ts : List Thg) (n : Nat) : ((crT cuts ts n).map (·.bs.length)).sum ≤ (ts.map (·.bs.length)).sum := by
  unfold crT
  have key : ∀ (l : List Thg) (f : Nat → Thg → Thg), (∀ j t, (f j t).bs.length ≤ t.bs.length) → ((l.mapIdx f).map (·.bs.length)).sum ≤ (l.map (·.bs.length)).sum := by
    intro l
    induction l with
    | nil => intro f _; simp
    | cons a l ih =>
      intro f hf
      have := ih (fun j t => f (j + 1) t) (fun j t => hf (j + 1) t)
      have h0 := hf 0 a
      simp only [List.mapIdx_cons, List.map_cons, List.sum_cons]
      exact Nat.add_le_add h0 this
  refine key ts _ fun j t => ?_
  show (if j < n then crt cuts j t else t).bs.length ≤ _
  split
  · simp [crt]; omega
  · exact Nat.le_refl _
theorem DOk.crash {N : Nat} {m : Dk} (h : DOk N m) {k : Nat} (hk : k ≤ m.ch.length) (cuts : List Int) : DOk (N + 1) (crD m k cuts) := by
  have hp := pts_crT cuts m.ts m.ts.length
  refine ⟨rfl, fun j _ => ?_, by simp [crD], fun t ht => ?_, ?_, Nat.zero_le _, ?_⟩
  · show KOk (crT cuts m.ts m.ts.length) (doAll (doAll m.sf (m.ch.take k)) (([] : List Chg).take j))
    simp only [List.take_nil]
    exact (h.keys k hk).to (by intro x hx; rw [hp]; exact hx)
  · obtain ⟨i, hi⟩ := List.mem_iff_getElem?.1 ht
    have hi' : (crT cuts m.ts m.ts.length)[i]? = some t := hi
    unfold crT at hi'
    rw [List.getElem?_mapIdx] at hi'
    cases hu : m.ts[i]? with
    | none => rw [hu] at hi'; cases hi'
    | some u =>
      rw [hu] at hi'
      simp only [Option.map_some, lt_of_get hu, if_true, Option.some.injEq] at hi'
      subst hi'
      have := cutN_le (cuts := cuts) (i := i) (h.safe u (List.mem_of_getElem? hu))
      simp [crt]; omega
  · have := h.nts; show (crT cuts m.ts m.ts.length).length ≤ N + 1; rw [crT_len]; omega
  · have := h.bytes; have h2 := sum_crT cuts m.ts m.ts.length
    show ((crT cuts m.ts m.ts.length).map (·.bs.length)).sum ≤ 1000 * (N + 1)
    omega
end Go.Vx
namespace Go.Vx
open Go.RowKit
def RdX (w : World) (v : Value) (k : Nat) (ls : List (List Value)) : Prop := Rd w v k ls ∨ (ls = [] ∧ ∃ a, v = .slice (some a) 0 0)
section
variable {w w0 : World} {M : Nat → Prop} {L : List Res} {v : Value} {k : Nat} {ls : List (List Value)}
theorem Rd.emp_own (h : Rd w v k []) (w' : World) : Rd w' v k [] := ⟨h.len, h.small, h.shape, by simp, h.room⟩
theorem RdX.own (h : RdX w0 v k ls) (hs : Own w0 M w L) (hm : ls ≠ [] → ¬ M (bkS v)) : RdX w v k ls := by
  rcases h with h | h
  · by_cases q : ls = []
    · subst q; exact .inl (h.emp_own w)
    · exact .inl (h.own hs (hm q))
  · exact .inr h
theorem RdX.own' (h : RdX w0 v k ls) (hs : Own w0 no w L) : RdX w v k ls := h.own hs (fun _ h => h)
theorem RdX.pos (h : RdX w v k ls) (hp : ls.length ≠ 0) : Rd w v k ls := by
  rcases h with h | h
  · exact h
  · exact absurd (by rw [h.1]; rfl) hp
theorem RdX.isl (h : RdX w v k ls) : ∃ a c, v = .slice a ls.length c := by
  rcases h with h | ⟨h, a, rfl⟩
  · exact h.len_eq
  · subst h; exact ⟨_, _, rfl⟩
theorem RdX.sml {α : Type} {enc : α → List Value} {l : List α} (h : RdX w v k (l.map enc)) : l.length ≤ 9223372036854775807 := by
  rcases h with h | ⟨h, _⟩
  · exact h.sml
  · have : l = [] := by simpa using h
    subst this; simp
theorem RdX.old (h : RdX w v k ls) (hk : 0 < k) (hp : ls ≠ []) : bkS v < w.heap.size := by
  have h1 := h.pos (by intro e; exact hp (List.eq_nil_of_length_eq_zero e))
  rcases h1.shape with ⟨_, e⟩ | ⟨b, o, c, rfl⟩
  · exact absurd e hp
  · cases ls with
    | nil => exact absurd rfl hp
    | cons l ls =>
      have hl := h1.len l (by simp)
      have h2 := h1.cell 0 0 l (l[0]'(by omega)) (by simp) (List.getElem?_eq_getElem _)
      exact World.block_lt_of_cell? w ⟨b, o + 0 * k + 0, none⟩ h2
end
section
variable {P : Program} {ty : TypeId} {e : Operand → Value} {w : World} {K : Value → World → Prop} {w0 : World} {M : Nat → Prop} {L : List Res}
theorem L_lenX {t el k n : Nat} {x : Operand} {v : Value} {ls : List (List Value)} (ht : Ud P t (.slice el)) (hr : RdX w v k ls) (hn : ls.length = n) (hx : e x = v) (h : K (.int .i64 n) w) : opW P (.call { callee := .builtin .len, args := #[x], argTypes := #[t] }) ty e w K := by
  obtain ⟨a, c, rfl⟩ := hr.isl
  subst hn
  exact L_lenS ht hx h
theorem L_appX {t el k bytes n : Nat} {x y : Operand} {v v2 : Value} {ls ls2 ls' : List (List Value)} (hE : El P t el k bytes) (hs : Own w0 M w L) (i : Nat) (hi : L[i]? = some (row v ls el k)) (hx : e x = v) (hy : e y = v2) (hr : RdX w v2 k ls2)
    (h1 : ∀ l ∈ ls2, ∀ u ∈ l, u.oneCell' = true) (hb : (ls.length + ls2.length) * (bytes + 1) ≤ 140737488355328) (hl : ls ++ ls2 = ls') (hn : ls'.length = n) (h : ∀ a c w', Own w0 M w' (L.set i (row (.slice a n c) ls' el k)) → K (.slice a n c) w') :
    opW P (.call { callee := .builtin .append, args := #[x, y], argTypes := #[t, t] }) ty e w K := by
  rcases hr with hr | ⟨hl2, a2, rfl⟩
  · exact L_appN hE hs i hi hx hy hr h1 hb hl hn h
  · subst hl2
    rw [List.append_nil] at hl
    subst hl
    subst hn
    obtain ⟨ht, ie, z, hie, hz, rfl, rfl, hzs, hk⟩ := hE
    obtain ⟨S, ⟨⟨hl1, ho1⟩, hown, hSg⟩, hSlt, hSM⟩ := hs.get i hi
    have key : ∃ a c, v = .slice a ls.length c ∧ (Builtin.append_ #[t, t] ty #[v, .slice (some a2) 0 0]).run P w = .ok v w := by
      rcases hown.2 with ⟨hv, hn⟩ | ⟨g, cap, cur, hv, hbg, hg, hnc, hcm, hcs, htake⟩
      · have hls : ls = [] := List.eq_nil_of_length_eq_zero hn
        subst hls; subst hv
        exact ⟨none, 0, rfl, by simp [Builtin.append_, run_underlying ht, sizeOf, typeInfo, hie, Builtin.lenOf, Builtin.firstCells, loadCells, loadCellsFrom]⟩
      · subst hv
        exact ⟨_, _, rfl, by simp [Builtin.append_, run_underlying ht, sizeOf, typeInfo, hie, Builtin.lenOf, Builtin.firstCells, loadCells, loadCellsFrom, hnc, storeCells]⟩
    obtain ⟨a, c, rfl, hrun⟩ := key
    refine opW_val (w' := w) ?_ (h a c w (hs.conv i hi fun S h => h))
    rw [BigFrame.execOp_builtin]
    simp only [List.map_toArray, List.map_cons, List.map_nil, hx, hy, BigFrame.builtin_append, Sem.run_bind, hrun, Result.andThen_ok, Sem.run_pure]
end
structure Dact where
  kind : Int
  nm : Str
  ot : Str
  ba : Option Addr
  bc : Nat
  bs : List Int
  chg : Int
  ca : Option Addr
  cc : Nat
  cuts : List Int
  num : Int
instance : Inhabited Dact := ⟨⟨0, [], [], none, 0, [], 0, none, 0, [], 0⟩⟩
def acc (x : Dact) : List Value := [.int .u8 x.kind, sv x.nm, sv x.ot, .slice x.ba x.bs.length x.bc, .int .u8 x.chg, .slice x.ca x.cuts.length x.cc, .int .i64 x.num]
structure ActOk (w : World) (x : Dact) : Prop where
  kind : 0 ≤ x.kind ∧ x.kind < 256
  rb : RdX w (.slice x.ba x.bs.length x.bc) 1 (x.bs.map (ic .u8))
  bs : ∀ y ∈ x.bs, 0 ≤ y ∧ y < 256
  chg : 0 ≤ x.chg ∧ x.chg < 256
  rc : RdX w (.slice x.ca x.cuts.length x.cc) 1 (x.cuts.map (ic .u8))
  cuts : ∀ y ∈ x.cuts, 0 ≤ y ∧ y < 256
  num : -9223372036854775808 ≤ x.num ∧ x.num ≤ 9223372036854775807
theorem ActOk.own' {w0 w : World} {L : List Res} {x : Dact} (h : ActOk w0 x) (hs : Own w0 no w L) : ActOk w x := ⟨h.kind, h.rb.own' hs, h.bs, h.chg, h.rc.own' hs, h.cuts, h.num⟩
theorem ActOk.ownS {w0 w : World} {M : Nat → Prop} {L : List Res} {x : Dact} (h : ActOk w0 x) (hs : Own w0 M w L) (hb : x.bs ≠ [] → ¬ M (bkS (.slice x.ba x.bs.length x.bc))) (hc : x.cuts ≠ [] → ¬ M (bkS (.slice x.ca x.cuts.length x.cc))) : ActOk w x :=
  ⟨h.kind, h.rb.own hs (fun q => hb (by intro e; exact q (by rw [e]; rfl))), h.bs, h.chg, h.rc.own hs (fun q => hc (by intro e; exact q (by rw [e]; rfl))), h.cuts, h.num⟩
end Go.Vx
namespace Go.Vx
open Go.RowKit
def zeroDk : List Value := [.int .i64 0, .slice none 0 0, .map none, .map none, .slice none 0 0, .bool false, .int .i64 0]
def Nob (w : World) (v : Value) : Prop := v = .pointer none ∨ ∃ b, v = .pointer (some ⟨b, 0, none⟩) ∧ CellsF w b zeroDk
theorem Nob.own' {w0 w : World} {L : List Res} {v : Value} (h : Nob w0 v) (hs : Own w0 no w L) : Nob w v := by
  rcases h with h | ⟨b, h, hc⟩
  · exact .inl h
  · exact .inr ⟨b, h, hc.own' hs⟩
def fewA (x : Dact) : Bool := ((decide (((x.nm.length : Nat) : Int) ≤ 50) && decide (((x.ot.length : Nat) : Int) ≤ 50)) && decide (((x.bs.length : Nat) : Int) ≤ 1000)) && decide (((x.cuts.length : Nat) : Int) ≤ 50)
theorem fewA_of {x : Dact} (h : fewA x = true) : x.nm.length ≤ 50 ∧ x.ot.length ≤ 50 ∧ x.bs.length ≤ 1000 ∧ x.cuts.length ≤ 50 := by
  unfold fewA at h
  simp at h
  omega
theorem dk_nodup {TD TT U8 TP TC : Nat} {w : World} {S : Nat → Prop} {b : Nat} {m : Dk} (h : (dkR TD TT U8 TP TC b m).holds w S) (hlt : ∀ b, S b → b < w.heap.size) : (m.ts.map (·.p)).Nodup := by
  obtain ⟨a, c, r1, r2, a2, c2, hs⟩ := dk_open h hlt
  exact hs.things 5 rfl
theorem act_out {w : World} {S : Nat → Prop} {x : Dact} (hx : ActOk w x) (hSM : ∀ b, S b → b < w.heap.size → no b) : (x.bs ≠ [] → ¬ S (bkS (.slice x.ba x.bs.length x.bc))) ∧ (x.cuts ≠ [] → ¬ S (bkS (.slice x.ca x.cuts.length x.cc))) :=
  ⟨fun h hS => hSM _ hS (hx.rb.old (by decide) (by simpa using h)), fun h hS => hSM _ hS (hx.rc.old (by decide) (by simpa using h))⟩
structure Qs (N : Nat) (s : Str) (p : Nat) (bs : List Int) (sf : Nat) (room : Int) (m : Dk) : Prop where
  ok : DOk N m
  get : mget s m.nm = some (pt p)
  at_ : ∃ i : Nat, m.ts[i]? = some ⟨p, bs, sf⟩
  room : m.room = room
structure Qt (N : Nat) (s : Str) (p : Nat) (bs : List Int) (sf : Nat) (room : Int) (m : Dk) : Prop where
  q : Qs N s p bs sf room m
  safe : mget s m.sf = some (pt p)
  ch : ∀ k ∈ m.ch, k.fr = [] ∧ k.to ≠ s
theorem Qs.i {N : Nat} {s : Str} {p : Nat} {bs : List Int} {sf : Nat} {room : Int} {m : Dk} (h : Qs N s p bs sf room m) : ∃ i : Nat, m.ts[i]? = some ⟨p, bs, sf⟩ := h.at_
theorem Qs.sync {N : Nat} {s : Str} {p : Nat} {bs : List Int} {sf : Nat} {room : Int} {m : Dk} (h : Qs N s p bs sf room m) {i : Nat} (hi : m.ts[i]? = some ⟨p, bs, sf⟩) : Qs (N + 1) s p bs bs.length room { m with ts := m.ts.set i ⟨p, bs, bs.length⟩ } :=
  ⟨h.ok.sync hi, h.get, ⟨i, by show (m.ts.set i _)[i]? = _; rw [List.getElem?_set_self (lt_of_get hi)]⟩, h.room⟩
theorem Qs.syncDir {N : Nat} {s : Str} {p : Nat} {bs : List Int} {sf : Nat} {room : Int} {m : Dk} (h : Qs N s p bs sf room m) : Qt (N + 1) s p bs sf room { m with sf := m.nm, ch := [] } :=
  ⟨⟨h.ok.syncDir, h.get, h.at_, h.room⟩, h.get, by simp⟩
theorem Qt.app {N : Nat} {s : Str} {p : Nat} {bs cs : List Int} {sf : Nat} {room : Int} {m : Dk} (h : Qt N s p bs sf room m) {i : Nat} (hi : m.ts[i]? = some ⟨p, bs, sf⟩) (hc : cs.length ≤ 1000) : Qt (N + 1) s p (bs ++ cs) sf room { m with ts := m.ts.set i ⟨p, bs ++ cs, sf⟩ } :=
  ⟨⟨h.q.ok.app hi hc, h.q.get, ⟨i, by show (m.ts.set i _)[i]? = _; rw [List.getElem?_set_self (lt_of_get hi)]⟩, h.q.room⟩, h.safe, h.ch⟩
theorem Qt.new {N : Nat} {s s2 : Str} {p p2 : Nat} {bs cs : List Int} {sf : Nat} {room : Int} {m : Dk} (h : Qt N s p bs sf room m) (hs : 1 ≤ s2.length) (hne : s2 ≠ s) (hp : ∀ t ∈ m.ts, t.p ≠ p2) (hc : cs.length ≤ 1000) : Qt (N + 1) s p bs sf room (newD m s2 p2 cs) := by
  obtain ⟨i, hi⟩ := h.q.at_
  refine ⟨⟨h.q.ok.newT hs hp hc, ?_, ⟨i, ?_⟩, h.q.room⟩, h.safe, fun k hk => ?_⟩
  · show mget s (doC m.nm ⟨s2, [], pt p2⟩) = _
    rw [doC_new, d_mget_mput, if_neg (fun e => hne e.symm)]; exact h.q.get
  · show (m.ts ++ [_])[i]? = _
    rw [List.getElem?_append_left (lt_of_get hi)]; exact hi
  · have : k ∈ m.ch ++ [(⟨s2, [], pt p2⟩ : Chg)] := hk
    rcases List.mem_append.1 this with e | e
    · exact h.ch k e
    · rw [List.mem_singleton] at e; subst e; exact ⟨rfl, hne⟩
theorem doAll_get {s : Str} : ∀ (cs : List Chg) (l : List (Str × Pt)), (∀ k ∈ cs, k.fr = [] ∧ k.to ≠ s) → mget s (doAll l cs) = mget s l
  | [], l, _ => rfl
  | c :: cs, l, h => by
    have h1 := h c (by simp)
    have : doAll l (c :: cs) = doAll (doC l c) cs := rfl
    rw [this, doAll_get cs _ fun k hk => h k (by simp [hk])]
    unfold doC
    rw [if_pos h1.1]
    dsimp only
    cases c.t with
    | none => exact d_mget_mdel (fun e => h1.2 e.symm)
    | some a => dsimp only; rw [d_mget_mput, if_neg (fun e => h1.2 e.symm)]
theorem Qt.crash {N : Nat} {s : Str} {p : Nat} {bs : List Int} {sf : Nat} {room : Int} {m : Dk} (h : Qt N s p bs sf room m) {k : Nat} (hk : k ≤ m.ch.length) (cuts : List Int) : ∃ n, sf ≤ n ∧ n ≤ bs.length ∧ Qs (N + 1) s p (bs.take n) n room (crD m k cuts) := by
  obtain ⟨i, hi⟩ := h.q.at_
  have hle := cutN_le (cuts := cuts) (i := i) (h.q.ok.safe _ (List.mem_of_getElem? hi))
  refine ⟨cutN cuts i ⟨p, bs, sf⟩, hle.1, hle.2, h.q.ok.crash hk cuts, ?_, ⟨i, ?_⟩, h.q.room⟩
  · show mget s (doAll m.sf (m.ch.take k)) = _
    rw [doAll_get _ _ fun k hk => h.ch k (List.mem_of_mem_take hk)]; exact h.safe
  · show (crT cuts m.ts m.ts.length)[i]? = _
    unfold crT
    rw [List.getElem?_mapIdx, hi]
    simp [lt_of_get hi, crt]
end Go.Vx
namespace Go.Vx
open Go.RowKit
theorem act_out' {w : World} {S S0 : Nat → Prop} {x : Dact} (hx : ActOk w x) (hb : x.bs ≠ [] → ¬ S (bkS (.slice x.ba x.bs.length x.bc))) (hc : x.cuts ≠ [] → ¬ S (bkS (.slice x.ca x.cuts.length x.cc))) (hSM : ∀ b, S0 b → b < w.heap.size → S b) :
    (x.bs ≠ [] → ¬ S0 (bkS (.slice x.ba x.bs.length x.bc))) ∧ (x.cuts ≠ [] → ¬ S0 (bkS (.slice x.ca x.cuts.length x.cc))) :=
  ⟨fun h hS => hb h (hSM _ hS (hx.rb.old (by decide) (by simpa using h))), fun h hS => hc h (hSM _ hS (hx.rc.old (by decide) (by simpa using h)))⟩
end Go.Vx
namespace Go.Vx
open Go.RowKit
section
variable {P : Program} {ty : TypeId} {e : Operand → Value} {w : World} {K : Value → World → Prop} {w0 : World} {M : Nat → Prop} {L : List Res}
theorem L_callF {α : Type} {f : FuncId} {xs : List Operand} {vs : List Value} {ats : Array TypeId} {V : α → Value} {R : Res} {R' : α → Res} {Lo : α → List Res} {F : α → World → Prop} {c : Nat} {o : Obj} (hf : En P f) (hef : e (.func f) = .func (.func f) #[] #[]) (hv : xs.map e = vs)
    (hs : Own w0 M w L) (i j : Nat) (hij : j ≠ i) (hi : L[i]? = some R) (hj : L[j]? = some (obj c o))
    (hc : ∀ S, R.holds w S → (∀ b, S b → b < w.heap.size) → ¬ S c → Calls P f vs.toArray w fun r w' => ∃ x, r = .returned (V x) ∧ Own w S w' (R' x :: Lo x) ∧ F x w') (h : ∀ x w', Own w0 M w' (L.set i (R' x) ++ Lo x) → F x w' → K (V x) w') :
    opW P (.call { callee := .value (.func f), args := xs.toArray, argTypes := ats }) ty e w K := by
  obtain ⟨S, hR, hlt, _, hd, hback⟩ := hs.lend3 i hi
  obtain ⟨Sk, hk, hdis⟩ := hd j hij _ hj
  have hno : ¬ S c := fun h => hdis c h hk.1
  exact L_callN hf hef (by rw [List.map_toArray, hv]) ((hc S hR hlt hno).mono fun r w' ⟨x, hr, ho, hF⟩ => ⟨V x, hr, h x w' (hback w' _ _ ho) hF⟩)
end
def DkF (w : World) (b : Nat) (m : Dk) : Prop := ∃ (a : Option Addr) (c r1 r2 : Nat) (a2 : Option Addr) (c2 : Nat), CellsF w b (dcl m.room a m.ts.length c r1 r2 a2 m.ch.length c2) ∧ MapF w r1 sv Value.pointer m.nm ∧ ThF w m.ts ∧ (m.ts.map (·.p)).Nodup
theorem dkf_of {TD TT U8 TP TC : Nat} {w : World} {S : Nat → Prop} {b : Nat} {m : Dk} (h : (dkR TD TT U8 TP TC b m).holds w S) (hlt : ∀ b, S b → b < w.heap.size) : DkF w b m := by
  obtain ⟨a, c, r1, r2, a2, c2, hs⟩ := dk_open h hlt
  exact ⟨a, c, r1, r2, a2, c2, hs.cellsf 0 rfl, hs.mapf 2 rfl, hs.thf 5 rfl, hs.things 5 rfl⟩
theorem Own.dkf {TD TT U8 TP TC : Nat} {w0 w : World} {M : Nat → Prop} {L : List Res} (hs : Own w0 M w L) (i : Nat) {b : Nat} {m : Dk} (hi : L[i]? = some (dkR TD TT U8 TP TC b m)) : DkF w b m := by
  obtain ⟨S, hS, hlt, _⟩ := hs.get i hi
  exact dkf_of hS hlt
def al0 : Dk := ⟨100, [], [], [], []⟩
def al1 (p : Nat) : Dk := ⟨100, [⟨p, [120, 121], 0⟩], [([97], pt p)], [], [⟨[97], [], pt p⟩]⟩
def al2 (p : Nat) : Dk := ⟨100, [⟨p, [120, 121], 2⟩], [([97], pt p)], [], [⟨[97], [], pt p⟩]⟩
def al3 (p : Nat) : Dk := ⟨100, [⟨p, [120, 121], 2⟩], [([97], pt p)], [([97], pt p)], []⟩
def al4 (p : Nat) : Dk := ⟨100, [⟨p, [120, 121, 122], 2⟩], [([97], pt p)], [([97], pt p)], []⟩
def al5 (p q : Nat) : Dk := ⟨100, [⟨p, [120, 121, 122], 2⟩, ⟨q, [113], 0⟩], [([97], pt p), ([98], pt q)], [([97], pt p)], [⟨[98], [], pt q⟩]⟩
def al6 (p q : Nat) : Dk := ⟨100, [⟨p, [120, 121], 2⟩, ⟨q, [], 0⟩], [([97], pt p)], [([97], pt p)], []⟩
theorem al_used {p q : Nat} (h : p ≠ q) : usedL (al5 p q).ts (al5 p q).nm = 4 := by
  simp [al5, usedL, lenAt, h, fun e : q = p => h e.symm]
end Go.Vx
namespace Go.Vx
open Go.RowKit
def sQ : Str := [113, 117, 105, 116, 101, 32, 97, 110, 111, 116, 104, 101, 114, 32, 110, 97, 109, 101]
def lenN (m : Dk) (s : Str) : Nat := lenAt m.ts ((mget s m.nm).getD none)
theorem lenN_of {N : Nat} {m : Dk} (h : DOk N m) (hn : (m.ts.map (·.p)).Nodup) {s : Str} (hs : s ∈ m.nm.map (·.1)) : ∃ (i : Nat) (t : Thg), m.ts[i]? = some t ∧ mget s m.nm = some (pt t.p) ∧ lenN m s = t.bs.length := by
  obtain ⟨x, hx, he⟩ := List.mem_map.1 hs
  have h1 := d_mget_of_mem h.now.keys hx
  rw [he] at h1
  obtain ⟨i, t, hi, hv⟩ := h.thing h1
  rw [hv] at h1
  refine ⟨i, t, hi, h1, ?_⟩
  unfold lenN
  rw [h1]
  exact lenAt_of hn (List.mem_of_getElem? hi)
theorem sum_names {N : Nat} {m : Dk} (h : DOk N m) {l : List Str} (hp : l.Perm (m.nm.map (·.1))) : (l.map (lenN m)).sum = usedL m.ts m.nm := by
  rw [(hp.map (lenN m)).sum_nat, List.map_map]
  unfold usedL
  congr 1
  refine List.map_congr_left fun x hx => ?_
  simp only [Function.comp, lenN]
  have : mget x.1 m.nm = some x.2 := d_mget_of_mem h.now.keys hx
  rw [this]; rfl
theorem sum_take {m : Dk} {l : List Str} {j : Nat} (h : j < l.length) : ((l.take (j + 1)).map (lenN m)).sum = ((l.take j).map (lenN m)).sum + lenN m (gd l j) := by
  rw [List.take_add_one, gd_get h]
  simp
theorem sum_take_le {m : Dk} {l : List Str} {j U : Nat} (h : (l.map (lenN m)).sum = U) : ((l.take j).map (lenN m)).sum ≤ U := by
  have := congrArg (fun x => (x.map (lenN m)).sum) (List.take_append_drop j l)
  simp only [List.map_append, List.sum_append] at this
  omega
end Go.Vx
namespace Go.Vx
section
variable {α : Type} [Inhabited α]
structure CmpO (cf : α → α → Int) : Prop where
  irr : ∀ x, ¬ cf x x < 0
  tot : ∀ x y, cf x y < 0 → ¬ cf y x < 0
  tr : ∀ x y z, ¬ cf y x < 0 → ¬ cf z y < 0 → ¬ cf z x < 0
variable {cf : α → α → Int}
theorem gd_app_l {l m : List α} {i : Nat} (h : i < l.length) : gd (l ++ m) i = gd l i := by simp [gd, List.getElem?_append_left h]
theorem gd_app_r {l m : List α} {i : Nat} (h : l.length ≤ i) : gd (l ++ m) i = gd m (i - l.length) := by simp [gd, List.getElem?_append_right h]
theorem mem_gd {l : List α} {x : α} (h : x ∈ l) : ∃ i, i < l.length ∧ gd l i = x := by
  obtain ⟨i, hi, rfl⟩ := List.mem_iff_getElem.1 h
  exact ⟨i, hi, by simp [gd, hi]⟩
def PermSeg (l l2 : List α) (a b : Nat) : Prop := ∃ A X Z B, l = A ++ X ++ B ∧ l2 = A ++ Z ++ B ∧ A.length = a ∧ a + X.length = b ∧ Z.Perm X
omit [Inhabited α] in
theorem PermSeg.len {l l2 : List α} {a b : Nat} (h : PermSeg l l2 a b) : l2.length = l.length := by
  obtain ⟨A, X, Z, B, rfl, rfl, _, _, hp⟩ := h
  simp [hp.length_eq]
omit [Inhabited α] in
theorem cut3 (l : List α) {a b : Nat} (h : a ≤ b) (hb : b ≤ l.length) : l = l.take a ++ (l.take b).drop a ++ l.drop b ∧ (l.take a).length = a ∧ a + ((l.take b).drop a).length = b := by
  refine ⟨?_, by rw [List.length_take]; omega, by rw [List.length_drop, List.length_take]; omega⟩
  have e : l.take a = (l.take b).take a := by rw [List.take_take]; congr 1; omega
  rw [e, List.take_append_drop, List.take_append_drop]
omit [Inhabited α] in
theorem PermSeg.refl (l : List α) {a b : Nat} (h : a ≤ b) (hb : b ≤ l.length) : PermSeg l l a b := by
  obtain ⟨h1, h2, h3⟩ := cut3 l h hb
  exact ⟨_, _, _, _, h1, h1, h2, h3, List.Perm.refl _⟩
omit [Inhabited α] in
theorem app3_inj {A X B A2 X2 B2 : List α} (h : A ++ X ++ B = A2 ++ X2 ++ B2) (h1 : A.length = A2.length) (h2 : X.length = X2.length) : A = A2 ∧ X = X2 ∧ B = B2 := by
  rw [List.append_assoc, List.append_assoc] at h
  obtain ⟨e1, e2⟩ := List.append_inj h h1
  obtain ⟨e3, e4⟩ := List.append_inj e2 h2
  exact ⟨e1, e3, e4⟩
omit [Inhabited α] in
theorem PermSeg.trans {l m n : List α} {a b : Nat} (h : PermSeg l m a b) (g : PermSeg m n a b) : PermSeg l n a b := by
  obtain ⟨A, X, Z, B, rfl, rfl, ha, hb, hp⟩ := h
  obtain ⟨A2, X2, Z2, B2, e, rfl, ha2, hb2, hp2⟩ := g
  have hz := hp.length_eq
  obtain ⟨rfl, rfl, rfl⟩ := app3_inj e (by omega) (by omega)
  exact ⟨_, _, _, _, rfl, rfl, ha, hb, hp2.trans hp⟩
omit [Inhabited α] in
theorem PermSeg.wide {l m : List α} {a b a2 b2 : Nat} (h : PermSeg l m a b) (h1 : a2 ≤ a) (h2 : b ≤ b2) (h3 : b2 ≤ l.length) : PermSeg l m a2 b2 := by
  obtain ⟨A, X, Z, B, rfl, rfl, rfl, rfl, hp⟩ := h
  have hz := hp.length_eq
  simp only [List.length_append] at h3
  refine ⟨A.take a2, A.drop a2 ++ X ++ B.take (b2 - (A.length + X.length)), A.drop a2 ++ Z ++ B.take (b2 - (A.length + X.length)), B.drop (b2 - (A.length + X.length)), ?_, ?_, by rw [List.length_take]; omega, by simp only [List.length_append, List.length_drop, List.length_take]; omega, (hp.append_left _).append_right _⟩
  · have e1 := List.take_append_drop a2 A
    have e2 := List.take_append_drop (b2 - (A.length + X.length)) B
    calc A ++ X ++ B = (A.take a2 ++ A.drop a2) ++ X ++ (B.take (b2 - (A.length + X.length)) ++ B.drop (b2 - (A.length + X.length))) := by rw [e1, e2]
      _ = _ := by simp only [List.append_assoc]
  · have e1 := List.take_append_drop a2 A
    have e2 := List.take_append_drop (b2 - (A.length + X.length)) B
    calc A ++ Z ++ B = (A.take a2 ++ A.drop a2) ++ Z ++ (B.take (b2 - (A.length + X.length)) ++ B.drop (b2 - (A.length + X.length))) := by rw [e1, e2]
      _ = _ := by simp only [List.append_assoc]
theorem PermSeg.out {l m : List α} {a b i : Nat} (h : PermSeg l m a b) (hi : i < a ∨ b ≤ i) : gd m i = gd l i := by
  obtain ⟨A, X, Z, B, rfl, rfl, rfl, rfl, hp⟩ := h
  have hz := hp.length_eq
  rcases hi with hi | hi
  · rw [List.append_assoc, List.append_assoc, gd_app_l hi, gd_app_l hi]
  · rw [gd_app_r (by simp only [List.length_append]; omega), gd_app_r (by simp only [List.length_append]; omega)]
    simp only [List.length_append]; congr 1; omega
def OrdSeg (cf : α → α → Int) (l : List α) (a b : Nat) : Prop := ∀ i j, a ≤ i → i < j → j < b → ¬ cf (gd l j) (gd l i) < 0
theorem OrdSeg.out {l m : List α} {a b c d : Nat} (h : OrdSeg cf l a b) (g : PermSeg l m c d) (hd : b ≤ c ∨ d ≤ a) : OrdSeg cf m a b := by
  intro i j hi hij hj
  rw [g.out (by omega), g.out (by omega)]
  exact h i j hi hij hj
theorem OrdSeg.sub {l : List α} {a b c d : Nat} (h : OrdSeg cf l a b) (h1 : a ≤ c) (h2 : d ≤ b) : OrdSeg cf l c d := fun i j hi hij hj => h i j (by omega) hij (by omega)
theorem OrdSeg.small {l : List α} {a b : Nat} (h : b ≤ a + 1) : OrdSeg cf l a b := fun i j hi hij hj => by omega
theorem PermSeg.from {l m : List α} {a b i : Nat} (h : PermSeg l m a b) (h1 : a ≤ i) (h2 : i < b) : ∃ k, a ≤ k ∧ k < b ∧ gd m i = gd l k := by
  obtain ⟨A, X, Z, B, rfl, rfl, rfl, rfl, hp⟩ := h
  have hz := hp.length_eq
  have e1 : gd (A ++ Z ++ B) i = gd Z (i - A.length) := by rw [List.append_assoc, gd_app_r (by omega), gd_app_l (by omega)]
  have hm : gd Z (i - A.length) ∈ Z := gd_mem (by omega)
  obtain ⟨k, hk, e⟩ := mem_gd (hp.mem_iff.1 hm)
  refine ⟨A.length + k, by omega, by omega, ?_⟩
  rw [e1, ← e, List.append_assoc, gd_app_r (by omega), gd_app_l (by omega)]
  congr 1; omega
end
end Go.Vx
namespace Go.Vx
section
variable {α : Type} [Inhabited α] {cf : α → α → Int}
def RotSeg (l l2 : List α) (a m b : Nat) : Prop := ∃ A X Y B, l = A ++ X ++ Y ++ B ∧ l2 = A ++ Y ++ X ++ B ∧ A.length = a ∧ a + X.length = m ∧ m + Y.length = b
omit [Inhabited α] in
theorem RotSeg.refl {l : List α} {a m b : Nat} (h1 : a ≤ m) (h2 : m ≤ b) (h3 : b ≤ l.length) (h : a = m ∨ m = b) : RotSeg l l a m b := by
  obtain ⟨e1, e2, e3⟩ := cut3 l h1 (Nat.le_trans h2 h3)
  obtain ⟨f1, f2, f3⟩ := cut3 l h2 h3
  obtain ⟨g1, g2, g3⟩ := cut3 l (Nat.le_trans h1 h2) h3
  rcases h with h | h
  · subst h
    exact ⟨_, [], _, _, by simpa using g1, by simpa using g1, g2, by simp, g3⟩
  · subst h
    exact ⟨_, _, [], _, by simpa using e1, by simpa using e1, e2, e3, by simp⟩
end
end Go.Vx
namespace Go.Vx
def StaOk (s : Sta) : Prop := VecOk s.known ∧ (∀ e ∈ s.ents, CenOk e) ∧ ∀ x ∈ s.ticks, LstOk x
end Go.Vx
namespace Go.Vx
theorem Own.sel {w0 w : World} {M : Nat → Prop} {L : List Res} (h : Own w0 M w L) (is : List Nat) {L' : List Res} (hn : is.Nodup) (he : (is.map fun i => L[i]?) = L'.map some) : Own w0 M w L' := by
  obtain ⟨a, b, c, d, e, S, f, g, i, j⟩ := h
  have key : ∀ {k : Nat} {R : Res}, L'[k]? = some R → ∃ n, is[k]? = some n ∧ L[n]? = some R := fun {k R} hk => by
    have h1 : (is.map fun i => L[i]?)[k]? = (L'.map some)[k]? := by rw [he]
    rw [List.getElem?_map, List.getElem?_map, hk] at h1
    cases hi : is[k]? with
    | none => rw [hi] at h1; cases h1
    | some n => rw [hi] at h1; exact ⟨n, rfl, by simpa using h1⟩
  refine ⟨a, b, c, d, e, fun k b => ∃ n, is[k]? = some n ∧ S n b, fun k R hk => ?_, ?_, ?_, ?_⟩
  · obtain ⟨n, h1, h2⟩ := key hk
    have e1 : (fun b => ∃ m, is[k]? = some m ∧ S m b) = S n := by
      funext b; apply propext
      constructor
      · rintro ⟨m, h3, h4⟩; rw [h1] at h3; cases h3; exact h4
      · exact fun h => ⟨n, h1, h⟩
    show R.holds w (fun b => ∃ m, is[k]? = some m ∧ S m b)
    rw [e1]; exact f n R h2
  · rintro k b ⟨n, _, h⟩; exact g n b h
  · rintro k k' b ⟨n, h1, h2⟩ ⟨m, h3, h4⟩
    have hnm := i n m b h2 h4
    subst hnm
    have hk : k < is.length := by rcases Nat.lt_or_ge k is.length with q | q; exact q; rw [List.getElem?_eq_none q] at h1; cases h1
    have hk' : k' < is.length := by rcases Nat.lt_or_ge k' is.length with q | q; exact q; rw [List.getElem?_eq_none q] at h3; cases h3
    rw [List.getElem?_eq_getElem hk] at h1
    rw [List.getElem?_eq_getElem hk'] at h3
    exact (List.getElem_inj hn).1 ((Option.some.inj h1).trans (Option.some.inj h3).symm)
  · rintro k b ⟨n, _, h⟩ hb; exact j n b h hb
theorem Seq.take {l : List Opn} (h : Seq l) : ∀ k, Seq (l.take k) := by
  induction h with
  | nil => intro k; rw [List.take_nil]; exact .nil
  | @snoc l o h1 h2 h3 h4 h5 h6 ih =>
    intro k
    rcases Nat.lt_or_ge l.length k with q | q
    · rw [List.take_of_length_le (by rw [List.length_append, List.length_singleton]; omega)]; exact .snoc h1 h2 h3 h4 h5 h6
    · rw [List.take_append_of_le_length q]; exact ih k
theorem putT_ok {c t : Int} (h : LstOk ⟨c, t⟩) : ∀ {l : List Lst}, (∀ x ∈ l, LstOk x) → ∀ x ∈ putT c t l, LstOk x
  | [], _, x, hx => by simp [putT] at hx; subst hx; exact h
  | y :: l, hl, x, hx => by
    have hy := hl y (by simp)
    have hl' : ∀ x ∈ l, LstOk x := fun z hz => hl z (by simp [hz])
    unfold putT at hx
    split at hx
    · rcases List.mem_cons.1 hx with g | g
      · subst g
        obtain ⟨h1, h2, h3⟩ := h
        obtain ⟨k1, k2, k3⟩ := hy
        dsimp only at h1 h2 h3
        exact ⟨h1, by show 0 ≤ max y.tick t; omega, by show max y.tick t < _; omega⟩
      · exact hl' x g
    · split at hx
      · rcases List.mem_cons.1 hx with g | g
        · subst g; exact h
        · exact hl x g
      · rcases List.mem_cons.1 hx with g | g
        · subst g; exact hy
        · exact putT_ok h hl' x g
theorem entO_ok {o : Opn} (h : OpnOk o) : CenOk (entO o) := by
  obtain ⟨h1, h2, h3, h4, h5, h6, h7⟩ := h
  have := vsum_bd h7
  exact ⟨h3, h4, h5, h2, h1, by show 0 ≤ cntO o; unfold cntO; omega, by show cntO o < _; unfold cntO; omega⟩
theorem applyE_ok {s : Sta} {o : Opn} (hs : StaOk s) (ho : OpnOk o) : StaOk (applyE s o) := by
  obtain ⟨h1, h2, h3⟩ := hs
  refine ⟨?_, ?_, ?_⟩
  · exact vset_ok h1 _ ho.1.2.1 ho.1.2.2
  · intro e he
    unfold applyE at he
    dsimp only at he
    split at he
    · rcases mem_putE.1 he with g | g
      · subst g; exact entO_ok ho
      · exact h2 e (List.mem_filter.1 g).1
    · exact h2 e (List.mem_filter.1 he).1
  · intro x hx
    exact putT_ok ⟨ho.2.2.1, ho.2.2.2.2.2.1⟩ h3 x hx
theorem szero_ok : StaOk szero := ⟨vzero_ok, (fun _ h => by cases h), (fun _ h => by cases h)⟩
theorem Seq.ok {l : List Opn} (h : Seq l) : StaOk (allE l) := by
  induction h with
  | nil => exact szero_ok
  | snoc h1 h2 h3 h4 h5 h6 ih => rw [allE_snoc]; exact applyE_ok ih h2
end Go.Vx
namespace Go.Proofs
open Go Go.Vx Go.RowKit
namespace Tt
theorem S1_3 : T1 Try.prog 3 := ⟨Try.sizeOf3, Try.isAgg3⟩
theorem S1_40 : T1 Try.prog 40 := ⟨Try.sizeOf40, Try.isAgg40⟩
set_option maxRecDepth 20000 in
theorem BT_44 : Bt Try.prog 44 [(0, 1), (1, 1), (2, 1), (3, 1), (4, 1), (5, 1), (6, 1)] ([.int .i64 0, .slice none 0 0, .map none, .map none, .slice none 0 0, .bool false, .int .i64 0]) := Bt_struct Try.type44 rfl rfl Try.underlying44 (by kernel_rfl)
set_option maxRecDepth 20000 in
theorem BT_57 : Bt Try.prog 57 [(0, 1), (1, 1), (2, 1)] (chc (⟨[], [], none⟩ : Chg)) := Bt_struct Try.type57 rfl rfl Try.underlying57 (by kernel_rfl)
set_option maxRecDepth 20000 in
theorem BT_60 : Bt Try.prog 60 [(0, 1), (1, 1)] ([.slice none 0 0, .int .i64 0]) := Bt_struct Try.type60 rfl rfl Try.underlying60 (by kernel_rfl)
set_option maxRecDepth 20000 in
theorem EL_40 : El Try.prog 40 52 1 8 := ⟨Try.underlying40, _, _, Try.type52, rfl, rfl, rfl, rfl, by decide⟩
theorem EN_17 : En Try.prog 17 := Try.call17
theorem EN_20 : En Try.prog 20 := Try.call20
theorem EN_22 : En Try.prog 22 := Try.call22
theorem EN_23 : En Try.prog 23 := Try.call23
theorem EN_24 : En Try.prog 24 := Try.call24
theorem FA_44_0 : FA Try.prog 44 0 0 := fun b o w => by simp [Instr.fieldAt, Instr.sureAddr, fieldPlace, add_eq]
theorem FA_44_1 : FA Try.prog 44 1 1 := fun b o w => by simp [Instr.fieldAt, Instr.sureAddr, fieldPlace, add_eq]
theorem FA_44_3 : FA Try.prog 44 3 3 := fun b o w => by simp [Instr.fieldAt, Instr.sureAddr, fieldPlace, add_eq]
theorem FA_60_1 : FA Try.prog 60 1 1 := fun b o w => by simp [Instr.fieldAt, Instr.sureAddr, fieldPlace, add_eq]
theorem UD_40 : Ud Try.prog 40 (.slice 52) := Try.runUnderlying40
end Tt
end Go.Proofs
namespace Go.Vx
open Go.RowKit Go.Shelf Go.Sort Go.Proofs
section
variable {P : Program} {ρ : Ren} {α : Type} [Inhabited α]
theorem flatK_at {enc : α → List Value} {k : Nat} {l : List α} (hk : ∀ x, (enc x).length = k) {j : Nat} (hj : j < l.length * k) : (l.map enc).flatten[j]? = some (flatK enc k l.toArray)[j]! := by
  have hk0 : 0 < k := by
    rcases Nat.eq_zero_or_pos k with h | h
    · subst h; simp at hj
    · exact h
  have hi : j / k < l.length := Nat.div_lt_of_lt_mul (by rw [Nat.mul_comm]; exact hj)
  have hm : j % k < k := Nat.mod_lt _ hk0
  have e1 : (l.map enc)[j / k]? = some (enc l[j / k]) := by simp [hi]
  have e2 : (enc l[j / k])[j % k]? = some (enc l[j / k])[j % k]! := by
    rw [List.getElem?_eq_getElem (by rw [hk]; exact hm), List.getElem!_eq_getElem?_getD, List.getElem?_eq_getElem (by rw [hk]; exact hm)]
    rfl
  have h := flat_at (l.map enc) k (len_map hk l) (j / k) (j % k) _ _ e1 e2
  rw [Nat.mul_comm, Nat.div_add_mod] at h
  rw [h, get_flatK enc k l.toArray j (by simpa using hj)]
  simp [hi]
theorem own_sorted {enc : α → List Value} {k : Nat} {w : World} {S : Nat → Prop} {g cap T n : Nat} {l m : List α} {os : Array Obj} (hk : ∀ x, (enc x).length = k) (h1 : ∀ x, ∀ v ∈ enc x, v.oneCell' = true)
    (hR : (row (.slice (some ⟨g, 0, none⟩) l.length cap) (l.map enc) T k).holds w S) (hlt : ∀ b, S b → b < w.heap.size) (hlen : m.length = l.length) :
    Own w S (sortWorldK enc k w g 0 n m.toArray os) [row (.slice (some ⟨g, 0, none⟩) l.length cap) (m.map enc) T k] := by
  obtain ⟨_, hown, hS⟩ := hR
  have hSg := hS g rfl
  have hgl := hlt g hSg
  rcases hown.2 with ⟨hv, _⟩ | ⟨g', cap', cur, hv, _, hg, hnc, hcm, hcs, htake⟩
  · cases hv
  · simp only [Value.slice.injEq, Option.some.injEq, Addr.mk.injEq, and_true] at hv
    obtain ⟨rfl, hn, rfl⟩ := hv
    simp only [List.length_map] at hnc htake hn
    have hX : ∀ c, c < w.heap.size → (sortWorldK enc k w g 0 n m.toArray os).heap[c]? = (w.heap.modify g (onCells (putCells id 0 (flatK enc k m.toArray))))[c]? := by
      intro c hc
      show ((w.heap.modify g (onCells (putCells id 0 (flatK enc k m.toArray)))) ++ os)[c]? = _
      rw [Array.getElem?_append_left (by simpa using hc)]
    have hXg : (sortWorldK enc k w g 0 n m.toArray os).heap[g]? = some (.cells (putCells id 0 (flatK enc k m.toArray) cur) T (0, 0)) := by
      rw [hX g hgl, Array.getElem?_modify, if_pos rfl, hg]; rfl
    have hXo : ∀ c, c < w.heap.size → c ≠ g → (sortWorldK enc k w g 0 n m.toArray os).heap[c]? = w.heap[c]? := by
      intro c hc hne
      rw [hX c hc, Array.getElem?_modify, if_neg (fun e => hne e.symm)]
    have hsz : (sortWorldK enc k w g 0 n m.toArray os).heap.size = w.heap.size + os.size := by
      show ((w.heap.modify g (onCells (putCells id 0 (flatK enc k m.toArray)))) ++ os).size = _
      simp
    refine ⟨rfl, ⟨rfl, Nat.le_add_right _ _⟩, rfl, by omega, fun b hb hm => hXo b hb (fun e => hm (e ▸ hSg)), fun j b => j = 0 ∧ b = g, fun j R hj => ?_, fun j b hb => by rw [hb.2]; omega, fun j j' b hb hb' => hb.1.trans hb'.1.symm, fun j b hb _ => by rw [hb.2]; exact hSg⟩
    cases j with
    | succ j => simp at hj
    | zero =>
      simp only [List.getElem?_cons_zero, Option.some.injEq] at hj
      subst hj
      refine ⟨⟨len_map hk m, one_map h1 m⟩, ⟨?_, .inr ⟨g, cap, _, by rw [List.length_map, hlen], Nat.zero_le _, hXg, by rw [List.length_map]; omega, hcm, by unfold putCells; simpa using hcs, ?_⟩⟩, fun g' hg' => by cases hg'; exact ⟨rfl, rfl⟩⟩
      · rw [flat_len _ (len_map hk m)]
      · apply List.ext_getElem?
        intro j
        rw [List.getElem?_take, List.length_map]
        by_cases hj : j < m.length * k
        · have hjc : j < cur.size := by
            rw [hcs]
            exact Nat.lt_of_lt_of_le hj (Nat.mul_le_mul_right _ (by omega))
          rw [if_pos hj, flatK_at hk hj, Array.getElem?_toList]
          unfold putCells
          rw [Array.getElem?_mapIdx, Array.getElem?_eq_getElem hjc]
          simp [hj]
        · rw [if_neg hj, List.getElem?_eq_none (by rw [flat_len _ (len_map hk m), List.length_map]; omega)]
end
end Go.Vx
namespace Go.Vx
open Go.RowKit Go.Shelf Go.Sort Go.Proofs
theorem flat_str (d : Array Str) : ∀ i, i < d.size → (flatK sc 1 d)[i]! = encStr d[i]! := by
  intro i hi
  rw [get_flatK sc 1 d i (by omega)]
  simp [Nat.div_one, Nat.mod_one, sc]
theorem putRow_str (w : World) (b : Nat) (d : Array Str) : putRowK sc 1 w b 0 d = putRow encStr w b 0 d := by
  unfold putRowK putRow
  congr 1
  funext c
  unfold putCells
  have hs : (flatK sc 1 d).size = d.size := by simp [flatK]
  rw [hs]
  apply Array.ext_getElem?
  intro i
  simp only [Array.getElem?_mapIdx]
  cases c[i]? with
  | none => rfl
  | some x =>
    simp only [Option.map_some]
    by_cases h : 0 ≤ i ∧ i < 0 + d.size
    · rw [if_pos h, if_pos h, id, flat_str d (i - 0) (by omega)]
    · rw [if_neg h, if_neg h]
def SortP (P : Program) (f T : Nat) : Prop :=
  ∀ w S a c l, (row (.slice a (List.length l) c) (l.map sc) T 1).holds w S → (∀ b, S b → b < w.heap.size) → l.length < 4611686018427387904 →
    Calls P f #[.slice a l.length c] w fun e w' => ∃ x : { m : List Str // m.Perm l }, e = .returned (.tuple #[]) ∧ Own w S w' [row (.slice a l.length c) (x.1.map sc) T 1] ∧ True
theorem sortP_of {P : Program} {ρ : Ren} (L : SlLaysM.n6 P ρ) (T : Nat) : SortP P (ρ.f 6) T := by
  intro w S a c l hR hlt hsz
  have hR' := hR
  obtain ⟨_, hown, hS⟩ := hR
  rcases hown.2 with ⟨hv, hn⟩ | ⟨b, cap, cur, hv, _, hb, hnc, hcm, hcs, htake⟩
  · have hl : l = [] := by simpa using hn
    subst hl
    simp only [List.length_nil, Value.slice.injEq] at hv
    obtain ⟨rfl, _, rfl⟩ := hv
    exact (AnyM.slices_Sort_string_none L none 0 w).mono fun e w' ⟨he, hw⟩ => ⟨⟨[], List.Perm.refl _⟩, he, by subst hw; exact Own.lent hR' hlt, trivial⟩
  · simp only [Value.slice.injEq, List.length_map] at hv
    obtain ⟨rfl, _, rfl⟩ := hv
    have hbl := hlt b (hS b rfl)
    have hH : Holds encStr w b 0 l.toArray := by
      intro j hj
      have hj' : j < l.length := by simpa using hj
      rw [Nat.zero_add]
      refine ⟨?_, frozen_of_row w b _ _ _ hb⟩
      rw [cell_of_row w b j _ _ _ hb]
      have h2 := flatK_at (enc := sc) (k := 1) (l := l) (fun _ => rfl) (j := j) (by omega)
      rw [← htake, List.getElem?_take, List.length_map, if_pos (by omega)] at h2
      rw [flat_str l.toArray j (by simpa using hj)] at h2
      simpa using h2
    refine (AnyM.slices_Sort_string L b 0 c l w hH hbl hsz).mono ?_
    rintro e w' ⟨he, n, os, rfl⟩
    refine ⟨⟨l.mergeSort fun x y => decide (x ≤ y), List.mergeSort_perm _ _⟩, he, ?_, trivial⟩
    have := own_sorted (n := n) (os := os) (k := 1) (enc := sc) (fun _ => rfl) sc_one hR' hlt (List.length_mergeSort l (le := fun x y => decide (x ≤ y)))
    unfold sortWorldK at this
    rw [putRow_str] at this
    exact this
end Go.Vx
namespace Go.Proofs
open Go Go.Vx Go.RowKit
namespace Tt
theorem S1_5 : T1 Try.prog 5 := ⟨Try.sizeOf5, Try.isAgg5⟩
theorem UD_3 : Ud Try.prog 3 (.int .i64) := Try.runUnderlying3
theorem UD_42 : Ud Try.prog 42 (.slice 57) := Try.runUnderlying42
theorem UD_5 : Ud Try.prog 5 (.int .u8) := Try.runUnderlying5
theorem UDR_42 : Try.prog.underlying 42 = some (.slice 57) := Try.underlying42
theorem ZV_57 : Zv Try.prog 57 (.agg (chc (⟨[], [], none⟩ : Chg)).toArray) := Try.zeroValue57
end Tt
end Go.Proofs
namespace Go.Proofs
open Go Go.Vx Go.RowKit
namespace Tt
theorem S1_46 : T1 Try.prog 46 := ⟨Try.sizeOf46, Try.isAgg46⟩
set_option maxRecDepth 20000 in
theorem EL_46 : El Try.prog 46 9 1 16 := ⟨Try.underlying46, _, _, Try.type9, rfl, rfl, rfl, rfl, by decide⟩
theorem EN_28 : En Try.prog 28 := Try.call28
theorem EN_29 : En Try.prog 29 := Try.call29
theorem EN_31 : En Try.prog 31 := Try.call31
theorem EN_32 : En Try.prog 32 := Try.call32
theorem EN_33 : En Try.prog 33 := Try.call33
theorem EN_34 : En Try.prog 34 := Try.call34
end Tt
end Go.Proofs
namespace Go.Proofs
open Go Go.Vx Go.RowKit
namespace Tt
theorem EN_10 : En Try.prog 10 := Try.call10
theorem EN_11 : En Try.prog 11 := Try.call11
theorem EN_12 : En Try.prog 12 := Try.call12
theorem EN_13 : En Try.prog 13 := Try.call13
theorem EN_14 : En Try.prog 14 := Try.call14
theorem EN_18 : En Try.prog 18 := Try.call18
theorem FA_26_0 : FA Try.prog 26 0 0 := fun b o w => by simp [Instr.fieldAt, Instr.sureAddr, fieldPlace, add_eq]
theorem FA_26_1 : FA Try.prog 26 1 1 := fun b o w => by simp [Instr.fieldAt, Instr.sureAddr, fieldPlace, add_eq]
theorem FA_26_2 : FA Try.prog 26 2 2 := fun b o w => by simp [Instr.fieldAt, Instr.sureAddr, fieldPlace, add_eq]
theorem FA_26_3 : FA Try.prog 26 3 3 := fun b o w => by simp [Instr.fieldAt, Instr.sureAddr, fieldPlace, add_eq]
theorem FA_26_4 : FA Try.prog 26 4 4 := fun b o w => by simp [Instr.fieldAt, Instr.sureAddr, fieldPlace, add_eq]
theorem FA_26_5 : FA Try.prog 26 5 5 := fun b o w => by simp [Instr.fieldAt, Instr.sureAddr, fieldPlace, add_eq]
end Tt
end Go.Proofs
namespace Go.Proofs
open Go Go.Vx Go.RowKit
namespace Tt
theorem EN_15 : En Try.prog 15 := Try.call15
theorem EN_16 : En Try.prog 16 := Try.call16
theorem EN_7 : En Try.prog 7 := Try.call7
theorem UD_46 : Ud Try.prog 46 (.slice 9) := Try.runUnderlying46
theorem UDR_5 : Try.prog.underlying 5 = some (.int .u8) := Try.underlying5
end Tt
end Go.Proofs
namespace Go.Proofs
open Go Go.Vx Go.RowKit
namespace Tt
theorem SA_26 : TA Try.prog 26 7 := ⟨Try.sizeOf26, Try.isAgg26⟩
theorem EN_6 : En Try.prog 6 := Try.call6
theorem EN_8 : En Try.prog 8 := Try.call8
theorem EN_9 : En Try.prog 9 := Try.call9
end Tt
end Go.Proofs
namespace Go.Proofs
open Go Go.Vx Go.RowKit
namespace Tt
theorem UD_22 : Ud Try.prog 22 (.slice 26) := Try.runUnderlying22
end Tt
end Go.Proofs
namespace Go.Proofs
open Go Go.Vx Go.RowKit
namespace Tt
set_option maxRecDepth 20000 in
set_option maxHeartbeats 4000000 in
theorem kGood_ok (w : World) (b : Nat) {room : Int} {a : Option Addr} {n c r1 r2 : Nat} {a2 : Option Addr} {n2 c2 : Nat} (hc : CellsF w b (dcl room a n c r1 r2 a2 n2 c2)) : Calls Try.prog 25 #[.pointer (some ⟨b, 0, none⟩)] w (fun e w' => e = .returned (.bool true) ∧ Own w no w' []) := by
  refine calls_of_Wn (n := 12) Try.func25 rfl Try.ntmps25 rfl ?_
  have hs := Own.start w
  refine W_seq ?_
  refine W_region ?_
  refine RW_op (L_assign (V := .bool false) rfl ?_)
  refine RW_nil ?_
  refine W_seq ?_
  refine W_regO [some 3, some 4, some 5, some 6, some 7, some 8, some 9, some 10, some 11, some 2] [] [0, 1, 3, 7, 15, 31, 63, 127, 255, 511] [pv (.pointer (some ⟨b, 0, none⟩)), pv (.bool true), pv (.bool true), pv (.pointer (some ⟨b, 0, none⟩)), pv (.pointer (some ⟨b, 0, none⟩)), pv (.pointer (some ⟨b, 0 + 2, none⟩)), pv (.map (some r1)), pv (.bool true), pv (.bool true), pv (.bool true)] (fun _ _ => _) [9] (by kernel_rfl) hs ⟨?_, ?_, ?_, ?_, ?_, ?_, ?_, ?_, ?_, ?_, trivial⟩ ?_
  · exact ob [] [] rfl rfl fun D ρ w hs => L_move (V := .pointer (some ⟨b, 0, none⟩)) rfl ⟨rfl, hs⟩
  · exact ob [0] [] rfl rfl fun D ρ w hs => L_ptrnn UD_28 rfl rfl ⟨rfl, hs⟩
  · exact ob [1] [] rfl rfl fun D ρ w hs => L_move (V := .bool true) rfl ⟨rfl, hs⟩
  · exact obg [2] [] true rfl (fun _ => rfl) rfl (fun _ _ _ h => nomatch h) fun D ρ w _ hs => L_move (V := .pointer (some ⟨b, 0, none⟩)) rfl ⟨rfl, hs⟩
  · exact obg [2, 3] [] true rfl (fun _ => rfl) rfl (fun _ _ _ h => nomatch h) fun D ρ w _ hs => L_nilCheck rfl ⟨rfl, hs⟩
  · exact obg [2, 4] [] true rfl (fun _ => rfl) rfl (fun _ _ _ h => nomatch h) fun D ρ w _ hs => L_fieldAddr FA_44_2 rfl ⟨rfl, hs⟩
  · exact obg [2, 5] [] true rfl (fun _ => rfl) rfl (fun _ _ _ h => nomatch h) fun D ρ w _ hs => L_ldF (V := .map (some r1)) S1_41 (hc.own' hs) rfl rfl ⟨rfl, hs⟩
  · exact obg [2, 6] [] true rfl (fun _ => rfl) rfl (fun _ _ _ h => nomatch h) fun D ρ w _ hs => L_mapnn UD_41 rfl rfl ⟨rfl, hs⟩
  · exact ob [2, 7] [] rfl rfl fun D ρ w hs => L_pick (V := .bool true) rfl rfl ⟨rfl, hs⟩
  · exact ob [8] [] rfl rfl fun D ρ w hs => L_assign (V := .bool true) rfl ⟨rfl, hs⟩
  rintro ρ1 w1 ρ2 hρ hs
  replace hρ : ρ2 = upd (mix [3, 4, 5, 6, 7, 8, 9, 10, 11, 2] ρ1 _) 2 (.bool true) := hρ
  subst hρ
  refine W_ret ?_
  refine ⟨_, res_one (V := .bool true) Try.results25 rfl, ?_⟩
  refine ⟨congrArg Ending.returned ?_, hs.take 0⟩
  rfl
set_option maxRecDepth 20000 in
set_option maxHeartbeats 4000000 in
theorem kMay_ok (w : World) (s : Str) : Calls Try.prog 23 #[sv s] w (fun e w' => e = .returned (.bool (mayB s)) ∧ Own w no w' []) := by
  refine calls_of_Wn (n := 11) Try.func23 rfl Try.ntmps23 rfl ?_
  have hs := Own.start w
  refine W_seq ?_
  refine W_region ?_
  refine RW_op (L_assign (V := .bool false) rfl ?_)
  refine RW_nil ?_
  refine W_seq ?_
  refine W_regO [some 3, some 4, some 5, some 6, some 7, some 8, some 9, some 10, some 2] [] [0, 1, 3, 7, 15, 31, 63, 127, 255] [pv (sv s), pv (.int .i64 ((s.length : Nat) : Int)), pv (.bool (decide (1 ≤ ((s.length : Nat) : Int)))), pv (.bool (decide (1 ≤ ((s.length : Nat) : Int)))), pg ((decide (1 ≤ ((s.length : Nat) : Int))) == true) (sv s), pg ((decide (1 ≤ ((s.length : Nat) : Int))) == true) (.int .i64 ((s.length : Nat) : Int)), pg ((decide (1 ≤ ((s.length : Nat) : Int))) == true) (.bool (decide (((s.length : Nat) : Int) ≤ 32))), pv (.bool ((decide (1 ≤ ((s.length : Nat) : Int))) && (decide (((s.length : Nat) : Int) ≤ 32)))), pv (.bool ((decide (1 ≤ ((s.length : Nat) : Int))) && (decide (((s.length : Nat) : Int) ≤ 32))))] (fun _ _ => _) [8] (by kernel_rfl) hs ⟨?_, ?_, ?_, ?_, ?_, ?_, ?_, ?_, ?_, trivial⟩ ?_
  · exact ob [] [] rfl rfl fun D ρ w hs => L_move (V := sv s) rfl ⟨rfl, hs⟩
  · exact ob [0] [] rfl rfl fun D ρ w hs => L_lenS' UDR_9 rfl ⟨rfl, hs⟩
  · exact ob [1] [] rfl rfl fun D ρ w hs => L_geq rfl rfl ⟨rfl, hs⟩
  · exact ob [2] [] rfl rfl fun D ρ w hs => L_move (V := .bool (decide (1 ≤ ((s.length : Nat) : Int)))) rfl ⟨rfl, hs⟩
  · exact obg [3] [] (decide (1 ≤ ((s.length : Nat) : Int))) rfl (fun _ => rfl) rfl (fun _ _ _ _ h => h) fun D ρ w hG hs => L_move (V := sv s) rfl ⟨rfl, hs⟩
  · exact obgy [3, 4] [] [4] (decide (1 ≤ ((s.length : Nat) : Int))) rfl (fun _ => rfl) rfl (fun _ _ _ _ h => h) (fun hG => ⟨hG, trivial⟩) fun D ρ w hG hs => L_lenS' UDR_9 rfl ⟨rfl, hs⟩
  · exact obgy [3, 5] [] [5] (decide (1 ≤ ((s.length : Nat) : Int))) rfl (fun _ => rfl) rfl (fun _ _ _ _ h => h) (fun hG => ⟨hG, trivial⟩) fun D ρ w hG hs => L_leq rfl rfl ⟨rfl, hs⟩
  · exact ob [3, 6] [] rfl rfl fun D ρ w hs => L_andC (h' := decide (((s.length : Nat) : Int) ≤ 32)) rfl rfl rfl ⟨rfl, hs⟩
  · exact ob [7] [] rfl rfl fun D ρ w hs => L_assign (V := .bool ((decide (1 ≤ ((s.length : Nat) : Int))) && (decide (((s.length : Nat) : Int) ≤ 32)))) rfl ⟨rfl, hs⟩
  rintro ρ1 w1 ρ2 hρ hs
  replace hρ : ρ2 = upd (mix [3, 4, 5, 6, 7, 8, 9, 10, 2] ρ1 _) 2 (.bool ((decide (1 ≤ ((s.length : Nat) : Int))) && (decide (((s.length : Nat) : Int) ≤ 32)))) := hρ
  subst hρ
  refine W_ret ?_
  refine ⟨_, res_one (V := .bool ((decide (1 ≤ ((s.length : Nat) : Int))) && (decide (((s.length : Nat) : Int) ≤ 32)))) Try.results23 rfl, ?_⟩
  refine ⟨congrArg Ending.returned ?_, hs.take 0⟩
  refine congrArg Value.bool ?_
  unfold mayB
  congr 1 <;> exact decide_eq_decide.2 (by omega)
set_option maxRecDepth 20000 in
set_option maxHeartbeats 4000000 in
theorem kBurn_ok (w : World) (b : Nat) {room : Int} {a : Option Addr} {n c r1 r2 : Nat} {a2 : Option Addr} {n2 c2 : Nat} (hc : CellsF w b (dcl room a n c r1 r2 a2 n2 c2)) : Calls Try.prog 20 #[.pointer (some ⟨b, 0, none⟩)] w (fun e w' => e = .returned (.int .i64 0) ∧ Own w no w' []) := by
  refine calls_of_Wn (n := 26) Try.func20 rfl Try.ntmps20 rfl ?_
  have hs := Own.start w
  refine W_seq ?_
  refine W_region ?_
  refine RW_op (L_assign (V := .int .i64 0) rfl ?_)
  refine RW_nil ?_
  refine W_seq ?_
  refine W_block ?_
  refine W_seq ?_
  refine W_region ?_
  refine RW_op (L_move (V := .pointer (some ⟨b, 0, none⟩)) rfl ?_)
  refine RW_op (L_callP (vs := [.pointer (some ⟨b, 0, none⟩)]) (V := .bool true) EN_25 rfl rfl ?hc hs fun w1 hs => ?_)
  case hc => exact (kGood_ok _ b (hc.own' hs) )
  refine RW_op (L_not rfl ?_)
  refine RW_op (L_assign (V := .bool false) rfl ?_)
  refine RW_nil ?_
  refine W_condF rfl ?_
  refine W_seq ?_
  refine W_region ?_
  refine RW_op (L_move (V := .pointer (some ⟨b, 0, none⟩)) rfl ?_)
  refine RW_op (L_nilCheck rfl ?_)
  refine RW_op (L_fieldAddr FA_44_5 rfl ?_)
  refine RW_op (L_ldF (V := .bool false) S1_4 (hc.own' hs) rfl rfl ?_)
  refine RW_op (L_not rfl ?_)
  refine RW_op (L_assign (V := .bool true) rfl ?_)
  refine RW_nil ?_
  refine W_condT rfl ?_
  refine W_seq ?_
  refine W_region ?_
  refine RW_op (L_assign (V := .int .i64 0) rfl ?_)
  refine RW_nil ?_
  refine W_ret ?_
  refine ⟨_, res_one (V := .int .i64 0) Try.results20 rfl, ?_⟩
  refine ⟨congrArg Ending.returned ?_, hs.take 0⟩
  rfl
set_option maxRecDepth 20000 in
set_option maxHeartbeats 4000000 in
theorem kFindN_ok (w : World) (b : Nat) {room : Int} {a : Option Addr} {n c r1 r2 : Nat} {a2 : Option Addr} {n2 c2 : Nat} (hc : CellsF w b (dcl room a n c r1 r2 a2 n2 c2)) (s : Str) {nm : List (Str × Pt)} (hm : MapF w r1 sv Value.pointer nm) (hf : mget s nm = none) : Calls Try.prog 21 #[.pointer (some ⟨b, 0, none⟩), sv s] w (fun e w' => e = .returned (.tuple #[.pointer none, .int .i64 7]) ∧ Own w no w' []) := by
  refine calls_of_Wn (n := 19) Try.func21 rfl Try.ntmps21 rfl ?_
  have hs := Own.start w
  refine W_seq ?_
  refine W_region ?_
  refine RW_op (L_assign (V := .pointer none) rfl ?_)
  refine RW_op (L_assign (V := .int .i64 0) rfl ?_)
  refine RW_nil ?_
  refine W_seq ?_
  refine W_seq ?_
  refine W_region ?_
  refine RW_op (L_move (V := .pointer (some ⟨b, 0, none⟩)) rfl ?_)
  refine RW_op (L_callP (vs := [.pointer (some ⟨b, 0, none⟩)]) (V := .bool true) EN_25 rfl rfl ?hc hs fun w1 hs => ?_)
  case hc => exact (kGood_ok _ b (hc.own' hs) )
  refine RW_op (L_not rfl ?_)
  refine RW_nil ?_
  refine W_condF rfl ?_
  refine W_skip ?_
  refine W_seq ?_
  refine W_region ?_
  refine RW_op (L_move (V := .pointer (some ⟨b, 0, none⟩)) rfl ?_)
  refine RW_op (L_nilCheck rfl ?_)
  refine RW_op (L_fieldAddr FA_44_2 rfl ?_)
  refine RW_op (L_ldF (V := .map (some r1)) S1_41 (hc.own' hs) rfl rfl ?_)
  refine RW_op (L_move (V := sv s) rfl ?_)
  refine RW_op (opW_to (V := .pointer ((mget s nm).getD none)) (V' := .pointer none) (L_lookupV (k := s) (z := none) UD_41 KO_9 ZV_52 (MapF.own hm hs (fun h => h)) rfl rfl ⟨rfl, rfl⟩) (by rw [hf]; rfl) ?_)
  refine RW_op (L_assign (V := .pointer none) rfl ?_)
  refine RW_nil ?_
  refine W_seq ?_
  refine W_seq ?_
  refine W_region ?_
  refine RW_op (L_move (V := .pointer none) rfl ?_)
  refine RW_op (L_ptrnil UD_52 rfl rfl ?_)
  refine RW_nil ?_
  refine W_condT rfl ?_
  refine W_seq ?_
  refine W_region ?_
  refine RW_op (L_assign (V := .pointer none) rfl ?_)
  refine RW_op (L_assign (V := .int .i64 7) rfl ?_)
  refine RW_nil ?_
  refine W_ret ?_
  refine ⟨_, res_two (U := .pointer none) (V := .int .i64 7) Try.results21 rfl rfl, ?_⟩
  refine ⟨congrArg Ending.returned ?_, hs.take 0⟩
  rfl
set_option maxRecDepth 20000 in
set_option maxHeartbeats 4000000 in
theorem kFindS_ok (w : World) (b : Nat) {room : Int} {a : Option Addr} {n c r1 r2 : Nat} {a2 : Option Addr} {n2 c2 : Nat} (hc : CellsF w b (dcl room a n c r1 r2 a2 n2 c2)) (s : Str) {nm : List (Str × Pt)} (hm : MapF w r1 sv Value.pointer nm) (p : Nat) (hf : mget s nm = some (pt p)) : Calls Try.prog 21 #[.pointer (some ⟨b, 0, none⟩), sv s] w (fun e w' => e = .returned (.tuple #[.pointer (some ⟨p, 0, none⟩), .int .i64 0]) ∧ Own w no w' []) := by
  refine calls_of_Wn (n := 19) Try.func21 rfl Try.ntmps21 rfl ?_
  have hs := Own.start w
  refine W_seq ?_
  refine W_region ?_
  refine RW_op (L_assign (V := .pointer none) rfl ?_)
  refine RW_op (L_assign (V := .int .i64 0) rfl ?_)
  refine RW_nil ?_
  refine W_seq ?_
  refine W_seq ?_
  refine W_region ?_
  refine RW_op (L_move (V := .pointer (some ⟨b, 0, none⟩)) rfl ?_)
  refine RW_op (L_callP (vs := [.pointer (some ⟨b, 0, none⟩)]) (V := .bool true) EN_25 rfl rfl ?hc hs fun w1 hs => ?_)
  case hc => exact (kGood_ok _ b (hc.own' hs) )
  refine RW_op (L_not rfl ?_)
  refine RW_nil ?_
  refine W_condF rfl ?_
  refine W_skip ?_
  refine W_seq ?_
  refine W_region ?_
  refine RW_op (L_move (V := .pointer (some ⟨b, 0, none⟩)) rfl ?_)
  refine RW_op (L_nilCheck rfl ?_)
  refine RW_op (L_fieldAddr FA_44_2 rfl ?_)
  refine RW_op (L_ldF (V := .map (some r1)) S1_41 (hc.own' hs) rfl rfl ?_)
  refine RW_op (L_move (V := sv s) rfl ?_)
  refine RW_op (opW_to (V := .pointer ((mget s nm).getD none)) (V' := .pointer (some ⟨p, 0, none⟩)) (L_lookupV (k := s) (z := none) UD_41 KO_9 ZV_52 (MapF.own hm hs (fun h => h)) rfl rfl ⟨rfl, rfl⟩) (by rw [hf]; rfl) ?_)
  refine RW_op (L_assign (V := .pointer (some ⟨p, 0, none⟩)) rfl ?_)
  refine RW_nil ?_
  refine W_seq ?_
  refine W_seq ?_
  refine W_region ?_
  refine RW_op (L_move (V := .pointer (some ⟨p, 0, none⟩)) rfl ?_)
  refine RW_op (L_ptrnil UD_52 rfl rfl ?_)
  refine RW_nil ?_
  refine W_condF rfl ?_
  refine W_skip ?_
  refine W_seq ?_
  refine W_region ?_
  refine RW_op (L_move (V := .pointer (some ⟨p, 0, none⟩)) rfl ?_)
  refine RW_op (L_assign (V := .pointer (some ⟨p, 0, none⟩)) rfl ?_)
  refine RW_op (L_assign (V := .int .i64 0) rfl ?_)
  refine RW_nil ?_
  refine W_ret ?_
  refine ⟨_, res_two (U := .pointer (some ⟨p, 0, none⟩)) (V := .int .i64 0) Try.results21 rfl rfl, ?_⟩
  refine ⟨congrArg Ending.returned ?_, hs.take 0⟩
  rfl
end Tt
end Go.Proofs
namespace Go.Proofs
open Go Go.Vx Go.RowKit
namespace Tt
set_option maxRecDepth 20000 in
set_option maxHeartbeats 4000000 in
theorem doN_ok (w : World) (S : Nat → Prop) (r : Nat) (l : List (Str × Pt)) (to fr : Str)  (hR : (mapR r sv Value.pointer l).holds w S) (hlt : ∀ x, S x → x < w.heap.size) : Calls Try.prog 26 #[.agg #[sv to, sv fr, .pointer none], .map (some r)] w (fun e w' => ∃ x : Unit, e = .returned (.tuple #[]) ∧ Own w S w' [mapR r sv Value.pointer (doC l ⟨to, fr, none⟩)] ∧ True) := by
  refine calls_of_Wn (n := 21) Try.func26 rfl Try.ntmps26 rfl ?_
  have hs := Own.lent hR hlt
  refine W_seq ?_
  refine W_region ?_
  refine RW_op (L_box (V := .agg #[sv to, sv fr, .pointer none]) (cs := [sv to, sv fr, .pointer none]) rfl rfl hs fun b1 w2 hs => ?_)
  refine RW_nil ?_
  refine W_seq ?_
  refine W_seq ?_
  refine W_region ?_
  refine RW_op (L_fieldAddr FA_57_1 rfl ?_)
  refine RW_op (L_ld (V := sv fr) S1_9 hs 1 rfl rfl rfl ?_)
  refine RW_op (L_neS rfl rfl ?_)
  refine RW_nil ?_
  refine W_cond (t := !decide (fr = [])) rfl (fun c3 => ?_) (fun c3 => ?_)
  ·
    replace c3 := not_t c3
    replace c3 := of_decide_eq_false c3
    refine W_region ?_
    refine RW_op (L_move (V := .map (some r)) rfl ?_)
    refine RW_op (L_fieldAddr FA_57_1 rfl ?_)
    refine RW_op (L_ld (V := sv fr) S1_9 hs 1 rfl rfl rfl ?_)
    refine RW_op (L_mapDel (k := fr) UD_41 KO_9 hs 0 rfl rfl rfl fun w4 hs => ?_)
    refine RW_nil ?_
    refine W_seq ?_
    refine W_seq ?_
    refine W_region ?_
    refine RW_op (L_fieldAddr FA_57_2 rfl ?_)
    refine RW_op (L_ld (V := .pointer none) S1_52 hs 1 rfl rfl rfl ?_)
    refine RW_op (L_ptrnil UD_52 rfl rfl ?_)
    refine RW_nil ?_
    refine W_condT rfl ?_
    refine W_seq ?_
    refine W_region ?_
    refine RW_op (L_move (V := .map (some r)) rfl ?_)
    refine RW_op (L_fieldAddr FA_57_0 rfl ?_)
    refine RW_op (L_ld (V := sv to) S1_9 hs 1 rfl rfl rfl ?_)
    refine RW_op (L_mapDel (k := to) UD_41 KO_9 hs 0 rfl rfl rfl fun w5 hs => ?_)
    refine RW_nil ?_
    refine W_ret ?_
    refine ⟨_, res_none Try.results26, ?_⟩
    have hD : mdel to (mdel fr l) = doC l ⟨to, fr, none⟩ := by unfold doC; simp only [c3, if_true, if_false]
    rw [hD] at hs
    exact ⟨(), rfl, hs.only 0 rfl, trivial⟩
  ·
    replace c3 := not_f c3
    replace c3 := of_decide_eq_true c3
    refine W_skip ?_
    refine W_seq ?_
    refine W_seq ?_
    refine W_region ?_
    refine RW_op (L_fieldAddr FA_57_2 rfl ?_)
    refine RW_op (L_ld (V := .pointer none) S1_52 hs 1 rfl rfl rfl ?_)
    refine RW_op (L_ptrnil UD_52 rfl rfl ?_)
    refine RW_nil ?_
    refine W_condT rfl ?_
    refine W_seq ?_
    refine W_region ?_
    refine RW_op (L_move (V := .map (some r)) rfl ?_)
    refine RW_op (L_fieldAddr FA_57_0 rfl ?_)
    refine RW_op (L_ld (V := sv to) S1_9 hs 1 rfl rfl rfl ?_)
    refine RW_op (L_mapDel (k := to) UD_41 KO_9 hs 0 rfl rfl rfl fun w6 hs => ?_)
    refine RW_nil ?_
    refine W_ret ?_
    refine ⟨_, res_none Try.results26, ?_⟩
    have hD : mdel to l = doC l ⟨to, fr, none⟩ := by unfold doC; simp only [c3, if_true, if_false]
    rw [hD] at hs
    exact ⟨(), rfl, hs.only 0 rfl, trivial⟩
set_option maxRecDepth 20000 in
set_option maxHeartbeats 4000000 in
theorem doS_ok (w : World) (S : Nat → Prop) (r : Nat) (l : List (Str × Pt)) (to fr : Str) (p : Nat) (hR : (mapR r sv Value.pointer l).holds w S) (hlt : ∀ x, S x → x < w.heap.size) : Calls Try.prog 26 #[.agg #[sv to, sv fr, .pointer (some ⟨p, 0, none⟩)], .map (some r)] w (fun e w' => ∃ x : Unit, e = .returned (.tuple #[]) ∧ Own w S w' [mapR r sv Value.pointer (doC l ⟨to, fr, some ⟨p, 0, none⟩⟩)] ∧ True) := by
  refine calls_of_Wn (n := 21) Try.func26 rfl Try.ntmps26 rfl ?_
  have hs := Own.lent hR hlt
  refine W_seq ?_
  refine W_region ?_
  refine RW_op (L_box (V := .agg #[sv to, sv fr, .pointer (some ⟨p, 0, none⟩)]) (cs := [sv to, sv fr, .pointer (some ⟨p, 0, none⟩)]) rfl rfl hs fun b1 w2 hs => ?_)
  refine RW_nil ?_
  refine W_seq ?_
  refine W_seq ?_
  refine W_region ?_
  refine RW_op (L_fieldAddr FA_57_1 rfl ?_)
  refine RW_op (L_ld (V := sv fr) S1_9 hs 1 rfl rfl rfl ?_)
  refine RW_op (L_neS rfl rfl ?_)
  refine RW_nil ?_
  refine W_cond (t := !decide (fr = [])) rfl (fun c3 => ?_) (fun c3 => ?_)
  ·
    replace c3 := not_t c3
    replace c3 := of_decide_eq_false c3
    refine W_region ?_
    refine RW_op (L_move (V := .map (some r)) rfl ?_)
    refine RW_op (L_fieldAddr FA_57_1 rfl ?_)
    refine RW_op (L_ld (V := sv fr) S1_9 hs 1 rfl rfl rfl ?_)
    refine RW_op (L_mapDel (k := fr) UD_41 KO_9 hs 0 rfl rfl rfl fun w4 hs => ?_)
    refine RW_nil ?_
    refine W_seq ?_
    refine W_seq ?_
    refine W_region ?_
    refine RW_op (L_fieldAddr FA_57_2 rfl ?_)
    refine RW_op (L_ld (V := .pointer (some ⟨p, 0, none⟩)) S1_52 hs 1 rfl rfl rfl ?_)
    refine RW_op (L_ptrnil UD_52 rfl rfl ?_)
    refine RW_nil ?_
    refine W_condF rfl ?_
    refine W_skip ?_
    refine W_region ?_
    refine RW_op (L_move (V := .map (some r)) rfl ?_)
    refine RW_op (L_fieldAddr FA_57_0 rfl ?_)
    refine RW_op (L_ld (V := sv to) S1_9 hs 1 rfl rfl rfl ?_)
    refine RW_op (L_fieldAddr FA_57_2 rfl ?_)
    refine RW_op (L_ld (V := .pointer (some ⟨p, 0, none⟩)) S1_52 hs 1 rfl rfl rfl ?_)
    refine RW_op (L_mapSet (k := to) (v := (some ⟨p, 0, none⟩ : Option Addr)) UD_41 KO_9 hs 0 rfl rfl rfl rfl fun w5 hs => ?_)
    refine RW_nil ?_
    refine ⟨_, res_none Try.results26, ?_⟩
    have hD : mput to (some ⟨p, 0, none⟩ : Option Addr) (mdel fr l) = doC l ⟨to, fr, some ⟨p, 0, none⟩⟩ := by unfold doC; simp only [c3, if_true, if_false]
    rw [hD] at hs
    exact ⟨(), rfl, hs.only 0 rfl, trivial⟩
  ·
    replace c3 := not_f c3
    replace c3 := of_decide_eq_true c3
    refine W_skip ?_
    refine W_seq ?_
    refine W_seq ?_
    refine W_region ?_
    refine RW_op (L_fieldAddr FA_57_2 rfl ?_)
    refine RW_op (L_ld (V := .pointer (some ⟨p, 0, none⟩)) S1_52 hs 1 rfl rfl rfl ?_)
    refine RW_op (L_ptrnil UD_52 rfl rfl ?_)
    refine RW_nil ?_
    refine W_condF rfl ?_
    refine W_skip ?_
    refine W_region ?_
    refine RW_op (L_move (V := .map (some r)) rfl ?_)
    refine RW_op (L_fieldAddr FA_57_0 rfl ?_)
    refine RW_op (L_ld (V := sv to) S1_9 hs 1 rfl rfl rfl ?_)
    refine RW_op (L_fieldAddr FA_57_2 rfl ?_)
    refine RW_op (L_ld (V := .pointer (some ⟨p, 0, none⟩)) S1_52 hs 1 rfl rfl rfl ?_)
    refine RW_op (L_mapSet (k := to) (v := (some ⟨p, 0, none⟩ : Option Addr)) UD_41 KO_9 hs 0 rfl rfl rfl rfl fun w6 hs => ?_)
    refine RW_nil ?_
    refine ⟨_, res_none Try.results26, ?_⟩
    have hD : mput to (some ⟨p, 0, none⟩ : Option Addr) l = doC l ⟨to, fr, some ⟨p, 0, none⟩⟩ := by unfold doC; simp only [c3, if_true, if_false]
    rw [hD] at hs
    exact ⟨(), rfl, hs.only 0 rfl, trivial⟩
theorem do_ok (w : World) (S : Nat → Prop) (r : Nat) (l : List (Str × Pt)) (k : Chg) (hk : k.t = none ∨ ∃ p, k.t = pt p) (hR : (mapR r sv Value.pointer l).holds w S) (hlt : ∀ x, S x → x < w.heap.size) :
    Calls Try.prog 26 #[.agg (chc k).toArray, .map (some r)] w (fun e w' => ∃ x : Unit, e = .returned (.tuple #[]) ∧ Own w S w' [mapR r sv Value.pointer (doC l k)] ∧ True) := by
  obtain ⟨to, fr, t⟩ := k
  rcases hk with h | ⟨p, h⟩ <;> dsimp only at h <;> subst h
  · exact doN_ok w S r l to fr hR hlt
  · exact doS_ok w S r l to fr p hR hlt
set_option maxRecDepth 20000 in
set_option maxHeartbeats 4000000 in
theorem kChg_ok (w : World) (S : Nat → Prop) (b : Nat) (room : Int) (a : Option Addr) (n c r1 r2 : Nat) (a2 : Option Addr) (c2 : Nat) (nm : List (Str × Pt)) (ch : List Chg) (k : Chg) (hk : k.t = none ∨ ∃ p, k.t = pt p) (hN : ch.length ≤ 1000000) (hR : (star [blk b (dcl room a n c r1 r2 a2 ch.length c2) 44, mapR r1 sv Value.pointer nm, row (.slice a2 ch.length c2) (ch.map chc) 57 3]).holds w S) (hlt : ∀ x, S x → x < w.heap.size) : Calls Try.prog 22 #[.pointer (some ⟨b, 0, none⟩), .agg (chc k).toArray] w (fun e w' => ∃ x : Option Addr × Nat, e = .returned (.tuple #[]) ∧ Own w S w' [blk b (dcl room a n c r1 r2 x.1 (ch ++ [k]).length x.2) 44, mapR r1 sv Value.pointer (doC nm k), row (.slice x.1 (ch ++ [k]).length x.2) ((ch ++ [k]).map chc) 57 3] ∧ True) := by
  refine calls_of_Wn (n := 20) Try.func22 rfl Try.ntmps22 rfl ?_
  have hs := Own.open hR hlt
  replace hs : Own w S w [blk b [.int .i64 room, .slice a n c, .map (some r1), .map (some r2), .slice a2 ch.length c2, .bool false, .int .i64 0] 44, mapR r1 sv Value.pointer nm, row (.slice a2 ch.length c2) (ch.map chc) 57 3] := hs
  refine W_seq ?_
  refine W_region ?_
  refine RW_op (L_box (V := .agg (chc k).toArray) (cs := chc k) rfl rfl hs fun b1 w2 hs => ?_)
  refine RW_nil ?_
  refine W_seq ?_
  refine W_regD HM [some 4, some 5, some 6, some 7, some 8, some 9] [] [0, 0, 2, 6, 14, 31] [pv (.agg (chc k).toArray), pv (.pointer (some ⟨b, 0, none⟩)), pv (.pointer (some ⟨b, 0, none⟩)), pv (.pointer (some ⟨b, 0 + 2, none⟩)), pv (.map (some r1)), pv (.tuple #[])] (fun D ρ => [blk b [.int .i64 room, .slice a n c, .map (some r1), .map (some r2), .slice a2 ch.length c2, .bool false, .int .i64 0] 44, cond (D 5) (mapR r1 sv Value.pointer (doC nm k)) (mapR r1 sv Value.pointer nm), row (.slice a2 ch.length c2) (ch.map chc) 57 3, blk b1 (chc k) 57]) [] (by kernel_rfl) hs ⟨?_, ?_, ?_, ?_, ?_, ?_, trivial⟩ ?_
  · exact ob [] [] rfl rfl fun D ρ w hs => L_ldW (cs := chc k) SA_57 hs 3 rfl rfl rfl ⟨rfl, hs⟩
  · exact ob [] [] rfl rfl fun D ρ w hs => L_move (V := .pointer (some ⟨b, 0, none⟩)) rfl ⟨rfl, hs⟩
  · exact ob [1] [] rfl rfl fun D ρ w hs => L_nilCheck rfl ⟨rfl, hs⟩
  · exact ob [2] [] rfl rfl fun D ρ w hs => L_fieldAddr FA_44_2 rfl ⟨rfl, hs⟩
  · exact ob [3] [] rfl rfl fun D ρ w hs => L_ld (V := .map (some r1)) S1_41 hs 0 rfl rfl rfl ⟨rfl, hs⟩
  · exact ob [0, 4] [] rfl rfl fun D ρ w hs => L_callB (vs := [.agg (chc k).toArray, .map (some r1)]) (V := fun _ : Unit => .tuple #[]) (R := mapR r1 sv Value.pointer nm) (R' := fun _ => mapR r1 sv Value.pointer (doC nm k)) (Lo := fun _ => []) (F := fun _ _ => True) EN_26 rfl rfl hs 1 rfl (fun S0 hS0 hlt0 => do_ok _ S0 r1 nm k hk hS0 hlt0) fun _ _ hs _ => ⟨rfl, hs⟩
  rintro ρ1 w3 ρ2 hρ hs
  replace hρ : ρ2 = mix [4, 5, 6, 7, 8, 9] ρ1 _ := hρ
  replace hs : Own w S w3 [blk b [.int .i64 room, .slice a n c, .map (some r1), .map (some r2), .slice a2 ch.length c2, .bool false, .int .i64 0] 44, mapR r1 sv Value.pointer (doC nm k), row (.slice a2 ch.length c2) (ch.map chc) 57 3, blk b1 (chc k) 57] := hs
  subst hρ
  replace hs := hs.more emp trivial
  refine W_regD HM [some 10, some 11, some 12, some 13, some 14, some 15, some 16, some 17, some 18, some 19, none] [[], [], [], [], [], [], [16], [17]] [0, 0, 2, 6, 14, 0, 32, 126, 255, 511, 1023] [pv (.pointer (some ⟨b, 0, none⟩)), pv (.pointer (some ⟨b, 0, none⟩)), pv (.pointer (some ⟨b, 0, none⟩)), pv (.pointer (some ⟨b, 0 + 4, none⟩)), pv (.slice a2 ch.length c2), pv (.agg (chc k).toArray), (true, fun ρ => .slice (some ⟨(bOf (ρ 16)), 0, none⟩) 1 1), (true, fun ρ => .slice (aOf (ρ 17)) ((ch ++ [k]).length) (cOf (ρ 17))), pv (.pointer (some ⟨b, 0, none⟩)), pv (.pointer (some ⟨b, 0 + 4, none⟩)), pn] (fun D ρ => [cond (D 10) (blk b [.int .i64 room, .slice a n c, .map (some r1), .map (some r2), .slice (aOf (ρ 17)) ((ch ++ [k]).length) (cOf (ρ 17)), .bool false, .int .i64 0] 44) (blk b [.int .i64 room, .slice a n c, .map (some r1), .map (some r2), .slice a2 ch.length c2, .bool false, .int .i64 0] 44), mapR r1 sv Value.pointer (doC nm k), cond (D 7) (row (.slice (aOf (ρ 17)) ((ch ++ [k]).length) (cOf (ρ 17))) ((ch ++ [k]).map chc) 57 3) (row (.slice a2 ch.length c2) (ch.map chc) 57 3), blk b1 (chc k) 57, cond (D 6) (row (.slice (some ⟨(bOf (ρ 16)), 0, none⟩) 1 1) ([k].map chc) 57 3) (emp)]) [] (by kernel_rfl) hs ⟨?_, ?_, ?_, ?_, ?_, ?_, ?_, ?_, ?_, ?_, ?_, trivial⟩ ?_
  · exact ob [] [] rfl rfl fun D ρ w hs => L_move (V := .pointer (some ⟨b, 0, none⟩)) rfl ⟨rfl, hs⟩
  · exact ob [] [] rfl rfl fun D ρ w hs => L_move (V := .pointer (some ⟨b, 0, none⟩)) rfl ⟨rfl, hs⟩
  · exact ob [1] [] rfl rfl fun D ρ w hs => L_nilCheck rfl ⟨rfl, hs⟩
  · exact ob [2] [] rfl rfl fun D ρ w hs => L_fieldAddr FA_44_4 rfl ⟨rfl, hs⟩
  · exact ob [3] [10] rfl rfl fun D ρ w hs => L_ld (V := .slice a2 ch.length c2) S1_42 hs 0 rfl rfl rfl ⟨rfl, hs⟩
  · exact ob [] [] rfl rfl fun D ρ w hs => L_ldW (cs := chc k) SA_57 hs 3 rfl rfl rfl ⟨rfl, hs⟩
  · exact ob [5] [] rfl rfl fun D ρ w hs => L_bs (vals := [.agg (chc k).toArray]) (ls := List.map chc ([k] : List Chg)) EL_42 rfl rfl rfl (len_map (enc := chc) (fun _ => rfl) _) (one_map chc_one _) (Nat.le_of_ble_eq_true rfl) hs fun _ _ hs => ⟨rfl, hs.put 4 (Nat.le_of_ble_eq_true rfl)⟩
  · exact ob [4, 6] [10] rfl rfl fun D ρ w hs => L_appN (ls' := (ch ++ [k]).map chc) (n := (ch ++ [k]).length) EL_42 hs 2 rfl rfl rfl (hs.rd 4 rfl) (one_map chc_one _) (by simp only [List.length_map, List.length_append, List.length_cons, List.length_nil]; omega) (by simp) (by simp) fun _ _ _ hs => ⟨rfl, hs⟩
  · exact ob [0] [] rfl rfl fun D ρ w hs => L_nilCheck rfl ⟨rfl, hs⟩
  · exact ob [8] [] rfl rfl fun D ρ w hs => L_fieldAddr FA_44_4 rfl ⟨rfl, hs⟩
  · exact ob [7, 9] [] rfl rfl fun D ρ w hs => L_st1 (V := .slice (aOf (ρ 17)) ((ch ++ [k]).length) (cOf (ρ 17))) (cs' := [.int .i64 room, .slice a n c, .map (some r1), .map (some r2), .slice (aOf (ρ 17)) ((ch ++ [k]).length) (cOf (ρ 17)), .bool false, .int .i64 0]) S1_42 hs 0 rfl rfl rfl rfl (Nat.le_of_ble_eq_true rfl) rfl fun _ hs => ⟨trivial, hs⟩
  rintro ρ1 w7 ρ2 hρ hs
  replace hρ : ρ2 = mix [10, 11, 12, 13, 14, 15, 16, 17, 18, 19] ρ1 _ := hρ
  replace hs : Own w S w7 [blk b [.int .i64 room, .slice a n c, .map (some r1), .map (some r2), .slice (aOf (ρ1 17)) ((ch ++ [k]).length) (cOf (ρ1 17)), .bool false, .int .i64 0] 44, mapR r1 sv Value.pointer (doC nm k), row (.slice (aOf (ρ1 17)) ((ch ++ [k]).length) (cOf (ρ1 17))) ((ch ++ [k]).map chc) 57 3, blk b1 (chc k) 57, row (.slice (some ⟨(bOf (ρ1 16)), 0, none⟩) 1 1) ([k].map chc) 57 3] := hs
  generalize (bOf (ρ1 16)) = b8 at hs
  generalize (aOf (ρ1 17)) = a9 at hs
  generalize (cOf (ρ1 17)) = c10 at hs
  subst hρ
  refine ⟨_, res_none Try.results22, ?_⟩
  exact ⟨(a9, c10), rfl, hs.take 3, trivial⟩
end Tt
end Go.Proofs
namespace Go.Proofs
open Go Go.Vx Go.RowKit
namespace Tt
set_option maxRecDepth 20000 in
set_option maxHeartbeats 4000000 in
theorem kSyncN_ok (w : World) (S : Nat → Prop) (b : Nat) (m : Dk) (hR : (dkR 44 60 5 52 57 b m).holds w S) (hlt : ∀ x, S x → x < w.heap.size) (s : Str) (hf : mget s m.nm = none) : Calls Try.prog 12 #[.pointer (some ⟨b, 0, none⟩), sv s] w (fun e w' => ∃ x : Unit, e = .returned (.int .i64 7) ∧ Own w S w' [dkR 44 60 5 52 57 b m] ∧ True) := by
  refine calls_of_Wn (n := 30) Try.func12 rfl Try.ntmps12 rfl ?_
  have hpl := pts_len m.ts
  obtain ⟨a, c, r1, r2, a2, c2, hs⟩ := dk_open hR hlt
  replace hs : Own w S w [blk b [.int .i64 m.room, .slice a m.ts.length c, .map (some r1), .map (some r2), .slice a2 m.ch.length c2, .bool false, .int .i64 0] 44, row (.slice a m.ts.length c) ((pts m.ts).map po) 52 1, mapR r1 sv Value.pointer m.nm, mapR r2 sv Value.pointer m.sf, row (.slice a2 m.ch.length c2) (m.ch.map chc) 57 3, star (m.ts.map (thR 60 5))] := hs
  refine W_seq ?_
  refine W_region ?_
  refine RW_op (L_assign (V := .int .i64 0) rfl ?_)
  refine RW_nil ?_
  refine W_seq ?_
  refine W_seq ?_
  refine W_region ?_
  refine RW_op (L_move (V := .pointer (some ⟨b, 0, none⟩)) rfl ?_)
  refine RW_op (L_callP (vs := [.pointer (some ⟨b, 0, none⟩)]) (V := .int .i64 0) EN_20 rfl rfl ?hc hs fun w1 hs => ?_)
  case hc => exact (kBurn_ok _ b (hs.cellsf 0 rfl) )
  refine RW_op (L_assign (V := .int .i64 0) rfl ?_)
  refine RW_nil ?_
  refine W_seq ?_
  refine W_region ?_
  refine RW_op (L_move (V := .int .i64 0) rfl ?_)
  refine RW_op (L_neq rfl rfl ?_)
  refine RW_nil ?_
  refine W_condF rfl ?_
  refine W_skip ?_
  refine W_seq ?_
  refine W_region ?_
  refine RW_op (L_move (V := .pointer (some ⟨b, 0, none⟩)) rfl ?_)
  refine RW_op (L_move (V := sv s) rfl ?_)
  refine RW_op (L_callP (vs := [.pointer (some ⟨b, 0, none⟩), sv s]) (V := .tuple #[.pointer none, .int .i64 7]) EN_21 rfl rfl ?hc hs fun w2 hs => ?_)
  case hc => exact (kFindN_ok _ b (hs.cellsf 0 rfl) s (hs.mapf 2 rfl) hf)
  refine RW_op (L_move (V := .tuple #[.pointer none, .int .i64 7]) rfl ?_)
  refine RW_op (L_extract (V := .pointer none) rfl rfl ?_)
  refine RW_op (L_extract (V := .int .i64 7) rfl rfl ?_)
  refine RW_op (L_assign (V := .pointer none) rfl ?_)
  refine RW_op (L_assign (V := .int .i64 7) rfl ?_)
  refine RW_nil ?_
  refine W_seq ?_
  refine W_seq ?_
  refine W_region ?_
  refine RW_op (L_move (V := .int .i64 7) rfl ?_)
  refine RW_op (L_eql rfl rfl ?_)
  refine RW_nil ?_
  refine W_condF rfl ?_
  refine W_skip ?_
  refine W_seq ?_
  refine W_region ?_
  refine RW_op (L_move (V := .int .i64 7) rfl ?_)
  refine RW_op (L_assign (V := .int .i64 7) rfl ?_)
  refine RW_nil ?_
  refine W_ret ?_
  refine ⟨_, res_one (V := .int .i64 7) Try.results12 rfl, ?_⟩
  exact ⟨(), rfl, dk_shut' (hs.take 6) rfl rfl rfl, trivial⟩
set_option maxRecDepth 20000 in
set_option maxHeartbeats 4000000 in
theorem kSyncS_ok (w : World) (S : Nat → Prop) (b : Nat) (m : Dk) (hR : (dkR 44 60 5 52 57 b m).holds w S) (hlt : ∀ x, S x → x < w.heap.size) (s : Str) (i : Nat) (t : Thg) (hi : m.ts[i]? = some t) (hf : mget s m.nm = some (pt t.p)) : Calls Try.prog 12 #[.pointer (some ⟨b, 0, none⟩), sv s] w (fun e w' => ∃ x : Unit, e = .returned (.int .i64 0) ∧ Own w S w' [dkR 44 60 5 52 57 b ({ m with ts := m.ts.set i { t with sf := t.bs.length } })] ∧ True) := by
  refine calls_of_Wn (n := 30) Try.func12 rfl Try.ntmps12 rfl ?_
  have hpl := pts_len m.ts
  obtain ⟨a, c, r1, r2, a2, c2, hs⟩ := dk_open hR hlt
  replace hs : Own w S w [blk b [.int .i64 m.room, .slice a m.ts.length c, .map (some r1), .map (some r2), .slice a2 m.ch.length c2, .bool false, .int .i64 0] 44, row (.slice a m.ts.length c) ((pts m.ts).map po) 52 1, mapR r1 sv Value.pointer m.nm, mapR r2 sv Value.pointer m.sf, row (.slice a2 m.ch.length c2) (m.ch.map chc) 57 3, star (m.ts.map (thR 60 5))] := hs
  refine W_seq ?_
  refine W_region ?_
  refine RW_op (L_assign (V := .int .i64 0) rfl ?_)
  refine RW_nil ?_
  refine W_seq ?_
  refine W_seq ?_
  refine W_region ?_
  refine RW_op (L_move (V := .pointer (some ⟨b, 0, none⟩)) rfl ?_)
  refine RW_op (L_callP (vs := [.pointer (some ⟨b, 0, none⟩)]) (V := .int .i64 0) EN_20 rfl rfl ?hc hs fun w1 hs => ?_)
  case hc => exact (kBurn_ok _ b (hs.cellsf 0 rfl) )
  refine RW_op (L_assign (V := .int .i64 0) rfl ?_)
  refine RW_nil ?_
  refine W_seq ?_
  refine W_region ?_
  refine RW_op (L_move (V := .int .i64 0) rfl ?_)
  refine RW_op (L_neq rfl rfl ?_)
  refine RW_nil ?_
  refine W_condF rfl ?_
  refine W_skip ?_
  refine W_seq ?_
  refine W_region ?_
  refine RW_op (L_move (V := .pointer (some ⟨b, 0, none⟩)) rfl ?_)
  refine RW_op (L_move (V := sv s) rfl ?_)
  refine RW_op (L_callP (vs := [.pointer (some ⟨b, 0, none⟩), sv s]) (V := .tuple #[.pointer (some ⟨t.p, 0, none⟩), .int .i64 0]) EN_21 rfl rfl ?hc hs fun w2 hs => ?_)
  case hc => exact (kFindS_ok _ b (hs.cellsf 0 rfl) s (hs.mapf 2 rfl) t.p hf)
  refine RW_op (L_move (V := .tuple #[.pointer (some ⟨t.p, 0, none⟩), .int .i64 0]) rfl ?_)
  refine RW_op (L_extract (V := .pointer (some ⟨t.p, 0, none⟩)) rfl rfl ?_)
  refine RW_op (L_extract (V := .int .i64 0) rfl rfl ?_)
  refine RW_op (L_assign (V := .pointer (some ⟨t.p, 0, none⟩)) rfl ?_)
  refine RW_op (L_assign (V := .int .i64 0) rfl ?_)
  refine RW_nil ?_
  refine W_seq ?_
  refine W_seq ?_
  refine W_region ?_
  refine RW_op (L_move (V := .int .i64 0) rfl ?_)
  refine RW_op (L_eql rfl rfl ?_)
  refine RW_nil ?_
  refine W_condT rfl ?_
  obtain ⟨ta, tc, hs⟩ := th_out hs 5 i rfl hi
  replace hs : Own w S _ [blk b [.int .i64 m.room, .slice a m.ts.length c, .map (some r1), .map (some r2), .slice a2 m.ch.length c2, .bool false, .int .i64 0] 44, row (.slice a m.ts.length c) ((pts m.ts).map po) 52 1, mapR r1 sv Value.pointer m.nm, mapR r2 sv Value.pointer m.sf, row (.slice a2 m.ch.length c2) (m.ch.map chc) 57 3, star ((m.ts.map (thR 60 5)).set i emp), blk t.p [.slice ta t.bs.length tc, .int .i64 ((t.sf : Nat) : Int)] 60, row (.slice ta t.bs.length tc) (t.bs.map (ic .u8)) 5 1] := hs
  refine W_region ?_
  refine RW_op (L_move (V := .pointer (some ⟨t.p, 0, none⟩)) rfl ?_)
  refine RW_op (L_move (V := .pointer (some ⟨t.p, 0, none⟩)) rfl ?_)
  refine RW_op (L_nilCheck rfl ?_)
  refine RW_op (L_fieldAddr FA_60_0 rfl ?_)
  refine RW_op (L_ld (V := .slice ta t.bs.length tc) S1_23 hs 6 rfl rfl rfl ?_)
  refine RW_op (L_lenR (n := t.bs.length) UD_23 (hs.rd 7 rfl) (by simp [pts_len]) rfl ?_)
  refine RW_op (L_nilCheck rfl ?_)
  refine RW_op (L_fieldAddr FA_60_1 rfl ?_)
  refine RW_op (L_st1 (V := .int .i64 ((t.bs.length : Nat) : Int)) (cs' := [.slice ta t.bs.length tc, .int .i64 ((t.bs.length : Nat) : Int)]) S1_3 hs 6 rfl rfl rfl rfl (Nat.le_of_ble_eq_true rfl) rfl fun w3 hs => ?_)
  refine RW_nil ?_
  refine W_seq ?_
  refine W_region ?_
  refine RW_op (L_move (V := .int .i64 0) rfl ?_)
  refine RW_op (L_assign (V := .int .i64 0) rfl ?_)
  refine RW_nil ?_
  refine W_ret ?_
  refine ⟨_, res_one (V := .int .i64 0) Try.results12 rfl, ?_⟩
  replace hs := th_in hs 5 6 7 i (by decide) (by decide) (by decide) (t := { t with sf := t.bs.length }) (a := ta) (c := tc) rfl (lt_of_get hi) rfl rfl
  exact ⟨(), rfl, dk_shut' (hs.take 6) (by simp) (pts_set (t' := { t with sf := t.bs.length }) hi rfl).symm rfl, trivial⟩
set_option maxRecDepth 20000 in
set_option maxHeartbeats 4000000 in
theorem kRemN_ok (w : World) (S : Nat → Prop) (b : Nat) (m : Dk) (hR : (dkR 44 60 5 52 57 b m).holds w S) (hlt : ∀ x, S x → x < w.heap.size) (s : Str) (hf : mget s m.nm = none) : Calls Try.prog 10 #[.pointer (some ⟨b, 0, none⟩), sv s] w (fun e w' => ∃ x : Unit, e = .returned (.int .i64 7) ∧ Own w S w' [dkR 44 60 5 52 57 b m] ∧ True) := by
  refine calls_of_Wn (n := 26) Try.func10 rfl Try.ntmps10 rfl ?_
  have hpl := pts_len m.ts
  obtain ⟨a, c, r1, r2, a2, c2, hs⟩ := dk_open hR hlt
  replace hs : Own w S w [blk b [.int .i64 m.room, .slice a m.ts.length c, .map (some r1), .map (some r2), .slice a2 m.ch.length c2, .bool false, .int .i64 0] 44, row (.slice a m.ts.length c) ((pts m.ts).map po) 52 1, mapR r1 sv Value.pointer m.nm, mapR r2 sv Value.pointer m.sf, row (.slice a2 m.ch.length c2) (m.ch.map chc) 57 3, star (m.ts.map (thR 60 5))] := hs
  refine W_seq ?_
  refine W_region ?_
  refine RW_op (L_assign (V := .int .i64 0) rfl ?_)
  refine RW_nil ?_
  refine W_seq ?_
  refine W_seq ?_
  refine W_region ?_
  refine RW_op (L_move (V := .pointer (some ⟨b, 0, none⟩)) rfl ?_)
  refine RW_op (L_callP (vs := [.pointer (some ⟨b, 0, none⟩)]) (V := .int .i64 0) EN_20 rfl rfl ?hc hs fun w1 hs => ?_)
  case hc => exact (kBurn_ok _ b (hs.cellsf 0 rfl) )
  refine RW_op (L_assign (V := .int .i64 0) rfl ?_)
  refine RW_nil ?_
  refine W_seq ?_
  refine W_region ?_
  refine RW_op (L_move (V := .int .i64 0) rfl ?_)
  refine RW_op (L_neq rfl rfl ?_)
  refine RW_nil ?_
  refine W_condF rfl ?_
  refine W_skip ?_
  refine W_seq ?_
  refine W_region ?_
  refine RW_op (L_move (V := .pointer (some ⟨b, 0, none⟩)) rfl ?_)
  refine RW_op (L_move (V := sv s) rfl ?_)
  refine RW_op (L_callP (vs := [.pointer (some ⟨b, 0, none⟩), sv s]) (V := .tuple #[.pointer none, .int .i64 7]) EN_21 rfl rfl ?hc hs fun w2 hs => ?_)
  case hc => exact (kFindN_ok _ b (hs.cellsf 0 rfl) s (hs.mapf 2 rfl) hf)
  refine RW_op (L_move (V := .tuple #[.pointer none, .int .i64 7]) rfl ?_)
  refine RW_op (L_extract (V := .pointer none) rfl rfl ?_)
  refine RW_op (L_extract (V := .int .i64 7) rfl rfl ?_)
  refine RW_op (L_assign (V := .pointer none) rfl ?_)
  refine RW_op (L_assign (V := .int .i64 7) rfl ?_)
  refine RW_nil ?_
  refine W_seq ?_
  refine W_seq ?_
  refine W_region ?_
  refine RW_op (L_move (V := .int .i64 7) rfl ?_)
  refine RW_op (L_eql rfl rfl ?_)
  refine RW_nil ?_
  refine W_condF rfl ?_
  refine W_skip ?_
  refine W_seq ?_
  refine W_region ?_
  refine RW_op (L_move (V := .int .i64 7) rfl ?_)
  refine RW_op (L_assign (V := .int .i64 7) rfl ?_)
  refine RW_nil ?_
  refine W_ret ?_
  refine ⟨_, res_one (V := .int .i64 7) Try.results10 rfl, ?_⟩
  exact ⟨(), rfl, dk_shut' (hs.take 6) rfl rfl rfl, trivial⟩
set_option maxRecDepth 20000 in
set_option maxHeartbeats 4000000 in
theorem kRemS_ok (w : World) (S : Nat → Prop) (b : Nat) (m : Dk) (hR : (dkR 44 60 5 52 57 b m).holds w S) (hlt : ∀ x, S x → x < w.heap.size) (hN : m.ch.length ≤ 1000000) (s : Str) (p : Nat) (hf : mget s m.nm = some (pt p)) : Calls Try.prog 10 #[.pointer (some ⟨b, 0, none⟩), sv s] w (fun e w' => ∃ x : Unit, e = .returned (.int .i64 0) ∧ Own w S w' [dkR 44 60 5 52 57 b (chgD m ⟨s, [], none⟩)] ∧ True) := by
  refine calls_of_Wn (n := 26) Try.func10 rfl Try.ntmps10 rfl ?_
  have hpl := pts_len m.ts
  obtain ⟨a, c, r1, r2, a2, c2, hs⟩ := dk_open hR hlt
  replace hs : Own w S w [blk b [.int .i64 m.room, .slice a m.ts.length c, .map (some r1), .map (some r2), .slice a2 m.ch.length c2, .bool false, .int .i64 0] 44, row (.slice a m.ts.length c) ((pts m.ts).map po) 52 1, mapR r1 sv Value.pointer m.nm, mapR r2 sv Value.pointer m.sf, row (.slice a2 m.ch.length c2) (m.ch.map chc) 57 3, star (m.ts.map (thR 60 5))] := hs
  refine W_seq ?_
  refine W_region ?_
  refine RW_op (L_assign (V := .int .i64 0) rfl ?_)
  refine RW_nil ?_
  refine W_seq ?_
  refine W_seq ?_
  refine W_region ?_
  refine RW_op (L_move (V := .pointer (some ⟨b, 0, none⟩)) rfl ?_)
  refine RW_op (L_callP (vs := [.pointer (some ⟨b, 0, none⟩)]) (V := .int .i64 0) EN_20 rfl rfl ?hc hs fun w1 hs => ?_)
  case hc => exact (kBurn_ok _ b (hs.cellsf 0 rfl) )
  refine RW_op (L_assign (V := .int .i64 0) rfl ?_)
  refine RW_nil ?_
  refine W_seq ?_
  refine W_region ?_
  refine RW_op (L_move (V := .int .i64 0) rfl ?_)
  refine RW_op (L_neq rfl rfl ?_)
  refine RW_nil ?_
  refine W_condF rfl ?_
  refine W_skip ?_
  refine W_seq ?_
  refine W_region ?_
  refine RW_op (L_move (V := .pointer (some ⟨b, 0, none⟩)) rfl ?_)
  refine RW_op (L_move (V := sv s) rfl ?_)
  refine RW_op (L_callP (vs := [.pointer (some ⟨b, 0, none⟩), sv s]) (V := .tuple #[.pointer (some ⟨p, 0, none⟩), .int .i64 0]) EN_21 rfl rfl ?hc hs fun w2 hs => ?_)
  case hc => exact (kFindS_ok _ b (hs.cellsf 0 rfl) s (hs.mapf 2 rfl) p hf)
  refine RW_op (L_move (V := .tuple #[.pointer (some ⟨p, 0, none⟩), .int .i64 0]) rfl ?_)
  refine RW_op (L_extract (V := .pointer (some ⟨p, 0, none⟩)) rfl rfl ?_)
  refine RW_op (L_extract (V := .int .i64 0) rfl rfl ?_)
  refine RW_op (L_assign (V := .pointer (some ⟨p, 0, none⟩)) rfl ?_)
  refine RW_op (L_assign (V := .int .i64 0) rfl ?_)
  refine RW_nil ?_
  refine W_seq ?_
  refine W_seq ?_
  refine W_region ?_
  refine RW_op (L_move (V := .int .i64 0) rfl ?_)
  refine RW_op (L_eql rfl rfl ?_)
  refine RW_nil ?_
  refine W_condT rfl ?_
  refine W_region ?_
  refine RW_op (L_move (V := .pointer (some ⟨b, 0, none⟩)) rfl ?_)
  refine RW_op (L_move (V := sv s) rfl ?_)
  refine RW_op (L_build (vs := [(0, sv s)]) (cs := chc (⟨s, [], none⟩ : Chg)) BT_57 (rfl) rfl ?_)
  refine RW_op (L_callS (vs := [.pointer (some ⟨b, 0, none⟩), .agg (chc (⟨s, [], none⟩ : Chg)).toArray]) (V := fun _ : Option Addr × Nat => .tuple #[]) (Rs := [blk b [.int .i64 m.room, .slice a m.ts.length c, .map (some r1), .map (some r2), .slice a2 m.ch.length c2, .bool false, .int .i64 0] 44, mapR r1 sv Value.pointer m.nm, row (.slice a2 m.ch.length c2) (m.ch.map chc) 57 3]) (Rs' := fun x => [blk b [.int .i64 m.room, .slice a m.ts.length c, .map (some r1), .map (some r2), .slice x.1 ((m.ch ++ [(⟨s, [], none⟩ : Chg)]).length) x.2, .bool false, .int .i64 0] 44, mapR r1 sv Value.pointer (doC m.nm (⟨s, [], none⟩ : Chg)), row (.slice x.1 ((m.ch ++ [(⟨s, [], none⟩ : Chg)]).length) x.2) ((m.ch ++ [(⟨s, [], none⟩ : Chg)]).map chc) 57 3]) (Lo := fun _ => []) (F := fun _ _ => True) EN_22 rfl rfl hs [0, 2, 4] (by decide) rfl (fun _ => rfl) (fun S0 h0 l0 => kChg_ok _ S0 b m.room a m.ts.length c r1 r2 a2 c2 m.nm m.ch (⟨s, [], none⟩ : Chg) (.inl rfl) hN h0 l0) fun x3 w4 hs _ => ?_)
  replace hs : Own w S w4 [blk b [.int .i64 m.room, .slice a m.ts.length c, .map (some r1), .map (some r2), .slice x3.1 ((m.ch ++ [(⟨s, [], none⟩ : Chg)]).length) x3.2, .bool false, .int .i64 0] 44, row (.slice a m.ts.length c) ((pts m.ts).map po) 52 1, mapR r1 sv Value.pointer (doC m.nm (⟨s, [], none⟩ : Chg)), mapR r2 sv Value.pointer m.sf, row (.slice x3.1 ((m.ch ++ [(⟨s, [], none⟩ : Chg)]).length) x3.2) ((m.ch ++ [(⟨s, [], none⟩ : Chg)]).map chc) 57 3, star (m.ts.map (thR 60 5))] := hs
  refine RW_nil ?_
  refine W_seq ?_
  refine W_region ?_
  refine RW_op (L_move (V := .int .i64 0) rfl ?_)
  refine RW_op (L_assign (V := .int .i64 0) rfl ?_)
  refine RW_nil ?_
  refine W_ret ?_
  refine ⟨_, res_one (V := .int .i64 0) Try.results10 rfl, ?_⟩
  exact ⟨(), rfl, dk_shut' (hs.take 6) rfl rfl rfl, trivial⟩
set_option maxRecDepth 20000 in
set_option maxHeartbeats 4000000 in
theorem kRenN_ok (w : World) (S : Nat → Prop) (b : Nat) (m : Dk) (hR : (dkR 44 60 5 52 57 b m).holds w S) (hlt : ∀ x, S x → x < w.heap.size) (s s2 : Str) (hf : mget s m.nm = none) : Calls Try.prog 18 #[.pointer (some ⟨b, 0, none⟩), sv s, sv s2] w (fun e w' => ∃ x : Unit, e = .returned (.int .i64 7) ∧ Own w S w' [dkR 44 60 5 52 57 b m] ∧ True) := by
  refine calls_of_Wn (n := 39) Try.func18 rfl Try.ntmps18 rfl ?_
  have hpl := pts_len m.ts
  obtain ⟨a, c, r1, r2, a2, c2, hs⟩ := dk_open hR hlt
  replace hs : Own w S w [blk b [.int .i64 m.room, .slice a m.ts.length c, .map (some r1), .map (some r2), .slice a2 m.ch.length c2, .bool false, .int .i64 0] 44, row (.slice a m.ts.length c) ((pts m.ts).map po) 52 1, mapR r1 sv Value.pointer m.nm, mapR r2 sv Value.pointer m.sf, row (.slice a2 m.ch.length c2) (m.ch.map chc) 57 3, star (m.ts.map (thR 60 5))] := hs
  refine W_seq ?_
  refine W_region ?_
  refine RW_op (L_assign (V := .int .i64 0) rfl ?_)
  refine RW_nil ?_
  refine W_seq ?_
  refine W_seq ?_
  refine W_region ?_
  refine RW_op (L_move (V := .pointer (some ⟨b, 0, none⟩)) rfl ?_)
  refine RW_op (L_callP (vs := [.pointer (some ⟨b, 0, none⟩)]) (V := .int .i64 0) EN_20 rfl rfl ?hc hs fun w1 hs => ?_)
  case hc => exact (kBurn_ok _ b (hs.cellsf 0 rfl) )
  refine RW_op (L_assign (V := .int .i64 0) rfl ?_)
  refine RW_nil ?_
  refine W_seq ?_
  refine W_region ?_
  refine RW_op (L_move (V := .int .i64 0) rfl ?_)
  refine RW_op (L_neq rfl rfl ?_)
  refine RW_nil ?_
  refine W_condF rfl ?_
  refine W_skip ?_
  refine W_seq ?_
  refine W_region ?_
  refine RW_op (L_move (V := .pointer (some ⟨b, 0, none⟩)) rfl ?_)
  refine RW_op (L_move (V := sv s) rfl ?_)
  refine RW_op (L_callP (vs := [.pointer (some ⟨b, 0, none⟩), sv s]) (V := .tuple #[.pointer none, .int .i64 7]) EN_21 rfl rfl ?hc hs fun w2 hs => ?_)
  case hc => exact (kFindN_ok _ b (hs.cellsf 0 rfl) s (hs.mapf 2 rfl) hf)
  refine RW_op (L_move (V := .tuple #[.pointer none, .int .i64 7]) rfl ?_)
  refine RW_op (L_extract (V := .pointer none) rfl rfl ?_)
  refine RW_op (L_extract (V := .int .i64 7) rfl rfl ?_)
  refine RW_op (L_assign (V := .pointer none) rfl ?_)
  refine RW_op (L_assign (V := .int .i64 7) rfl ?_)
  refine RW_nil ?_
  refine W_seq ?_
  refine W_block ?_
  refine W_seq ?_
  refine W_region ?_
  refine RW_op (L_move (V := .int .i64 7) rfl ?_)
  refine RW_op (L_neq rfl rfl ?_)
  refine RW_op (L_assign (V := .bool true) rfl ?_)
  refine RW_nil ?_
  refine W_condT rfl ?_
  refine W_seq ?_
  refine W_region ?_
  refine RW_op (L_move (V := .int .i64 7) rfl ?_)
  refine RW_op (L_assign (V := .int .i64 7) rfl ?_)
  refine RW_nil ?_
  refine W_ret ?_
  refine ⟨_, res_one (V := .int .i64 7) Try.results18 rfl, ?_⟩
  exact ⟨(), rfl, dk_shut' (hs.take 6) rfl rfl rfl, trivial⟩
set_option maxRecDepth 20000 in
set_option maxHeartbeats 4000000 in
theorem kRenS_ok (w : World) (S : Nat → Prop) (b : Nat) (m : Dk) (hR : (dkR 44 60 5 52 57 b m).holds w S) (hlt : ∀ x, S x → x < w.heap.size) (hN : m.ch.length ≤ 1000000) (s s2 : Str) (p : Nat) (hf : mget s m.nm = some (pt p)) : Calls Try.prog 18 #[.pointer (some ⟨b, 0, none⟩), sv s, sv s2] w (fun e w' => ∃ x : Int × Dk, e = .returned (.int .i64 x.1) ∧ Own w S w' [dkR 44 60 5 52 57 b x.2] ∧ ((x.1 = 2 ∧ x.2 = m ∧ mayB s2 = false) ∨ (x.1 = 0 ∧ x.2 = m ∧ mayB s2 = true ∧ s = s2) ∨ (x.1 = 0 ∧ x.2 = chgD m ⟨s2, s, pt p⟩ ∧ mayB s2 = true ∧ ¬ s = s2))) := by
  refine calls_of_Wn (n := 39) Try.func18 rfl Try.ntmps18 rfl ?_
  have hpl := pts_len m.ts
  obtain ⟨a, c, r1, r2, a2, c2, hs⟩ := dk_open hR hlt
  replace hs : Own w S w [blk b [.int .i64 m.room, .slice a m.ts.length c, .map (some r1), .map (some r2), .slice a2 m.ch.length c2, .bool false, .int .i64 0] 44, row (.slice a m.ts.length c) ((pts m.ts).map po) 52 1, mapR r1 sv Value.pointer m.nm, mapR r2 sv Value.pointer m.sf, row (.slice a2 m.ch.length c2) (m.ch.map chc) 57 3, star (m.ts.map (thR 60 5))] := hs
  refine W_seq ?_
  refine W_region ?_
  refine RW_op (L_assign (V := .int .i64 0) rfl ?_)
  refine RW_nil ?_
  refine W_seq ?_
  refine W_seq ?_
  refine W_region ?_
  refine RW_op (L_move (V := .pointer (some ⟨b, 0, none⟩)) rfl ?_)
  refine RW_op (L_callP (vs := [.pointer (some ⟨b, 0, none⟩)]) (V := .int .i64 0) EN_20 rfl rfl ?hc hs fun w1 hs => ?_)
  case hc => exact (kBurn_ok _ b (hs.cellsf 0 rfl) )
  refine RW_op (L_assign (V := .int .i64 0) rfl ?_)
  refine RW_nil ?_
  refine W_seq ?_
  refine W_region ?_
  refine RW_op (L_move (V := .int .i64 0) rfl ?_)
  refine RW_op (L_neq rfl rfl ?_)
  refine RW_nil ?_
  refine W_condF rfl ?_
  refine W_skip ?_
  refine W_seq ?_
  refine W_region ?_
  refine RW_op (L_move (V := .pointer (some ⟨b, 0, none⟩)) rfl ?_)
  refine RW_op (L_move (V := sv s) rfl ?_)
  refine RW_op (L_callP (vs := [.pointer (some ⟨b, 0, none⟩), sv s]) (V := .tuple #[.pointer (some ⟨p, 0, none⟩), .int .i64 0]) EN_21 rfl rfl ?hc hs fun w2 hs => ?_)
  case hc => exact (kFindS_ok _ b (hs.cellsf 0 rfl) s (hs.mapf 2 rfl) p hf)
  refine RW_op (L_move (V := .tuple #[.pointer (some ⟨p, 0, none⟩), .int .i64 0]) rfl ?_)
  refine RW_op (L_extract (V := .pointer (some ⟨p, 0, none⟩)) rfl rfl ?_)
  refine RW_op (L_extract (V := .int .i64 0) rfl rfl ?_)
  refine RW_op (L_assign (V := .pointer (some ⟨p, 0, none⟩)) rfl ?_)
  refine RW_op (L_assign (V := .int .i64 0) rfl ?_)
  refine RW_nil ?_
  refine W_seq ?_
  refine W_block ?_
  refine W_seq ?_
  refine W_region ?_
  refine RW_op (L_move (V := .int .i64 0) rfl ?_)
  refine RW_op (L_neq rfl rfl ?_)
  refine RW_op (L_assign (V := .bool false) rfl ?_)
  refine RW_nil ?_
  refine W_condF rfl ?_
  refine W_seq ?_
  refine W_region ?_
  refine RW_op (L_move (V := sv s2) rfl ?_)
  refine RW_op (L_callP (vs := [sv s2]) (V := .bool (mayB s2)) EN_23 rfl rfl ?hc hs fun w3 hs => ?_)
  case hc => exact (kMay_ok _ s2)
  refine RW_op (L_not rfl ?_)
  refine RW_op (L_assign (V := .bool (!(mayB s2))) rfl ?_)
  refine RW_nil ?_
  refine W_cond (t := !(mayB s2)) rfl (fun c4 => ?_) (fun c4 => ?_)
  ·
    replace c4 := not_t c4
    refine W_seq ?_
    refine W_region ?_
    refine RW_op (L_assign (V := .int .i64 2) rfl ?_)
    refine RW_nil ?_
    refine W_ret ?_
    refine ⟨_, res_one (V := .int .i64 2) Try.results18 rfl, ?_⟩
    exact ⟨(2, m), rfl, dk_shut' (hs.take 6) rfl rfl rfl, .inl ⟨rfl, rfl, c4⟩⟩
  ·
    replace c4 := not_f c4
    refine W_seq ?_
    refine W_region ?_
    refine RW_op (L_move (V := sv s) rfl ?_)
    refine RW_op (L_move (V := sv s2) rfl ?_)
    refine RW_op (L_neS rfl rfl ?_)
    refine RW_op (L_assign (V := .bool (!decide (s = s2))) rfl ?_)
    refine RW_nil ?_
    refine W_cond (t := !decide (s = s2)) rfl (fun c5 => ?_) (fun c5 => ?_)
    ·
      replace c5 := not_t c5
      replace c5 := of_decide_eq_false c5
      refine W_region ?_
      refine RW_op (L_move (V := .pointer (some ⟨b, 0, none⟩)) rfl ?_)
      refine RW_op (L_move (V := sv s2) rfl ?_)
      refine RW_op (L_move (V := sv s) rfl ?_)
      refine RW_op (L_move (V := .pointer (some ⟨p, 0, none⟩)) rfl ?_)
      refine RW_op (L_build (vs := [(0, sv s2), (1, sv s), (2, .pointer (some ⟨p, 0, none⟩))]) (cs := chc (⟨s2, s, (some ⟨p, 0, none⟩ : Option Addr)⟩ : Chg)) BT_57 (rfl) rfl ?_)
      refine RW_op (L_callS (vs := [.pointer (some ⟨b, 0, none⟩), .agg (chc (⟨s2, s, (some ⟨p, 0, none⟩ : Option Addr)⟩ : Chg)).toArray]) (V := fun _ : Option Addr × Nat => .tuple #[]) (Rs := [blk b [.int .i64 m.room, .slice a m.ts.length c, .map (some r1), .map (some r2), .slice a2 m.ch.length c2, .bool false, .int .i64 0] 44, mapR r1 sv Value.pointer m.nm, row (.slice a2 m.ch.length c2) (m.ch.map chc) 57 3]) (Rs' := fun x => [blk b [.int .i64 m.room, .slice a m.ts.length c, .map (some r1), .map (some r2), .slice x.1 ((m.ch ++ [(⟨s2, s, (some ⟨p, 0, none⟩ : Option Addr)⟩ : Chg)]).length) x.2, .bool false, .int .i64 0] 44, mapR r1 sv Value.pointer (doC m.nm (⟨s2, s, (some ⟨p, 0, none⟩ : Option Addr)⟩ : Chg)), row (.slice x.1 ((m.ch ++ [(⟨s2, s, (some ⟨p, 0, none⟩ : Option Addr)⟩ : Chg)]).length) x.2) ((m.ch ++ [(⟨s2, s, (some ⟨p, 0, none⟩ : Option Addr)⟩ : Chg)]).map chc) 57 3]) (Lo := fun _ => []) (F := fun _ _ => True) EN_22 rfl rfl hs [0, 2, 4] (by decide) rfl (fun _ => rfl) (fun S0 h0 l0 => kChg_ok _ S0 b m.room a m.ts.length c r1 r2 a2 c2 m.nm m.ch (⟨s2, s, (some ⟨p, 0, none⟩ : Option Addr)⟩ : Chg) (.inr ⟨_, rfl⟩) hN h0 l0) fun x6 w7 hs _ => ?_)
      replace hs : Own w S w7 [blk b [.int .i64 m.room, .slice a m.ts.length c, .map (some r1), .map (some r2), .slice x6.1 ((m.ch ++ [(⟨s2, s, (some ⟨p, 0, none⟩ : Option Addr)⟩ : Chg)]).length) x6.2, .bool false, .int .i64 0] 44, row (.slice a m.ts.length c) ((pts m.ts).map po) 52 1, mapR r1 sv Value.pointer (doC m.nm (⟨s2, s, (some ⟨p, 0, none⟩ : Option Addr)⟩ : Chg)), mapR r2 sv Value.pointer m.sf, row (.slice x6.1 ((m.ch ++ [(⟨s2, s, (some ⟨p, 0, none⟩ : Option Addr)⟩ : Chg)]).length) x6.2) ((m.ch ++ [(⟨s2, s, (some ⟨p, 0, none⟩ : Option Addr)⟩ : Chg)]).map chc) 57 3, star (m.ts.map (thR 60 5))] := hs
      refine RW_nil ?_
      refine W_seq ?_
      refine W_region ?_
      refine RW_op (L_assign (V := .int .i64 0) rfl ?_)
      refine RW_nil ?_
      refine W_ret ?_
      refine ⟨_, res_one (V := .int .i64 0) Try.results18 rfl, ?_⟩
      exact ⟨(0, chgD m ⟨s2, s, pt p⟩), rfl, dk_shut' (hs.take 6) rfl rfl rfl, .inr (.inr ⟨rfl, rfl, c4, c5⟩)⟩
    ·
      replace c5 := not_f c5
      replace c5 := of_decide_eq_true c5
      refine W_skip ?_
      refine W_seq ?_
      refine W_region ?_
      refine RW_op (L_assign (V := .int .i64 0) rfl ?_)
      refine RW_nil ?_
      refine W_ret ?_
      refine ⟨_, res_one (V := .int .i64 0) Try.results18 rfl, ?_⟩
      exact ⟨(0, m), rfl, dk_shut' (hs.take 6) rfl rfl rfl, .inr (.inl ⟨rfl, rfl, c4, c5⟩)⟩
end Tt
end Go.Proofs
namespace Go.Proofs
open Go Go.Vx Go.RowKit
namespace Tt
set_option maxRecDepth 20000 in
set_option maxHeartbeats 4000000 in
theorem kUsed_ok (w : World) (b : Nat) {room : Int} {a : Option Addr} {n c r1 r2 : Nat} {a2 : Option Addr} {n2 c2 : Nat} (hc : CellsF w b (dcl room a n c r1 r2 a2 n2 c2)) {nm : List (Str × Pt)} (hm : MapF w r1 sv Value.pointer nm) (ts : List Thg) (ht : ThF w ts) (hv : Names ts nm) (hnd : (ts.map (·.p)).Nodup) (hb : usedL ts nm ≤ 4611686018427387904) : Calls Try.prog 17 #[.pointer (some ⟨b, 0, none⟩)] w (fun e w' => e = .returned (.int .i64 ((usedL ts nm : Nat) : Int)) ∧ Own w no w' []) := by
  refine calls_of_Wn (n := 26) Try.func17 rfl Try.ntmps17 rfl ?_
  have hs := Own.start w
  have hm1 := hm
  obtain ⟨es, clock, hm0, hE⟩ := hm1
  refine W_seq ?_
  refine W_region ?_
  refine RW_op (L_assign (V := .int .i64 0) rfl ?_)
  refine RW_nil ?_
  refine W_seq ?_
  refine W_seq ?_
  refine W_region ?_
  refine RW_op (L_move (V := .pointer (some ⟨b, 0, none⟩)) rfl ?_)
  refine RW_op (L_callP (vs := [.pointer (some ⟨b, 0, none⟩)]) (V := .bool true) EN_25 rfl rfl ?hc hs fun w1 hs => ?_)
  case hc => exact (kGood_ok _ b (hc.own' hs) )
  refine RW_op (L_not rfl ?_)
  refine RW_nil ?_
  refine W_condF rfl ?_
  refine W_skip ?_
  refine W_seq ?_
  refine W_region ?_
  refine RW_op (L_assign (V := .int .i64 0) rfl ?_)
  refine RW_nil ?_
  refine W_seq ?_
  refine W_seq ?_
  refine W_region ?_
  refine RW_op (L_move (V := .pointer (some ⟨b, 0, none⟩)) rfl ?_)
  refine RW_op (L_nilCheck rfl ?_)
  refine RW_op (L_fieldAddr FA_44_2 rfl ?_)
  refine RW_op (L_ldF (V := .map (some r1)) S1_41 (CellsF.own' hc hs) rfl rfl ?_)
  have hat := hs.at hm0 (fun h => h)
  refine RW_op (L_range UD_41 hat hs rfl fun it w2 hs => ?_)
  refine RW_nil ?_
  refine W_block ?_
  refine W_loopI (fun ρ μ ρ' w' => ∃ (ρo : Env) (q : Nat) (seen : Array Nat), ρ' = upd (mix [3, 5, 14, 15, 16, 17, 18, 19, 20, 21, 22, 23, 24] ρo ρ) 3 (.int .i64 ((q : Nat) : Int)) ∧ (q + ((left es seen).map fun e => lenV ts e.val).sum = usedL ts nm) ∧ μ = (left es seen).length ∧ Own w no w' [iterR it r1 clock seen]) ?_ ?_
  · exact ⟨_, _, 0, #[], upd_of (mix_of (ds := [3, 5, 14, 15, 16, 17, 18, 19, 20, 21, 22, 23, 24]) (Agr.refl _ _)) rfl, (used_start hE), rfl, hs⟩
  · rintro μ ρ' w3 ⟨ρo, q, seen, rfl, hq, rfl, hs⟩
    refine W_seq ?_
    refine W_region ?_
    refine RW_op (L_next (seen := seen) (hs.at hm0 (fun h => h)) hE.old hs 0 rfl rfl (fun h0 => ?_) (fun e4 ha w5 hs => ?_))
    ·
      refine RW_op (L_extract (V := .bool false) rfl rfl ?_)
      refine RW_nil ?_
      refine W_seq ?_
      refine W_condF rfl ?_
      refine W_exit ?_
      refine W_seq ?_
      refine W_region ?_
      refine RW_op (L_move (V := .int .i64 ((q : Nat) : Int)) rfl ?_)
      refine RW_op (L_assign (V := .int .i64 ((q : Nat) : Int)) rfl ?_)
      refine RW_nil ?_
      refine W_ret ?_
      refine ⟨_, res_one (V := .int .i64 ((q : Nat) : Int)) Try.results17 rfl, ?_⟩
      refine ⟨congrArg Ending.returned ?_, hs.take 0⟩
      rw [h0] at hq; rw [← hq]; simp
    ·
      obtain ⟨x, hx, hkey, hval⟩ := ents_kv hE (left_mem ha)
      obtain ⟨t, ht1, hpt⟩ := hv x hx
      rw [hpt] at hval
      obtain ⟨ta, tc, hct, hrt⟩ := ht t ht1
      have hlt : lenV ts e4.val = t.bs.length := by rw [hval]; exact lenAt_of hnd ht1
      have hst := used_step hE.inc ha hq hlt
      refine RW_op (L_extract (V := .bool true) rfl rfl ?_)
      refine RW_nil ?_
      refine W_seq ?_
      refine W_condT rfl ?_
      refine W_skip ?_
      refine W_block ?_
      refine W_seq ?_
      refine W_region ?_
      refine RW_op (L_entryV (V := .pointer (some ⟨t.p, 0, none⟩)) (hs.at hm0 (fun h => h)) hE.inc (left_mem ha) hval hs 0 rfl rfl ?_)
      refine RW_op (L_extract (V := .pointer (some ⟨t.p, 0, none⟩)) rfl rfl ?_)
      refine RW_op (L_assign (V := .pointer (some ⟨t.p, 0, none⟩)) rfl ?_)
      refine RW_nil ?_
      refine W_region ?_
      refine RW_op (L_move (V := .int .i64 ((q : Nat) : Int)) rfl ?_)
      refine RW_op (L_move (V := .pointer (some ⟨t.p, 0, none⟩)) rfl ?_)
      refine RW_op (L_nilCheck rfl ?_)
      refine RW_op (L_fieldAddr FA_60_0 rfl ?_)
      refine RW_op (L_ldF (V := .slice ta t.bs.length tc) S1_23 (hct.own' hs) rfl rfl ?_)
      refine RW_op (L_lenR (n := t.bs.length) UD_23 (Rd.own' hrt hs) (by simp) rfl ?_)
      refine RW_op (L_add (a := ((q : Nat) : Int)) (b := ((t.bs.length : Nat) : Int)) (c := ((q + t.bs.length : Nat) : Int)) rfl rfl (nat_i64 (by omega) (by omega)) ?_)
      refine RW_op (L_assign (V := .int .i64 ((q + t.bs.length : Nat) : Int)) rfl ?_)
      refine RW_nil ?_
      have hst2 := hst.1
      refine ⟨_, ?_, _, q + t.bs.length, seen.push e4.born, upd_of (mix_of (ds := [3, 5, 14, 15, 16, 17, 18, 19, 20, 21, 22, 23, 24]) (by repeat (first | exact Agr.refl _ _ | refine Agr.upd ?_ rfl | refine Agr.mix ?_ rfl))) rfl, hst2, rfl, hs.take 1⟩
      exact hst.2
set_option maxRecDepth 20000 in
set_option maxHeartbeats 4000000 in
theorem clnB_ok (w : World) (a : Option Addr) (c : Nat) (l : List Int) (hN : l.length * 2 ≤ 140737488355328) (hr : Rd w (.slice a l.length c) 1 (l.map (ic .u8))) : Calls Try.prog 27 #[.slice a l.length c] w (fun e w' => ∃ x : Option Addr × Nat, e = .returned (.slice x.1 (l).length x.2) ∧ Own w no w' [row (.slice x.1 (l).length x.2) ((l).map (ic .u8)) 5 1] ∧ True) := by
  refine calls_of_Wn (n := 8) Try.func27 rfl Try.ntmps27 rfl ?_
  have hs := Own.start w
  have hn := hr.sml
  refine W_seq ?_
  refine W_region ?_
  refine RW_op (L_assign (V := .slice none 0 0) rfl ?_)
  refine RW_nil ?_
  refine W_seq ?_
  refine W_seq ?_
  refine W_region ?_
  refine RW_op (L_move (V := .slice a l.length c) rfl ?_)
  refine RW_op (L_slN UDR_23 rfl rfl ?_)
  refine RW_nil ?_
  refine W_cond (t := a.isNone) rfl (fun c1 => ?_) (fun c1 => ?_)
  ·
    refine W_seq ?_
    refine W_region ?_
    refine RW_op (L_assign (V := .slice none 0 0) rfl ?_)
    refine RW_nil ?_
    refine W_ret ?_
    refine ⟨_, res_one (V := .slice none 0 0) Try.results27 rfl, ?_⟩
    have hl0 := hr.isN c1
    subst hl0
    exact ⟨(none, 0), rfl, (hs.take 0).more _ (row_nil _ _ _ _), trivial⟩
  ·
    refine W_skip ?_
    refine W_seq ?_
    refine W_region ?_
    refine RW_op (L_bs (vals := []) (ls := List.map (ic .u8) ([] : List Int)) EL_23 rfl rfl rfl (len_map (enc := (ic .u8)) (fun _ => rfl) _) (one_map (ic_one .u8) _) (Nat.le_of_ble_eq_true rfl) hs fun b2 w3 hs => ?_)
    refine RW_op (L_move (V := .slice a l.length c) rfl ?_)
    refine RW_op (L_appN (ls' := l.map (ic .u8)) (n := l.length) EL_23 hs 0 rfl rfl rfl (Rd.own' hr hs) (one_map (ic_one .u8) _) (by simp only [List.length_map, List.length_append, List.length_cons, List.length_nil]; omega) (by simp) (by simp) fun a4 c4 w5 hs => ?_)
    refine RW_op (L_assign (V := .slice a4 l.length c4) rfl ?_)
    refine RW_nil ?_
    refine W_ret ?_
    refine ⟨_, res_one (V := .slice a4 l.length c4) Try.results27 rfl, ?_⟩
    exact ⟨(a4, c4), rfl, hs.only 0 rfl, trivial⟩
set_option maxRecDepth 20000 in
set_option maxHeartbeats 4000000 in
theorem kReadN_ok (w : World) (b : Nat) {room : Int} {a : Option Addr} {n c r1 r2 : Nat} {a2 : Option Addr} {n2 c2 : Nat} (hc : CellsF w b (dcl room a n c r1 r2 a2 n2 c2)) (s : Str) {nm : List (Str × Pt)} (hm : MapF w r1 sv Value.pointer nm) (hf : mget s nm = none) : Calls Try.prog 15 #[.pointer (some ⟨b, 0, none⟩), sv s] w (fun e w' => e = .returned (.tuple #[.slice none 0 0, .int .i64 7]) ∧ Own w no w' []) := by
  refine calls_of_Wn (n := 22) Try.func15 rfl Try.ntmps15 rfl ?_
  have hs := Own.start w
  refine W_seq ?_
  refine W_region ?_
  refine RW_op (L_assign (V := .slice none 0 0) rfl ?_)
  refine RW_op (L_assign (V := .int .i64 0) rfl ?_)
  refine RW_nil ?_
  refine W_seq ?_
  refine W_region ?_
  refine RW_op (L_move (V := .pointer (some ⟨b, 0, none⟩)) rfl ?_)
  refine RW_op (L_move (V := sv s) rfl ?_)
  refine RW_op (L_callP (vs := [.pointer (some ⟨b, 0, none⟩), sv s]) (V := .tuple #[.pointer none, .int .i64 7]) EN_21 rfl rfl ?hc hs fun w1 hs => ?_)
  case hc => exact (kFindN_ok _ b (hc.own' hs) s (hm.own' hs) hf)
  refine RW_op (L_move (V := .tuple #[.pointer none, .int .i64 7]) rfl ?_)
  refine RW_op (L_extract (V := .pointer none) rfl rfl ?_)
  refine RW_op (L_extract (V := .int .i64 7) rfl rfl ?_)
  refine RW_op (L_assign (V := .pointer none) rfl ?_)
  refine RW_op (L_assign (V := .int .i64 7) rfl ?_)
  refine RW_nil ?_
  refine W_seq ?_
  refine W_seq ?_
  refine W_region ?_
  refine RW_op (L_move (V := .int .i64 7) rfl ?_)
  refine RW_op (L_neq rfl rfl ?_)
  refine RW_nil ?_
  refine W_condT rfl ?_
  refine W_seq ?_
  refine W_region ?_
  refine RW_op (L_move (V := .int .i64 7) rfl ?_)
  refine RW_op (L_assign (V := .slice none 0 0) rfl ?_)
  refine RW_op (L_assign (V := .int .i64 7) rfl ?_)
  refine RW_nil ?_
  refine W_ret ?_
  refine ⟨_, res_two (U := .slice none 0 0) (V := .int .i64 7) Try.results15 rfl rfl, ?_⟩
  refine ⟨congrArg Ending.returned ?_, hs.take 0⟩
  rfl
set_option maxRecDepth 20000 in
set_option maxHeartbeats 4000000 in
theorem kReadS_ok (w : World) (b : Nat) {room : Int} {a : Option Addr} {n c r1 r2 : Nat} {a2 : Option Addr} {n2 c2 : Nat} (hc : CellsF w b (dcl room a n c r1 r2 a2 n2 c2)) (s : Str) {nm : List (Str × Pt)} (hm : MapF w r1 sv Value.pointer nm) (t : Thg) (hf : mget s nm = some (pt t.p)) (hN : t.bs.length * 2 ≤ 140737488355328) (ta : Option Addr) (tc : Nat) (hct : CellsF w t.p [.slice ta t.bs.length tc, .int .i64 ((t.sf : Nat) : Int)]) (hrt : Rd w (.slice ta t.bs.length tc) 1 (t.bs.map (ic .u8))) : Calls Try.prog 15 #[.pointer (some ⟨b, 0, none⟩), sv s] w (fun e w' => ∃ x : Option Addr × Nat, e = .returned (.tuple #[.slice x.1 t.bs.length x.2, .int .i64 0]) ∧ Own w no w' [row (.slice x.1 t.bs.length x.2) (t.bs.map (ic .u8)) 5 1] ∧ True) := by
  refine calls_of_Wn (n := 22) Try.func15 rfl Try.ntmps15 rfl ?_
  have hs := Own.start w
  refine W_seq ?_
  refine W_region ?_
  refine RW_op (L_assign (V := .slice none 0 0) rfl ?_)
  refine RW_op (L_assign (V := .int .i64 0) rfl ?_)
  refine RW_nil ?_
  refine W_seq ?_
  refine W_region ?_
  refine RW_op (L_move (V := .pointer (some ⟨b, 0, none⟩)) rfl ?_)
  refine RW_op (L_move (V := sv s) rfl ?_)
  refine RW_op (L_callP (vs := [.pointer (some ⟨b, 0, none⟩), sv s]) (V := .tuple #[.pointer (some ⟨t.p, 0, none⟩), .int .i64 0]) EN_21 rfl rfl ?hc hs fun w1 hs => ?_)
  case hc => exact (kFindS_ok _ b (hc.own' hs) s (hm.own' hs) t.p hf)
  refine RW_op (L_move (V := .tuple #[.pointer (some ⟨t.p, 0, none⟩), .int .i64 0]) rfl ?_)
  refine RW_op (L_extract (V := .pointer (some ⟨t.p, 0, none⟩)) rfl rfl ?_)
  refine RW_op (L_extract (V := .int .i64 0) rfl rfl ?_)
  refine RW_op (L_assign (V := .pointer (some ⟨t.p, 0, none⟩)) rfl ?_)
  refine RW_op (L_assign (V := .int .i64 0) rfl ?_)
  refine RW_nil ?_
  refine W_seq ?_
  refine W_seq ?_
  refine W_region ?_
  refine RW_op (L_move (V := .int .i64 0) rfl ?_)
  refine RW_op (L_neq rfl rfl ?_)
  refine RW_nil ?_
  refine W_condF rfl ?_
  refine W_skip ?_
  refine W_seq ?_
  refine W_region ?_
  refine RW_op (L_move (V := .pointer (some ⟨t.p, 0, none⟩)) rfl ?_)
  refine RW_op (L_nilCheck rfl ?_)
  refine RW_op (L_fieldAddr FA_60_0 rfl ?_)
  refine RW_op (L_ldF (V := .slice ta t.bs.length tc) S1_23 (hct.own' hs) rfl rfl ?_)
  refine RW_op (L_callX (vs := [.slice ta t.bs.length tc]) (V := fun x : Option Addr × Nat => .slice x.1 (t.bs).length x.2) EN_27 rfl rfl (clnB_ok _ ta tc t.bs (by omega) (Rd.own' hrt hs)) hs fun x2 w3 hs _ => ?_)
  refine RW_op (L_assign (V := .slice x2.1 ((t.bs).length) x2.2) rfl ?_)
  refine RW_op (L_assign (V := .int .i64 0) rfl ?_)
  refine RW_nil ?_
  refine W_ret ?_
  refine ⟨_, res_two (U := .slice x2.1 ((t.bs).length) x2.2) (V := .int .i64 0) Try.results15 rfl rfl, ?_⟩
  exact ⟨(x2.1, x2.2), rfl, hs.only 0 rfl, trivial⟩
end Tt
end Go.Proofs
