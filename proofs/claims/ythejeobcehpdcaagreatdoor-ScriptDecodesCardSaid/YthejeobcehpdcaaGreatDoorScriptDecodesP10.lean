/- A part of a proof: what functions of the program compute, and plain facts on that. -/
import Derived.Test.YthejeobcehpdcaaGreatDoorScriptDecodesP9
import Derived.KernelRfl
import Derived.Test.YthejeobcehpdcaaGreatDoorProg
set_option linter.unusedVariables false
set_option linter.unusedSectionVars false
set_option linter.unusedSimpArgs false
namespace Go.Proofs
open Go Go.Vx Go.RowKit Go.Ce
namespace Ct
set_option maxRecDepth 1000000
noncomputable def valA [Ce.Tok] (a : AV) : Value := match a with | .tok q => Ce.Tok.v q | .i k n => .int k n | _ => .bool false
def isTI (a : AV) : Bool := match a with | .tok _ => true | .i _ _ => true | _ => false
theorem relL_val [Ce.Tok] {σ : Sig} : ∀ {cs : List AV} {us : List Value}, cs.all isTI = true → RelL σ cs us → us = cs.map valA
  | [], _, _, .nil => rfl
  | a :: cs, _, h, .cons h1 h2 => by
    rw [List.all_cons, Bool.and_eq_true] at h
    rw [relL_val h.2 h2]
    cases a <;> first | (have := h.1; cases this; done) | skip
    · cases h1; rfl
    · cases h1; rfl
theorem okS_elim {what k r : Nat} {o : RL} (h : okS what k r o = true) : ∃ cut m, o = some [(.tu [.ag (expC what ++ [cut]), .tok 601, .b true], m)] ∧ ((cut = .sn ∧ what ≠ 7) ∨ ∃ nm, what = 7 ∧ cut = .sl nm 0 r r false ∧ m.h.get nm = some (.row (toks (200 + k) r) 5 0 false)) := by
  letI : Ce.Tok := ⟨fun _ => .bool true, fun _ _ => True⟩
  unfold okS at h
  split at h
  · rename_i cs q m
    rw [Bool.and_eq_true, Bool.and_eq_true] at h
    obtain ⟨⟨h1, h2⟩, h3⟩ := h
    have h1 := Nat.eq_of_beq_eq_true h1
    subst h1
    have h2 := eqL_eq h2
    have hcs : cs = cs.take 46 ++ cs.drop 46 := (List.take_append_drop _ _).symm
    split at h3
    · rename_i hd
      refine ⟨.sn, m, by rw [hcs, h2, hd], .inl ⟨rfl, ?_⟩⟩
      intro e
      subst e
      simp at h3
    · rename_i nm off len cap hd
      simp only [Bool.and_eq_true] at h3
      obtain ⟨⟨⟨⟨h4, h5⟩, h6⟩, h7⟩, h8⟩ := h3
      split at h8
      · rename_i cs' T hm
        rw [Bool.and_eq_true] at h8
        refine ⟨_, m, by rw [hcs, h2, hd], .inr ⟨nm, Nat.eq_of_beq_eq_true h4, ?_, ?_⟩⟩
        · rw [Nat.eq_of_beq_eq_true h5, Nat.eq_of_beq_eq_true h6, Nat.eq_of_beq_eq_true h7]
        · rw [hm, Nat.eq_of_beq_eq_true h8.1, eqL_eq h8.2]
      · cases h8
    · cases h3
  · cases h
theorem okZ_elim {o : RL} (h : okZ o = true) : ∃ m, o = some [(.tu [.ag (zC 0 ++ [.sn]), .sn, .b false], m)] := by
  letI : Ce.Tok := ⟨fun _ => .bool true, fun _ _ => True⟩
  unfold okZ at h
  split at h
  · rename_i cs m
    rw [Bool.and_eq_true] at h
    obtain ⟨h1, h3⟩ := h
    have h1 := eqL_eq h1
    have hcs : cs = cs.take 46 ++ cs.drop 46 := (List.take_append_drop _ _).symm
    split at h3
    · rename_i hd
      exact ⟨m, by rw [hcs, h1, hd]⟩
    · cases h3
  · cases h
theorem cfgSc_ok {b : Bs} {p : Option Addr} {c k r' r : Nat} {cr sh sh2 : Bool} {tk : TokT} (hsh : sh = decide (b.length < k)) (hsh2 : sh2 = decide (b.length - k < r)) (hcr : cr = true → (0 ≤ bat b 2 ∧ bat b 2 < 256) ∧ r = (bat b 2).toNat % 8) (htk : @TkOk (scTok b p c k r') tk) : @CfgOk (scTok b p c k r') (cfgSc cr k r sh sh2 tk) Tryz.prog := by
  letI := scTok b p c k r'
  refine cfg_ok tabOk (fun op q j cst v h => ?_) (fun q a h => ?_) htk
  · unfold bopS at h
    rcases cond_iff2.1 h with ⟨hc, h1⟩ | ⟨_, h1⟩
    · rw [Bool.and_eq_true, Bool.and_eq_true, eqI_eq, decide_eq_true_iff] at hc
      obtain ⟨⟨c1, c2⟩, rfl⟩ := hc
      cases Nat.eq_of_beq_eq_true c1
      cases kd_inj (k := .i64) (Nat.eq_of_beq_eq_true c2)
      refine ⟨((b.length : Nat) : Int), rfl, fun t => ?_⟩
      cases op <;> first | (cases h1; done) | skip
      cases h1
      show some (AV.b (ltI ((b.length : Nat) : Int) (Int.ofNat k))) = _
      rw [ltI_eq, hsh]
      congr 2
      rw [decide_eq_decide]
      exact Int.ofNat_lt
    · rcases cond_iff2.1 h1 with ⟨hc, h2⟩ | ⟨_, h2⟩
      · rw [Bool.and_eq_true, Bool.and_eq_true, eqI_eq, decide_eq_true_iff] at hc
        obtain ⟨⟨c1, c2⟩, rfl⟩ := hc
        cases Nat.eq_of_beq_eq_true c1
        cases kd_inj (k := .i64) (Nat.eq_of_beq_eq_true c2)
        refine ⟨((b.length - k : Nat) : Int), rfl, fun t => ?_⟩
        cases op <;> first | (cases h2; done) | skip
        cases h2
        show some (AV.b (ltI ((b.length - k : Nat) : Int) (Int.ofNat r))) = _
        rw [ltI_eq, hsh2]
        congr 2
        rw [decide_eq_decide]
        exact Int.ofNat_lt
      · obtain ⟨hc, h3⟩ := cond_iff.1 h2
        rw [Bool.and_eq_true, Bool.and_eq_true, Bool.and_eq_true, eqI_eq, decide_eq_true_iff] at hc
        obtain ⟨c0, ⟨c1, c2⟩, rfl⟩ := hc
        cases Nat.eq_of_beq_eq_true c1
        cases kd_inj (k := .u8) (Nat.eq_of_beq_eq_true c2)
        obtain ⟨hb, hr⟩ := hcr c0
        refine ⟨bat b 2, rfl, fun t => ?_⟩
        cases op <;> first | (cases h3; done) | skip
        cases h3
        show some (AV.i .u8 (Int.tmod (bat b 2) 8)) = _
        rw [Int.tmod_eq_emod_of_nonneg hb.1, hr]
        congr 2
        show bat b 2 % 8 = (((bat b 2).toNat % 8 : Nat) : Int)
        omega
  · unfold tlenS at h
    rcases cond_iff2.1 h with ⟨hc, h1⟩ | ⟨_, h1⟩
    · cases Nat.eq_of_beq_eq_true hc
      cases h1
      exact ⟨p, b.length, c, rfl, fun σ => .tok 1 rfl⟩
    · obtain ⟨hc, h2⟩ := cond_iff.1 h1
      cases Nat.eq_of_beq_eq_true hc
      cases h2
      exact ⟨sla p k c 1, b.length - k, c - k, rfl, fun σ => .tok 2 rfl⟩
theorem fnSc (cr sh sh2 : Bool) (k r : Nat) (tk : TokT) : (cfgSc cr k r sh sh2 tk).fn 17 = some Tryz.f17 := by kernel_rfl
section
variable {w : World} {b : Bs} {p : Option Addr} {c : Nat}
theorem rd_facts (hr : Rd w (.slice p b.length c) 1 (b.map (ic .u8))) : b.length ≤ c ∧ (p = none → b.length = 0) ∧ ∀ (w' : World), Rd w' (.slice p b.length c) 1 (b.map (ic .u8)) → ∀ a, p = some a → ∃ g o, a = ⟨g, o, none⟩ := by
  refine ⟨hr.roomM, fun h => ?_, fun w' hr' a ha => ?_⟩
  · rcases hr.shape with ⟨_, h1⟩ | ⟨g, o, c', h1⟩
    · have := congrArg List.length h1; simpa using this
    · rw [h] at h1; cases h1
  · rcases hr'.shape with ⟨h1, _⟩ | ⟨g, o, c', h1⟩
    · rw [ha] at h1; cases h1
    · rw [ha] at h1
      simp only [Value.slice.injEq, Option.some.injEq] at h1
      exact ⟨g, o, h1.1⟩
theorem stepY {what k r : Nat} {cr : Bool} (hr : Rd w (.slice p b.length c) 1 (b.map (ic .u8))) (hby : ByOk b) (hk8 : k ≤ 8) (hr8 : r ≤ 8) (hl : k + r ≤ b.length) (hcr : cr = true → (0 ≤ bat b 2 ∧ bat b 2 < 256) ∧ r = (bat b 2).toNat % 8)
    (hev : okS what k r (runSc cr what k r false false (scTk k r)) = true) (hti : (expC what).all isTI = true) {cuts : Bs} (hcut : what = 7 → cuts = (b.drop k).take r)
    (hcell : ∀ (a : Option Addr) (n c' : Nat), n = (if what = 7 then cuts.length else 0) → (expC what).map (@valA (scTok b p c k r)) ++ [.slice a n c'] = stcv (putS what b cuts) a c') :
    Calls Tryz.prog 17 #[.int .i64 (what : Int), .slice p b.length c] w (fun e w' => ∃ x : Option Addr × Nat, e = .returned (.tuple #[.agg (stcv (putS what b cuts) x.1 x.2).toArray, .slice (sla (sla p k c 1) r (c - k) 1) (b.length - k - r) (c - k - r), .bool true]) ∧ Own w no w' [row (.slice x.1 (if what = 7 then cuts else []).length x.2) ((if what = 7 then cuts else []).map (ic .u8)) 5 1] ∧ True) := by
  letI := scTok b p c k r
  obtain ⟨hc, hp, hsh⟩ := rd_facts hr
  have htk := scTk_ok b p c k r hby hc hp hl hk8 hr8 hsh ⟨w, no, fun w' L ho => hr.own' ho, [], Own.start w⟩
  have HC : CfgOk (cfgSc cr k r false false (scTk k r)) Tryz.prog := cfgSc_ok (by rw [decide_eq_false (by omega)]) (by rw [decide_eq_false (by omega)]) hcr htk
  obtain ⟨cut, m, ho, hcase⟩ := okS_elim hev
  have hrun := run_fn HC no_hook (fuel := 1000000) (fnSc cr false false k r (scTk k r)) rfl (args := [.i .i64 (Int.ofNat what), .tok 0]) (vs := [.int .i64 (what : Int), .slice p b.length c]) (fun σ => .cons (.i _ _) (.cons (.tok 0 rfl) .nil)) ho (w := w) (fun w' L ho => hr.own' ho) (N := m.c) (fun o ho => by simp at ho; subst ho; exact Nat.le_refl _)
  refine Calls.mono hrun fun e w' ⟨V, σ, o, hoo, he, hrel, hg⟩ => ?_
  simp at hoo
  subst hoo
  cases hrel with | tu hrel => ?_
  cases hrel with | cons q1 hrel => ?_
  cases hrel with | cons q2 hrel => ?_
  cases hrel with | cons q3 hrel => ?_
  cases hrel
  cases q3
  cases q2
  cases q1 with | ag q1 => ?_
  rename_i us
  obtain ⟨us1, us2, rfl, u1, u2⟩ : ∃ us1 us2, us = us1 ++ us2 ∧ RelL σ (expC what) us1 ∧ RelL σ [cut] us2 := by
    have := q1.take (expC what).length
    have h2 := q1.drop (expC what).length
    rw [List.take_left' rfl] at this
    rw [List.drop_left' rfl] at h2
    exact ⟨_, _, (List.take_append_drop _ _).symm, this, h2⟩
  have e1 := relL_val hti u1
  cases u2 with | cons u3 u4 => ?_
  cases u4
  rcases hcase with ⟨rfl, h7⟩ | ⟨nm, h7, rfl, hm⟩
  · cases u3
    refine ⟨(none, 0), ?_, ?_, trivial⟩
    · rw [he, e1, hcell none 0 0 (by rw [if_neg h7])]; rfl
    · rw [if_neg h7]
      exact (hg.own.take 0).more _ (row_nil _ _ _ _)
  · cases u3 with | @sl _ _ _ _ g ee _ hσ => ?_
    haveI : Inv w no := ⟨fun w' L ho => hr.own' ho⟩
    obtain ⟨g', e', vs, v1, v2, v3⟩ := hg.rowOwn hm
    rw [hσ] at v1
    cases v1
    have ev := relL_map_tok v2
    have hcu := hcut h7
    have elen : cuts.length = r := by rw [hcu, List.length_take, List.length_drop]; omega
    have evs : vs = cuts.map (Value.int .u8) := by
      rw [ev]
      refine List.ext_getElem (by simp [elen]) fun i h1 h2 => ?_
      simp only [List.getElem_map, List.getElem_range']
      have hir : i < r := by simpa using h1
      show scV b p c k r (200 + k + 1 * i) = _
      unfold scV
      rw [if_neg (by omega), if_neg (by omega), if_neg (by omega), if_neg (by omega), if_neg (by omega), if_pos (by omega), show 200 + k + 1 * i - 200 = k + i by omega]
      congr 1
      unfold bat
      rw [List.getD_eq_getElem?_getD, List.getElem?_eq_getElem (by omega)]
      have e5 := List.getElem_of_eq hcu (i := i) (by omega)
      rw [e5]
      simp
    have hvl : vs.length = r := by rw [evs, List.length_map, elen]
    have ho := v3 (fun v hv => by rw [evs] at hv; obtain ⟨x, _, rfl⟩ := List.mem_map.1 hv; rfl) (by omega)
    refine ⟨(some ⟨g, 0, none⟩, r), ?_, ?_, trivial⟩
    · rw [he, e1]
      have := hcell (some ⟨g, 0, none⟩) r r (by rw [if_pos h7, elen])
      simp only [cond_false, Nat.add_zero]
      rw [this]; rfl
    · rw [if_pos h7, elen]
      rw [hvl, evs, List.map_map] at ho
      exact ho
theorem stepN {what k r : Nat} {cr sh sh2 : Bool} {tk : TokT} (hr : Rd w (.slice p b.length c) 1 (b.map (ic .u8))) (hsh : sh = decide (b.length < k)) (hsh2 : sh2 = decide (b.length - k < r)) (hcr : cr = true → (0 ≤ bat b 2 ∧ bat b 2 < 256) ∧ r = (bat b 2).toNat % 8) (htk : @TkOk (scTok b p c k 0) tk)
    (hev : okZ (runSc cr what k r sh sh2 tk) = true) :
    Calls Tryz.prog 17 #[.int .i64 (what : Int), .slice p b.length c] w (fun e w' => e = .returned (.tuple #[.agg (stcv stcz none 0).toArray, .slice none 0 0, .bool false]) ∧ Own w no w' []) := by
  letI := scTok b p c k 0
  have HC : CfgOk (cfgSc cr k r sh sh2 tk) Tryz.prog := cfgSc_ok hsh hsh2 hcr htk
  obtain ⟨m, ho⟩ := okZ_elim hev
  have hrun := run_fn HC no_hook (fuel := 1000000) (fnSc cr sh sh2 k r tk) rfl (args := [.i .i64 (Int.ofNat what), .tok 0]) (vs := [.int .i64 (what : Int), .slice p b.length c]) (fun σ => .cons (.i _ _) (.cons (.tok 0 rfl) .nil)) ho (w := w) (fun w' L ho => hr.own' ho) (N := m.c) (fun o ho => by simp at ho; subst ho; exact Nat.le_refl _)
  refine Calls.mono hrun fun e w' ⟨V, σ, o, hoo, he, hrel, hg⟩ => ?_
  simp at hoo
  subst hoo
  cases hrel with | tu hrel => ?_
  cases hrel with | cons q1 hrel => ?_
  cases hrel with | cons q2 hrel => ?_
  cases hrel with | cons q3 hrel => ?_
  cases hrel
  cases q3
  cases q2
  cases q1 with | ag q1 => ?_
  rename_i us
  obtain ⟨us1, us2, rfl, u1, u2⟩ : ∃ us1 us2, us = us1 ++ us2 ∧ RelL σ (zC 0) us1 ∧ RelL σ [.sn] us2 := by
    have := q1.take (zC 0).length
    have h2 := q1.drop (zC 0).length
    rw [List.take_left' rfl] at this
    rw [List.drop_left' rfl] at h2
    exact ⟨_, _, (List.take_append_drop _ _).symm, this, h2⟩
  have e1 := relL_val (by rfl) u1
  cases u2 with | cons u3 u4 => ?_
  cases u4
  cases u3
  exact ⟨by rw [he, e1]; rfl, hg.own.take 0⟩
end
end Ct
end Go.Proofs
namespace Go.Proofs
open Go Go.Vx Go.RowKit Go.Ce
namespace Ct
set_option maxRecDepth 1000000
def stepK (what : Nat) : Nat := fixN what - 1
def stepR (what : Nat) (b : Bs) : Nat := if what = 7 then (bat b 2).toNat % 8 else 0
abbrev stepX (what : Nat) (b : Bs) : Stc := putS what b ((b.drop (stepK what)).take (stepR what b))
section
variable {w : World} {b : Bs} {p : Option Addr} {c : Nat}
theorem step_yes {what : Nat} (h1 : 1 ≤ what) (h8 : what ≤ 8) (hr : Rd w (.slice p b.length c) 1 (b.map (ic .u8))) (hby : ByOk b) (hl : stepK what + stepR what b ≤ b.length) :
    Calls Tryz.prog 17 #[.int .i64 (what : Int), .slice p b.length c] w (fun e w' => ∃ x : Option Addr × Nat, e = .returned (.tuple #[.agg (stcv (stepX what b) x.1 x.2).toArray, .slice (sla (sla p (stepK what) c 1) (stepR what b) (c - stepK what) 1) (b.length - stepK what - stepR what b) (c - stepK what - stepR what b), .bool true]) ∧ Own w no w' [row (.slice x.1 (stepX what b).cuts.length x.2) ((stepX what b).cuts.map (ic .u8)) 5 1] ∧ True) := by
  have e2 : (stepX what b).cuts = if what = 7 then (b.drop (stepK what)).take (stepR what b) else [] := (putS_what (by omega) (by omega) b _).2
  rw [e2]
  match what, h1, h8 with
  | 1, _, _ => exact stepY (what := 1) (k := 6) (r := 0) (cr := false) hr hby (by omega) (by omega) hl (fun h => by cases h) evS1 rfl (fun h => by cases h) (fun a n c' hn => by subst hn; rfl)
  | 2, _, _ => exact stepY (what := 2) (k := 2) (r := 0) (cr := false) hr hby (by omega) (by omega) hl (fun h => by cases h) evS2 rfl (fun h => by cases h) (fun a n c' hn => by subst hn; rfl)
  | 3, _, _ => exact stepY (what := 3) (k := 3) (r := 0) (cr := false) hr hby (by omega) (by omega) hl (fun h => by cases h) evS3 rfl (fun h => by cases h) (fun a n c' hn => by subst hn; rfl)
  | 4, _, _ => exact stepY (what := 4) (k := 6) (r := 0) (cr := false) hr hby (by omega) (by omega) hl (fun h => by cases h) evS4 rfl (fun h => by cases h) (fun a n c' hn => by subst hn; rfl)
  | 5, _, _ => exact stepY (what := 5) (k := 1) (r := 0) (cr := false) hr hby (by omega) (by omega) hl (fun h => by cases h) evS5 rfl (fun h => by cases h) (fun a n c' hn => by subst hn; rfl)
  | 6, _, _ => exact stepY (what := 6) (k := 5) (r := 0) (cr := false) hr hby (by omega) (by omega) hl (fun h => by cases h) evS6 rfl (fun h => by cases h) (fun a n c' hn => by subst hn; rfl)
  | 7, _, _ =>
    have hb : 0 ≤ bat b 2 ∧ bat b 2 < 256 := hby _ (by
      have : 2 < b.length := by have : stepK 7 = 3 := rfl; omega
      unfold bat; rw [List.getD_eq_getElem?_getD, List.getElem?_eq_getElem this]; exact List.getElem_mem this)
    have hq : (bat b 2).toNat % 8 < 8 := Nat.mod_lt _ (by omega)
    have hrr : stepR 7 b = (bat b 2).toNat % 8 := rfl
    rw [hrr] at hl ⊢
    exact stepY (what := 7) (k := 3) (r := (bat b 2).toNat % 8) (cr := true) hr hby (by omega) (by omega) hl (fun _ => ⟨hb, rfl⟩) (by
      generalize (bat b 2).toNat % 8 = r at hq
      match r, hq with
      | 0, _ => exact evS7_0
      | 1, _ => exact evS7_1
      | 2, _ => exact evS7_2
      | 3, _ => exact evS7_3
      | 4, _ => exact evS7_4
      | 5, _ => exact evS7_5
      | 6, _ => exact evS7_6
      | 7, _ => exact evS7_7
      | n + 8, h => exact absurd h (by omega)) rfl (fun _ => rfl) (fun a n c' hn => by subst hn; rfl)
  | 8, _, _ => exact stepY (what := 8) (k := 2) (r := 0) (cr := false) hr hby (by omega) (by omega) hl (fun h => by cases h) evS8 rfl (fun h => by cases h) (fun a n c' hn => by subst hn; rfl)
  | n + 9, _, h => exact absurd h (by omega)
theorem step_no {what : Nat} (h1 : 1 ≤ what) (h8 : what ≤ 8) (hr : Rd w (.slice p b.length c) 1 (b.map (ic .u8))) (hby : ByOk b) (hl : b.length < stepK what + stepR what b) :
    Calls Tryz.prog 17 #[.int .i64 (what : Int), .slice p b.length c] w (fun e w' => e = .returned (.tuple #[.agg (stcv stcz none 0).toArray, .slice none 0 0, .bool false]) ∧ Own w no w' []) := by
  by_cases hk : b.length < stepK what
  · have hz : ∀ k, b.length < k → okZ (runSc false what k 0 true false noTok) = true → Calls Tryz.prog 17 #[.int .i64 (what : Int), .slice p b.length c] w (fun e w' => e = .returned (.tuple #[.agg (stcv stcz none 0).toArray, .slice none 0 0, .bool false]) ∧ Own w no w' []) := fun k hk hev =>
      stepN (k := k) (r := 0) (cr := false) (sh := true) (sh2 := false) hr (by rw [decide_eq_true hk]) (by rw [decide_eq_false (by omega)]) (fun h => by cases h) (@noTok_ok (scTok b p c k 0)) hev
    match what, h1, h8 with
    | 1, _, _ => exact hz 6 hk evZ1
    | 2, _, _ => exact hz 2 hk evZ2
    | 3, _, _ => exact hz 3 hk evZ3
    | 4, _, _ => exact hz 6 hk evZ4
    | 5, _, _ => exact hz 1 hk evZ5
    | 6, _, _ => exact hz 5 hk evZ6
    | 7, _, _ => exact hz 3 hk evZ7
    | 8, _, _ => exact hz 2 hk evZ8
    | n + 9, _, h => exact absurd h (by omega)
  · have h7 : what = 7 := by
      by_cases e : what = 7
      · exact e
      · unfold stepR at hl
        rw [if_neg e] at hl
        omega
    subst h7
    have hrr : stepR 7 b = (bat b 2).toNat % 8 := rfl
    have hk3 : stepK 7 = 3 := rfl
    rw [hrr, hk3] at hl
    rw [hk3] at hk
    have hb : 0 ≤ bat b 2 ∧ bat b 2 < 256 := hby _ (by
      have : 2 < b.length := by omega
      unfold bat; rw [List.getD_eq_getElem?_getD, List.getElem?_eq_getElem this]; exact List.getElem_mem this)
    obtain ⟨hc, hp, hsh⟩ := rd_facts hr
    have htk := scTk_ok b p c 3 0 hby hc hp (by omega) (by omega) (by omega) hsh ⟨w, no, fun w' L ho => hr.own' ho, [], Own.start w⟩
    have hq : (bat b 2).toNat % 8 < 8 := Nat.mod_lt _ (by omega)
    exact stepN (what := 7) (k := 3) (r := (bat b 2).toNat % 8) (cr := true) (sh := false) (sh2 := true) hr (by rw [decide_eq_false hk]) (by rw [decide_eq_true (by omega)]) (fun _ => ⟨hb, rfl⟩) htk (by
      have h0 : 0 < (bat b 2).toNat % 8 := by omega
      generalize (bat b 2).toNat % 8 = r at hq h0
      match r, hq, h0 with
      | 1, _, _ => exact evZ7_1
      | 2, _, _ => exact evZ7_2
      | 3, _, _ => exact evZ7_3
      | 4, _, _ => exact evZ7_4
      | 5, _, _ => exact evZ7_5
      | 6, _, _ => exact evZ7_6
      | 7, _, _ => exact evZ7_7
      | n + 8, h, _ => exact absurd h (by omega))
end
end Ct
end Go.Proofs
namespace Go.Proofs
open Go Go.Vx Go.RowKit
namespace Tt
def dA (p : Option Addr) (c : Nat) (R : Bs) : Option Addr := sla (sla (sla p 1 c 1) (Ct.stepK (whatS R)) (c - 1) 1) (Ct.stepR (whatS R) (R.drop 1)) (c - 1 - Ct.stepK (whatS R)) 1
def dC (c : Nat) (R : Bs) : Nat := c - 1 - Ct.stepK (whatS R) - Ct.stepR (whatS R) (R.drop 1)
theorem bat_drop (R : Bs) (i j : Nat) : bat (R.drop i) j = bat R (i + j) := by
  unfold bat
  rw [List.getD_eq_getElem?_getD, List.getD_eq_getElem?_getD, List.getElem?_drop]
theorem lenS_step {R : Bs} (h0 : whatS R ≠ 0) : lenS (whatS R) R = 1 + Ct.stepK (whatS R) + Ct.stepR (whatS R) (R.drop 1) := by
  have := fixN_pos (whatS_lt R) h0
  unfold lenS Ct.stepK Ct.stepR
  rw [bat_drop, show 1 + 2 = 3 from rfl]
  split <;> omega
theorem putS_cuts {k : Nat} (h7 : k ≠ 7) (b c d : Bs) : putS k b c = putS k b d := by
  unfold putS
  simp only [if_neg h7]
theorem stepX_tell {R : Bs} (h0 : whatS R ≠ 0) : Ct.stepX (whatS R) (R.drop 1) = tellS R := by
  unfold tellS Ct.stepX
  by_cases h7 : whatS R = 7
  · have e : lenS (whatS R) R - 4 = Ct.stepR (whatS R) (R.drop 1) := by
      rw [lenS_step h0]
      have : Ct.stepK (whatS R) = 3 := by rw [h7]; rfl
      omega
    rw [e, List.drop_drop]
    have : Ct.stepK (whatS R) = 3 := by rw [h7]; rfl
    rw [this]
  · exact putS_cuts h7 _ _ _
theorem ByOk.drop {R : Bs} (h : ByOk R) (n : Nat) : ByOk (R.drop n) := fun c hc => h c (List.mem_of_mem_drop hc)
section
variable {w : World} {R : Bs} {p : Option Addr} {c : Nat}
theorem dec_rd1 (hr : Rd w (.slice p R.length c) 1 (R.map (ic .u8))) (h : 1 ≤ R.length) : Rd w (.slice (sla p 1 c 1) (R.drop 1).length (c - 1)) 1 ((R.drop 1).map (ic .u8)) :=
  Rd.dropM hr 1 h _ (by rw [List.length_drop])
theorem dec_rd (hr : Rd w (.slice p R.length c) 1 (R.map (ic .u8))) (h0 : whatS R ≠ 0) (h1 : ¬ R.length < lenS (whatS R) R) : Rd w (.slice (dA p c R) (R.drop (lenS (whatS R) R)).length (dC c R)) 1 ((R.drop (lenS (whatS R) R)).map (ic .u8)) := by
  have e := lenS_step h0
  have s1 := dec_rd1 hr (by omega)
  have s2 := Rd.dropM s1 (Ct.stepK (whatS R)) (by rw [List.length_drop]; omega) _ rfl
  have s3 := Rd.dropM s2 (Ct.stepR (whatS R) (R.drop 1)) (by rw [List.length_drop, List.length_drop]; omega) _ rfl
  rw [List.drop_drop, List.drop_drop] at s3
  have e3 : 1 + Ct.stepK (whatS R) + Ct.stepR (whatS R) (R.drop 1) = lenS (whatS R) R := e.symm
  simp only [e3] at s3
  have e4 : (R.drop (1 + Ct.stepK (whatS R))).length - Ct.stepR (whatS R) (R.drop 1) = (R.drop (lenS (whatS R) R)).length := by
    rw [List.length_drop, List.length_drop]; omega
  rw [e4] at s3
  exact s3
theorem dec_yes (hr : Rd w (.slice (sla p 1 c 1) (R.drop 1).length (c - 1)) 1 ((R.drop 1).map (ic .u8))) (h0 : whatS R ≠ 0) (h1 : ¬ R.length < lenS (whatS R) R) (hby : ByOk R) :
    Calls Tryz.prog 17 #[.int .i64 ((whatS R : Nat) : Int), .slice (sla p 1 c 1) (R.drop 1).length (c - 1)] w (fun e w' => ∃ x : Option Addr × Nat, e = .returned (.tuple #[.agg (stp ⟨tellS R, x.1, x.2⟩).toArray, .slice (dA p c R) (R.drop (lenS (whatS R) R)).length (dC c R), .bool true]) ∧ Own w no w' [cutR ⟨tellS R, x.1, x.2⟩] ∧ True) := by
  have e := lenS_step h0
  have h9 := whatS_lt R
  have e5 : (R.drop 1).length - Ct.stepK (whatS R) - Ct.stepR (whatS R) (R.drop 1) = (R.drop (lenS (whatS R) R)).length := by
    rw [List.length_drop, List.length_drop]; omega
  have := Ct.step_yes (what := whatS R) (by omega) (by omega) hr (hby.drop 1) (by rw [List.length_drop]; omega)
  rw [stepX_tell h0, e5] at this
  exact this
theorem dec_no (hr : Rd w (.slice (sla p 1 c 1) (R.drop 1).length (c - 1)) 1 ((R.drop 1).map (ic .u8))) (h0 : whatS R ≠ 0) (h1 : R.length < lenS (whatS R) R) (hl : 1 ≤ R.length) (hby : ByOk R) :
    Calls Tryz.prog 17 #[.int .i64 ((whatS R : Nat) : Int), .slice (sla p 1 c 1) (R.drop 1).length (c - 1)] w (fun e w' => e = .returned (.tuple #[.agg (stp stpz).toArray, .slice none 0 0, .bool false]) ∧ Own w no w' []) := by
  have e := lenS_step h0
  have h9 := whatS_lt R
  exact Ct.step_no (what := whatS R) (by omega) (by omega) hr (hby.drop 1) (by rw [List.length_drop]; omega)
end
end Tt
end Go.Proofs
namespace Go.Proofs
open Go Go.Vx Go.RowKit
namespace Tt
set_option maxRecDepth 20000 in
theorem EL_24 : El Tryz.prog 24 41 47 208 := ⟨Tryz.underlying24, _, _, Tryz.type41, rfl, rfl, rfl, rfl, by decide⟩
theorem EN_17 : En Tryz.prog 17 := Tryz.call17
theorem UD_22 : Ud Tryz.prog 22 (.slice 5) := Tryz.runUnderlying22
theorem UD_24 : Ud Tryz.prog 24 (.slice 41) := Tryz.runUnderlying24
theorem ZV_41 : Zv Tryz.prog 41 (.agg (stp stpz).toArray) := Tryz.zeroValue41
end Tt
end Go.Proofs
