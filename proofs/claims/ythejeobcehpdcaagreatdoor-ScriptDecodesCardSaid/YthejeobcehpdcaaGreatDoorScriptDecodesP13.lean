/- A part of a proof: what functions of the program compute, and plain facts on that. -/
import Derived.Test.YthejeobcehpdcaaGreatDoorScriptDecodesP12
set_option linter.unusedVariables false
set_option linter.unusedSectionVars false
set_option linter.unusedSimpArgs false
namespace Go.Proofs
open Go Go.Vx Go.RowKit Go.Ce
namespace Ct
set_option maxRecDepth 1000000
noncomputable def expT (what : Nat) : List AV := setsC (zC what) (match what with | 1 => [(1, 201), (9, 202), (10, 403), (11, 404), (12, 405), (13, 506)] | 2 => [(1, 201), (2, 202)] | 3 => [(1, 201), (2, 202), (3, 303)] | 4 => [(1, 201), (2, 202), (3, 303), (4, 304), (5, 405), (6, 206)] | 5 => [(1, 201)] | 6 => [(1, 201), (30, 502), (31, 503), (32, 504), (33, 505)] | 7 => [(1, 201), (6, 202)] | 8 => [(1, 201), (3, 302)] | _ => [])
noncomputable def bopT (what : Nat) (op : BinOp) (q : Nat) (j : IntKind) (cst : Int) : Option AV :=
  cond (Nat.beq q 300 && Nat.beq (kd j) 6 && eqI cst 9) (match op with | .rem => some (.i .i64 (Int.ofNat what)) | _ => none) none
noncomputable def cfgT (what k : Nat) : Cfg := cfgOf Tryz.prog.types.toList Tryz.prog.funcs.toList eqsL (fun _ _ _ => none) (bopT what) (fun _ => none) (scTk k 0)
noncomputable def runT (what k : Nat) : RL := callA (cfgT what k) (exec (cfgT what k) 1000000) 19 [.tok 0] ⟨.lf, 64, []⟩
noncomputable def okT (what : Nat) (o : RL) : Bool := match o with
  | some [(.ag cs, _)] => eqL (cs.take 46) (expT what) && (match cs.drop 46 with
      | [.sn] => !(Nat.beq what 7)
      | [.tok q] => Nat.beq what 7 && Nat.beq q 600
      | _ => false)
  | _ => false
theorem evT1 : okT 1 (runT 1 7) = true := by kernel_rfl
theorem evT2 : okT 2 (runT 2 3) = true := by kernel_rfl
theorem evT3 : okT 3 (runT 3 4) = true := by kernel_rfl
theorem evT4 : okT 4 (runT 4 7) = true := by kernel_rfl
theorem evT5 : okT 5 (runT 5 2) = true := by kernel_rfl
theorem evT6 : okT 6 (runT 6 6) = true := by kernel_rfl
theorem evT7 : okT 7 (runT 7 4) = true := by kernel_rfl
theorem evT8 : okT 8 (runT 8 3) = true := by kernel_rfl
theorem okT_elim {what : Nat} {o : RL} (h : okT what o = true) : ∃ cut m, o = some [(.ag (expT what ++ [cut]), m)] ∧ ((cut = .sn ∧ what ≠ 7) ∨ (what = 7 ∧ cut = .tok 600)) := by
  letI : Ce.Tok := ⟨fun _ => .bool true, fun _ _ => True⟩
  unfold okT at h
  split at h
  · rename_i cs m
    rw [Bool.and_eq_true] at h
    obtain ⟨h2, h3⟩ := h
    have h2 := eqL_eq h2
    have hcs : cs = cs.take 46 ++ cs.drop 46 := (List.take_append_drop _ _).symm
    split at h3
    · rename_i hd
      refine ⟨.sn, m, by rw [hcs, h2, hd], .inl ⟨rfl, ?_⟩⟩
      intro e
      subst e
      simp at h3
    · rename_i q hd
      rw [Bool.and_eq_true] at h3
      exact ⟨_, m, by rw [hcs, h2, hd], .inr ⟨Nat.eq_of_beq_eq_true h3.1, by rw [Nat.eq_of_beq_eq_true h3.2]⟩⟩
    · cases h3
  · cases h
theorem cfgT_ok {b : Bs} {p : Option Addr} {c k what : Nat} {tk : TokT} (h0 : 0 ≤ bat b 0) (hw : whatS b = what) (htk : @TkOk (scTok b p c k 0) (scTk k 0)) : @CfgOk (scTok b p c k 0) (cfgT what k) Tryz.prog := by
  letI := scTok b p c k 0
  refine cfg_ok tabOk (fun op q j cst v h => ?_) (fun q a h => by cases h) htk
  unfold bopT at h
  obtain ⟨hc, h3⟩ := cond_iff.1 h
  rw [Bool.and_eq_true, Bool.and_eq_true, eqI_eq, decide_eq_true_iff] at hc
  obtain ⟨⟨c1, c2⟩, rfl⟩ := hc
  cases Nat.eq_of_beq_eq_true c1
  cases kd_inj (k := .i64) (Nat.eq_of_beq_eq_true c2)
  refine ⟨bat b 0, rfl, fun t => ?_⟩
  cases op <;> first | (cases h3; done) | skip
  cases h3
  show some (AV.i .i64 (Int.tmod (bat b 0) 9)) = _
  rw [Int.tmod_eq_emod_of_nonneg h0, ← hw]
  congr 2
  show _ = (((bat b 0).toNat % 9 : Nat) : Int)
  omega
section
variable {w : World} {b : Bs} {p : Option Addr} {c : Nat}
theorem toldY {what k : Nat} (hr : Rd w (.slice p b.length c) 1 (b.map (ic .u8))) (hby : ByOk b) (hk8 : k ≤ 8) (hk : 1 ≤ k) (hl : k ≤ b.length) (hw : whatS b = what) (hev : okT what (runT what k) = true) (hti : (expT what).all isTI = true) {s : Stc}
    (h7 : what = 7 → k = 4)
    (hcell : ∀ (a : Option Addr) (n c' : Nat), n = (if what = 7 then b.length - 4 else 0) → (expT what).map (@valA (scTok b p c k 0)) ++ [.slice a n c'] = Go.Vx.stcv s a c') :
    Calls Tryz.prog 19 #[.slice p b.length c] w (fun e w' => e = .returned (.agg (stp ⟨s, if what = 7 then sla p 4 c 1 else none, if what = 7 then c - 4 else 0⟩).toArray) ∧ Own w no w' []) := by
  letI := scTok b p c k 0
  obtain ⟨hc, hp, hsh⟩ := rd_facts hr
  have htk := scTk_ok b p c k 0 hby hc hp (by omega) hk8 (by omega) hsh ⟨w, no, fun w' L ho => hr.own' ho, [], Own.start w⟩
  have hb0 : 0 ≤ bat b 0 := (hby _ (by unfold bat; rw [List.getD_eq_getElem?_getD, List.getElem?_eq_getElem (by omega)]; exact List.getElem_mem _)).1
  have HC : CfgOk (cfgT what k) Tryz.prog := cfgT_ok (tk := scTk k 0) hb0 hw htk
  obtain ⟨cut, m, ho, hcase⟩ := okT_elim hev
  have hrun := run_fn HC no_hook (fuel := 1000000) (show (cfgT what k).fn 19 = some Tryz.f19 by kernel_rfl) rfl (args := [.tok 0]) (vs := [.slice p b.length c]) (fun σ => .cons (.tok 0 rfl) .nil) ho (w := w) (fun w' L ho => hr.own' ho) (N := m.c) (fun o ho => by simp at ho; subst ho; exact Nat.le_refl _)
  refine Calls.mono hrun fun e w' ⟨V, σ, o, hoo, he, hrel, hg⟩ => ?_
  simp at hoo
  subst hoo
  cases hrel with | ag q1 => ?_
  rename_i us
  obtain ⟨us1, us2, rfl, u1, u2⟩ : ∃ us1 us2, us = us1 ++ us2 ∧ RelL σ (expT what) us1 ∧ RelL σ [cut] us2 := by
    have := q1.take (expT what).length
    have h2 := q1.drop (expT what).length
    rw [List.take_left' rfl] at this
    rw [List.drop_left' rfl] at h2
    exact ⟨_, _, (List.take_append_drop _ _).symm, this, h2⟩
  have e1 := relL_val hti u1
  cases u2 with | cons u3 u4 => ?_
  cases u4
  refine ⟨?_, hg.own.take 0⟩
  rcases hcase with ⟨rfl, hn7⟩ | ⟨h7', rfl⟩
  · cases u3
    rw [he, e1, hcell none 0 0 (by rw [if_neg hn7]), if_neg hn7, if_neg hn7]; rfl
  · cases u3
    have hk4 := h7 h7'
    have e2 : Ce.Tok.v 600 = Value.slice (sla p 4 c 1) (b.length - 4) (c - 4) := by
      show scV b p c k 0 600 = _
      rw [hk4]; rfl
    rw [he, e1, e2, hcell (sla p 4 c 1) (b.length - 4) (c - 4) (by rw [if_pos h7']), if_pos h7', if_pos h7']; rfl
def toldA (b : Bs) (p : Option Addr) (c : Nat) : Option Addr := if whatS b = 7 then sla p 4 c 1 else none
def toldC (b : Bs) (c : Nat) : Nat := if whatS b = 7 then c - 4 else 0
theorem told_ok (hr : Rd w (.slice p b.length c) 1 (b.map (ic .u8))) (hby : ByOk b) (h0 : whatS b ≠ 0) (hl : b.length = lenS (whatS b) b) :
    Calls Tryz.prog 19 #[.slice p b.length c] w (fun e w' => e = .returned (.agg (stp ⟨tellS b, toldA b p c, toldC b c⟩).toArray) ∧ Own w no w' []) := by
  have h9 := whatS_lt b
  have hf := lenS_ge (whatS b) b
  have h7l : whatS b = 7 → 4 ≤ b.length := fun h => by rw [hl]; rw [h]; unfold lenS; have : fixN 7 = 4 := rfl; omega
  have hc : (b.drop 4).take (lenS (whatS b) b - 4) = b.drop 4 := List.take_of_length_le (by rw [List.length_drop]; omega)
  unfold toldA toldC
  generalize hw : whatS b = what at *
  have hs : tellS b = putS what (b.drop 1) (b.drop 4) := by unfold tellS; rw [hw, hc]
  rw [hs]
  match b, what, h0, h9 with
  | x :: t, 1, _, _ => exact toldY (k := 7) hr hby (by omega) (by omega) (Nat.le_trans hf (Nat.le_of_eq hl.symm)) hw evT1 rfl (fun h => by cases h) (fun a n c' hn => by subst hn; rfl)
  | x :: t, 2, _, _ => exact toldY (k := 3) hr hby (by omega) (by omega) (Nat.le_trans hf (Nat.le_of_eq hl.symm)) hw evT2 rfl (fun h => by cases h) (fun a n c' hn => by subst hn; rfl)
  | x :: t, 3, _, _ => exact toldY (k := 4) hr hby (by omega) (by omega) (Nat.le_trans hf (Nat.le_of_eq hl.symm)) hw evT3 rfl (fun h => by cases h) (fun a n c' hn => by subst hn; rfl)
  | x :: t, 4, _, _ => exact toldY (k := 7) hr hby (by omega) (by omega) (Nat.le_trans hf (Nat.le_of_eq hl.symm)) hw evT4 rfl (fun h => by cases h) (fun a n c' hn => by subst hn; rfl)
  | x :: t, 5, _, _ => exact toldY (k := 2) hr hby (by omega) (by omega) (Nat.le_trans hf (Nat.le_of_eq hl.symm)) hw evT5 rfl (fun h => by cases h) (fun a n c' hn => by subst hn; rfl)
  | x :: t, 6, _, _ => exact toldY (k := 6) hr hby (by omega) (by omega) (Nat.le_trans hf (Nat.le_of_eq hl.symm)) hw evT6 rfl (fun h => by cases h) (fun a n c' hn => by subst hn; rfl)
  | x :: t, 7, _, _ => exact toldY (k := 4) hr hby (by omega) (by omega) (Nat.le_trans hf (Nat.le_of_eq hl.symm)) hw evT7 rfl (fun _ => rfl) (fun a n c' hn => by
      rw [if_pos rfl] at hn
      rw [hn, ← List.length_drop]; rfl)
  | x :: t, 8, _, _ => exact toldY (k := 3) hr hby (by omega) (by omega) (Nat.le_trans hf (Nat.le_of_eq hl.symm)) hw evT8 rfl (fun h => by cases h) (fun a n c' hn => by subst hn; rfl)
  | x :: t, n + 9, _, h => exact absurd h (by omega)
  | [], what, h0, h9 => exact absurd hw.symm h0
end
end Ct
end Go.Proofs
