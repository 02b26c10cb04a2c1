/- A part of a proof: what functions of the program compute, and plain facts on that. -/
import Derived.Test.YthejeobcehpdcaaGreatDoorScriptDecodesP14
set_option linter.unusedVariables false
set_option linter.unusedSectionVars false
set_option linter.unusedSimpArgs false
namespace Go.Proofs
open Go Go.Vx Go.RowKit Go.Ce
namespace Ct
set_option maxRecDepth 1000000
noncomputable def bopG (neg : Bool) (r : Nat) (op : BinOp) (q : Nat) (j : IntKind) (cst : Int) : Option AV :=
  cond (Nat.beq q 0 && Nat.beq (kd j) 6 && (eqI cst 1 || eqI cst 2 || eqI cst 3 || eqI cst 4 || eqI cst 5 || eqI cst 6 || eqI cst 7 || eqI cst 8)) (match op with | .eql => some (.b false) | _ => none)
    (cond (Nat.beq q 1 && Nat.beq (kd j) 6 && eqI cst 0) (match op with | .lss => some (.b neg) | _ => none)
      (cond (!neg && (Nat.beq q 1 && Nat.beq (kd j) 6 && eqI cst 8)) (match op with | .rem => some (.i .i64 (Int.ofNat r)) | _ => none) none))
noncomputable def cfgG (neg : Bool) (r : Nat) : Cfg := cfgOf Tryz.prog.types.toList Tryz.prog.funcs.toList eqsL (fun _ _ _ => none) (bopG neg r) (fun _ => none) noTok kysL
noncomputable def sizLG (f : Nat) (neg : Bool) (r : Nat) (what : AV) (v : Nat) : Bool := match callA (cfgG neg r) (exec (cfgG neg r) 1000000) f [what, .tok 1] ⟨.lf, 64, []⟩ with
  | some [(.i .i64 x, _)] => eqI x (Int.ofNat v)
  | _ => false
abbrev tokG (what n : Int) : Ce.Tok := ⟨fun k => match k with | 0 => .int .i64 what | _ => .int .i64 n, fun _ _ => True⟩
theorem cfgG_ok {what n : Int} {neg : Bool} {r : Nat} (hw : ¬ (1 ≤ what ∧ what ≤ 8)) (hneg : neg = decide (n < 0)) (hr : neg = false → r = n.toNat % 8) : @CfgOk (tokG what n) (cfgG neg r) Tryz.prog := by
  letI := tokG what n
  refine cfg_ok tabOk (fun op q j cst v h => ?_) (fun q a h => by cases h) noTok_ok kysOk
  unfold bopG at h
  rcases cond_iff2.1 h with ⟨hc, h1⟩ | ⟨_, h1⟩
  · rw [Bool.and_eq_true, Bool.and_eq_true] at hc
    obtain ⟨⟨c1, c2⟩, c3⟩ := hc
    cases Nat.eq_of_beq_eq_true c1
    cases kd_inj (k := .i64) (Nat.eq_of_beq_eq_true c2)
    simp only [Bool.or_eq_true, eqI_eq, decide_eq_true_eq] at c3
    refine ⟨what, rfl, fun t => ?_⟩
    cases op <;> first | (cases h1; done) | skip
    cases h1
    show some (AV.b (eqI what cst)) = _
    rw [eqI_eq, decide_eq_false (by omega)]
  · rcases cond_iff2.1 h1 with ⟨hc, h2⟩ | ⟨_, h2⟩
    · rw [Bool.and_eq_true, Bool.and_eq_true, eqI_eq, decide_eq_true_iff] at hc
      obtain ⟨⟨c1, c2⟩, rfl⟩ := hc
      cases Nat.eq_of_beq_eq_true c1
      cases kd_inj (k := .i64) (Nat.eq_of_beq_eq_true c2)
      refine ⟨n, rfl, fun t => ?_⟩
      cases op <;> first | (cases h2; done) | skip
      cases h2
      show some (AV.b (ltI n 0)) = _
      rw [ltI_eq, hneg]
    · obtain ⟨hc, h3⟩ := cond_iff.1 h2
      rw [Bool.and_eq_true, Bool.and_eq_true, Bool.and_eq_true, eqI_eq, decide_eq_true_iff] at hc
      obtain ⟨c0, ⟨c1, c2⟩, rfl⟩ := hc
      cases Nat.eq_of_beq_eq_true c1
      cases kd_inj (k := .i64) (Nat.eq_of_beq_eq_true c2)
      have hn : neg = false := by cases neg <;> first | rfl | cases c0
      have hr := hr hn
      have h0 : 0 ≤ n := by rw [hn] at hneg; have := of_decide_eq_false hneg.symm; omega
      refine ⟨n, rfl, fun t => ?_⟩
      cases op <;> first | (cases h3; done) | skip
      cases h3
      show some (AV.i .i64 (Int.tmod n 8)) = _
      rw [Int.tmod_eq_emod_of_nonneg h0, hr]
      congr 2
      show _ = ((n.toNat % 8 : Nat) : Int)
      omega
theorem sizLG_run {f : Nat} {fn : Func} {c : Code} {w : World} {what n : Int} {neg : Bool} {r v : Nat} {W : AV} (hf : ∀ neg r, (cfgG neg r).fn f = some fn) (hfc : fn.body = some c) (o : Int) (ho : ¬ (1 ≤ o ∧ o ≤ 8)) (hneg : neg = decide (n < 0)) (hr : neg = false → r = n.toNat % 8)
    (hW : ∀ σ, @Rel (tokG o n) σ W (.int .i64 what)) (h : sizLG f neg r W v = true) : Calls Tryz.prog f #[.int .i64 what, .int .i64 n] w (fun e w' => e = .returned (.int .i64 (v : Int)) ∧ Own w no w' []) := by
  letI := tokG o n
  unfold sizLG at h
  split at h
  · rename_i x m hev
    rw [eqI_eq] at h
    have hv := of_decide_eq_true h
    have hrun := run_fn (cfgG_ok ho hneg hr) no_hook (fuel := 1000000) (hf neg r) hfc (args := [W, .tok 1]) (vs := [.int .i64 what, .int .i64 n]) (fun σ => .cons (hW σ) (.cons (.tok 1 rfl) .nil)) hev (w := w) trivial (N := m.c) (fun o ho => by simp at ho; subst ho; exact Nat.le_refl _)
    refine Calls.mono hrun fun e w' ⟨V, σ, o, hoo, he, hrel, hg⟩ => ?_
    simp at hoo
    subst hoo
    cases hrel
    exact ⟨by rw [he, hv]; rfl, hg.own.take 0⟩
  · cases h
def sizG (what n : Int) : Nat := if n < 0 then 0 else fixN what.toNat + (if what = 7 then n.toNat % 8 else 0)
theorem eg10_n1 : sizLG 10 true 0 (.i .i64 1) 0 = true := by kernel_rfl
theorem eg10_p1 (r : Nat) : sizLG 10 false r (.i .i64 1) 7 = true := by kernel_rfl
theorem eg10_n2 : sizLG 10 true 0 (.i .i64 2) 0 = true := by kernel_rfl
theorem eg10_p2 (r : Nat) : sizLG 10 false r (.i .i64 2) 3 = true := by kernel_rfl
theorem eg10_n3 : sizLG 10 true 0 (.i .i64 3) 0 = true := by kernel_rfl
theorem eg10_p3 (r : Nat) : sizLG 10 false r (.i .i64 3) 4 = true := by kernel_rfl
theorem eg10_n4 : sizLG 10 true 0 (.i .i64 4) 0 = true := by kernel_rfl
theorem eg10_p4 (r : Nat) : sizLG 10 false r (.i .i64 4) 7 = true := by kernel_rfl
theorem eg10_n5 : sizLG 10 true 0 (.i .i64 5) 0 = true := by kernel_rfl
theorem eg10_p5 (r : Nat) : sizLG 10 false r (.i .i64 5) 2 = true := by kernel_rfl
theorem eg10_n6 : sizLG 10 true 0 (.i .i64 6) 0 = true := by kernel_rfl
theorem eg10_p6 (r : Nat) : sizLG 10 false r (.i .i64 6) 6 = true := by kernel_rfl
theorem eg10_n7 : sizLG 10 true 0 (.i .i64 7) 0 = true := by kernel_rfl
theorem eg10_n8 : sizLG 10 true 0 (.i .i64 8) 0 = true := by kernel_rfl
theorem eg10_p8 (r : Nat) : sizLG 10 false r (.i .i64 8) 3 = true := by kernel_rfl
theorem eg10_q0 : sizLG 10 false 0 (.i .i64 7) 4 = true := by kernel_rfl
theorem eg10_q1 : sizLG 10 false 1 (.i .i64 7) 5 = true := by kernel_rfl
theorem eg10_q2 : sizLG 10 false 2 (.i .i64 7) 6 = true := by kernel_rfl
theorem eg10_q3 : sizLG 10 false 3 (.i .i64 7) 7 = true := by kernel_rfl
theorem eg10_q4 : sizLG 10 false 4 (.i .i64 7) 8 = true := by kernel_rfl
theorem eg10_q5 : sizLG 10 false 5 (.i .i64 7) 9 = true := by kernel_rfl
theorem eg10_q6 : sizLG 10 false 6 (.i .i64 7) 10 = true := by kernel_rfl
theorem eg10_q7 : sizLG 10 false 7 (.i .i64 7) 11 = true := by kernel_rfl
theorem eg10_on : sizLG 10 true 0 (.tok 0) 0 = true := by kernel_rfl
theorem eg10_op (r : Nat) : sizLG 10 false r (.tok 0) 0 = true := by kernel_rfl
theorem eg11_n1 : sizLG 11 true 0 (.i .i64 1) 0 = true := by kernel_rfl
theorem eg11_p1 (r : Nat) : sizLG 11 false r (.i .i64 1) 7 = true := by kernel_rfl
theorem eg11_n2 : sizLG 11 true 0 (.i .i64 2) 0 = true := by kernel_rfl
theorem eg11_p2 (r : Nat) : sizLG 11 false r (.i .i64 2) 3 = true := by kernel_rfl
theorem eg11_n3 : sizLG 11 true 0 (.i .i64 3) 0 = true := by kernel_rfl
theorem eg11_p3 (r : Nat) : sizLG 11 false r (.i .i64 3) 4 = true := by kernel_rfl
theorem eg11_n4 : sizLG 11 true 0 (.i .i64 4) 0 = true := by kernel_rfl
theorem eg11_p4 (r : Nat) : sizLG 11 false r (.i .i64 4) 7 = true := by kernel_rfl
theorem eg11_n5 : sizLG 11 true 0 (.i .i64 5) 0 = true := by kernel_rfl
theorem eg11_p5 (r : Nat) : sizLG 11 false r (.i .i64 5) 2 = true := by kernel_rfl
theorem eg11_n6 : sizLG 11 true 0 (.i .i64 6) 0 = true := by kernel_rfl
theorem eg11_p6 (r : Nat) : sizLG 11 false r (.i .i64 6) 6 = true := by kernel_rfl
theorem eg11_n7 : sizLG 11 true 0 (.i .i64 7) 0 = true := by kernel_rfl
theorem eg11_n8 : sizLG 11 true 0 (.i .i64 8) 0 = true := by kernel_rfl
theorem eg11_p8 (r : Nat) : sizLG 11 false r (.i .i64 8) 3 = true := by kernel_rfl
theorem eg11_q0 : sizLG 11 false 0 (.i .i64 7) 4 = true := by kernel_rfl
theorem eg11_q1 : sizLG 11 false 1 (.i .i64 7) 5 = true := by kernel_rfl
theorem eg11_q2 : sizLG 11 false 2 (.i .i64 7) 6 = true := by kernel_rfl
theorem eg11_q3 : sizLG 11 false 3 (.i .i64 7) 7 = true := by kernel_rfl
theorem eg11_q4 : sizLG 11 false 4 (.i .i64 7) 8 = true := by kernel_rfl
theorem eg11_q5 : sizLG 11 false 5 (.i .i64 7) 9 = true := by kernel_rfl
theorem eg11_q6 : sizLG 11 false 6 (.i .i64 7) 10 = true := by kernel_rfl
theorem eg11_q7 : sizLG 11 false 7 (.i .i64 7) 11 = true := by kernel_rfl
theorem eg11_on : sizLG 11 true 0 (.tok 0) 0 = true := by kernel_rfl
theorem eg11_op (r : Nat) : sizLG 11 false r (.tok 0) 0 = true := by kernel_rfl
theorem siz10_ok {w : World} {what n : Int} : Calls Tryz.prog 10 #[.int .i64 what, .int .i64 n] w (fun e w' => e = .returned (.int .i64 ((sizG what n : Nat) : Int)) ∧ Own w no w' []) := by
  have hf : ∀ neg r, (cfgG neg r).fn 10 = some Tryz.f10 := fun neg r => by kernel_rfl
  have lit : ∀ (k : Nat) (neg : Bool) (r v : Nat), what = (k : Int) → neg = decide (n < 0) → (neg = false → r = n.toNat % 8) → sizLG 10 neg r (.i .i64 (Int.ofNat k)) v = true → v = sizG what n → Calls Tryz.prog 10 #[.int .i64 what, .int .i64 n] w (fun e w' => e = .returned (.int .i64 ((sizG what n : Nat) : Int)) ∧ Own w no w' []) := by
    intro k neg r v e1 e2 e3 e4 e5
    subst e5
    exact sizLG_run hf rfl 0 (by omega) e2 e3 (fun σ => by letI := tokG 0 n; rw [e1]; exact .i _ _) e4
  by_cases hw : 1 ≤ what ∧ what ≤ 8
  · obtain ⟨k, rfl⟩ : ∃ k : Nat, what = (k : Int) := ⟨what.toNat, by omega⟩
    have hk : 1 ≤ k ∧ k ≤ 8 := by omega
    by_cases hn : n < 0
    · have hz : (0 : Nat) = sizG (k : Int) n := by unfold sizG; rw [if_pos hn]
      match k, hk with
      | 1, _ => exact lit 1 true 0 0 rfl (decide_eq_true hn).symm (fun h => by cases h) eg10_n1 hz
      | 2, _ => exact lit 2 true 0 0 rfl (decide_eq_true hn).symm (fun h => by cases h) eg10_n2 hz
      | 3, _ => exact lit 3 true 0 0 rfl (decide_eq_true hn).symm (fun h => by cases h) eg10_n3 hz
      | 4, _ => exact lit 4 true 0 0 rfl (decide_eq_true hn).symm (fun h => by cases h) eg10_n4 hz
      | 5, _ => exact lit 5 true 0 0 rfl (decide_eq_true hn).symm (fun h => by cases h) eg10_n5 hz
      | 6, _ => exact lit 6 true 0 0 rfl (decide_eq_true hn).symm (fun h => by cases h) eg10_n6 hz
      | 7, _ => exact lit 7 true 0 0 rfl (decide_eq_true hn).symm (fun h => by cases h) eg10_n7 hz
      | 8, _ => exact lit 8 true 0 0 rfl (decide_eq_true hn).symm (fun h => by cases h) eg10_n8 hz
      | k + 9, h => exact absurd h (by omega)
    · have hz : fixN k + (if k = 7 then n.toNat % 8 else 0) = sizG (k : Int) n := by
        unfold sizG
        rw [if_neg hn, Int.toNat_natCast]
        by_cases h7 : k = 7
        · rw [if_pos h7, if_pos (by omega)]
        · rw [if_neg h7, if_neg (by omega)]
      match k, hk with
      | 1, _ => exact lit 1 false (n.toNat % 8) 7 rfl (decide_eq_false hn).symm (fun _ => rfl) (eg10_p1 _) hz
      | 2, _ => exact lit 2 false (n.toNat % 8) 3 rfl (decide_eq_false hn).symm (fun _ => rfl) (eg10_p2 _) hz
      | 3, _ => exact lit 3 false (n.toNat % 8) 4 rfl (decide_eq_false hn).symm (fun _ => rfl) (eg10_p3 _) hz
      | 4, _ => exact lit 4 false (n.toNat % 8) 7 rfl (decide_eq_false hn).symm (fun _ => rfl) (eg10_p4 _) hz
      | 5, _ => exact lit 5 false (n.toNat % 8) 2 rfl (decide_eq_false hn).symm (fun _ => rfl) (eg10_p5 _) hz
      | 6, _ => exact lit 6 false (n.toNat % 8) 6 rfl (decide_eq_false hn).symm (fun _ => rfl) (eg10_p6 _) hz
      | 7, _ =>
        have h8 : n.toNat % 8 < 8 := Nat.mod_lt _ (by decide)
        have hz : 4 + n.toNat % 8 = sizG ((7 : Nat) : Int) n := hz
        generalize hq : n.toNat % 8 = q at h8 hz
        match q, h8 with
        | 0, _ => exact lit 7 false 0 4 rfl (decide_eq_false hn).symm (fun _ => hq.symm) eg10_q0 hz
        | 1, _ => exact lit 7 false 1 5 rfl (decide_eq_false hn).symm (fun _ => hq.symm) eg10_q1 hz
        | 2, _ => exact lit 7 false 2 6 rfl (decide_eq_false hn).symm (fun _ => hq.symm) eg10_q2 hz
        | 3, _ => exact lit 7 false 3 7 rfl (decide_eq_false hn).symm (fun _ => hq.symm) eg10_q3 hz
        | 4, _ => exact lit 7 false 4 8 rfl (decide_eq_false hn).symm (fun _ => hq.symm) eg10_q4 hz
        | 5, _ => exact lit 7 false 5 9 rfl (decide_eq_false hn).symm (fun _ => hq.symm) eg10_q5 hz
        | 6, _ => exact lit 7 false 6 10 rfl (decide_eq_false hn).symm (fun _ => hq.symm) eg10_q6 hz
        | 7, _ => exact lit 7 false 7 11 rfl (decide_eq_false hn).symm (fun _ => hq.symm) eg10_q7 hz
        | q + 8, h => exact absurd h (by omega)
      | 8, _ => exact lit 8 false (n.toNat % 8) 3 rfl (decide_eq_false hn).symm (fun _ => rfl) (eg10_p8 _) hz
      | k + 9, h => exact absurd h (by omega)
  · have hz : sizG what n = 0 := by
      unfold sizG
      by_cases hn : n < 0
      · rw [if_pos hn]
      · rw [if_neg hn, if_neg (by omega)]
        unfold fixN
        repeat' split
        all_goals omega
    rw [hz]
    by_cases hn : n < 0
    · exact sizLG_run hf rfl what hw (decide_eq_true hn).symm (fun h => by cases h) (fun σ => by letI := tokG what n; exact .tok 0 rfl) eg10_on
    · exact sizLG_run hf rfl what hw (decide_eq_false hn).symm (fun _ => rfl) (fun σ => by letI := tokG what n; exact .tok 0 rfl) (eg10_op _)
theorem siz11_ok {w : World} {what n : Int} : Calls Tryz.prog 11 #[.int .i64 what, .int .i64 n] w (fun e w' => e = .returned (.int .i64 ((sizG what n : Nat) : Int)) ∧ Own w no w' []) := by
  have hf : ∀ neg r, (cfgG neg r).fn 11 = some Tryz.f11 := fun neg r => by kernel_rfl
  have lit : ∀ (k : Nat) (neg : Bool) (r v : Nat), what = (k : Int) → neg = decide (n < 0) → (neg = false → r = n.toNat % 8) → sizLG 11 neg r (.i .i64 (Int.ofNat k)) v = true → v = sizG what n → Calls Tryz.prog 11 #[.int .i64 what, .int .i64 n] w (fun e w' => e = .returned (.int .i64 ((sizG what n : Nat) : Int)) ∧ Own w no w' []) := by
    intro k neg r v e1 e2 e3 e4 e5
    subst e5
    exact sizLG_run hf rfl 0 (by omega) e2 e3 (fun σ => by letI := tokG 0 n; rw [e1]; exact .i _ _) e4
  by_cases hw : 1 ≤ what ∧ what ≤ 8
  · obtain ⟨k, rfl⟩ : ∃ k : Nat, what = (k : Int) := ⟨what.toNat, by omega⟩
    have hk : 1 ≤ k ∧ k ≤ 8 := by omega
    by_cases hn : n < 0
    · have hz : (0 : Nat) = sizG (k : Int) n := by unfold sizG; rw [if_pos hn]
      match k, hk with
      | 1, _ => exact lit 1 true 0 0 rfl (decide_eq_true hn).symm (fun h => by cases h) eg11_n1 hz
      | 2, _ => exact lit 2 true 0 0 rfl (decide_eq_true hn).symm (fun h => by cases h) eg11_n2 hz
      | 3, _ => exact lit 3 true 0 0 rfl (decide_eq_true hn).symm (fun h => by cases h) eg11_n3 hz
      | 4, _ => exact lit 4 true 0 0 rfl (decide_eq_true hn).symm (fun h => by cases h) eg11_n4 hz
      | 5, _ => exact lit 5 true 0 0 rfl (decide_eq_true hn).symm (fun h => by cases h) eg11_n5 hz
      | 6, _ => exact lit 6 true 0 0 rfl (decide_eq_true hn).symm (fun h => by cases h) eg11_n6 hz
      | 7, _ => exact lit 7 true 0 0 rfl (decide_eq_true hn).symm (fun h => by cases h) eg11_n7 hz
      | 8, _ => exact lit 8 true 0 0 rfl (decide_eq_true hn).symm (fun h => by cases h) eg11_n8 hz
      | k + 9, h => exact absurd h (by omega)
    · have hz : fixN k + (if k = 7 then n.toNat % 8 else 0) = sizG (k : Int) n := by
        unfold sizG
        rw [if_neg hn, Int.toNat_natCast]
        by_cases h7 : k = 7
        · rw [if_pos h7, if_pos (by omega)]
        · rw [if_neg h7, if_neg (by omega)]
      match k, hk with
      | 1, _ => exact lit 1 false (n.toNat % 8) 7 rfl (decide_eq_false hn).symm (fun _ => rfl) (eg11_p1 _) hz
      | 2, _ => exact lit 2 false (n.toNat % 8) 3 rfl (decide_eq_false hn).symm (fun _ => rfl) (eg11_p2 _) hz
      | 3, _ => exact lit 3 false (n.toNat % 8) 4 rfl (decide_eq_false hn).symm (fun _ => rfl) (eg11_p3 _) hz
      | 4, _ => exact lit 4 false (n.toNat % 8) 7 rfl (decide_eq_false hn).symm (fun _ => rfl) (eg11_p4 _) hz
      | 5, _ => exact lit 5 false (n.toNat % 8) 2 rfl (decide_eq_false hn).symm (fun _ => rfl) (eg11_p5 _) hz
      | 6, _ => exact lit 6 false (n.toNat % 8) 6 rfl (decide_eq_false hn).symm (fun _ => rfl) (eg11_p6 _) hz
      | 7, _ =>
        have h8 : n.toNat % 8 < 8 := Nat.mod_lt _ (by decide)
        have hz : 4 + n.toNat % 8 = sizG ((7 : Nat) : Int) n := hz
        generalize hq : n.toNat % 8 = q at h8 hz
        match q, h8 with
        | 0, _ => exact lit 7 false 0 4 rfl (decide_eq_false hn).symm (fun _ => hq.symm) eg11_q0 hz
        | 1, _ => exact lit 7 false 1 5 rfl (decide_eq_false hn).symm (fun _ => hq.symm) eg11_q1 hz
        | 2, _ => exact lit 7 false 2 6 rfl (decide_eq_false hn).symm (fun _ => hq.symm) eg11_q2 hz
        | 3, _ => exact lit 7 false 3 7 rfl (decide_eq_false hn).symm (fun _ => hq.symm) eg11_q3 hz
        | 4, _ => exact lit 7 false 4 8 rfl (decide_eq_false hn).symm (fun _ => hq.symm) eg11_q4 hz
        | 5, _ => exact lit 7 false 5 9 rfl (decide_eq_false hn).symm (fun _ => hq.symm) eg11_q5 hz
        | 6, _ => exact lit 7 false 6 10 rfl (decide_eq_false hn).symm (fun _ => hq.symm) eg11_q6 hz
        | 7, _ => exact lit 7 false 7 11 rfl (decide_eq_false hn).symm (fun _ => hq.symm) eg11_q7 hz
        | q + 8, h => exact absurd h (by omega)
      | 8, _ => exact lit 8 false (n.toNat % 8) 3 rfl (decide_eq_false hn).symm (fun _ => rfl) (eg11_p8 _) hz
      | k + 9, h => exact absurd h (by omega)
  · have hz : sizG what n = 0 := by
      unfold sizG
      by_cases hn : n < 0
      · rw [if_pos hn]
      · rw [if_neg hn, if_neg (by omega)]
        unfold fixN
        repeat' split
        all_goals omega
    rw [hz]
    by_cases hn : n < 0
    · exact sizLG_run hf rfl what hw (decide_eq_true hn).symm (fun h => by cases h) (fun σ => by letI := tokG what n; exact .tok 0 rfl) eg11_on
    · exact sizLG_run hf rfl what hw (decide_eq_false hn).symm (fun _ => rfl) (fun σ => by letI := tokG what n; exact .tok 0 rfl) (eg11_op _)
end Ct
end Go.Proofs
