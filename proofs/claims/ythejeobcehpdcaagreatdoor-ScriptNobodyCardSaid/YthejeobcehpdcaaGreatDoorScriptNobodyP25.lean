/- A part of a proof: what functions of the program compute, and plain facts on that. -/
import Derived.Test.YthejeobcehpdcaaGreatDoorScriptNobodyP24
set_option linter.unusedVariables false
set_option linter.unusedSectionVars false
set_option linter.unusedSimpArgs false
namespace Go.Proofs
open Go Go.Vx Go.RowKit Go.Ce
namespace Ct
set_option maxRecDepth 1000000
theorem evSmall (T n : Nat) (h : n < 16) : runN false (.i .i64 (Int.ofNat n)) T = true := by
  match n, h with
  | 0, _ => exact ev0 T
  | 1, _ => exact ev1 T
  | 2, _ => exact ev2 T
  | 3, _ => exact ev3 T
  | 4, _ => exact ev4 T
  | 5, _ => exact ev5 T
  | 6, _ => exact ev6 T
  | 7, _ => exact ev7 T
  | 8, _ => exact ev8 T
  | 9, _ => exact ev9 T
  | 10, _ => exact ev10 T
  | 11, _ => exact ev11 T
  | 12, _ => exact ev12 T
  | 13, _ => exact ev13 T
  | 14, _ => exact ev14 T
  | 15, _ => exact ev15 T
  | n + 16, h => exact absurd h (by omega)
abbrev tokN (reps cart : Int) : Tok := ⟨fun k => match k with | 0 => .int .i64 reps | _ => .int .u16 cart, fun _ _ => True⟩
theorem cfgN_ok (reps cart : Int) (big : Bool) (hb : big = true → 16 ≤ reps) : @CfgOk (tokN reps cart) (cfgN big) Tryz.prog := by
  letI := tokN reps cart
  refine cfg_ok tabOk (fun op k j b v h => ?_) (fun k r h => by cases h) noTok_ok kysOk
  cases big with
  | false => cases h
  | true =>
    have hr := hb rfl
    have h : bopN op k j b = some v := h
    unfold bopN at h
    obtain ⟨hc, h1⟩ := cond_iff.1 h
    rw [Bool.and_eq_true, Bool.and_eq_true] at hc
    obtain ⟨⟨c1, c2⟩, c3⟩ := hc
    cases Nat.eq_of_beq_eq_true c1
    cases kd_inj (k := .i64) (Nat.eq_of_beq_eq_true c2)
    have hb16 : b ≤ 16 := by
      simp only [Bool.or_eq_true, eqI_eq, decide_eq_true_eq] at c3
      omega
    refine ⟨reps, rfl, fun t => ?_⟩
    cases op <;> first | (cases h1; done) | skip
    cases h1
    show some (AV.b (ltI reps b)) = _
    rw [ltI_eq, decide_eq_false (by omega)]
theorem hookN_ok (reps cart : Int) (big : Bool) : @HookOk (tokN reps cart) (cfgN big) Tryz.prog := by
  letI := tokN reps cart
  obtain ⟨h1, h2⟩ := hookT_ok (P := Tryz.prog) (g := 0) (k := .u32) (l := half) (fA := 7) (next := fun _ _ _ => none) (by decide) Tryz.call7 (fun T w hw => run_f7 T hw) (none_ok (P := Tryz.prog)).1 (none_ok (P := Tryz.prog)).2
  exact ⟨h1, h2⟩
theorem scNo_ok (T : Nat) (reps cart : Int) {w : World} (hw : w.heap[0]? = some (.cells (numsV .u32 half).toArray T (0, 0))) : Calls Tryz.prog 5 #[.int .i64 reps, .int .u16 cart] w (fun e w' => e = .returned (.bool true) ∧ Own w no w' []) := by
  letI := tokN reps cart
  by_cases hr : 16 ≤ reps
  · exact run_law (fuel := 1000000) (args := [.tok 0, .tok 1]) (vs := [.int .i64 reps, .int .u16 cart]) (cfgN_ok reps cart true fun _ => hr) (hookN_ok reps cart true) (show (cfgN true).fn 5 = some Tryz.f5 by kernel_rfl) rfl (by decide) (fun _ => .cons (.tok 0 rfl) (.cons (.tok 1 rfl) .nil)) (evBig T) trivial hw
  · have key : ∀ r : Int, r = reps → runN false (.i .i64 r) T = true → Calls Tryz.prog 5 #[.int .i64 reps, .int .u16 cart] w (fun e w' => e = .returned (.bool true) ∧ Own w no w' []) := fun r e h =>
      run_law (fuel := 1000000) (args := [.i .i64 r, .tok 1]) (vs := [.int .i64 reps, .int .u16 cart]) (cfgN_ok reps cart false fun h => by cases h) (hookN_ok reps cart false) (show (cfgN false).fn 5 = some Tryz.f5 by kernel_rfl) rfl (by decide) (fun _ => .cons (by rw [e]; exact .i _ _) (.cons (.tok 1 rfl) .nil)) h trivial hw
    cases hh : reps with
    | ofNat n => rw [← hh]; exact key (Int.ofNat n) hh.symm (evSmall T n (by have : reps = (n : Int) := hh; omega))
    | negSucc n => rw [← hh]; exact key (Int.negSucc n) hh.symm (evNeg T n)
end Ct
end Go.Proofs
