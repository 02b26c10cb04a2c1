/- A part of a proof: what functions of the program compute, and plain facts on that. -/
import Derived.Test.YthejeobcehpdcaaGreatDoorScriptJoinsP10
set_option linter.unusedVariables false
set_option linter.unusedSectionVars false
set_option linter.unusedSimpArgs false
namespace Go.Proofs
open Go Go.Vx Go.RowKit Go.Ce
namespace Ct
set_option maxRecDepth 1000000
noncomputable def sizL (what n : Nat) : Bool := match callA cfg (exec cfg 1000000) 10 [.i .i64 (Int.ofNat what), .i .i64 (Int.ofNat n)] ⟨.lf, 64, []⟩ with
  | some [(.i .i64 v, _)] => eqI v (Int.ofNat (fixN what + cond (Nat.beq what 7) (n % 8) 0))
  | _ => false
theorem evZ_1 : sizL 1 0 = true := by kernel_rfl
theorem evZ_2 : sizL 2 0 = true := by kernel_rfl
theorem evZ_3 : sizL 3 0 = true := by kernel_rfl
theorem evZ_4 : sizL 4 0 = true := by kernel_rfl
theorem evZ_5 : sizL 5 0 = true := by kernel_rfl
theorem evZ_6 : sizL 6 0 = true := by kernel_rfl
theorem evZ_8 : sizL 8 0 = true := by kernel_rfl
theorem evZ70 : sizL 7 0 = true := by kernel_rfl
theorem evZ71 : sizL 7 1 = true := by kernel_rfl
theorem evZ72 : sizL 7 2 = true := by kernel_rfl
theorem evZ73 : sizL 7 3 = true := by kernel_rfl
theorem evZ74 : sizL 7 4 = true := by kernel_rfl
theorem evZ75 : sizL 7 5 = true := by kernel_rfl
theorem evZ76 : sizL 7 6 = true := by kernel_rfl
theorem evZ77 : sizL 7 7 = true := by kernel_rfl
theorem siz_run {w : World} {what n : Nat} (h : sizL what n = true) : Calls Tryz.prog 10 #[.int .i64 (what : Int), .int .i64 (n : Int)] w (fun e w' => e = .returned (.int .i64 ((fixN what + if what = 7 then n % 8 else 0 : Nat) : Int)) ∧ Own w no w' []) := by
  letI : Ce.Tok := ⟨fun _ => .bool true, fun _ _ => True⟩
  unfold sizL at h
  split at h
  · rename_i v m hev
    rw [eqI_eq] at h
    have hv := of_decide_eq_true h
    have hrun := run_fn cfgOk no_hook (fuel := 1000000) (show cfg.fn 10 = some Tryz.f10 by kernel_rfl) rfl (args := [.i .i64 (Int.ofNat what), .i .i64 (Int.ofNat n)]) (vs := [.int .i64 (what : Int), .int .i64 (n : Int)]) (fun σ => .cons (.i _ _) (.cons (.i _ _) .nil)) hev (w := w) trivial (N := m.c) (fun o ho => by simp at ho; subst ho; exact Nat.le_refl _)
    refine Calls.mono hrun fun e w' ⟨V, σ, o, hoo, he, hrel, hg⟩ => ?_
    simp at hoo
    subst hoo
    cases hrel
    refine ⟨?_, hg.own.take 0⟩
    rw [he, hv]
    cases hw : Nat.beq what 7 with
    | true => rw [if_pos (Nat.eq_of_beq_eq_true hw)]; rfl
    | false => rw [if_neg (Nat.ne_of_beq_eq_false hw)]; rfl
  · cases h
def StOk (s : Stc) : Prop := ∃ k : Nat, 1 ≤ k ∧ k ≤ 8 ∧ s.what = (k : Int) ∧ (k = 7 → s.cuts.length < 8) ∧ (k ≠ 7 → s.cuts = [])
theorem siz_ok {w : World} {s : Stc} (hs : StOk s) : Calls Tryz.prog 10 #[.int .i64 s.what, .int .i64 ((s.cuts.length : Nat) : Int)] w (fun e w' => e = .returned (.int .i64 ((sizS s : Nat) : Int)) ∧ Own w no w' []) := by
  obtain ⟨k, h1, h8, hk, h7, hn⟩ := hs
  have key : ∀ k n : Nat, k = k → sizL k n = true → s.what = (k : Int) → s.cuts.length = n → Calls Tryz.prog 10 #[.int .i64 s.what, .int .i64 ((s.cuts.length : Nat) : Int)] w (fun e w' => e = .returned (.int .i64 ((sizS s : Nat) : Int)) ∧ Own w no w' []) := by
    intro k n _ hz e1 e2
    have := siz_run (w := w) hz
    have e3 : sizS s = fixN k + if k = 7 then n % 8 else 0 := by
      unfold sizS
      rw [e1, e2, Int.toNat_natCast]
      by_cases h : k = 7
      · rw [if_pos h, if_pos (by omega)]
      · rw [if_neg h, if_neg (by omega)]
    rw [e3, e1, e2]
    exact this
  have hz : k ≠ 7 → s.cuts.length = 0 := fun h => by rw [hn h]; rfl
  match k, h1, h8 with
  | 1, _, _ => exact key 1 0 rfl evZ_1 hk (hz (by decide))
  | 2, _, _ => exact key 2 0 rfl evZ_2 hk (hz (by decide))
  | 3, _, _ => exact key 3 0 rfl evZ_3 hk (hz (by decide))
  | 4, _, _ => exact key 4 0 rfl evZ_4 hk (hz (by decide))
  | 5, _, _ => exact key 5 0 rfl evZ_5 hk (hz (by decide))
  | 6, _, _ => exact key 6 0 rfl evZ_6 hk (hz (by decide))
  | 8, _, _ => exact key 8 0 rfl evZ_8 hk (hz (by decide))
  | 7, _, _ =>
    have hl := h7 rfl
    generalize hc : s.cuts.length = n at hl
    match n, hl with
    | 0, _ => exact hc ▸ key 7 0 rfl evZ70 hk hc
    | 1, _ => exact hc ▸ key 7 1 rfl evZ71 hk hc
    | 2, _ => exact hc ▸ key 7 2 rfl evZ72 hk hc
    | 3, _ => exact hc ▸ key 7 3 rfl evZ73 hk hc
    | 4, _ => exact hc ▸ key 7 4 rfl evZ74 hk hc
    | 5, _ => exact hc ▸ key 7 5 rfl evZ75 hk hc
    | 6, _ => exact hc ▸ key 7 6 rfl evZ76 hk hc
    | 7, _ => exact hc ▸ key 7 7 rfl evZ77 hk hc
    | n + 8, h => exact absurd h (by omega)
  | n + 9, _, h => exact absurd h (by omega)
theorem tell_ok {R : Bs} (h0 : whatS R ≠ 0) : StOk (tellS R) := by
  obtain ⟨e1, e2⟩ := putS_what (whatS_lt R) h0 (R.drop 1) ((R.drop 4).take (lenS (whatS R) R - 4))
  have := whatS_lt R
  refine ⟨whatS R, by omega, by omega, e1, fun h7 => ?_, fun h7 => ?_⟩
  · show (putS _ _ _).cuts.length < 8
    rw [e2, if_pos h7, List.length_take]
    have hl : lenS (whatS R) R = 4 + (bat R 3).toNat % 8 := by unfold lenS; rw [h7]; rfl
    omega
  · show (putS _ _ _).cuts = []
    rw [e2, if_neg h7]
theorem dec_all : ∀ b out, (∀ s ∈ out, StOk s) → ∀ s ∈ decS b out, StOk s := decS_ind (fun b out h ho => by rw [decS_stop h]; exact ho) (fun b out h h0 ih ho => by rw [decS_skip h h0]; exact ih ho) (fun b out _ h0 h1 ho => by rw [decS_short h0 h1]; exact ho)
  (fun b out h h0 h1 ih ho => by
    rw [decS_step h h0 h1]
    exact ih fun s hs => by
      rcases List.mem_append.1 hs with hs | hs
      · exact ho s hs
      · rw [List.mem_singleton.1 hs]; exact tell_ok h0)
theorem dec_mem {b : Bs} {s : Stc} (h : s ∈ decS b []) : StOk s := dec_all b [] (fun _ h => by cases h) s h
end Ct
end Go.Proofs
