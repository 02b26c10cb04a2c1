/- A part of a proof: what functions of the program compute, and plain facts on that. -/
import Derived.Test.YthejeobcehpdcaaGreatDoorScriptDecodesP13
set_option linter.unusedVariables false
set_option linter.unusedSectionVars false
set_option linter.unusedSimpArgs false
namespace Go.Proofs
open Go Go.Vx Go.RowKit
namespace Tt
theorem take_facts {R : Bs} (h0 : whatS R ≠ 0) (h1 : ¬ R.length < lenS (whatS R) R) : (R.take (lenS (whatS R) R)).length = lenS (whatS R) R ∧ whatS (R.take (lenS (whatS R) R)) = whatS R ∧ lenS (whatS R) (R.take (lenS (whatS R) R)) = lenS (whatS R) R ∧ tellS (R.take (lenS (whatS R) R)) = tellS R := by
  have hp := fixN_pos (whatS_lt R) h0
  have hg := lenS_ge (whatS R) R
  have e1 : (R.take (lenS (whatS R) R)).length = lenS (whatS R) R := by rw [List.length_take]; omega
  have e2 : whatS (R.take (lenS (whatS R) R)) = whatS R := whatS_take (by omega)
  have e3 : lenS (whatS R) (R.take (lenS (whatS R) R)) = lenS (whatS R) R := by
    by_cases h7 : whatS R = 7
    · have hf : fixN 7 = 4 := rfl
      have h4 : 3 < lenS (whatS R) R := by rw [h7] at hg ⊢; omega
      generalize hn : lenS (whatS R) R = n at h4
      unfold lenS
      rw [bat_take h4]
      rw [← hn]; unfold lenS; rfl
    · generalize hn : lenS (whatS R) R = n
      unfold lenS
      rw [if_neg h7, ← hn]
      unfold lenS
      rw [if_neg h7]
  refine ⟨e1, e2, e3, ?_⟩
  have := (tellS_app (a := R.take (lenS (whatS R) R)) (b := R.drop (lenS (whatS R) R)) (by rw [e2]; exact h0) (by rw [e2, e3, e1]; omega)).1
  rw [List.take_append_drop] at this
  exact this.symm
def tA (p : Option Addr) (c : Nat) (R : Bs) : Option Addr := Ct.toldA (R.take (lenS (whatS R) R)) (sla p 0 c 1) (c - 0)
def tC (c : Nat) (R : Bs) : Nat := Ct.toldC (R.take (lenS (whatS R) R)) (c - 0)
section
variable {w : World} {R : Bs} {p : Option Addr} {c : Nat}
theorem ByOk.take {R : Bs} (h : ByOk R) (n : Nat) : ByOk (R.take n) := fun c hc => h c (List.mem_of_mem_take hc)
theorem told_at (hr : Rd w (.slice (sla p 0 c 1) (R.take (lenS (whatS R) R)).length (c - 0)) 1 ((R.take (lenS (whatS R) R)).map (ic .u8))) (hby : ByOk R) (h0 : whatS R ≠ 0) (h1 : ¬ R.length < lenS (whatS R) R) :
    Calls Tryz.prog 19 #[.slice (sla p 0 c 1) (R.take (lenS (whatS R) R)).length (c - 0)] w (fun e w' => e = .returned (.agg (stp ⟨tellS R, tA p c R, tC c R⟩).toArray) ∧ Own w no w' []) := by
  obtain ⟨e1, e2, e3, e4⟩ := take_facts h0 h1
  have := Ct.told_ok hr (ByOk.take hby _) (by rw [e2]; exact h0) (by rw [e2, e3, e1])
  rw [e4] at this
  exact this
theorem told_cut (hr : Rd w (.slice p R.length c) 1 (R.map (ic .u8))) (h0 : whatS R ≠ 0) (h1 : ¬ R.length < lenS (whatS R) R) : Rd w (.slice (tA p c R) (tellS R).cuts.length (tC c R)) 1 ((tellS R).cuts.map (ic .u8)) := by
  obtain ⟨e1, e2, e3, e4⟩ := take_facts h0 h1
  obtain ⟨_, q2⟩ := putS_what (whatS_lt R) h0 (R.drop 1) ((R.drop 4).take (lenS (whatS R) R - 4))
  have hc : (tellS R).cuts = if whatS R = 7 then (R.drop 4).take (lenS (whatS R) R - 4) else [] := q2
  unfold tA tC Ct.toldA Ct.toldC
  rw [e2, hc]
  by_cases h7 : whatS R = 7
  · rw [if_pos h7, if_pos h7, if_pos h7]
    have hg := lenS_ge (whatS R) R
    have hf : fixN 7 = 4 := rfl
    have h4 : 4 ≤ lenS (whatS R) R := by rw [h7] at hg ⊢; omega
    have s1 := Rd.subM hr 0 (lenS (whatS R) R) c (by omega) (by omega) (Nat.le_trans (by omega) hr.roomM) (Nat.le_refl _) (lenS (whatS R) R) (by omega)
    have s2 := Rd.dropM s1 4 (by rw [List.length_take, List.length_drop]; omega) _ rfl
    simp only [List.drop_zero, Nat.sub_zero] at s2 ⊢
    have e5 : ((R.take (lenS (whatS R) R)).length - 4) = ((R.drop 4).take (lenS (whatS R) R - 4)).length := by
      rw [List.length_take, List.length_take, List.length_drop]; omega
    have e6 : (R.take (lenS (whatS R) R)).drop 4 = (R.drop 4).take (lenS (whatS R) R - 4) := List.drop_take
    rw [e5, e6] at s2
    exact s2
  · rw [if_neg h7, if_neg h7, if_neg h7]
    exact Rd.nil _ 1
end
end Tt
end Go.Proofs
