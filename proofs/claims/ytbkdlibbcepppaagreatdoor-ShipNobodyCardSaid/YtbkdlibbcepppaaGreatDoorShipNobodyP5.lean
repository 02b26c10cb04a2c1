/- A part of a proof: what functions of the program compute, and plain facts on that. -/
import Derived.Test.YtbkdlibbcepppaaGreatDoorShipNobodyP4
set_option linter.unusedVariables false
set_option linter.unusedSectionVars false
set_option linter.unusedSimpArgs false
namespace Go.Proofs
open Go Go.Vx Go.RowKit Go.Ce
namespace Ct
set_option maxRecDepth 1000000
noncomputable def bopS (p q : Bool) (op : BinOp) (k : Nat) (j : IntKind) (c : Int) : Option AV :=
  cond (Nat.beq k 0 && Nat.beq (kd j) 1 && eqI c 16) (match op with | .lss => some (.b p) | .geq => some (.b (!p)) | _ => none)
    (cond (Nat.beq k 2 && Nat.beq (kd j) 6 && eqI c 4000) (match op with | .gtr => some (.b (!q)) | .leq => some (.b q) | _ => none) none)
noncomputable def tlenS (k : Nat) : Option AV := cond (Nat.beq k 1) (some (.tok 2)) none
noncomputable def hookS : Nat → List AV → Mem → RL := hookT 22 0 (nums .u32 half) (fun _ _ _ => none)
noncomputable def cfgS (p q : Bool) : Cfg := cfgOf Tryz.prog.types.toList Tryz.prog.funcs.toList eqsL hookS (bopS p q) tlenS
theorem evS (p q : Bool) (T : Nat) : trueB 0 (callA (cfgS p q) (exec (cfgS p q) 1000000) 7 [.tok 0, .tok 1] (mem0 0 (nums .u32 half) T)) = true := by
  cases p <;> cases q
  · kernel_rfl
  · kernel_rfl
  · kernel_rfl
  · kernel_rfl
theorem hookS_ok [Tok] (p q : Bool) : HookOk (cfgS p q) Tryz.prog := by
  obtain ⟨h1, h2⟩ := hookT_ok (P := Tryz.prog) (g := 0) (k := .u32) (l := half) (fA := 22) (next := fun _ _ _ => none) (by decide) Tryz.call22 (fun T w hw => run_f22 T hw) (none_ok (P := Tryz.prog)).1 (none_ok (P := Tryz.prog)).2
  exact ⟨h1, h2⟩
abbrev tokS (n : Int) (a : Option Addr) (l c : Nat) : Tok := ⟨fun k => match k with | 0 => .int .u8 n | 1 => .slice a l c | _ => .int .i64 (l : Int), fun _ _ => True⟩
theorem cfgS_ok (n : Int) (a : Option Addr) (l c : Nat) : @CfgOk (tokS n a l c) (cfgS (decide (n < 16)) (decide (l ≤ 4000))) Tryz.prog := by
  letI := tokS n a l c
  refine cfg_ok tabOk (fun op k j b v h => ?_) (fun k r h => ?_)
  · unfold bopS at h
    rcases cond_iff2.1 h with ⟨hc, h1⟩ | ⟨_, h1⟩
    · rw [Bool.and_eq_true, Bool.and_eq_true, eqI_eq, decide_eq_true_iff] at hc
      obtain ⟨⟨c1, c2⟩, rfl⟩ := hc
      cases Nat.eq_of_beq_eq_true c1
      cases kd_inj (k := .u8) (Nat.eq_of_beq_eq_true c2)
      refine ⟨n, rfl, fun t => ?_⟩
      cases op <;> first | (cases h1; done) | skip
      · cases h1
        show some (AV.b (ltI n 16)) = _
        rw [ltI_eq]
      · cases h1
        show some (AV.b (!ltI n 16)) = _
        rw [ltI_eq]
    · obtain ⟨hc, h2⟩ := cond_iff.1 h1
      rw [Bool.and_eq_true, Bool.and_eq_true, eqI_eq, decide_eq_true_iff] at hc
      obtain ⟨⟨c1, c2⟩, rfl⟩ := hc
      cases Nat.eq_of_beq_eq_true c1
      cases kd_inj (k := .i64) (Nat.eq_of_beq_eq_true c2)
      refine ⟨(l : Int), rfl, fun t => ?_⟩
      cases op <;> first | (cases h2; done) | skip
      · cases h2
        show some (AV.b (!ltI 4000 l)) = _
        rw [ltI_eq]
        congr 2
        by_cases hl : l ≤ 4000
        · have : ¬ (4000 : Int) < l := by omega
          simp [hl, this]
        · have : (4000 : Int) < l := by omega
          simp [hl, this]
      · cases h2
        show some (AV.b (ltI 4000 l)) = _
        rw [ltI_eq]
        congr 2
        by_cases hl : l ≤ 4000
        · have : ¬ (4000 : Int) < l := by omega
          simp [hl, this]
        · have : (4000 : Int) < l := by omega
          simp [hl, this]
  · unfold tlenS at h
    obtain ⟨hc, h1⟩ := cond_iff.1 h
    cases Nat.eq_of_beq_eq_true hc
    cases h1
    exact ⟨a, l, c, rfl, fun σ => .tok 2 rfl⟩
theorem shipNobody_ok (T : Nat) (n : Int) (a : Option Addr) (l c : Nat) {w : World} (hw : w.heap[0]? = some (.cells (numsV .u32 half).toArray T (0, 0))) : Calls Tryz.prog 7 #[.int .u8 n, .slice a l c] w (fun e w' => e = .returned (.bool true) ∧ Own w no w' []) :=
  letI := tokS n a l c
  run_law (fuel := 1000000) (args := [.tok 0, .tok 1]) (vs := [.int .u8 n, .slice a l c]) (cfgS_ok n a l c) (hookS_ok _ _) (show (cfgS _ _).fn 7 = some Tryz.f7 by kernel_rfl) rfl (by decide) (fun _ => .cons (.tok 0 rfl) (.cons (.tok 1 rfl) .nil)) (evS _ _ T) trivial hw
end Ct
end Go.Proofs
