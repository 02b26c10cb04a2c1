/- A part of a proof: what functions of the program compute, and plain facts on that. -/
import Derived.Test.YthejeobcehpdcaaGreatDoorScriptNobodyP5
set_option linter.unusedVariables false
set_option linter.unusedSectionVars false
set_option linter.unusedSimpArgs false
namespace Go.Proofs
open Go Go.Vx Go.RowKit Go.Ce
namespace Ct
set_option maxRecDepth 1000000
noncomputable def bopN (op : BinOp) (k : Nat) (j : IntKind) (c : Int) : Option AV :=
  cond (Nat.beq k 0 && Nat.beq (kd j) 6 && (eqI c 16 || eqI c 0 || eqI c 2)) (match op with | .lss => some (.b false) | _ => none) none
noncomputable def hookN : Nat → List AV → Mem → RL := hookT 7 0 (nums .u32 half) (fun _ _ _ => none)
noncomputable def cfgN (big : Bool) : Cfg := cfgOf Tryz.prog.types.toList Tryz.prog.funcs.toList eqsL hookN (cond big bopN (fun _ _ _ _ => none)) (fun _ => none) noTok kysL
noncomputable def runN (big : Bool) (reps : AV) (T : Nat) : Bool := trueB 0 (callA (cfgN big) (exec (cfgN big) 1000000) 5 [reps, .tok 1] (mem0 0 (nums .u32 half) T))
end Ct
end Go.Proofs
