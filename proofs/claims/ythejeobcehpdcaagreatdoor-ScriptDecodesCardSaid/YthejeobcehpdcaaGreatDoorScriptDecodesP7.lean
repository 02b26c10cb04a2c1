/- A part of a proof: what functions of the program compute, and plain facts on that. -/
import Derived.Test.YthejeobcehpdcaaGreatDoorScriptDecodesP6
import Derived.Test.YthejeobcehpdcaaGreatDoorRows
import Derived.Test.YthejeobcehpdcaaGreatDoorChecked
import Derived.Test.YthejeobcehpdcaaGreatDoorTie
import Derived.Test.YthejeobcehpdcaaGreatDoorCards
import Derived.ChangeSame
import Derived.ChangeVars
import Derived.JoinedOf
import Derived.RowKit
import Derived.RowKitTokens
import Derived.SevenTiedAt
set_option linter.unusedVariables false
set_option linter.unusedSectionVars false
set_option linter.unusedSimpArgs false
namespace Go.Proofs.YthejeobcehpdcaaGreatDoor
open Go Go.ChangeShapes Go.WideShapes Go.ChangeAt Go.RowKit Go.Vx
set_option maxRecDepth 100000
theorem Tryz.own : ownKnob Tryz.prog.godebug = none := by kernel_rfl
theorem Tryz.laidOut : laidOutB Tryz.prog = true := by kernel_rfl
abbrev laidL {H : Type} : List (String × DataW H) := [("math/bits.deBruijn32tab", Rows.laid_math_bits_deBruijn32tab), ("math/bits.deBruijn64tab", Rows.laid_math_bits_deBruijn64tab), ("internal/strconv.uint64pow10", Rows.laid_internal_strconv_uint64pow10), ("trug/crc.half", Rows.laid_trug_crc_half)]
noncomputable def cellsOfD : DataW Unit → Array Value
  | .agg l => (l.map fun d => match d with | .lit (.int k n) => Value.int k n | _ => .bool false).toArray
  | _ => #[]
noncomputable def laidWorld (os : Os) : World :=
  let put (h : Array Obj) (g : Nat) (d : DataW Unit) : Array Obj := h.modify g fun | .cells _ t frozen => .cells (cellsOfD d) t frozen | o => o
  { World.holding Tryz.prog os ⟨#[], #[], []⟩ with heap := put (put (put (put (World.holding Tryz.prog os ⟨#[], #[], []⟩).heap 0 Rows.laid_trug_crc_half) 1 Rows.laid_internal_strconv_uint64pow10) 2 Rows.laid_math_bits_deBruijn32tab) 3 Rows.laid_math_bits_deBruijn64tab }
theorem laidWorld_met (os : Os) (args : Array Value) : laidMet Tryz.prog laidL ((laidWorld os).forCall (fun _ _ => 0) ⟨#[], args, []⟩).memory :=
  laidMet_of_run' 8 (by kernel_rfl) (by kernel_rfl)
end Go.Proofs.YthejeobcehpdcaaGreatDoor
