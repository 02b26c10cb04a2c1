/- A part of a proof: what functions of the program compute, and plain facts on that. -/
import Derived.Test.YthejeobcehpdcaaGreatDoorScriptDecodesP11
import Derived.KernelRfl
import Derived.Test.YthejeobcehpdcaaGreatDoorProg
set_option linter.unusedVariables false
set_option linter.unusedSectionVars false
set_option linter.unusedSimpArgs false
namespace Go.Proofs
open Go Go.Vx Go.RowKit
namespace Tt
theorem EN_10 : En Tryz.prog 10 := Tryz.call10
theorem EN_12 : En Tryz.prog 12 := Tryz.call12
theorem EN_13 : En Tryz.prog 13 := Tryz.call13
theorem EN_7 : En Tryz.prog 7 := Tryz.call7
theorem EN_8 : En Tryz.prog 8 := Tryz.call8
end Tt
end Go.Proofs
