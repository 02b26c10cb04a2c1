/- The sort's contract at this dump. -/
import Derived.Test.YtnanhhiofnohbaaVxS
import Derived.Shelf.SlSortCmp.NoneTotal
import Derived.Test.YtnanhhiofnohbaaVtK
import Derived.Test.YtnanhhiofnohbaaSortLaid
namespace Go.Proofs.Ytnanhhiofnohbaa
open Go.Vx Go.Sort Go.Proofs
theorem swoD : SWO (ltOf ordD) where
  irrefl x := by unfold ltOf; rw [decide_eq_false_iff_not, ordD_lt]; omega
  trans x y z h1 h2 := by unfold ltOf at *; rw [decide_eq_true_iff, ordD_lt] at *; omega
  ntrans x y z h1 h2 := by unfold ltOf at *; rw [decide_eq_false_iff_not, ordD_lt] at *; omega
theorem sortsD : SortC Try.prog 64 51 dc 34 2 sortD :=
  sortC_of (ρ := Try.sortD_ren) (k := 2) (T := 34) Try.sortD Try.isAgg34 Try.sizeOf34 (fun _ => rfl) dc_one swoD Try.call51 (fun w x y => Tt.order_ok w x y) (fun w => AnyF.slices_SortFunc_none Try.sortD none 0 _ w)
end Go.Proofs.Ytnanhhiofnohbaa
