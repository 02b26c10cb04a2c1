/-
  No cell of these rows narrows 'for every input' (looked for: loops, veiled, ifaces, maps, wideKeys, modest, calm, conditions, laid).
  DERIVED. THE GIVEN ROWS OF THIS SEAT. 10 by the template 'for every input the law returns true; each argument reads behind the call as it read before'; 0 by the template 'total and deterministic' (their statements: YthbbcjimiemdgaaTotals.lean).
  GIVEN WITH THE SEED: the statements are not yours to turn. If you find one false, say at which input.
  Laid BY PROGRAM, IN A SANDBOX (cutbox-rows.mjs): the forced cells as the released guide's own fill.sh prints them over the translation 56f9025d6b1688c4… (all of the seat's roots in one cut). By AI agents, Wed Nov 11 2026. No macro, syntax, notation, axiom, sorry.
-/
import Derived.Test.YthbbcjimiemdgaaChecked
import GoSem.Claim
import GoSem.ClaimJoined
import GoSem.ClaimMapViews
import Derived.JoinedTies
import Derived.KernelRfl
namespace Go.Proofs.Ythbbcjimiemdgaa
/- THE CELL 'sum', in the pinned program and in every row, IS THE sha256 OF THE DUMP (.gsa) THAT YthbbcjimiemdgaaProg.lean LOADS. Nothing in Lean hashes anything: it is a label: what it is worth is what the hold of that sum in a sandbox is worth. -/
noncomputable def Try.pinned : Pinned := { name := "ythbbcjimiemdgaa", sum := "56f9025d6b1688c46a8c267d556981aeec6101879388c0e36b3552ab5e3d3b1d", checked := Try.checked }
namespace Rows
def none {H : Type} : Left H := { results := [], args := [] }

/-- 'truglaw11.DiskSafe': WHATEVER THE INPUT: true; the input reads as it did. -/
def diskSafeSpec : ChangeSpec := { name := "diskSafe", fn := fun _ => fun
  | [d1, d2, d3] => { results := [.lit (.bool true)], args := [d1, d2, d3] }
  | _ => none }
def diskSafeRow : OpenClaim := { program := "ythbbcjimiemdgaa", sum := "56f9025d6b1688c46a8c267d556981aeec6101879388c0e36b3552ab5e3d3b1d", func := "trug/truglaw11.DiskSafe", spec := "diskSafe", inPlace := ["maps.clone"], unfollowed := true, recurses := true, plainKeys := false, apart := false }
def DiskSafeSaid : Prop := diskSafeRow.holds Try.pinned (OpenSpec.ofChange diskSafeSpec)

/-- ITS FALSE NEIGHBOUR: 'it returns false'. Refute it at one input. -/
def diskSafeWrong : ChangeSpec := { name := "diskSafe", fn := fun _ => fun
  | [d1, d2, d3] => { results := [.lit (.bool false)], args := [d1, d2, d3] }
  | _ => none }
def DiskSafeWrongFalsely : Prop := diskSafeRow.holds Try.pinned (OpenSpec.ofChange diskSafeWrong)

/-- 'truglaw11.DiskNobody': WHATEVER THE INPUT: true; the input reads as it did. -/
def diskNobodySpec : ChangeSpec := { name := "diskNobody", fn := fun _ => fun
  | [d] => { results := [.lit (.bool true)], args := [d] }
  | _ => none }
def diskNobodyRow : OpenClaim := { program := "ythbbcjimiemdgaa", sum := "56f9025d6b1688c46a8c267d556981aeec6101879388c0e36b3552ab5e3d3b1d", func := "trug/truglaw11.DiskNobody", spec := "diskNobody", inPlace := ["maps.clone"], unfollowed := true, recurses := true, plainKeys := false, apart := false }
def DiskNobodySaid : Prop := diskNobodyRow.holds Try.pinned (OpenSpec.ofChange diskNobodySpec)

/-- ITS FALSE NEIGHBOUR: 'it returns false'. Refute it at one input. -/
def diskNobodyWrong : ChangeSpec := { name := "diskNobody", fn := fun _ => fun
  | [d] => { results := [.lit (.bool false)], args := [d] }
  | _ => none }
def DiskNobodyWrongFalsely : Prop := diskNobodyRow.holds Try.pinned (OpenSpec.ofChange diskNobodyWrong)

/-- 'truglaw11.DiskNames': WHATEVER THE INPUT: true; the input reads as it did. -/
def diskNamesSpec : ChangeSpec := { name := "diskNames", fn := fun _ => fun
  | [d1, d2] => { results := [.lit (.bool true)], args := [d1, d2] }
  | _ => none }
def diskNamesRow : OpenClaim := { program := "ythbbcjimiemdgaa", sum := "56f9025d6b1688c46a8c267d556981aeec6101879388c0e36b3552ab5e3d3b1d", func := "trug/truglaw11.DiskNames", spec := "diskNames", inPlace := ["maps.clone"], unfollowed := true, recurses := true, plainKeys := false, apart := false }
def DiskNamesSaid : Prop := diskNamesRow.holds Try.pinned (OpenSpec.ofChange diskNamesSpec)

/-- ITS FALSE NEIGHBOUR: 'it returns false'. Refute it at one input. -/
def diskNamesWrong : ChangeSpec := { name := "diskNames", fn := fun _ => fun
  | [d1, d2] => { results := [.lit (.bool false)], args := [d1, d2] }
  | _ => none }
def DiskNamesWrongFalsely : Prop := diskNamesRow.holds Try.pinned (OpenSpec.ofChange diskNamesWrong)

/-- 'truglaw08.CartMerges': WHATEVER THE INPUT: true; the input reads as it did. -/
def cartMergesSpec : ChangeSpec := { name := "cartMerges", fn := fun _ => fun
  | [d1, d2] => { results := [.lit (.bool true)], args := [d1, d2] }
  | _ => none }
def cartMergesRow : OpenClaim := { program := "ythbbcjimiemdgaa", sum := "56f9025d6b1688c46a8c267d556981aeec6101879388c0e36b3552ab5e3d3b1d", func := "trug/truglaw08.CartMerges", spec := "cartMerges", inPlace := ["slices.overlaps[trug/cart.Entry]", "slices.overlaps[trug/cart.Last]"], unfollowed := true, recurses := true, plainKeys := false, apart := false }
def CartMergesSaid : Prop := cartMergesRow.holds Try.pinned (OpenSpec.ofChange cartMergesSpec)

/-- ITS FALSE NEIGHBOUR: 'it returns false'. Refute it at one input. -/
def cartMergesWrong : ChangeSpec := { name := "cartMerges", fn := fun _ => fun
  | [d1, d2] => { results := [.lit (.bool false)], args := [d1, d2] }
  | _ => none }
def CartMergesWrongFalsely : Prop := cartMergesRow.holds Try.pinned (OpenSpec.ofChange cartMergesWrong)

/-- 'truglaw08.CartViews': WHATEVER THE INPUT: true; the input reads as it did. -/
def cartViewsSpec : ChangeSpec := { name := "cartViews", fn := fun _ => fun
  | [d1, d2] => { results := [.lit (.bool true)], args := [d1, d2] }
  | _ => none }
def cartViewsRow : OpenClaim := { program := "ythbbcjimiemdgaa", sum := "56f9025d6b1688c46a8c267d556981aeec6101879388c0e36b3552ab5e3d3b1d", func := "trug/truglaw08.CartViews", spec := "cartViews", inPlace := ["slices.overlaps[trug/cart.Entry]", "slices.overlaps[trug/cart.Last]"], unfollowed := true, recurses := true, plainKeys := false, apart := false }
def CartViewsSaid : Prop := cartViewsRow.holds Try.pinned (OpenSpec.ofChange cartViewsSpec)

/-- ITS FALSE NEIGHBOUR: 'it returns false'. Refute it at one input. -/
def cartViewsWrong : ChangeSpec := { name := "cartViews", fn := fun _ => fun
  | [d1, d2] => { results := [.lit (.bool false)], args := [d1, d2] }
  | _ => none }
def CartViewsWrongFalsely : Prop := cartViewsRow.holds Try.pinned (OpenSpec.ofChange cartViewsWrong)

/-- 'truglaw08.CartJoins': WHATEVER THE INPUT: true; the input reads as it did. -/
def cartJoinsSpec : ChangeSpec := { name := "cartJoins", fn := fun _ => fun
  | [d1, d2, d3] => { results := [.lit (.bool true)], args := [d1, d2, d3] }
  | _ => none }
def cartJoinsRow : OpenClaim := { program := "ythbbcjimiemdgaa", sum := "56f9025d6b1688c46a8c267d556981aeec6101879388c0e36b3552ab5e3d3b1d", func := "trug/truglaw08.CartJoins", spec := "cartJoins", inPlace := ["slices.overlaps[trug/cart.Entry]", "slices.overlaps[trug/cart.Last]"], unfollowed := true, recurses := true, plainKeys := false, apart := false }
def CartJoinsSaid : Prop := cartJoinsRow.holds Try.pinned (OpenSpec.ofChange cartJoinsSpec)

/-- ITS FALSE NEIGHBOUR: 'it returns false'. Refute it at one input. -/
def cartJoinsWrong : ChangeSpec := { name := "cartJoins", fn := fun _ => fun
  | [d1, d2, d3] => { results := [.lit (.bool false)], args := [d1, d2, d3] }
  | _ => none }
def CartJoinsWrongFalsely : Prop := cartJoinsRow.holds Try.pinned (OpenSpec.ofChange cartJoinsWrong)

/-- 'truglaw08.CartAny': WHATEVER THE INPUT: true; the input reads as it did. -/
def cartAnySpec : ChangeSpec := { name := "cartAny", fn := fun _ => fun
  | [d1, d2] => { results := [.lit (.bool true)], args := [d1, d2] }
  | _ => none }
def cartAnyRow : OpenClaim := { program := "ythbbcjimiemdgaa", sum := "56f9025d6b1688c46a8c267d556981aeec6101879388c0e36b3552ab5e3d3b1d", func := "trug/truglaw08.CartAny", spec := "cartAny", inPlace := ["slices.overlaps[trug/cart.Entry]", "slices.overlaps[trug/cart.Last]"], unfollowed := true, recurses := true, plainKeys := false, apart := false }
def CartAnySaid : Prop := cartAnyRow.holds Try.pinned (OpenSpec.ofChange cartAnySpec)

/-- ITS FALSE NEIGHBOUR: 'it returns false'. Refute it at one input. -/
def cartAnyWrong : ChangeSpec := { name := "cartAny", fn := fun _ => fun
  | [d1, d2] => { results := [.lit (.bool false)], args := [d1, d2] }
  | _ => none }
def CartAnyWrongFalsely : Prop := cartAnyRow.holds Try.pinned (OpenSpec.ofChange cartAnyWrong)

/-- 'truglaw08.CartClears': WHATEVER THE INPUT: true; the input reads as it did. -/
def cartClearsSpec : ChangeSpec := { name := "cartClears", fn := fun _ => fun
  | [d1, d2, d3] => { results := [.lit (.bool true)], args := [d1, d2, d3] }
  | _ => none }
def cartClearsRow : OpenClaim := { program := "ythbbcjimiemdgaa", sum := "56f9025d6b1688c46a8c267d556981aeec6101879388c0e36b3552ab5e3d3b1d", func := "trug/truglaw08.CartClears", spec := "cartClears", inPlace := ["slices.overlaps[trug/cart.Entry]", "slices.overlaps[trug/cart.Last]"], unfollowed := true, recurses := true, plainKeys := false, apart := false }
def CartClearsSaid : Prop := cartClearsRow.holds Try.pinned (OpenSpec.ofChange cartClearsSpec)

/-- ITS FALSE NEIGHBOUR: 'it returns false'. Refute it at one input. -/
def cartClearsWrong : ChangeSpec := { name := "cartClears", fn := fun _ => fun
  | [d1, d2, d3] => { results := [.lit (.bool false)], args := [d1, d2, d3] }
  | _ => none }
def CartClearsWrongFalsely : Prop := cartClearsRow.holds Try.pinned (OpenSpec.ofChange cartClearsWrong)

/-- 'truglaw08.CartSets': WHATEVER THE INPUT: true; the input reads as it did. -/
def cartSetsSpec : ChangeSpec := { name := "cartSets", fn := fun _ => fun
  | [d1, d2] => { results := [.lit (.bool true)], args := [d1, d2] }
  | _ => none }
def cartSetsRow : OpenClaim := { program := "ythbbcjimiemdgaa", sum := "56f9025d6b1688c46a8c267d556981aeec6101879388c0e36b3552ab5e3d3b1d", func := "trug/truglaw08.CartSets", spec := "cartSets", inPlace := ["slices.overlaps[trug/cart.Entry]", "slices.overlaps[trug/cart.Last]"], unfollowed := true, recurses := true, plainKeys := false, apart := false }
def CartSetsSaid : Prop := cartSetsRow.holds Try.pinned (OpenSpec.ofChange cartSetsSpec)

/-- ITS FALSE NEIGHBOUR: 'it returns false'. Refute it at one input. -/
def cartSetsWrong : ChangeSpec := { name := "cartSets", fn := fun _ => fun
  | [d1, d2] => { results := [.lit (.bool false)], args := [d1, d2] }
  | _ => none }
def CartSetsWrongFalsely : Prop := cartSetsRow.holds Try.pinned (OpenSpec.ofChange cartSetsWrong)

/-- 'truglaw08.CartZero': WHATEVER THE INPUT: true; the input reads as it did. -/
def cartZeroSpec : ChangeSpec := { name := "cartZero", fn := fun _ => fun
  | [d] => { results := [.lit (.bool true)], args := [d] }
  | _ => none }
def cartZeroRow : OpenClaim := { program := "ythbbcjimiemdgaa", sum := "56f9025d6b1688c46a8c267d556981aeec6101879388c0e36b3552ab5e3d3b1d", func := "trug/truglaw08.CartZero", spec := "cartZero", inPlace := ["slices.overlaps[trug/cart.Entry]", "slices.overlaps[trug/cart.Last]"], unfollowed := true, recurses := true, plainKeys := false, apart := false }
def CartZeroSaid : Prop := cartZeroRow.holds Try.pinned (OpenSpec.ofChange cartZeroSpec)

/-- ITS FALSE NEIGHBOUR: 'it returns false'. Refute it at one input. -/
def cartZeroWrong : ChangeSpec := { name := "cartZero", fn := fun _ => fun
  | [d] => { results := [.lit (.bool false)], args := [d] }
  | _ => none }
def CartZeroWrongFalsely : Prop := cartZeroRow.holds Try.pinned (OpenSpec.ofChange cartZeroWrong)

/- THE SECOND FORM. 'bulk': how many values and letters a reading holds, each counted each time it is reached (what is shared counts as often as it is met; a slice's spare places count too). A statement '..UptoSaid' is the law's where the arguments, and the package variables that the reading takes, are together of bulk at most 1048576: NARROWER than '..Said'. Prove '..Said' where nothing that the law and all that it calls make is longer than what came in: it says more and counts as full. Else prove '..UptoSaid'. A law counts once. -/
mutual
def uptoBulk {H : Type} : DataW H → Nat
  | .lit (.string bytes) => bytes.length + 1
  | .lit _ => 1
  | .nil => 1
  | .ptr d => uptoBulk d + 1
  | .slice elems spare => uptoBulkAll elems + uptoBulkAll spare + 1
  | .agg parts => uptoBulkAll parts + 1
  | .iface _ d => uptoBulk d + 1
  | .map entries => uptoBulkEntries entries + 1
  | .held _ => 1
def uptoBulkAll {H : Type} : List (DataW H) → Nat
  | [] => 0
  | d :: r => uptoBulk d + uptoBulkAll r
def uptoBulkEntries {H : Type} : List (Lit × DataW H) → Nat
  | [] => 0
  | x :: r => uptoBulkEntry x + uptoBulkEntries r
def uptoBulkEntry {H : Type} : Lit × DataW H → Nat
  | (.string bytes, d) => bytes.length + uptoBulk d + 1
  | (_, d) => uptoBulk d + 1
 end
def uptoSmall : (H : Type) → List (DataW H) → Bool := fun _ ds => decide (uptoBulkAll ds ≤ 1048576)
def OpenSpec.upto (s : _root_.Go.ChangeSpec) : _root_.Go.OpenSpec := { _root_.Go.OpenSpec.ofChange s with cond := some uptoSmall }

/-- 'truglaw11.DiskSafe', WHERE WHAT IT READS IS OF BULK AT MOST 1048576: true; the input reads as it did. -/
def diskSafeUptoRow : OpenClaim := { program := "ythbbcjimiemdgaa", sum := "56f9025d6b1688c46a8c267d556981aeec6101879388c0e36b3552ab5e3d3b1d", func := "trug/truglaw11.DiskSafe", spec := "diskSafe", inPlace := ["maps.clone"], unfollowed := true, recurses := true, plainKeys := false, apart := false, narrowed := true }
def DiskSafeUptoSaid : Prop := diskSafeUptoRow.holds Try.pinned (OpenSpec.upto diskSafeSpec)

/-- 'truglaw11.DiskNobody', WHERE WHAT IT READS IS OF BULK AT MOST 1048576: true; the input reads as it did. -/
def diskNobodyUptoRow : OpenClaim := { program := "ythbbcjimiemdgaa", sum := "56f9025d6b1688c46a8c267d556981aeec6101879388c0e36b3552ab5e3d3b1d", func := "trug/truglaw11.DiskNobody", spec := "diskNobody", inPlace := ["maps.clone"], unfollowed := true, recurses := true, plainKeys := false, apart := false, narrowed := true }
def DiskNobodyUptoSaid : Prop := diskNobodyUptoRow.holds Try.pinned (OpenSpec.upto diskNobodySpec)

/-- 'truglaw11.DiskNames', WHERE WHAT IT READS IS OF BULK AT MOST 1048576: true; the input reads as it did. -/
def diskNamesUptoRow : OpenClaim := { program := "ythbbcjimiemdgaa", sum := "56f9025d6b1688c46a8c267d556981aeec6101879388c0e36b3552ab5e3d3b1d", func := "trug/truglaw11.DiskNames", spec := "diskNames", inPlace := ["maps.clone"], unfollowed := true, recurses := true, plainKeys := false, apart := false, narrowed := true }
def DiskNamesUptoSaid : Prop := diskNamesUptoRow.holds Try.pinned (OpenSpec.upto diskNamesSpec)

/-- 'truglaw08.CartMerges', WHERE WHAT IT READS IS OF BULK AT MOST 1048576: true; the input reads as it did. -/
def cartMergesUptoRow : OpenClaim := { program := "ythbbcjimiemdgaa", sum := "56f9025d6b1688c46a8c267d556981aeec6101879388c0e36b3552ab5e3d3b1d", func := "trug/truglaw08.CartMerges", spec := "cartMerges", inPlace := ["slices.overlaps[trug/cart.Entry]", "slices.overlaps[trug/cart.Last]"], unfollowed := true, recurses := true, plainKeys := false, apart := false, narrowed := true }
def CartMergesUptoSaid : Prop := cartMergesUptoRow.holds Try.pinned (OpenSpec.upto cartMergesSpec)

/-- 'truglaw08.CartViews', WHERE WHAT IT READS IS OF BULK AT MOST 1048576: true; the input reads as it did. -/
def cartViewsUptoRow : OpenClaim := { program := "ythbbcjimiemdgaa", sum := "56f9025d6b1688c46a8c267d556981aeec6101879388c0e36b3552ab5e3d3b1d", func := "trug/truglaw08.CartViews", spec := "cartViews", inPlace := ["slices.overlaps[trug/cart.Entry]", "slices.overlaps[trug/cart.Last]"], unfollowed := true, recurses := true, plainKeys := false, apart := false, narrowed := true }
def CartViewsUptoSaid : Prop := cartViewsUptoRow.holds Try.pinned (OpenSpec.upto cartViewsSpec)

/-- 'truglaw08.CartJoins', WHERE WHAT IT READS IS OF BULK AT MOST 1048576: true; the input reads as it did. -/
def cartJoinsUptoRow : OpenClaim := { program := "ythbbcjimiemdgaa", sum := "56f9025d6b1688c46a8c267d556981aeec6101879388c0e36b3552ab5e3d3b1d", func := "trug/truglaw08.CartJoins", spec := "cartJoins", inPlace := ["slices.overlaps[trug/cart.Entry]", "slices.overlaps[trug/cart.Last]"], unfollowed := true, recurses := true, plainKeys := false, apart := false, narrowed := true }
def CartJoinsUptoSaid : Prop := cartJoinsUptoRow.holds Try.pinned (OpenSpec.upto cartJoinsSpec)

/-- 'truglaw08.CartAny', WHERE WHAT IT READS IS OF BULK AT MOST 1048576: true; the input reads as it did. -/
def cartAnyUptoRow : OpenClaim := { program := "ythbbcjimiemdgaa", sum := "56f9025d6b1688c46a8c267d556981aeec6101879388c0e36b3552ab5e3d3b1d", func := "trug/truglaw08.CartAny", spec := "cartAny", inPlace := ["slices.overlaps[trug/cart.Entry]", "slices.overlaps[trug/cart.Last]"], unfollowed := true, recurses := true, plainKeys := false, apart := false, narrowed := true }
def CartAnyUptoSaid : Prop := cartAnyUptoRow.holds Try.pinned (OpenSpec.upto cartAnySpec)

/-- 'truglaw08.CartClears', WHERE WHAT IT READS IS OF BULK AT MOST 1048576: true; the input reads as it did. -/
def cartClearsUptoRow : OpenClaim := { program := "ythbbcjimiemdgaa", sum := "56f9025d6b1688c46a8c267d556981aeec6101879388c0e36b3552ab5e3d3b1d", func := "trug/truglaw08.CartClears", spec := "cartClears", inPlace := ["slices.overlaps[trug/cart.Entry]", "slices.overlaps[trug/cart.Last]"], unfollowed := true, recurses := true, plainKeys := false, apart := false, narrowed := true }
def CartClearsUptoSaid : Prop := cartClearsUptoRow.holds Try.pinned (OpenSpec.upto cartClearsSpec)

/-- 'truglaw08.CartSets', WHERE WHAT IT READS IS OF BULK AT MOST 1048576: true; the input reads as it did. -/
def cartSetsUptoRow : OpenClaim := { program := "ythbbcjimiemdgaa", sum := "56f9025d6b1688c46a8c267d556981aeec6101879388c0e36b3552ab5e3d3b1d", func := "trug/truglaw08.CartSets", spec := "cartSets", inPlace := ["slices.overlaps[trug/cart.Entry]", "slices.overlaps[trug/cart.Last]"], unfollowed := true, recurses := true, plainKeys := false, apart := false, narrowed := true }
def CartSetsUptoSaid : Prop := cartSetsUptoRow.holds Try.pinned (OpenSpec.upto cartSetsSpec)

/-- 'truglaw08.CartZero', WHERE WHAT IT READS IS OF BULK AT MOST 1048576: true; the input reads as it did. -/
def cartZeroUptoRow : OpenClaim := { program := "ythbbcjimiemdgaa", sum := "56f9025d6b1688c46a8c267d556981aeec6101879388c0e36b3552ab5e3d3b1d", func := "trug/truglaw08.CartZero", spec := "cartZero", inPlace := ["slices.overlaps[trug/cart.Entry]", "slices.overlaps[trug/cart.Last]"], unfollowed := true, recurses := true, plainKeys := false, apart := false, narrowed := true }
def CartZeroUptoSaid : Prop := cartZeroUptoRow.holds Try.pinned (OpenSpec.upto cartZeroSpec)

end Rows
end Go.Proofs.Ythbbcjimiemdgaa
