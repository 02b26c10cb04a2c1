/-
  No cell of these rows narrows 'for every input' (looked for: loops, veiled, ifaces, maps, wideKeys, modest, calm, conditions, laid).
  DERIVED. THE GIVEN ROWS OF THIS SEAT. 7 by the template 'for every input the law returns true; each argument reads behind the call as it read before'; 0 by the template 'total and deterministic' (their statements: YtbjbjboehjdcaaaGreatTotals.lean).
  GIVEN WITH THE SEED: the statements are not yours to turn. If you find one false, say at which input.
  Laid BY PROGRAM, IN A SANDBOX (cutbox-rows.mjs): the forced cells as the released guide's own fill.sh prints them over the translation 6eb51f7e93d6bff1… (all of the seat's roots in one cut). By AI agents, Wed Nov 11 2026. No macro, syntax, notation, axiom, sorry.
-/
import Derived.Test.YtbjbjboehjdcaaaGreatChecked
import GoSem.Claim
import GoSem.ClaimJoined
import GoSem.ClaimMapViews
import Derived.JoinedTies
import Derived.KernelRfl
namespace Go.Proofs.YtbjbjboehjdcaaaGreat
/- THE CELL 'sum', in the pinned program and in every row, IS THE sha256 OF THE DUMP (.gsa) THAT YtbjbjboehjdcaaaGreatProg.lean LOADS. Nothing in Lean hashes anything: it is a label: what it is worth is what the hold of that sum in a sandbox is worth. -/
noncomputable def Tryz.pinned : Pinned := { name := "ytbjbjboehjdcaaagreat", sum := "6eb51f7e93d6bff1e4a292e54650947a80df7b706c39982dac49e8209224cfdb", checked := Tryz.checked }
namespace Rows
def none {H : Type} : Left H := { results := [], args := [] }

/-- 'truglaw17.CutsStates': WHATEVER THE INPUT: true; the input reads as it did. -/
def cutsStatesSpec : ChangeSpec := { name := "cutsStates", fn := fun _ => fun
  | [d1, d2, d3] => { results := [.lit (.bool true)], args := [d1, d2, d3] }
  | _ => none }
def cutsStatesRow : OpenClaim := { program := "ytbjbjboehjdcaaagreat", sum := "6eb51f7e93d6bff1e4a292e54650947a80df7b706c39982dac49e8209224cfdb", func := "trug/truglaw17.CutsStates", spec := "cutsStates", unfollowed := true, recurses := true, plainKeys := false, apart := false }
def CutsStatesSaid : Prop := cutsStatesRow.holds Tryz.pinned (OpenSpec.ofChange cutsStatesSpec)

/-- ITS FALSE NEIGHBOUR: 'it returns false'. Refute it at one input. -/
def cutsStatesWrong : ChangeSpec := { name := "cutsStates", fn := fun _ => fun
  | [d1, d2, d3] => { results := [.lit (.bool false)], args := [d1, d2, d3] }
  | _ => none }
def CutsStatesWrongFalsely : Prop := cutsStatesRow.holds Tryz.pinned (OpenSpec.ofChange cutsStatesWrong)

/-- 'truglaw17.CutsDiffs': WHATEVER THE INPUT: true; the input reads as it did. -/
def cutsDiffsSpec : ChangeSpec := { name := "cutsDiffs", fn := fun _ => fun
  | [d1, d2, d3] => { results := [.lit (.bool true)], args := [d1, d2, d3] }
  | _ => none }
def cutsDiffsRow : OpenClaim := { program := "ytbjbjboehjdcaaagreat", sum := "6eb51f7e93d6bff1e4a292e54650947a80df7b706c39982dac49e8209224cfdb", func := "trug/truglaw17.CutsDiffs", spec := "cutsDiffs", unfollowed := true, recurses := true, plainKeys := false, apart := false }
def CutsDiffsSaid : Prop := cutsDiffsRow.holds Tryz.pinned (OpenSpec.ofChange cutsDiffsSpec)

/-- ITS FALSE NEIGHBOUR: 'it returns false'. Refute it at one input. -/
def cutsDiffsWrong : ChangeSpec := { name := "cutsDiffs", fn := fun _ => fun
  | [d1, d2, d3] => { results := [.lit (.bool false)], args := [d1, d2, d3] }
  | _ => none }
def CutsDiffsWrongFalsely : Prop := cutsDiffsRow.holds Tryz.pinned (OpenSpec.ofChange cutsDiffsWrong)

/-- 'truglaw17.CutsAbandoned': WHATEVER THE INPUT: true; the input reads as it did. -/
def cutsAbandonedSpec : ChangeSpec := { name := "cutsAbandoned", fn := fun _ => fun
  | [d1, d2, d3] => { results := [.lit (.bool true)], args := [d1, d2, d3] }
  | _ => none }
def cutsAbandonedRow : OpenClaim := { program := "ytbjbjboehjdcaaagreat", sum := "6eb51f7e93d6bff1e4a292e54650947a80df7b706c39982dac49e8209224cfdb", func := "trug/truglaw17.CutsAbandoned", spec := "cutsAbandoned", unfollowed := true, recurses := true, plainKeys := false, apart := false }
def CutsAbandonedSaid : Prop := cutsAbandonedRow.holds Tryz.pinned (OpenSpec.ofChange cutsAbandonedSpec)

/-- ITS FALSE NEIGHBOUR: 'it returns false'. Refute it at one input. -/
def cutsAbandonedWrong : ChangeSpec := { name := "cutsAbandoned", fn := fun _ => fun
  | [d1, d2, d3] => { results := [.lit (.bool false)], args := [d1, d2, d3] }
  | _ => none }
def CutsAbandonedWrongFalsely : Prop := cutsAbandonedRow.holds Tryz.pinned (OpenSpec.ofChange cutsAbandonedWrong)

/-- 'truglaw17.CutsBetween': WHATEVER THE INPUT: true; the input reads as it did. -/
def cutsBetweenSpec : ChangeSpec := { name := "cutsBetween", fn := fun _ => fun
  | [d1, d2] => { results := [.lit (.bool true)], args := [d1, d2] }
  | _ => none }
def cutsBetweenRow : OpenClaim := { program := "ytbjbjboehjdcaaagreat", sum := "6eb51f7e93d6bff1e4a292e54650947a80df7b706c39982dac49e8209224cfdb", func := "trug/truglaw17.CutsBetween", spec := "cutsBetween", inPlace := ["slices.overlaps[trug/cart.Entry]", "slices.overlaps[trug/cart.Last]"], unfollowed := true, recurses := true, plainKeys := false, apart := false }
def CutsBetweenSaid : Prop := cutsBetweenRow.holds Tryz.pinned (OpenSpec.ofChange cutsBetweenSpec)

/-- ITS FALSE NEIGHBOUR: 'it returns false'. Refute it at one input. -/
def cutsBetweenWrong : ChangeSpec := { name := "cutsBetween", fn := fun _ => fun
  | [d1, d2] => { results := [.lit (.bool false)], args := [d1, d2] }
  | _ => none }
def CutsBetweenWrongFalsely : Prop := cutsBetweenRow.holds Tryz.pinned (OpenSpec.ofChange cutsBetweenWrong)

/-- 'truglaw17.CutsBase': WHATEVER THE INPUT: true; the input reads as it did. -/
def cutsBaseSpec : ChangeSpec := { name := "cutsBase", fn := fun _ => fun
  | [d1, d2, d3] => { results := [.lit (.bool true)], args := [d1, d2, d3] }
  | _ => none }
def cutsBaseRow : OpenClaim := { program := "ytbjbjboehjdcaaagreat", sum := "6eb51f7e93d6bff1e4a292e54650947a80df7b706c39982dac49e8209224cfdb", func := "trug/truglaw17.CutsBase", spec := "cutsBase", inPlace := ["slices.overlaps[trug/cart.Entry]", "slices.overlaps[trug/cart.Last]"], unfollowed := true, recurses := true, plainKeys := false, apart := false }
def CutsBaseSaid : Prop := cutsBaseRow.holds Tryz.pinned (OpenSpec.ofChange cutsBaseSpec)

/-- ITS FALSE NEIGHBOUR: 'it returns false'. Refute it at one input. -/
def cutsBaseWrong : ChangeSpec := { name := "cutsBase", fn := fun _ => fun
  | [d1, d2, d3] => { results := [.lit (.bool false)], args := [d1, d2, d3] }
  | _ => none }
def CutsBaseWrongFalsely : Prop := cutsBaseRow.holds Tryz.pinned (OpenSpec.ofChange cutsBaseWrong)

/-- 'truglaw17.CutsIdle': WHATEVER THE INPUT: true; the input reads as it did. -/
def cutsIdleSpec : ChangeSpec := { name := "cutsIdle", fn := fun _ => fun
  | [d1, d2, d3] => { results := [.lit (.bool true)], args := [d1, d2, d3] }
  | _ => none }
def cutsIdleRow : OpenClaim := { program := "ytbjbjboehjdcaaagreat", sum := "6eb51f7e93d6bff1e4a292e54650947a80df7b706c39982dac49e8209224cfdb", func := "trug/truglaw17.CutsIdle", spec := "cutsIdle", inPlace := ["slices.overlaps[trug/cart.Entry]", "slices.overlaps[trug/cart.Last]"], unfollowed := true, recurses := true, plainKeys := false, apart := false }
def CutsIdleSaid : Prop := cutsIdleRow.holds Tryz.pinned (OpenSpec.ofChange cutsIdleSpec)

/-- ITS FALSE NEIGHBOUR: 'it returns false'. Refute it at one input. -/
def cutsIdleWrong : ChangeSpec := { name := "cutsIdle", fn := fun _ => fun
  | [d1, d2, d3] => { results := [.lit (.bool false)], args := [d1, d2, d3] }
  | _ => none }
def CutsIdleWrongFalsely : Prop := cutsIdleRow.holds Tryz.pinned (OpenSpec.ofChange cutsIdleWrong)

/-- 'truglaw17.CutsFold': WHATEVER THE INPUT: true; the input reads as it did. -/
def cutsFoldSpec : ChangeSpec := { name := "cutsFold", fn := fun _ => fun
  | [d1, d2, d3] => { results := [.lit (.bool true)], args := [d1, d2, d3] }
  | _ => none }
def cutsFoldRow : OpenClaim := { program := "ytbjbjboehjdcaaagreat", sum := "6eb51f7e93d6bff1e4a292e54650947a80df7b706c39982dac49e8209224cfdb", func := "trug/truglaw17.CutsFold", spec := "cutsFold", inPlace := ["slices.overlaps[trug/cart.Entry]", "slices.overlaps[trug/cart.Last]"], unfollowed := true, recurses := true, plainKeys := false, apart := false }
def CutsFoldSaid : Prop := cutsFoldRow.holds Tryz.pinned (OpenSpec.ofChange cutsFoldSpec)

/-- ITS FALSE NEIGHBOUR: 'it returns false'. Refute it at one input. -/
def cutsFoldWrong : ChangeSpec := { name := "cutsFold", fn := fun _ => fun
  | [d1, d2, d3] => { results := [.lit (.bool false)], args := [d1, d2, d3] }
  | _ => none }
def CutsFoldWrongFalsely : Prop := cutsFoldRow.holds Tryz.pinned (OpenSpec.ofChange cutsFoldWrong)

/- THE SECOND FORM. 'bulk': how many values and letters a reading holds, each counted each time it is reached (what is shared counts as often as it is met; a slice's spare places count too). A statement '..UptoSaid' is the law's where the arguments, and the package variables that the reading takes, are together of bulk at most 1048576: NARROWER than '..Said'. Prove '..Said' where nothing that the law and all that it calls make is longer than what came in: it says more and counts as full. Else prove '..UptoSaid'. A law counts once. -/
mutual
def uptoBulk {H : Type} : DataW H → Nat
  | .lit (.string bytes) => bytes.length + 1
  | .lit _ => 1
  | .nil => 1
  | .ptr d => uptoBulk d + 1
  | .slice elems spare => uptoBulkAll elems + uptoBulkAll spare + 1
  | .agg parts => uptoBulkAll parts + 1
  | .iface _ d => uptoBulk d + 1
  | .map entries => uptoBulkEntries entries + 1
  | .held _ => 1
def uptoBulkAll {H : Type} : List (DataW H) → Nat
  | [] => 0
  | d :: r => uptoBulk d + uptoBulkAll r
def uptoBulkEntries {H : Type} : List (Lit × DataW H) → Nat
  | [] => 0
  | x :: r => uptoBulkEntry x + uptoBulkEntries r
def uptoBulkEntry {H : Type} : Lit × DataW H → Nat
  | (.string bytes, d) => bytes.length + uptoBulk d + 1
  | (_, d) => uptoBulk d + 1
 end
def uptoSmall : (H : Type) → List (DataW H) → Bool := fun _ ds => decide (uptoBulkAll ds ≤ 1048576)
def OpenSpec.upto (s : _root_.Go.ChangeSpec) : _root_.Go.OpenSpec := { _root_.Go.OpenSpec.ofChange s with cond := some uptoSmall }

/-- 'truglaw17.CutsStates', WHERE WHAT IT READS IS OF BULK AT MOST 1048576: true; the input reads as it did. -/
def cutsStatesUptoRow : OpenClaim := { program := "ytbjbjboehjdcaaagreat", sum := "6eb51f7e93d6bff1e4a292e54650947a80df7b706c39982dac49e8209224cfdb", func := "trug/truglaw17.CutsStates", spec := "cutsStates", unfollowed := true, recurses := true, plainKeys := false, apart := false, narrowed := true }
def CutsStatesUptoSaid : Prop := cutsStatesUptoRow.holds Tryz.pinned (OpenSpec.upto cutsStatesSpec)

/-- 'truglaw17.CutsDiffs', WHERE WHAT IT READS IS OF BULK AT MOST 1048576: true; the input reads as it did. -/
def cutsDiffsUptoRow : OpenClaim := { program := "ytbjbjboehjdcaaagreat", sum := "6eb51f7e93d6bff1e4a292e54650947a80df7b706c39982dac49e8209224cfdb", func := "trug/truglaw17.CutsDiffs", spec := "cutsDiffs", unfollowed := true, recurses := true, plainKeys := false, apart := false, narrowed := true }
def CutsDiffsUptoSaid : Prop := cutsDiffsUptoRow.holds Tryz.pinned (OpenSpec.upto cutsDiffsSpec)

/-- 'truglaw17.CutsAbandoned', WHERE WHAT IT READS IS OF BULK AT MOST 1048576: true; the input reads as it did. -/
def cutsAbandonedUptoRow : OpenClaim := { program := "ytbjbjboehjdcaaagreat", sum := "6eb51f7e93d6bff1e4a292e54650947a80df7b706c39982dac49e8209224cfdb", func := "trug/truglaw17.CutsAbandoned", spec := "cutsAbandoned", unfollowed := true, recurses := true, plainKeys := false, apart := false, narrowed := true }
def CutsAbandonedUptoSaid : Prop := cutsAbandonedUptoRow.holds Tryz.pinned (OpenSpec.upto cutsAbandonedSpec)

/-- 'truglaw17.CutsBetween', WHERE WHAT IT READS IS OF BULK AT MOST 1048576: true; the input reads as it did. -/
def cutsBetweenUptoRow : OpenClaim := { program := "ytbjbjboehjdcaaagreat", sum := "6eb51f7e93d6bff1e4a292e54650947a80df7b706c39982dac49e8209224cfdb", func := "trug/truglaw17.CutsBetween", spec := "cutsBetween", inPlace := ["slices.overlaps[trug/cart.Entry]", "slices.overlaps[trug/cart.Last]"], unfollowed := true, recurses := true, plainKeys := false, apart := false, narrowed := true }
def CutsBetweenUptoSaid : Prop := cutsBetweenUptoRow.holds Tryz.pinned (OpenSpec.upto cutsBetweenSpec)

/-- 'truglaw17.CutsBase', WHERE WHAT IT READS IS OF BULK AT MOST 1048576: true; the input reads as it did. -/
def cutsBaseUptoRow : OpenClaim := { program := "ytbjbjboehjdcaaagreat", sum := "6eb51f7e93d6bff1e4a292e54650947a80df7b706c39982dac49e8209224cfdb", func := "trug/truglaw17.CutsBase", spec := "cutsBase", inPlace := ["slices.overlaps[trug/cart.Entry]", "slices.overlaps[trug/cart.Last]"], unfollowed := true, recurses := true, plainKeys := false, apart := false, narrowed := true }
def CutsBaseUptoSaid : Prop := cutsBaseUptoRow.holds Tryz.pinned (OpenSpec.upto cutsBaseSpec)

/-- 'truglaw17.CutsIdle', WHERE WHAT IT READS IS OF BULK AT MOST 1048576: true; the input reads as it did. -/
def cutsIdleUptoRow : OpenClaim := { program := "ytbjbjboehjdcaaagreat", sum := "6eb51f7e93d6bff1e4a292e54650947a80df7b706c39982dac49e8209224cfdb", func := "trug/truglaw17.CutsIdle", spec := "cutsIdle", inPlace := ["slices.overlaps[trug/cart.Entry]", "slices.overlaps[trug/cart.Last]"], unfollowed := true, recurses := true, plainKeys := false, apart := false, narrowed := true }
def CutsIdleUptoSaid : Prop := cutsIdleUptoRow.holds Tryz.pinned (OpenSpec.upto cutsIdleSpec)

/-- 'truglaw17.CutsFold', WHERE WHAT IT READS IS OF BULK AT MOST 1048576: true; the input reads as it did. -/
def cutsFoldUptoRow : OpenClaim := { program := "ytbjbjboehjdcaaagreat", sum := "6eb51f7e93d6bff1e4a292e54650947a80df7b706c39982dac49e8209224cfdb", func := "trug/truglaw17.CutsFold", spec := "cutsFold", inPlace := ["slices.overlaps[trug/cart.Entry]", "slices.overlaps[trug/cart.Last]"], unfollowed := true, recurses := true, plainKeys := false, apart := false, narrowed := true }
def CutsFoldUptoSaid : Prop := cutsFoldUptoRow.holds Tryz.pinned (OpenSpec.upto cutsFoldSpec)

end Rows
end Go.Proofs.YtbjbjboehjdcaaaGreat
