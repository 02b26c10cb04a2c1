/-
  No cell of these rows narrows 'for every input' (looked for: loops, veiled, ifaces, maps, wideKeys, modest, calm, conditions, laid).
  DERIVED. THE GIVEN ROWS OF THIS SEAT. 12 by the template 'for every input the law returns true; each argument reads behind the call as it read before'; 0 by the template 'total and deterministic' (their statements: YtnanhhiofnohbaaTotals.lean).
  GIVEN WITH THE SEED: the statements are not yours to turn. If you find one false, say at which input.
  Laid BY PROGRAM, IN A SANDBOX (cutbox-rows.mjs): the forced cells as the released guide's own fill.sh prints them over the translation 30fe7cd1299418b1… (all of the seat's roots in one cut). By AI agents, Wed Nov 11 2026. No macro, syntax, notation, axiom, sorry.
-/
import Derived.Test.YtnanhhiofnohbaaChecked
import GoSem.Claim
import GoSem.ClaimJoined
import GoSem.ClaimMapViews
import Derived.JoinedTies
import Derived.KernelRfl
namespace Go.Proofs.Ytnanhhiofnohbaa
/- THE CELL 'sum', in the pinned program and in every row, IS THE sha256 OF THE DUMP (.gsa) THAT YtnanhhiofnohbaaProg.lean LOADS. Nothing in Lean hashes anything: it is a label: what it is worth is what the hold of that sum in a sandbox is worth. -/
noncomputable def Try.pinned : Pinned := { name := "ytnanhhiofnohbaa", sum := "30fe7cd1299418b19d5f8871a81e0fd64b954a107fba4b572381ec2bf9be83a0", checked := Try.checked }
namespace Rows
def none {H : Type} : Left H := { results := [], args := [] }

/-- 'truglaw05.DotsActs': WHATEVER THE INPUT: true; the input reads as it did. -/
def dotsActsSpec : ChangeSpec := { name := "dotsActs", fn := fun _ => fun
  | [d1, d2] => { results := [.lit (.bool true)], args := [d1, d2] }
  | _ => none }
def dotsActsRow : OpenClaim := { program := "ytnanhhiofnohbaa", sum := "30fe7cd1299418b19d5f8871a81e0fd64b954a107fba4b572381ec2bf9be83a0", func := "trug/truglaw05.DotsActs", spec := "dotsActs", unfollowed := true, recurses := true, plainKeys := false, apart := false }
def DotsActsSaid : Prop := dotsActsRow.holds Try.pinned (OpenSpec.ofChange dotsActsSpec)

/-- ITS FALSE NEIGHBOUR: 'it returns false'. Refute it at one input. -/
def dotsActsWrong : ChangeSpec := { name := "dotsActs", fn := fun _ => fun
  | [d1, d2] => { results := [.lit (.bool false)], args := [d1, d2] }
  | _ => none }
def DotsActsWrongFalsely : Prop := dotsActsRow.holds Try.pinned (OpenSpec.ofChange dotsActsWrong)

/-- 'truglaw05.DotsAny': WHATEVER THE INPUT: true; the input reads as it did. -/
def dotsAnySpec : ChangeSpec := { name := "dotsAny", fn := fun _ => fun
  | [d1, d2, d3] => { results := [.lit (.bool true)], args := [d1, d2, d3] }
  | _ => none }
def dotsAnyRow : OpenClaim := { program := "ytnanhhiofnohbaa", sum := "30fe7cd1299418b19d5f8871a81e0fd64b954a107fba4b572381ec2bf9be83a0", func := "trug/truglaw05.DotsAny", spec := "dotsAny", unfollowed := true, recurses := true, plainKeys := false, apart := false }
def DotsAnySaid : Prop := dotsAnyRow.holds Try.pinned (OpenSpec.ofChange dotsAnySpec)

/-- ITS FALSE NEIGHBOUR: 'it returns false'. Refute it at one input. -/
def dotsAnyWrong : ChangeSpec := { name := "dotsAny", fn := fun _ => fun
  | [d1, d2, d3] => { results := [.lit (.bool false)], args := [d1, d2, d3] }
  | _ => none }
def DotsAnyWrongFalsely : Prop := dotsAnyRow.holds Try.pinned (OpenSpec.ofChange dotsAnyWrong)

/-- 'truglaw05.DotsParts': WHATEVER THE INPUT: true; the input reads as it did. -/
def dotsPartsSpec : ChangeSpec := { name := "dotsParts", fn := fun _ => fun
  | [d1, d2, d3] => { results := [.lit (.bool true)], args := [d1, d2, d3] }
  | _ => none }
def dotsPartsRow : OpenClaim := { program := "ytnanhhiofnohbaa", sum := "30fe7cd1299418b19d5f8871a81e0fd64b954a107fba4b572381ec2bf9be83a0", func := "trug/truglaw05.DotsParts", spec := "dotsParts", unfollowed := true, recurses := true, plainKeys := false, apart := false }
def DotsPartsSaid : Prop := dotsPartsRow.holds Try.pinned (OpenSpec.ofChange dotsPartsSpec)

/-- ITS FALSE NEIGHBOUR: 'it returns false'. Refute it at one input. -/
def dotsPartsWrong : ChangeSpec := { name := "dotsParts", fn := fun _ => fun
  | [d1, d2, d3] => { results := [.lit (.bool false)], args := [d1, d2, d3] }
  | _ => none }
def DotsPartsWrongFalsely : Prop := dotsPartsRow.holds Try.pinned (OpenSpec.ofChange dotsPartsWrong)

/-- 'truglaw05.DotsNobody': WHATEVER THE INPUT: true; the input reads as it did. -/
def dotsNobodySpec : ChangeSpec := { name := "dotsNobody", fn := fun _ => fun
  | [d] => { results := [.lit (.bool true)], args := [d] }
  | _ => none }
def dotsNobodyRow : OpenClaim := { program := "ytnanhhiofnohbaa", sum := "30fe7cd1299418b19d5f8871a81e0fd64b954a107fba4b572381ec2bf9be83a0", func := "trug/truglaw05.DotsNobody", spec := "dotsNobody", unfollowed := true, recurses := true, plainKeys := false, apart := false }
def DotsNobodySaid : Prop := dotsNobodyRow.holds Try.pinned (OpenSpec.ofChange dotsNobodySpec)

/-- ITS FALSE NEIGHBOUR: 'it returns false'. Refute it at one input. -/
def dotsNobodyWrong : ChangeSpec := { name := "dotsNobody", fn := fun _ => fun
  | [d] => { results := [.lit (.bool false)], args := [d] }
  | _ => none }
def DotsNobodyWrongFalsely : Prop := dotsNobodyRow.holds Try.pinned (OpenSpec.ofChange dotsNobodyWrong)

/-- 'truglaw05.DotsGrow': WHATEVER THE INPUT: true; the input reads as it did. -/
def dotsGrowSpec : ChangeSpec := { name := "dotsGrow", fn := fun _ => fun
  | [d1, d2] => { results := [.lit (.bool true)], args := [d1, d2] }
  | _ => none }
def dotsGrowRow : OpenClaim := { program := "ytnanhhiofnohbaa", sum := "30fe7cd1299418b19d5f8871a81e0fd64b954a107fba4b572381ec2bf9be83a0", func := "trug/truglaw05.DotsGrow", spec := "dotsGrow", unfollowed := true, recurses := true, plainKeys := false, apart := false }
def DotsGrowSaid : Prop := dotsGrowRow.holds Try.pinned (OpenSpec.ofChange dotsGrowSpec)

/-- ITS FALSE NEIGHBOUR: 'it returns false'. Refute it at one input. -/
def dotsGrowWrong : ChangeSpec := { name := "dotsGrow", fn := fun _ => fun
  | [d1, d2] => { results := [.lit (.bool false)], args := [d1, d2] }
  | _ => none }
def DotsGrowWrongFalsely : Prop := dotsGrowRow.holds Try.pinned (OpenSpec.ofChange dotsGrowWrong)

/-- 'truglaw05.DotsBegin': WHATEVER THE INPUT: true; the input reads as it did. -/
def dotsBeginSpec : ChangeSpec := { name := "dotsBegin", fn := fun _ => fun
  | [d1, d2] => { results := [.lit (.bool true)], args := [d1, d2] }
  | _ => none }
def dotsBeginRow : OpenClaim := { program := "ytnanhhiofnohbaa", sum := "30fe7cd1299418b19d5f8871a81e0fd64b954a107fba4b572381ec2bf9be83a0", func := "trug/truglaw05.DotsBegin", spec := "dotsBegin", unfollowed := true, recurses := true, plainKeys := false, apart := false }
def DotsBeginSaid : Prop := dotsBeginRow.holds Try.pinned (OpenSpec.ofChange dotsBeginSpec)

/-- ITS FALSE NEIGHBOUR: 'it returns false'. Refute it at one input. -/
def dotsBeginWrong : ChangeSpec := { name := "dotsBegin", fn := fun _ => fun
  | [d1, d2] => { results := [.lit (.bool false)], args := [d1, d2] }
  | _ => none }
def DotsBeginWrongFalsely : Prop := dotsBeginRow.holds Try.pinned (OpenSpec.ofChange dotsBeginWrong)

/-- 'truglaw07.FoldOthers': WHATEVER THE INPUT: true; the input reads as it did. -/
def foldOthersSpec : ChangeSpec := { name := "foldOthers", fn := fun _ => fun
  | [d1, d2] => { results := [.lit (.bool true)], args := [d1, d2] }
  | _ => none }
def foldOthersRow : OpenClaim := { program := "ytnanhhiofnohbaa", sum := "30fe7cd1299418b19d5f8871a81e0fd64b954a107fba4b572381ec2bf9be83a0", func := "trug/truglaw07.FoldOthers", spec := "foldOthers", unfollowed := true, recurses := true, plainKeys := false, apart := false }
def FoldOthersSaid : Prop := foldOthersRow.holds Try.pinned (OpenSpec.ofChange foldOthersSpec)

/-- ITS FALSE NEIGHBOUR: 'it returns false'. Refute it at one input. -/
def foldOthersWrong : ChangeSpec := { name := "foldOthers", fn := fun _ => fun
  | [d1, d2] => { results := [.lit (.bool false)], args := [d1, d2] }
  | _ => none }
def FoldOthersWrongFalsely : Prop := foldOthersRow.holds Try.pinned (OpenSpec.ofChange foldOthersWrong)

/-- 'truglaw07.FoldAdds': WHATEVER THE INPUT: true; the input reads as it did. -/
def foldAddsSpec : ChangeSpec := { name := "foldAdds", fn := fun _ => fun
  | [d1, d2] => { results := [.lit (.bool true)], args := [d1, d2] }
  | _ => none }
def foldAddsRow : OpenClaim := { program := "ytnanhhiofnohbaa", sum := "30fe7cd1299418b19d5f8871a81e0fd64b954a107fba4b572381ec2bf9be83a0", func := "trug/truglaw07.FoldAdds", spec := "foldAdds", unfollowed := true, recurses := true, plainKeys := false, apart := false }
def FoldAddsSaid : Prop := foldAddsRow.holds Try.pinned (OpenSpec.ofChange foldAddsSpec)

/-- ITS FALSE NEIGHBOUR: 'it returns false'. Refute it at one input. -/
def foldAddsWrong : ChangeSpec := { name := "foldAdds", fn := fun _ => fun
  | [d1, d2] => { results := [.lit (.bool false)], args := [d1, d2] }
  | _ => none }
def FoldAddsWrongFalsely : Prop := foldAddsRow.holds Try.pinned (OpenSpec.ofChange foldAddsWrong)

/-- 'truglaw07.FoldTicks': WHATEVER THE INPUT: true; the input reads as it did. -/
def foldTicksSpec : ChangeSpec := { name := "foldTicks", fn := fun _ => fun
  | [d1, d2] => { results := [.lit (.bool true)], args := [d1, d2] }
  | _ => none }
def foldTicksRow : OpenClaim := { program := "ytnanhhiofnohbaa", sum := "30fe7cd1299418b19d5f8871a81e0fd64b954a107fba4b572381ec2bf9be83a0", func := "trug/truglaw07.FoldTicks", spec := "foldTicks", unfollowed := true, recurses := true, plainKeys := false, apart := false }
def FoldTicksSaid : Prop := foldTicksRow.holds Try.pinned (OpenSpec.ofChange foldTicksSpec)

/-- ITS FALSE NEIGHBOUR: 'it returns false'. Refute it at one input. -/
def foldTicksWrong : ChangeSpec := { name := "foldTicks", fn := fun _ => fun
  | [d1, d2] => { results := [.lit (.bool false)], args := [d1, d2] }
  | _ => none }
def FoldTicksWrongFalsely : Prop := foldTicksRow.holds Try.pinned (OpenSpec.ofChange foldTicksWrong)

/-- 'truglaw07.FoldAny': WHATEVER THE INPUT: true; the input reads as it did. -/
def foldAnySpec : ChangeSpec := { name := "foldAny", fn := fun _ => fun
  | [d1, d2, d3] => { results := [.lit (.bool true)], args := [d1, d2, d3] }
  | _ => none }
def foldAnyRow : OpenClaim := { program := "ytnanhhiofnohbaa", sum := "30fe7cd1299418b19d5f8871a81e0fd64b954a107fba4b572381ec2bf9be83a0", func := "trug/truglaw07.FoldAny", spec := "foldAny", unfollowed := true, recurses := true, plainKeys := false, apart := false }
def FoldAnySaid : Prop := foldAnyRow.holds Try.pinned (OpenSpec.ofChange foldAnySpec)

/-- ITS FALSE NEIGHBOUR: 'it returns false'. Refute it at one input. -/
def foldAnyWrong : ChangeSpec := { name := "foldAny", fn := fun _ => fun
  | [d1, d2, d3] => { results := [.lit (.bool false)], args := [d1, d2, d3] }
  | _ => none }
def FoldAnyWrongFalsely : Prop := foldAnyRow.holds Try.pinned (OpenSpec.ofChange foldAnyWrong)

/-- 'truglaw07.FoldClosed': WHATEVER THE INPUT: true; the input reads as it did. -/
def foldClosedSpec : ChangeSpec := { name := "foldClosed", fn := fun _ => fun
  | [d1, d2] => { results := [.lit (.bool true)], args := [d1, d2] }
  | _ => none }
def foldClosedRow : OpenClaim := { program := "ytnanhhiofnohbaa", sum := "30fe7cd1299418b19d5f8871a81e0fd64b954a107fba4b572381ec2bf9be83a0", func := "trug/truglaw07.FoldClosed", spec := "foldClosed", unfollowed := true, recurses := true, plainKeys := false, apart := false }
def FoldClosedSaid : Prop := foldClosedRow.holds Try.pinned (OpenSpec.ofChange foldClosedSpec)

/-- ITS FALSE NEIGHBOUR: 'it returns false'. Refute it at one input. -/
def foldClosedWrong : ChangeSpec := { name := "foldClosed", fn := fun _ => fun
  | [d1, d2] => { results := [.lit (.bool false)], args := [d1, d2] }
  | _ => none }
def FoldClosedWrongFalsely : Prop := foldClosedRow.holds Try.pinned (OpenSpec.ofChange foldClosedWrong)

/-- 'truglaw07.FoldParts': WHATEVER THE INPUT: true; the input reads as it did. -/
def foldPartsSpec : ChangeSpec := { name := "foldParts", fn := fun _ => fun
  | [d1, d2] => { results := [.lit (.bool true)], args := [d1, d2] }
  | _ => none }
def foldPartsRow : OpenClaim := { program := "ytnanhhiofnohbaa", sum := "30fe7cd1299418b19d5f8871a81e0fd64b954a107fba4b572381ec2bf9be83a0", func := "trug/truglaw07.FoldParts", spec := "foldParts", unfollowed := true, recurses := true, plainKeys := false, apart := false }
def FoldPartsSaid : Prop := foldPartsRow.holds Try.pinned (OpenSpec.ofChange foldPartsSpec)

/-- ITS FALSE NEIGHBOUR: 'it returns false'. Refute it at one input. -/
def foldPartsWrong : ChangeSpec := { name := "foldParts", fn := fun _ => fun
  | [d1, d2] => { results := [.lit (.bool false)], args := [d1, d2] }
  | _ => none }
def FoldPartsWrongFalsely : Prop := foldPartsRow.holds Try.pinned (OpenSpec.ofChange foldPartsWrong)

/- THE SECOND FORM. 'bulk': how many values and letters a reading holds, each counted each time it is reached (what is shared counts as often as it is met; a slice's spare places count too). A statement '..UptoSaid' is the law's where the arguments, and the package variables that the reading takes, are together of bulk at most 1048576: NARROWER than '..Said'. Prove '..Said' where nothing that the law and all that it calls make is longer than what came in: it says more and counts as full. Else prove '..UptoSaid'. A law counts once. -/
mutual
def uptoBulk {H : Type} : DataW H → Nat
  | .lit (.string bytes) => bytes.length + 1
  | .lit _ => 1
  | .nil => 1
  | .ptr d => uptoBulk d + 1
  | .slice elems spare => uptoBulkAll elems + uptoBulkAll spare + 1
  | .agg parts => uptoBulkAll parts + 1
  | .iface _ d => uptoBulk d + 1
  | .map entries => uptoBulkEntries entries + 1
  | .held _ => 1
def uptoBulkAll {H : Type} : List (DataW H) → Nat
  | [] => 0
  | d :: r => uptoBulk d + uptoBulkAll r
def uptoBulkEntries {H : Type} : List (Lit × DataW H) → Nat
  | [] => 0
  | x :: r => uptoBulkEntry x + uptoBulkEntries r
def uptoBulkEntry {H : Type} : Lit × DataW H → Nat
  | (.string bytes, d) => bytes.length + uptoBulk d + 1
  | (_, d) => uptoBulk d + 1
 end
def uptoSmall : (H : Type) → List (DataW H) → Bool := fun _ ds => decide (uptoBulkAll ds ≤ 1048576)
def OpenSpec.upto (s : _root_.Go.ChangeSpec) : _root_.Go.OpenSpec := { _root_.Go.OpenSpec.ofChange s with cond := some uptoSmall }

/-- 'truglaw05.DotsActs', WHERE WHAT IT READS IS OF BULK AT MOST 1048576: true; the input reads as it did. -/
def dotsActsUptoRow : OpenClaim := { program := "ytnanhhiofnohbaa", sum := "30fe7cd1299418b19d5f8871a81e0fd64b954a107fba4b572381ec2bf9be83a0", func := "trug/truglaw05.DotsActs", spec := "dotsActs", unfollowed := true, recurses := true, plainKeys := false, apart := false, narrowed := true }
def DotsActsUptoSaid : Prop := dotsActsUptoRow.holds Try.pinned (OpenSpec.upto dotsActsSpec)

/-- 'truglaw05.DotsAny', WHERE WHAT IT READS IS OF BULK AT MOST 1048576: true; the input reads as it did. -/
def dotsAnyUptoRow : OpenClaim := { program := "ytnanhhiofnohbaa", sum := "30fe7cd1299418b19d5f8871a81e0fd64b954a107fba4b572381ec2bf9be83a0", func := "trug/truglaw05.DotsAny", spec := "dotsAny", unfollowed := true, recurses := true, plainKeys := false, apart := false, narrowed := true }
def DotsAnyUptoSaid : Prop := dotsAnyUptoRow.holds Try.pinned (OpenSpec.upto dotsAnySpec)

/-- 'truglaw05.DotsParts', WHERE WHAT IT READS IS OF BULK AT MOST 1048576: true; the input reads as it did. -/
def dotsPartsUptoRow : OpenClaim := { program := "ytnanhhiofnohbaa", sum := "30fe7cd1299418b19d5f8871a81e0fd64b954a107fba4b572381ec2bf9be83a0", func := "trug/truglaw05.DotsParts", spec := "dotsParts", unfollowed := true, recurses := true, plainKeys := false, apart := false, narrowed := true }
def DotsPartsUptoSaid : Prop := dotsPartsUptoRow.holds Try.pinned (OpenSpec.upto dotsPartsSpec)

/-- 'truglaw05.DotsNobody', WHERE WHAT IT READS IS OF BULK AT MOST 1048576: true; the input reads as it did. -/
def dotsNobodyUptoRow : OpenClaim := { program := "ytnanhhiofnohbaa", sum := "30fe7cd1299418b19d5f8871a81e0fd64b954a107fba4b572381ec2bf9be83a0", func := "trug/truglaw05.DotsNobody", spec := "dotsNobody", unfollowed := true, recurses := true, plainKeys := false, apart := false, narrowed := true }
def DotsNobodyUptoSaid : Prop := dotsNobodyUptoRow.holds Try.pinned (OpenSpec.upto dotsNobodySpec)

/-- 'truglaw05.DotsGrow', WHERE WHAT IT READS IS OF BULK AT MOST 1048576: true; the input reads as it did. -/
def dotsGrowUptoRow : OpenClaim := { program := "ytnanhhiofnohbaa", sum := "30fe7cd1299418b19d5f8871a81e0fd64b954a107fba4b572381ec2bf9be83a0", func := "trug/truglaw05.DotsGrow", spec := "dotsGrow", unfollowed := true, recurses := true, plainKeys := false, apart := false, narrowed := true }
def DotsGrowUptoSaid : Prop := dotsGrowUptoRow.holds Try.pinned (OpenSpec.upto dotsGrowSpec)

/-- 'truglaw05.DotsBegin', WHERE WHAT IT READS IS OF BULK AT MOST 1048576: true; the input reads as it did. -/
def dotsBeginUptoRow : OpenClaim := { program := "ytnanhhiofnohbaa", sum := "30fe7cd1299418b19d5f8871a81e0fd64b954a107fba4b572381ec2bf9be83a0", func := "trug/truglaw05.DotsBegin", spec := "dotsBegin", unfollowed := true, recurses := true, plainKeys := false, apart := false, narrowed := true }
def DotsBeginUptoSaid : Prop := dotsBeginUptoRow.holds Try.pinned (OpenSpec.upto dotsBeginSpec)

/-- 'truglaw07.FoldOthers', WHERE WHAT IT READS IS OF BULK AT MOST 1048576: true; the input reads as it did. -/
def foldOthersUptoRow : OpenClaim := { program := "ytnanhhiofnohbaa", sum := "30fe7cd1299418b19d5f8871a81e0fd64b954a107fba4b572381ec2bf9be83a0", func := "trug/truglaw07.FoldOthers", spec := "foldOthers", unfollowed := true, recurses := true, plainKeys := false, apart := false, narrowed := true }
def FoldOthersUptoSaid : Prop := foldOthersUptoRow.holds Try.pinned (OpenSpec.upto foldOthersSpec)

/-- 'truglaw07.FoldAdds', WHERE WHAT IT READS IS OF BULK AT MOST 1048576: true; the input reads as it did. -/
def foldAddsUptoRow : OpenClaim := { program := "ytnanhhiofnohbaa", sum := "30fe7cd1299418b19d5f8871a81e0fd64b954a107fba4b572381ec2bf9be83a0", func := "trug/truglaw07.FoldAdds", spec := "foldAdds", unfollowed := true, recurses := true, plainKeys := false, apart := false, narrowed := true }
def FoldAddsUptoSaid : Prop := foldAddsUptoRow.holds Try.pinned (OpenSpec.upto foldAddsSpec)

/-- 'truglaw07.FoldTicks', WHERE WHAT IT READS IS OF BULK AT MOST 1048576: true; the input reads as it did. -/
def foldTicksUptoRow : OpenClaim := { program := "ytnanhhiofnohbaa", sum := "30fe7cd1299418b19d5f8871a81e0fd64b954a107fba4b572381ec2bf9be83a0", func := "trug/truglaw07.FoldTicks", spec := "foldTicks", unfollowed := true, recurses := true, plainKeys := false, apart := false, narrowed := true }
def FoldTicksUptoSaid : Prop := foldTicksUptoRow.holds Try.pinned (OpenSpec.upto foldTicksSpec)

/-- 'truglaw07.FoldAny', WHERE WHAT IT READS IS OF BULK AT MOST 1048576: true; the input reads as it did. -/
def foldAnyUptoRow : OpenClaim := { program := "ytnanhhiofnohbaa", sum := "30fe7cd1299418b19d5f8871a81e0fd64b954a107fba4b572381ec2bf9be83a0", func := "trug/truglaw07.FoldAny", spec := "foldAny", unfollowed := true, recurses := true, plainKeys := false, apart := false, narrowed := true }
def FoldAnyUptoSaid : Prop := foldAnyUptoRow.holds Try.pinned (OpenSpec.upto foldAnySpec)

/-- 'truglaw07.FoldClosed', WHERE WHAT IT READS IS OF BULK AT MOST 1048576: true; the input reads as it did. -/
def foldClosedUptoRow : OpenClaim := { program := "ytnanhhiofnohbaa", sum := "30fe7cd1299418b19d5f8871a81e0fd64b954a107fba4b572381ec2bf9be83a0", func := "trug/truglaw07.FoldClosed", spec := "foldClosed", unfollowed := true, recurses := true, plainKeys := false, apart := false, narrowed := true }
def FoldClosedUptoSaid : Prop := foldClosedUptoRow.holds Try.pinned (OpenSpec.upto foldClosedSpec)

/-- 'truglaw07.FoldParts', WHERE WHAT IT READS IS OF BULK AT MOST 1048576: true; the input reads as it did. -/
def foldPartsUptoRow : OpenClaim := { program := "ytnanhhiofnohbaa", sum := "30fe7cd1299418b19d5f8871a81e0fd64b954a107fba4b572381ec2bf9be83a0", func := "trug/truglaw07.FoldParts", spec := "foldParts", unfollowed := true, recurses := true, plainKeys := false, apart := false, narrowed := true }
def FoldPartsUptoSaid : Prop := foldPartsUptoRow.holds Try.pinned (OpenSpec.upto foldPartsSpec)

end Rows
end Go.Proofs.Ytnanhhiofnohbaa
