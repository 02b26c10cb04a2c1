/-
  DERIVED. GIVEN WITH THE SEED: THE CARDS: each row of YthejeobcehpdcaaGreatDoorRows.lean that lists a variable, with what it lists TIED to the program's text (the seventh form; the later family's looks); each row that meets fmt, with fmt's text TOLD by the authors' own Lean function (tested against real Go, not proved from fmt's source: count such statements apart). THE CARD IS WHAT COUNTS. Prove the row's statement (the work); the ties are given (YthejeobcehpdcaaGreatDoorTie.lean); close each card by the builder's one call (the guide's Derived/Test/ToyasCard.lean, 'card_holds'). Laid BY PROGRAM, IN A SANDBOX (cutbox-door.mjs). By AI agents, Wed Nov 11 2026. No macro, syntax, notation, axiom, sorry.
-/
import Derived.Test.YthejeobcehpdcaaGreatDoorRows
import GoSem.ClaimSeven
namespace Go.Proofs.YthejeobcehpdcaaGreatDoor
namespace Rows

/-- THE TIED CARD OF 'truglaw23.ScriptDecodes'. -/
def scriptDecodesCard : Claim7 := { stood := { row := scriptDecodesRow, standIns := [], harness := (true, "a7dd3476cc9ad2b556f89985620974abd1e8d55b6b52a0afdcdc2a3f98ac6163"), looks := true }, kinds := [], alts := [], laidByText := true, laidKinds := [.data, .data, .data, .data], laidTests := true, laidLooks := .later }
def ScriptDecodesCardSaid : Prop := Claim7.holds Tryz.pinned (.plain (OpenSpec.ofChange scriptDecodesSpec)) scriptDecodesCard

/-- THE TIED CARD OF 'truglaw23.ScriptShort'. -/
def scriptShortCard : Claim7 := { stood := { row := scriptShortRow, standIns := [], harness := (true, "a7dd3476cc9ad2b556f89985620974abd1e8d55b6b52a0afdcdc2a3f98ac6163"), looks := true }, kinds := [], alts := [], laidByText := true, laidKinds := [.data, .data, .data, .data], laidTests := true, laidLooks := .later }
def ScriptShortCardSaid : Prop := Claim7.holds Tryz.pinned (.plain (OpenSpec.ofChange scriptShortSpec)) scriptShortCard

/-- THE TIED CARD OF 'truglaw23.ScriptNobody'. -/
def scriptNobodyCard : Claim7 := { stood := { row := scriptNobodyRow, standIns := [], harness := (true, "a7dd3476cc9ad2b556f89985620974abd1e8d55b6b52a0afdcdc2a3f98ac6163"), looks := true }, kinds := [], alts := [], laidByText := true, laidKinds := [.data, .data, .data, .data], laidTests := true, laidLooks := .later }
def ScriptNobodyCardSaid : Prop := Claim7.holds Tryz.pinned (.plain (OpenSpec.ofChange scriptNobodySpec)) scriptNobodyCard

/-- THE TIED CARD OF 'truglaw23.ScriptJoins'. -/
def scriptJoinsCard : Claim7 := { stood := { row := scriptJoinsRow, standIns := [], harness := (true, "a7dd3476cc9ad2b556f89985620974abd1e8d55b6b52a0afdcdc2a3f98ac6163"), looks := true }, kinds := [], alts := [], laidByText := true, laidKinds := [.data, .data, .data, .data], laidTests := true, laidLooks := .later }
def ScriptJoinsCardSaid : Prop := Claim7.holds Tryz.pinned (.plain (OpenSpec.ofChange scriptJoinsSpec)) scriptJoinsCard

/-- THE SECOND FORM's CARD OF 'truglaw23.ScriptDecodes'. -/
def scriptDecodesUptoCard : Claim7 := { stood := { row := scriptDecodesUptoRow, standIns := [], harness := (true, "a7dd3476cc9ad2b556f89985620974abd1e8d55b6b52a0afdcdc2a3f98ac6163"), looks := true }, kinds := [], alts := [], laidByText := true, laidKinds := [.data, .data, .data, .data], laidTests := true, laidLooks := .later }
def ScriptDecodesUptoCardSaid : Prop := Claim7.holds Tryz.pinned (.plain (OpenSpec.upto scriptDecodesSpec)) scriptDecodesUptoCard

/-- THE SECOND FORM's CARD OF 'truglaw23.ScriptShort'. -/
def scriptShortUptoCard : Claim7 := { stood := { row := scriptShortUptoRow, standIns := [], harness := (true, "a7dd3476cc9ad2b556f89985620974abd1e8d55b6b52a0afdcdc2a3f98ac6163"), looks := true }, kinds := [], alts := [], laidByText := true, laidKinds := [.data, .data, .data, .data], laidTests := true, laidLooks := .later }
def ScriptShortUptoCardSaid : Prop := Claim7.holds Tryz.pinned (.plain (OpenSpec.upto scriptShortSpec)) scriptShortUptoCard

/-- THE SECOND FORM's CARD OF 'truglaw23.ScriptNobody'. -/
def scriptNobodyUptoCard : Claim7 := { stood := { row := scriptNobodyUptoRow, standIns := [], harness := (true, "a7dd3476cc9ad2b556f89985620974abd1e8d55b6b52a0afdcdc2a3f98ac6163"), looks := true }, kinds := [], alts := [], laidByText := true, laidKinds := [.data, .data, .data, .data], laidTests := true, laidLooks := .later }
def ScriptNobodyUptoCardSaid : Prop := Claim7.holds Tryz.pinned (.plain (OpenSpec.upto scriptNobodySpec)) scriptNobodyUptoCard

/-- THE SECOND FORM's CARD OF 'truglaw23.ScriptJoins'. -/
def scriptJoinsUptoCard : Claim7 := { stood := { row := scriptJoinsUptoRow, standIns := [], harness := (true, "a7dd3476cc9ad2b556f89985620974abd1e8d55b6b52a0afdcdc2a3f98ac6163"), looks := true }, kinds := [], alts := [], laidByText := true, laidKinds := [.data, .data, .data, .data], laidTests := true, laidLooks := .later }
def ScriptJoinsUptoCardSaid : Prop := Claim7.holds Tryz.pinned (.plain (OpenSpec.upto scriptJoinsSpec)) scriptJoinsUptoCard
end Rows
end Go.Proofs.YthejeobcehpdcaaGreatDoor
