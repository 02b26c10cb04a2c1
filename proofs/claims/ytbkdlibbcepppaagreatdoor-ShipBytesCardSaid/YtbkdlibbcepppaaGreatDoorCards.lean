/-
  DERIVED. GIVEN WITH THE SEED: THE CARDS: each row of YtbkdlibbcepppaaGreatDoorRows.lean that lists a variable, with what it lists TIED to the program's text (the seventh form; the later family's looks); each row that meets fmt, with fmt's text TOLD by the authors' own Lean function (tested against real Go, not proved from fmt's source: count such statements apart). THE CARD IS WHAT COUNTS. Prove the row's statement (the work); the ties are given (YtbkdlibbcepppaaGreatDoorTie.lean); close each card by the builder's one call (the guide's Derived/Test/ToyasCard.lean, 'card_holds'). Laid BY PROGRAM, IN A SANDBOX (cutbox-door.mjs). By AI agents, Wed Nov 11 2026. No macro, syntax, notation, axiom, sorry.
-/
import Derived.Test.YtbkdlibbcepppaaGreatDoorRows
import GoSem.ClaimSeven
namespace Go.Proofs.YtbkdlibbcepppaaGreatDoor
namespace Rows

/-- THE TIED CARD OF 'trugtop.WholeGone'. -/
def wholeGoneCard : Claim7 := { stood := { row := wholeGoneRow, standIns := [], harness := (true, "d6bdb7d35544cf25454e2603c04e01289706e178d8832005985fc6ed600fbad3"), looks := true }, kinds := [], alts := [], laidByText := true, laidKinds := [.data, .data, .data, .data], laidTests := true, laidLooks := .later }
def WholeGoneCardSaid : Prop := Claim7.holds Tryz.pinned (.plain (OpenSpec.ofChange wholeGoneSpec)) wholeGoneCard

/-- THE TIED CARD OF 'truglaw18.ArchiveNobody'. -/
def archiveNobodyCard : Claim7 := { stood := { row := archiveNobodyRow, standIns := [], harness := (true, "d6bdb7d35544cf25454e2603c04e01289706e178d8832005985fc6ed600fbad3"), looks := true }, kinds := [], alts := [], laidByText := true, laidKinds := [.data, .data, .data, .data], laidTests := true, laidLooks := .later }
def ArchiveNobodyCardSaid : Prop := Claim7.holds Tryz.pinned (.plain (OpenSpec.ofChange archiveNobodySpec)) archiveNobodyCard

/-- THE TIED CARD OF 'truglaw20.ShipBytes'. -/
def shipBytesCard : Claim7 := { stood := { row := shipBytesRow, standIns := [], harness := (true, "d6bdb7d35544cf25454e2603c04e01289706e178d8832005985fc6ed600fbad3"), looks := true }, kinds := [], alts := [], laidByText := true, laidKinds := [.data, .data, .data, .data], laidTests := true, laidLooks := .later }
def ShipBytesCardSaid : Prop := Claim7.holds Tryz.pinned (.plain (OpenSpec.ofChange shipBytesSpec)) shipBytesCard

/-- THE TIED CARD OF 'truglaw20.ShipBack'. -/
def shipBackCard : Claim7 := { stood := { row := shipBackRow, standIns := [], harness := (true, "d6bdb7d35544cf25454e2603c04e01289706e178d8832005985fc6ed600fbad3"), looks := true }, kinds := [], alts := [], laidByText := true, laidKinds := [.data, .data, .data, .data], laidTests := true, laidLooks := .later }
def ShipBackCardSaid : Prop := Claim7.holds Tryz.pinned (.plain (OpenSpec.ofChange shipBackSpec)) shipBackCard

/-- THE TIED CARD OF 'truglaw20.ShipNobody'. -/
def shipNobodyCard : Claim7 := { stood := { row := shipNobodyRow, standIns := [], harness := (true, "d6bdb7d35544cf25454e2603c04e01289706e178d8832005985fc6ed600fbad3"), looks := true }, kinds := [], alts := [], laidByText := true, laidKinds := [.data, .data, .data, .data], laidTests := true, laidLooks := .later }
def ShipNobodyCardSaid : Prop := Claim7.holds Tryz.pinned (.plain (OpenSpec.ofChange shipNobodySpec)) shipNobodyCard

/-- THE SECOND FORM's CARD OF 'trugtop.WholeGone'. -/
def wholeGoneUptoCard : Claim7 := { stood := { row := wholeGoneUptoRow, standIns := [], harness := (true, "d6bdb7d35544cf25454e2603c04e01289706e178d8832005985fc6ed600fbad3"), looks := true }, kinds := [], alts := [], laidByText := true, laidKinds := [.data, .data, .data, .data], laidTests := true, laidLooks := .later }
def WholeGoneUptoCardSaid : Prop := Claim7.holds Tryz.pinned (.plain (OpenSpec.upto wholeGoneSpec)) wholeGoneUptoCard

/-- THE SECOND FORM's CARD OF 'truglaw18.ArchiveNobody'. -/
def archiveNobodyUptoCard : Claim7 := { stood := { row := archiveNobodyUptoRow, standIns := [], harness := (true, "d6bdb7d35544cf25454e2603c04e01289706e178d8832005985fc6ed600fbad3"), looks := true }, kinds := [], alts := [], laidByText := true, laidKinds := [.data, .data, .data, .data], laidTests := true, laidLooks := .later }
def ArchiveNobodyUptoCardSaid : Prop := Claim7.holds Tryz.pinned (.plain (OpenSpec.upto archiveNobodySpec)) archiveNobodyUptoCard

/-- THE SECOND FORM's CARD OF 'truglaw20.ShipBytes'. -/
def shipBytesUptoCard : Claim7 := { stood := { row := shipBytesUptoRow, standIns := [], harness := (true, "d6bdb7d35544cf25454e2603c04e01289706e178d8832005985fc6ed600fbad3"), looks := true }, kinds := [], alts := [], laidByText := true, laidKinds := [.data, .data, .data, .data], laidTests := true, laidLooks := .later }
def ShipBytesUptoCardSaid : Prop := Claim7.holds Tryz.pinned (.plain (OpenSpec.upto shipBytesSpec)) shipBytesUptoCard

/-- THE SECOND FORM's CARD OF 'truglaw20.ShipBack'. -/
def shipBackUptoCard : Claim7 := { stood := { row := shipBackUptoRow, standIns := [], harness := (true, "d6bdb7d35544cf25454e2603c04e01289706e178d8832005985fc6ed600fbad3"), looks := true }, kinds := [], alts := [], laidByText := true, laidKinds := [.data, .data, .data, .data], laidTests := true, laidLooks := .later }
def ShipBackUptoCardSaid : Prop := Claim7.holds Tryz.pinned (.plain (OpenSpec.upto shipBackSpec)) shipBackUptoCard

/-- THE SECOND FORM's CARD OF 'truglaw20.ShipNobody'. -/
def shipNobodyUptoCard : Claim7 := { stood := { row := shipNobodyUptoRow, standIns := [], harness := (true, "d6bdb7d35544cf25454e2603c04e01289706e178d8832005985fc6ed600fbad3"), looks := true }, kinds := [], alts := [], laidByText := true, laidKinds := [.data, .data, .data, .data], laidTests := true, laidLooks := .later }
def ShipNobodyUptoCardSaid : Prop := Claim7.holds Tryz.pinned (.plain (OpenSpec.upto shipNobodySpec)) shipNobodyUptoCard
end Rows
end Go.Proofs.YtbkdlibbcepppaaGreatDoor
