/-
  DERIVED. GIVEN WITH THE SEED: THE CARDS: each row of YtgnmkiafeplbpaaGreatDoorRows.lean that lists a variable, with what it lists TIED to the program's text (the seventh form; the later family's looks); each row that meets fmt, with fmt's text TOLD by the authors' own Lean function (tested against real Go, not proved from fmt's source: count such statements apart). THE CARD IS WHAT COUNTS. Prove the row's statement (the work); the ties are given (YtgnmkiafeplbpaaGreatDoorTie.lean); close each card by the builder's one call (the guide's Derived/Test/ToyasCard.lean, 'card_holds'). Laid BY PROGRAM, IN A SANDBOX (cutbox-door.mjs). By AI agents, Wed Nov 11 2026. No macro, syntax, notation, axiom, sorry.
-/
import Derived.Test.YtgnmkiafeplbpaaGreatDoorRows
import GoSem.ClaimSeven
namespace Go.Proofs.YtgnmkiafeplbpaaGreatDoor
namespace Rows

/-- THE TIED CARD OF 'offshootlaw23.ArchiveEncodes'. -/
def archiveEncodesCard : Claim7 := { stood := { row := archiveEncodesRow, standIns := [], harness := (true, "fb82091939f4d5ce7506718236bf42822d6d69f53804b4ef5ee49834eda5df4d"), looks := true }, kinds := [], alts := [], laidByText := true, laidKinds := [.handle], laidTests := true, laidLooks := .later }
def ArchiveEncodesCardSaid : Prop := Claim7.holds Tryz.pinned (.plain (OpenSpec.ofChange archiveEncodesSpec)) archiveEncodesCard

/-- THE TIED CARD OF 'offshootlaw23.ArchiveDecodes'. -/
def archiveDecodesCard : Claim7 := { stood := { row := archiveDecodesRow, standIns := [], harness := (true, "fb82091939f4d5ce7506718236bf42822d6d69f53804b4ef5ee49834eda5df4d"), looks := true }, kinds := [], alts := [], laidByText := true, laidKinds := [.handle], laidTests := true, laidLooks := .later }
def ArchiveDecodesCardSaid : Prop := Claim7.holds Tryz.pinned (.plain (OpenSpec.ofChange archiveDecodesSpec)) archiveDecodesCard

/-- THE TIED CARD OF 'offshootlaw23.ArchiveBack'. -/
def archiveBackCard : Claim7 := { stood := { row := archiveBackRow, standIns := [], harness := (true, "fb82091939f4d5ce7506718236bf42822d6d69f53804b4ef5ee49834eda5df4d"), looks := true }, kinds := [], alts := [], laidByText := true, laidKinds := [.handle], laidTests := true, laidLooks := .later }
def ArchiveBackCardSaid : Prop := Claim7.holds Tryz.pinned (.plain (OpenSpec.ofChange archiveBackSpec)) archiveBackCard

/-- THE TIED CARD OF 'offshootlaw23.ArchiveOnly'. -/
def archiveOnlyCard : Claim7 := { stood := { row := archiveOnlyRow, standIns := [], harness := (true, "fb82091939f4d5ce7506718236bf42822d6d69f53804b4ef5ee49834eda5df4d"), looks := true }, kinds := [], alts := [], laidByText := true, laidKinds := [.handle], laidTests := true, laidLooks := .later }
def ArchiveOnlyCardSaid : Prop := Claim7.holds Tryz.pinned (.plain (OpenSpec.ofChange archiveOnlySpec)) archiveOnlyCard

/-- THE TIED CARD OF 'offshootlaw23.ArchiveBursts'. -/
def archiveBurstsCard : Claim7 := { stood := { row := archiveBurstsRow, standIns := [], harness := (true, "fb82091939f4d5ce7506718236bf42822d6d69f53804b4ef5ee49834eda5df4d"), looks := true }, kinds := [], alts := [], laidByText := true, laidKinds := [.handle], laidTests := true, laidLooks := .later }
def ArchiveBurstsCardSaid : Prop := Claim7.holds Tryz.pinned (.plain (OpenSpec.ofChange archiveBurstsSpec)) archiveBurstsCard

/-- THE TIED CARD OF 'offshootlaw23.ArchiveApart'. -/
def archiveApartCard : Claim7 := { stood := { row := archiveApartRow, standIns := [], harness := (true, "fb82091939f4d5ce7506718236bf42822d6d69f53804b4ef5ee49834eda5df4d"), looks := true }, kinds := [], alts := [], laidByText := true, laidKinds := [.handle], laidTests := true, laidLooks := .later }
def ArchiveApartCardSaid : Prop := Claim7.holds Tryz.pinned (.plain (OpenSpec.ofChange archiveApartSpec)) archiveApartCard

/-- THE SECOND FORM's CARD OF 'offshootlaw23.ArchiveEncodes'. -/
def archiveEncodesUptoCard : Claim7 := { stood := { row := archiveEncodesUptoRow, standIns := [], harness := (true, "fb82091939f4d5ce7506718236bf42822d6d69f53804b4ef5ee49834eda5df4d"), looks := true }, kinds := [], alts := [], laidByText := true, laidKinds := [.handle], laidTests := true, laidLooks := .later }
def ArchiveEncodesUptoCardSaid : Prop := Claim7.holds Tryz.pinned (.plain (OpenSpec.upto archiveEncodesSpec)) archiveEncodesUptoCard

/-- THE SECOND FORM's CARD OF 'offshootlaw23.ArchiveDecodes'. -/
def archiveDecodesUptoCard : Claim7 := { stood := { row := archiveDecodesUptoRow, standIns := [], harness := (true, "fb82091939f4d5ce7506718236bf42822d6d69f53804b4ef5ee49834eda5df4d"), looks := true }, kinds := [], alts := [], laidByText := true, laidKinds := [.handle], laidTests := true, laidLooks := .later }
def ArchiveDecodesUptoCardSaid : Prop := Claim7.holds Tryz.pinned (.plain (OpenSpec.upto archiveDecodesSpec)) archiveDecodesUptoCard

/-- THE SECOND FORM's CARD OF 'offshootlaw23.ArchiveBack'. -/
def archiveBackUptoCard : Claim7 := { stood := { row := archiveBackUptoRow, standIns := [], harness := (true, "fb82091939f4d5ce7506718236bf42822d6d69f53804b4ef5ee49834eda5df4d"), looks := true }, kinds := [], alts := [], laidByText := true, laidKinds := [.handle], laidTests := true, laidLooks := .later }
def ArchiveBackUptoCardSaid : Prop := Claim7.holds Tryz.pinned (.plain (OpenSpec.upto archiveBackSpec)) archiveBackUptoCard

/-- THE SECOND FORM's CARD OF 'offshootlaw23.ArchiveOnly'. -/
def archiveOnlyUptoCard : Claim7 := { stood := { row := archiveOnlyUptoRow, standIns := [], harness := (true, "fb82091939f4d5ce7506718236bf42822d6d69f53804b4ef5ee49834eda5df4d"), looks := true }, kinds := [], alts := [], laidByText := true, laidKinds := [.handle], laidTests := true, laidLooks := .later }
def ArchiveOnlyUptoCardSaid : Prop := Claim7.holds Tryz.pinned (.plain (OpenSpec.upto archiveOnlySpec)) archiveOnlyUptoCard

/-- THE SECOND FORM's CARD OF 'offshootlaw23.ArchiveBursts'. -/
def archiveBurstsUptoCard : Claim7 := { stood := { row := archiveBurstsUptoRow, standIns := [], harness := (true, "fb82091939f4d5ce7506718236bf42822d6d69f53804b4ef5ee49834eda5df4d"), looks := true }, kinds := [], alts := [], laidByText := true, laidKinds := [.handle], laidTests := true, laidLooks := .later }
def ArchiveBurstsUptoCardSaid : Prop := Claim7.holds Tryz.pinned (.plain (OpenSpec.upto archiveBurstsSpec)) archiveBurstsUptoCard

/-- THE SECOND FORM's CARD OF 'offshootlaw23.ArchiveApart'. -/
def archiveApartUptoCard : Claim7 := { stood := { row := archiveApartUptoRow, standIns := [], harness := (true, "fb82091939f4d5ce7506718236bf42822d6d69f53804b4ef5ee49834eda5df4d"), looks := true }, kinds := [], alts := [], laidByText := true, laidKinds := [.handle], laidTests := true, laidLooks := .later }
def ArchiveApartUptoCardSaid : Prop := Claim7.holds Tryz.pinned (.plain (OpenSpec.upto archiveApartSpec)) archiveApartUptoCard
end Rows
end Go.Proofs.YtgnmkiafeplbpaaGreatDoor
