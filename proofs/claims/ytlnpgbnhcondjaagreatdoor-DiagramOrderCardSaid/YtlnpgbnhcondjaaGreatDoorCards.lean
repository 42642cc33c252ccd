/-
  DERIVED. GIVEN WITH THE SEED: THE CARDS: each row of YtlnpgbnhcondjaaGreatDoorRows.lean that lists a variable, with what it lists TIED to the program's text (the seventh form; the later family's looks); each row that meets fmt, with fmt's text TOLD by the authors' own Lean function (tested against real Go, not proved from fmt's source: count such statements apart). THE CARD IS WHAT COUNTS. Prove the row's statement (the work); the ties are given (YtlnpgbnhcondjaaGreatDoorTie.lean); close each card by the builder's one call (the guide's Derived/Test/ToyasCard.lean, 'card_holds'). Laid BY PROGRAM, IN A SANDBOX (cutbox-door.mjs). By AI agents, Wed Nov 11 2026. No macro, syntax, notation, axiom, sorry.
-/
import Derived.Test.YtlnpgbnhcondjaaGreatDoorRows
import GoSem.ClaimSeven
namespace Go.Proofs.YtlnpgbnhcondjaaGreatDoor
namespace Rows

/-- THE TIED CARD OF 'magnetolaw10.DiagramOrder'. -/
def diagramOrderCard : Claim7 := { stood := { row := diagramOrderRow, standIns := [], harness := (true, "0b6ddabf7654c0ddcdcd670975a67c572cc1ac03156ddf7d14c8e7ba494423dd"), looks := true }, kinds := [], alts := [], laidByText := true, laidKinds := [.data, .data, .data, .data, .sentinel, .sentinel, .listed, .data, .pinned], laidTests := true, laidLooks := .later }
def DiagramOrderCardSaid : Prop := Claim7.holds Tryz.pinned (.plain (OpenSpec.ofChange diagramOrderSpec)) diagramOrderCard

/-- THE TIED CARD OF 'magnetolaw10.DiagramParses'. -/
def diagramParsesCard : Claim7 := { stood := { row := diagramParsesRow, standIns := [], harness := (true, "0b6ddabf7654c0ddcdcd670975a67c572cc1ac03156ddf7d14c8e7ba494423dd"), looks := true }, kinds := [], alts := [], laidByText := true, laidKinds := [.data, .data, .data, .data, .sentinel, .sentinel, .pinned], laidTests := true, laidLooks := .later }
def DiagramParsesCardSaid : Prop := Claim7.holds Tryz.pinned (.plain (OpenSpec.ofChange diagramParsesSpec)) diagramParsesCard

/-- THE TIED CARD OF 'magnetolaw10.DiagramBlanks'. -/
def diagramBlanksCard : Claim7 := { stood := { row := diagramBlanksRow, standIns := [], harness := (true, "0b6ddabf7654c0ddcdcd670975a67c572cc1ac03156ddf7d14c8e7ba494423dd"), looks := true }, kinds := [], alts := [], laidByText := true, laidKinds := [.data, .data, .data, .data, .sentinel, .sentinel, .pinned], laidTests := true, laidLooks := .later }
def DiagramBlanksCardSaid : Prop := Claim7.holds Tryz.pinned (.plain (OpenSpec.ofChange diagramBlanksSpec)) diagramBlanksCard

/-- THE TIED CARD OF 'magnetolaw10.DiagramPlaces'. -/
def diagramPlacesCard : Claim7 := { stood := { row := diagramPlacesRow, standIns := [], harness := (true, "0b6ddabf7654c0ddcdcd670975a67c572cc1ac03156ddf7d14c8e7ba494423dd"), looks := true }, kinds := [], alts := [], laidByText := true, laidKinds := [.data, .data, .data, .data, .sentinel, .sentinel, .pinned], laidTests := true, laidLooks := .later }
def DiagramPlacesCardSaid : Prop := Claim7.holds Tryz.pinned (.plain (OpenSpec.ofChange diagramPlacesSpec)) diagramPlacesCard

/-- THE TIED CARD OF 'magnetolaw10.DiagramFinds'. -/
def diagramFindsCard : Claim7 := { stood := { row := diagramFindsRow, standIns := [], harness := (true, "0b6ddabf7654c0ddcdcd670975a67c572cc1ac03156ddf7d14c8e7ba494423dd"), looks := true }, kinds := [], alts := [], laidByText := true, laidKinds := [.data, .data, .data, .data, .sentinel, .sentinel, .pinned], laidTests := true, laidLooks := .later }
def DiagramFindsCardSaid : Prop := Claim7.holds Tryz.pinned (.plain (OpenSpec.ofChange diagramFindsSpec)) diagramFindsCard

/-- THE TIED CARD OF 'magnetolaw10.DiagramRenames'. -/
def diagramRenamesCard : Claim7 := { stood := { row := diagramRenamesRow, standIns := [], harness := (true, "0b6ddabf7654c0ddcdcd670975a67c572cc1ac03156ddf7d14c8e7ba494423dd"), looks := true }, kinds := [], alts := [], laidByText := true, laidKinds := [.data, .data, .data, .data, .sentinel, .sentinel, .pinned], laidTests := true, laidLooks := .later }
def DiagramRenamesCardSaid : Prop := Claim7.holds Tryz.pinned (.plain (OpenSpec.ofChange diagramRenamesSpec)) diagramRenamesCard

/-- THE TIED CARD OF 'magnetolaw10.DiagramTurns'. -/
def diagramTurnsCard : Claim7 := { stood := { row := diagramTurnsRow, standIns := [], harness := (true, "0b6ddabf7654c0ddcdcd670975a67c572cc1ac03156ddf7d14c8e7ba494423dd"), looks := true }, kinds := [], alts := [], laidByText := true, laidKinds := [.data, .data, .data, .data, .sentinel, .sentinel, .pinned], laidTests := true, laidLooks := .later }
def DiagramTurnsCardSaid : Prop := Claim7.holds Tryz.pinned (.plain (OpenSpec.ofChange diagramTurnsSpec)) diagramTurnsCard

/-- THE TIED CARD OF 'magnetolaw10.DiagramTexts'. -/
def diagramTextsCard : Claim7 := { stood := { row := diagramTextsRow, standIns := [], harness := (true, "0b6ddabf7654c0ddcdcd670975a67c572cc1ac03156ddf7d14c8e7ba494423dd"), looks := true }, kinds := [], alts := [], laidByText := true, laidKinds := [.data, .data, .data, .data, .sentinel, .sentinel, .pinned], laidTests := true, laidLooks := .later }
def DiagramTextsCardSaid : Prop := Claim7.holds Tryz.pinned (.plain (OpenSpec.ofChange diagramTextsSpec)) diagramTextsCard

/-- THE TIED CARD OF 'magnetolaw10.DiagramBack'. -/
def diagramBackCard : Claim7 := { stood := { row := diagramBackRow, standIns := [], harness := (true, "0b6ddabf7654c0ddcdcd670975a67c572cc1ac03156ddf7d14c8e7ba494423dd"), looks := true }, kinds := [], alts := [], laidByText := true, laidKinds := [.data, .data, .data, .data, .sentinel, .sentinel, .pinned], laidTests := true, laidLooks := .later }
def DiagramBackCardSaid : Prop := Claim7.holds Tryz.pinned (.plain (OpenSpec.ofChange diagramBackSpec)) diagramBackCard

/-- THE SECOND FORM's CARD OF 'magnetolaw10.DiagramOrder'. -/
def diagramOrderUptoCard : Claim7 := { stood := { row := diagramOrderUptoRow, standIns := [], harness := (true, "0b6ddabf7654c0ddcdcd670975a67c572cc1ac03156ddf7d14c8e7ba494423dd"), looks := true }, kinds := [], alts := [], laidByText := true, laidKinds := [.data, .data, .data, .data, .sentinel, .sentinel, .listed, .data, .pinned], laidTests := true, laidLooks := .later }
def DiagramOrderUptoCardSaid : Prop := Claim7.holds Tryz.pinned (.plain (OpenSpec.upto diagramOrderSpec)) diagramOrderUptoCard

/-- THE SECOND FORM's CARD OF 'magnetolaw10.DiagramParses'. -/
def diagramParsesUptoCard : Claim7 := { stood := { row := diagramParsesUptoRow, standIns := [], harness := (true, "0b6ddabf7654c0ddcdcd670975a67c572cc1ac03156ddf7d14c8e7ba494423dd"), looks := true }, kinds := [], alts := [], laidByText := true, laidKinds := [.data, .data, .data, .data, .sentinel, .sentinel, .pinned], laidTests := true, laidLooks := .later }
def DiagramParsesUptoCardSaid : Prop := Claim7.holds Tryz.pinned (.plain (OpenSpec.upto diagramParsesSpec)) diagramParsesUptoCard

/-- THE SECOND FORM's CARD OF 'magnetolaw10.DiagramBlanks'. -/
def diagramBlanksUptoCard : Claim7 := { stood := { row := diagramBlanksUptoRow, standIns := [], harness := (true, "0b6ddabf7654c0ddcdcd670975a67c572cc1ac03156ddf7d14c8e7ba494423dd"), looks := true }, kinds := [], alts := [], laidByText := true, laidKinds := [.data, .data, .data, .data, .sentinel, .sentinel, .pinned], laidTests := true, laidLooks := .later }
def DiagramBlanksUptoCardSaid : Prop := Claim7.holds Tryz.pinned (.plain (OpenSpec.upto diagramBlanksSpec)) diagramBlanksUptoCard

/-- THE SECOND FORM's CARD OF 'magnetolaw10.DiagramPlaces'. -/
def diagramPlacesUptoCard : Claim7 := { stood := { row := diagramPlacesUptoRow, standIns := [], harness := (true, "0b6ddabf7654c0ddcdcd670975a67c572cc1ac03156ddf7d14c8e7ba494423dd"), looks := true }, kinds := [], alts := [], laidByText := true, laidKinds := [.data, .data, .data, .data, .sentinel, .sentinel, .pinned], laidTests := true, laidLooks := .later }
def DiagramPlacesUptoCardSaid : Prop := Claim7.holds Tryz.pinned (.plain (OpenSpec.upto diagramPlacesSpec)) diagramPlacesUptoCard

/-- THE SECOND FORM's CARD OF 'magnetolaw10.DiagramFinds'. -/
def diagramFindsUptoCard : Claim7 := { stood := { row := diagramFindsUptoRow, standIns := [], harness := (true, "0b6ddabf7654c0ddcdcd670975a67c572cc1ac03156ddf7d14c8e7ba494423dd"), looks := true }, kinds := [], alts := [], laidByText := true, laidKinds := [.data, .data, .data, .data, .sentinel, .sentinel, .pinned], laidTests := true, laidLooks := .later }
def DiagramFindsUptoCardSaid : Prop := Claim7.holds Tryz.pinned (.plain (OpenSpec.upto diagramFindsSpec)) diagramFindsUptoCard

/-- THE SECOND FORM's CARD OF 'magnetolaw10.DiagramRenames'. -/
def diagramRenamesUptoCard : Claim7 := { stood := { row := diagramRenamesUptoRow, standIns := [], harness := (true, "0b6ddabf7654c0ddcdcd670975a67c572cc1ac03156ddf7d14c8e7ba494423dd"), looks := true }, kinds := [], alts := [], laidByText := true, laidKinds := [.data, .data, .data, .data, .sentinel, .sentinel, .pinned], laidTests := true, laidLooks := .later }
def DiagramRenamesUptoCardSaid : Prop := Claim7.holds Tryz.pinned (.plain (OpenSpec.upto diagramRenamesSpec)) diagramRenamesUptoCard

/-- THE SECOND FORM's CARD OF 'magnetolaw10.DiagramTurns'. -/
def diagramTurnsUptoCard : Claim7 := { stood := { row := diagramTurnsUptoRow, standIns := [], harness := (true, "0b6ddabf7654c0ddcdcd670975a67c572cc1ac03156ddf7d14c8e7ba494423dd"), looks := true }, kinds := [], alts := [], laidByText := true, laidKinds := [.data, .data, .data, .data, .sentinel, .sentinel, .pinned], laidTests := true, laidLooks := .later }
def DiagramTurnsUptoCardSaid : Prop := Claim7.holds Tryz.pinned (.plain (OpenSpec.upto diagramTurnsSpec)) diagramTurnsUptoCard

/-- THE SECOND FORM's CARD OF 'magnetolaw10.DiagramTexts'. -/
def diagramTextsUptoCard : Claim7 := { stood := { row := diagramTextsUptoRow, standIns := [], harness := (true, "0b6ddabf7654c0ddcdcd670975a67c572cc1ac03156ddf7d14c8e7ba494423dd"), looks := true }, kinds := [], alts := [], laidByText := true, laidKinds := [.data, .data, .data, .data, .sentinel, .sentinel, .pinned], laidTests := true, laidLooks := .later }
def DiagramTextsUptoCardSaid : Prop := Claim7.holds Tryz.pinned (.plain (OpenSpec.upto diagramTextsSpec)) diagramTextsUptoCard

/-- THE SECOND FORM's CARD OF 'magnetolaw10.DiagramBack'. -/
def diagramBackUptoCard : Claim7 := { stood := { row := diagramBackUptoRow, standIns := [], harness := (true, "0b6ddabf7654c0ddcdcd670975a67c572cc1ac03156ddf7d14c8e7ba494423dd"), looks := true }, kinds := [], alts := [], laidByText := true, laidKinds := [.data, .data, .data, .data, .sentinel, .sentinel, .pinned], laidTests := true, laidLooks := .later }
def DiagramBackUptoCardSaid : Prop := Claim7.holds Tryz.pinned (.plain (OpenSpec.upto diagramBackSpec)) diagramBackUptoCard
end Rows
end Go.Proofs.YtlnpgbnhcondjaaGreatDoor
