/-
  DERIVED. GIVEN WITH THE SEED: THE CARDS: each row of YtoioclmfjmgaaaaDoorRows.lean that lists a variable, with what it lists TIED to the program's text (the seventh form; the later family's looks); each row that meets fmt, with fmt's text TOLD by the authors' own Lean function (tested against real Go, not proved from fmt's source: count such statements apart). THE CARD IS WHAT COUNTS. Prove the row's statement (the work); the ties are given (YtoioclmfjmgaaaaDoorTie.lean); close each card by the builder's one call (the guide's Derived/Test/ToyasCard.lean, 'card_holds'). Laid BY PROGRAM, IN A SANDBOX (cutbox-door.mjs). By AI agents, Wed Nov 11 2026. No macro, syntax, notation, axiom, sorry.
-/
import Derived.Test.YtoioclmfjmgaaaaDoorRows
import GoSem.ClaimSeven
namespace Go.Proofs.YtoioclmfjmgaaaaDoor
namespace Rows

/-- THE TIED CARD OF 'magnetolaw03.FixedTexts'. -/
def fixedTextsCard : Claim7 := { stood := { row := fixedTextsRow, standIns := [], harness := (true, "0fbee103d9c11cb6af566589f2aa9f2921e8f60822fb5cde01e68ae9d31aad6f"), looks := false }, kinds := [], alts := [], laidByText := true, laidKinds := [.data, .data, .data, .data], laidTests := true, laidLooks := .later }
def FixedTextsCardSaid : Prop := Claim7.holds Tryd.pinned (.plain (OpenSpec.ofChange fixedTextsSpec)) fixedTextsCard

/-- THE TIED CARD OF 'magnetolaw02.UnitTexts'. -/
def unitTextsCard : Claim7 := { stood := { row := unitTextsRow, standIns := [], harness := (true, "0fbee103d9c11cb6af566589f2aa9f2921e8f60822fb5cde01e68ae9d31aad6f"), looks := false }, kinds := [], alts := [], laidByText := true, laidKinds := [.data, .data, .data, .data, .pinned], laidTests := true, laidLooks := .later }
def UnitTextsCardSaid : Prop := Claim7.holds Tryd.pinned (.plain (OpenSpec.ofChange unitTextsSpec)) unitTextsCard

/-- THE TIED CARD OF 'magnetolaw02.UnitBack'. -/
def unitBackCard : Claim7 := { stood := { row := unitBackRow, standIns := [], harness := (true, "0fbee103d9c11cb6af566589f2aa9f2921e8f60822fb5cde01e68ae9d31aad6f"), looks := false }, kinds := [], alts := [], laidByText := true, laidKinds := [.data, .data, .data, .data, .pinned], laidTests := true, laidLooks := .later }
def UnitBackCardSaid : Prop := Claim7.holds Tryd.pinned (.plain (OpenSpec.ofChange unitBackSpec)) unitBackCard

/-- THE TIED CARD OF 'magnetolaw02.UnitProducts'. -/
def unitProductsCard : Claim7 := { stood := { row := unitProductsRow, standIns := [], harness := (true, "0fbee103d9c11cb6af566589f2aa9f2921e8f60822fb5cde01e68ae9d31aad6f"), looks := false }, kinds := [], alts := [], laidByText := true, laidKinds := [.data, .data, .data, .data, .pinned], laidTests := true, laidLooks := .later }
def UnitProductsCardSaid : Prop := Claim7.holds Tryd.pinned (.plain (OpenSpec.ofChange unitProductsSpec)) unitProductsCard

/-- THE TIED CARD OF 'magnetolaw02.UnitGroup'. -/
def unitGroupCard : Claim7 := { stood := { row := unitGroupRow, standIns := [], harness := (true, "0fbee103d9c11cb6af566589f2aa9f2921e8f60822fb5cde01e68ae9d31aad6f"), looks := false }, kinds := [], alts := [], laidByText := true, laidKinds := [.data, .data, .data, .data, .pinned], laidTests := true, laidLooks := .later }
def UnitGroupCardSaid : Prop := Claim7.holds Tryd.pinned (.plain (OpenSpec.ofChange unitGroupSpec)) unitGroupCard

/-- THE TIED CARD OF 'magnetolaw02.UnitNames'. -/
def unitNamesCard : Claim7 := { stood := { row := unitNamesRow, standIns := [], harness := (true, "0fbee103d9c11cb6af566589f2aa9f2921e8f60822fb5cde01e68ae9d31aad6f"), looks := false }, kinds := [], alts := [], laidByText := true, laidKinds := [.data, .data, .data, .data, .pinned], laidTests := true, laidLooks := .later }
def UnitNamesCardSaid : Prop := Claim7.holds Tryd.pinned (.plain (OpenSpec.ofChange unitNamesSpec)) unitNamesCard

/-- THE TIED CARD OF 'magnetolaw02.UnitDerived'. -/
def unitDerivedCard : Claim7 := { stood := { row := unitDerivedRow, standIns := [], harness := (true, "0fbee103d9c11cb6af566589f2aa9f2921e8f60822fb5cde01e68ae9d31aad6f"), looks := false }, kinds := [], alts := [], laidByText := true, laidKinds := [.data, .data, .data, .data, .pinned], laidTests := true, laidLooks := .later }
def UnitDerivedCardSaid : Prop := Claim7.holds Tryd.pinned (.plain (OpenSpec.ofChange unitDerivedSpec)) unitDerivedCard

/-- THE TIED CARD OF 'magnetolaw02.UnitPowers'. -/
def unitPowersCard : Claim7 := { stood := { row := unitPowersRow, standIns := [], harness := (true, "0fbee103d9c11cb6af566589f2aa9f2921e8f60822fb5cde01e68ae9d31aad6f"), looks := false }, kinds := [], alts := [], laidByText := true, laidKinds := [.data, .data, .data, .data, .pinned], laidTests := true, laidLooks := .later }
def UnitPowersCardSaid : Prop := Claim7.holds Tryd.pinned (.plain (OpenSpec.ofChange unitPowersSpec)) unitPowersCard

/-- THE TIED CARD OF 'magnetolaw02.UnitLaws'. -/
def unitLawsCard : Claim7 := { stood := { row := unitLawsRow, standIns := [], harness := (true, "0fbee103d9c11cb6af566589f2aa9f2921e8f60822fb5cde01e68ae9d31aad6f"), looks := false }, kinds := [], alts := [], laidByText := true, laidKinds := [.data, .data, .data, .data, .pinned], laidTests := true, laidLooks := .later }
def UnitLawsCardSaid : Prop := Claim7.holds Tryd.pinned (.plain (OpenSpec.ofChange unitLawsSpec)) unitLawsCard

/-- THE TIED CARD OF 'magnetolaw03.FixedParses'. -/
def fixedParsesCard : Claim7 := { stood := { row := fixedParsesRow, standIns := [], harness := (true, "0fbee103d9c11cb6af566589f2aa9f2921e8f60822fb5cde01e68ae9d31aad6f"), looks := false }, kinds := [], alts := [], laidByText := true, laidKinds := [.data, .data, .data, .data, .data, .pinned], laidTests := true, laidLooks := .later }
def FixedParsesCardSaid : Prop := Claim7.holds Tryd.pinned (.plain (OpenSpec.ofChange fixedParsesSpec)) fixedParsesCard

/-- THE TIED CARD OF 'magnetolaw03.FixedReads'. -/
def fixedReadsCard : Claim7 := { stood := { row := fixedReadsRow, standIns := [], harness := (true, "0fbee103d9c11cb6af566589f2aa9f2921e8f60822fb5cde01e68ae9d31aad6f"), looks := false }, kinds := [], alts := [], laidByText := true, laidKinds := [.data, .data, .data, .data, .data, .pinned], laidTests := true, laidLooks := .later }
def FixedReadsCardSaid : Prop := Claim7.holds Tryd.pinned (.plain (OpenSpec.ofChange fixedReadsSpec)) fixedReadsCard

/-- THE SECOND FORM's CARD OF 'magnetolaw03.FixedTexts'. -/
def fixedTextsUptoCard : Claim7 := { stood := { row := fixedTextsUptoRow, standIns := [], harness := (true, "0fbee103d9c11cb6af566589f2aa9f2921e8f60822fb5cde01e68ae9d31aad6f"), looks := false }, kinds := [], alts := [], laidByText := true, laidKinds := [.data, .data, .data, .data], laidTests := true, laidLooks := .later }
def FixedTextsUptoCardSaid : Prop := Claim7.holds Tryd.pinned (.plain (OpenSpec.upto fixedTextsSpec)) fixedTextsUptoCard

/-- THE SECOND FORM's CARD OF 'magnetolaw02.UnitTexts'. -/
def unitTextsUptoCard : Claim7 := { stood := { row := unitTextsUptoRow, standIns := [], harness := (true, "0fbee103d9c11cb6af566589f2aa9f2921e8f60822fb5cde01e68ae9d31aad6f"), looks := false }, kinds := [], alts := [], laidByText := true, laidKinds := [.data, .data, .data, .data, .pinned], laidTests := true, laidLooks := .later }
def UnitTextsUptoCardSaid : Prop := Claim7.holds Tryd.pinned (.plain (OpenSpec.upto unitTextsSpec)) unitTextsUptoCard

/-- THE SECOND FORM's CARD OF 'magnetolaw02.UnitBack'. -/
def unitBackUptoCard : Claim7 := { stood := { row := unitBackUptoRow, standIns := [], harness := (true, "0fbee103d9c11cb6af566589f2aa9f2921e8f60822fb5cde01e68ae9d31aad6f"), looks := false }, kinds := [], alts := [], laidByText := true, laidKinds := [.data, .data, .data, .data, .pinned], laidTests := true, laidLooks := .later }
def UnitBackUptoCardSaid : Prop := Claim7.holds Tryd.pinned (.plain (OpenSpec.upto unitBackSpec)) unitBackUptoCard

/-- THE SECOND FORM's CARD OF 'magnetolaw02.UnitProducts'. -/
def unitProductsUptoCard : Claim7 := { stood := { row := unitProductsUptoRow, standIns := [], harness := (true, "0fbee103d9c11cb6af566589f2aa9f2921e8f60822fb5cde01e68ae9d31aad6f"), looks := false }, kinds := [], alts := [], laidByText := true, laidKinds := [.data, .data, .data, .data, .pinned], laidTests := true, laidLooks := .later }
def UnitProductsUptoCardSaid : Prop := Claim7.holds Tryd.pinned (.plain (OpenSpec.upto unitProductsSpec)) unitProductsUptoCard

/-- THE SECOND FORM's CARD OF 'magnetolaw02.UnitGroup'. -/
def unitGroupUptoCard : Claim7 := { stood := { row := unitGroupUptoRow, standIns := [], harness := (true, "0fbee103d9c11cb6af566589f2aa9f2921e8f60822fb5cde01e68ae9d31aad6f"), looks := false }, kinds := [], alts := [], laidByText := true, laidKinds := [.data, .data, .data, .data, .pinned], laidTests := true, laidLooks := .later }
def UnitGroupUptoCardSaid : Prop := Claim7.holds Tryd.pinned (.plain (OpenSpec.upto unitGroupSpec)) unitGroupUptoCard

/-- THE SECOND FORM's CARD OF 'magnetolaw02.UnitNames'. -/
def unitNamesUptoCard : Claim7 := { stood := { row := unitNamesUptoRow, standIns := [], harness := (true, "0fbee103d9c11cb6af566589f2aa9f2921e8f60822fb5cde01e68ae9d31aad6f"), looks := false }, kinds := [], alts := [], laidByText := true, laidKinds := [.data, .data, .data, .data, .pinned], laidTests := true, laidLooks := .later }
def UnitNamesUptoCardSaid : Prop := Claim7.holds Tryd.pinned (.plain (OpenSpec.upto unitNamesSpec)) unitNamesUptoCard

/-- THE SECOND FORM's CARD OF 'magnetolaw02.UnitDerived'. -/
def unitDerivedUptoCard : Claim7 := { stood := { row := unitDerivedUptoRow, standIns := [], harness := (true, "0fbee103d9c11cb6af566589f2aa9f2921e8f60822fb5cde01e68ae9d31aad6f"), looks := false }, kinds := [], alts := [], laidByText := true, laidKinds := [.data, .data, .data, .data, .pinned], laidTests := true, laidLooks := .later }
def UnitDerivedUptoCardSaid : Prop := Claim7.holds Tryd.pinned (.plain (OpenSpec.upto unitDerivedSpec)) unitDerivedUptoCard

/-- THE SECOND FORM's CARD OF 'magnetolaw02.UnitPowers'. -/
def unitPowersUptoCard : Claim7 := { stood := { row := unitPowersUptoRow, standIns := [], harness := (true, "0fbee103d9c11cb6af566589f2aa9f2921e8f60822fb5cde01e68ae9d31aad6f"), looks := false }, kinds := [], alts := [], laidByText := true, laidKinds := [.data, .data, .data, .data, .pinned], laidTests := true, laidLooks := .later }
def UnitPowersUptoCardSaid : Prop := Claim7.holds Tryd.pinned (.plain (OpenSpec.upto unitPowersSpec)) unitPowersUptoCard

/-- THE SECOND FORM's CARD OF 'magnetolaw02.UnitLaws'. -/
def unitLawsUptoCard : Claim7 := { stood := { row := unitLawsUptoRow, standIns := [], harness := (true, "0fbee103d9c11cb6af566589f2aa9f2921e8f60822fb5cde01e68ae9d31aad6f"), looks := false }, kinds := [], alts := [], laidByText := true, laidKinds := [.data, .data, .data, .data, .pinned], laidTests := true, laidLooks := .later }
def UnitLawsUptoCardSaid : Prop := Claim7.holds Tryd.pinned (.plain (OpenSpec.upto unitLawsSpec)) unitLawsUptoCard

/-- THE SECOND FORM's CARD OF 'magnetolaw03.FixedParses'. -/
def fixedParsesUptoCard : Claim7 := { stood := { row := fixedParsesUptoRow, standIns := [], harness := (true, "0fbee103d9c11cb6af566589f2aa9f2921e8f60822fb5cde01e68ae9d31aad6f"), looks := false }, kinds := [], alts := [], laidByText := true, laidKinds := [.data, .data, .data, .data, .data, .pinned], laidTests := true, laidLooks := .later }
def FixedParsesUptoCardSaid : Prop := Claim7.holds Tryd.pinned (.plain (OpenSpec.upto fixedParsesSpec)) fixedParsesUptoCard

/-- THE SECOND FORM's CARD OF 'magnetolaw03.FixedReads'. -/
def fixedReadsUptoCard : Claim7 := { stood := { row := fixedReadsUptoRow, standIns := [], harness := (true, "0fbee103d9c11cb6af566589f2aa9f2921e8f60822fb5cde01e68ae9d31aad6f"), looks := false }, kinds := [], alts := [], laidByText := true, laidKinds := [.data, .data, .data, .data, .data, .pinned], laidTests := true, laidLooks := .later }
def FixedReadsUptoCardSaid : Prop := Claim7.holds Tryd.pinned (.plain (OpenSpec.upto fixedReadsSpec)) fixedReadsUptoCard
end Rows
end Go.Proofs.YtoioclmfjmgaaaaDoor
