/-
  DERIVED. GIVEN WITH THE SEED: THE CARDS: each row of YtiiebkfeodmefaaDoorRows.lean that lists a variable, with what it lists TIED to the program's text (the seventh form; the later family's looks); each row that meets fmt, with fmt's text TOLD by the authors' own Lean function (tested against real Go, not proved from fmt's source: count such statements apart). THE CARD IS WHAT COUNTS. Prove the row's statement (the work); the ties are given (YtiiebkfeodmefaaDoorTie.lean); close each card by the builder's one call (the guide's Derived/Test/ToyasCard.lean, 'card_holds'). Laid BY PROGRAM, IN A SANDBOX (cutbox-door.mjs). By AI agents, Wed Nov 11 2026. No macro, syntax, notation, axiom, sorry.
-/
import Derived.Test.YtiiebkfeodmefaaDoorRows
import GoSem.ClaimSeven
namespace Go.Proofs.YtiiebkfeodmefaaDoor
namespace Rows

/-- THE TIED CARD OF 'psalterylaw37.TunerNotes'. -/
def tunerNotesCard : Claim7 := { stood := { row := tunerNotesRow, standIns := [], harness := (true, "5c45db0c4f54fd9ebf8013be32b53cf9f440f9d656a44fc84967135fab4accde"), looks := true }, kinds := [], alts := [], laidByText := true, laidKinds := [.data, .data, .data], laidTests := true, laidLooks := .later }
def TunerNotesCardSaid : Prop := Claim7.holds Tryd.pinned (.plain (OpenSpec.ofChange tunerNotesSpec)) tunerNotesCard

/-- THE TIED CARD OF 'psalterylaw37.TunerApart'. -/
def tunerApartCard : Claim7 := { stood := { row := tunerApartRow, standIns := [], harness := (true, "5c45db0c4f54fd9ebf8013be32b53cf9f440f9d656a44fc84967135fab4accde"), looks := true }, kinds := [], alts := [], laidByText := true, laidKinds := [.data, .data, .data], laidTests := true, laidLooks := .later }
def TunerApartCardSaid : Prop := Claim7.holds Tryd.pinned (.plain (OpenSpec.ofChange tunerApartSpec)) tunerApartCard

/-- THE TIED CARD OF 'psalterylaw37.TunerParts'. -/
def tunerPartsCard : Claim7 := { stood := { row := tunerPartsRow, standIns := [], harness := (true, "5c45db0c4f54fd9ebf8013be32b53cf9f440f9d656a44fc84967135fab4accde"), looks := true }, kinds := [], alts := [], laidByText := true, laidKinds := [.data, .data, .data], laidTests := true, laidLooks := .later }
def TunerPartsCardSaid : Prop := Claim7.holds Tryd.pinned (.plain (OpenSpec.ofChange tunerPartsSpec)) tunerPartsCard

/-- THE TIED CARD OF 'psalterylaw35.SheetRows'. -/
def sheetRowsCard : Claim7 := { stood := { row := sheetRowsRow, standIns := [], harness := (true, "5c45db0c4f54fd9ebf8013be32b53cf9f440f9d656a44fc84967135fab4accde"), looks := true }, kinds := [], alts := [], laidByText := true, laidKinds := [.data, .data, .data, .sentinel, .sentinel], laidTests := true, laidLooks := .later }
def SheetRowsCardSaid : Prop := Claim7.holds Tryd.pinned (.plain (OpenSpec.ofChange sheetRowsSpec)) sheetRowsCard

/-- THE TIED CARD OF 'psalterylaw35.SheetBack'. -/
def sheetBackCard : Claim7 := { stood := { row := sheetBackRow, standIns := [], harness := (true, "5c45db0c4f54fd9ebf8013be32b53cf9f440f9d656a44fc84967135fab4accde"), looks := true }, kinds := [], alts := [], laidByText := true, laidKinds := [.data, .data, .data, .sentinel, .sentinel], laidTests := true, laidLooks := .later }
def SheetBackCardSaid : Prop := Claim7.holds Tryd.pinned (.plain (OpenSpec.ofChange sheetBackSpec)) sheetBackCard

/-- THE SECOND FORM's CARD OF 'psalterylaw37.TunerNotes'. -/
def tunerNotesUptoCard : Claim7 := { stood := { row := tunerNotesUptoRow, standIns := [], harness := (true, "5c45db0c4f54fd9ebf8013be32b53cf9f440f9d656a44fc84967135fab4accde"), looks := true }, kinds := [], alts := [], laidByText := true, laidKinds := [.data, .data, .data], laidTests := true, laidLooks := .later }
def TunerNotesUptoCardSaid : Prop := Claim7.holds Tryd.pinned (.plain (OpenSpec.upto tunerNotesSpec)) tunerNotesUptoCard

/-- THE SECOND FORM's CARD OF 'psalterylaw37.TunerApart'. -/
def tunerApartUptoCard : Claim7 := { stood := { row := tunerApartUptoRow, standIns := [], harness := (true, "5c45db0c4f54fd9ebf8013be32b53cf9f440f9d656a44fc84967135fab4accde"), looks := true }, kinds := [], alts := [], laidByText := true, laidKinds := [.data, .data, .data], laidTests := true, laidLooks := .later }
def TunerApartUptoCardSaid : Prop := Claim7.holds Tryd.pinned (.plain (OpenSpec.upto tunerApartSpec)) tunerApartUptoCard

/-- THE SECOND FORM's CARD OF 'psalterylaw37.TunerParts'. -/
def tunerPartsUptoCard : Claim7 := { stood := { row := tunerPartsUptoRow, standIns := [], harness := (true, "5c45db0c4f54fd9ebf8013be32b53cf9f440f9d656a44fc84967135fab4accde"), looks := true }, kinds := [], alts := [], laidByText := true, laidKinds := [.data, .data, .data], laidTests := true, laidLooks := .later }
def TunerPartsUptoCardSaid : Prop := Claim7.holds Tryd.pinned (.plain (OpenSpec.upto tunerPartsSpec)) tunerPartsUptoCard

/-- THE SECOND FORM's CARD OF 'psalterylaw35.SheetRows'. -/
def sheetRowsUptoCard : Claim7 := { stood := { row := sheetRowsUptoRow, standIns := [], harness := (true, "5c45db0c4f54fd9ebf8013be32b53cf9f440f9d656a44fc84967135fab4accde"), looks := true }, kinds := [], alts := [], laidByText := true, laidKinds := [.data, .data, .data, .sentinel, .sentinel], laidTests := true, laidLooks := .later }
def SheetRowsUptoCardSaid : Prop := Claim7.holds Tryd.pinned (.plain (OpenSpec.upto sheetRowsSpec)) sheetRowsUptoCard

/-- THE SECOND FORM's CARD OF 'psalterylaw35.SheetBack'. -/
def sheetBackUptoCard : Claim7 := { stood := { row := sheetBackUptoRow, standIns := [], harness := (true, "5c45db0c4f54fd9ebf8013be32b53cf9f440f9d656a44fc84967135fab4accde"), looks := true }, kinds := [], alts := [], laidByText := true, laidKinds := [.data, .data, .data, .sentinel, .sentinel], laidTests := true, laidLooks := .later }
def SheetBackUptoCardSaid : Prop := Claim7.holds Tryd.pinned (.plain (OpenSpec.upto sheetBackSpec)) sheetBackUptoCard
end Rows
end Go.Proofs.YtiiebkfeodmefaaDoor
