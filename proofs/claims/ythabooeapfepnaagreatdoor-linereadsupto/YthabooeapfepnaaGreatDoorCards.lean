/-
  DERIVED. GIVEN WITH THE SEED: THE CARDS: each row of YthabooeapfepnaaGreatDoorRows.lean that lists a variable, with what it lists TIED to the program's text (the seventh form; the later family's looks); each row that meets fmt, with fmt's text TOLD by the authors' own Lean function (tested against real Go, not proved from fmt's source: count such statements apart). THE CARD IS WHAT COUNTS. Prove the row's statement (the work); the ties are given (YthabooeapfepnaaGreatDoorTie.lean); close each card by the builder's one call (the guide's Derived/Test/ToyasCard.lean, 'card_holds'). Laid BY PROGRAM, IN A SANDBOX (cutbox-door.mjs). By AI agents, Wed Nov 11 2026. No macro, syntax, notation, axiom, sorry.
-/
import Derived.Test.YthabooeapfepnaaGreatDoorRows
import GoSem.ClaimSeven
namespace Go.Proofs.YthabooeapfepnaaGreatDoor
namespace Rows

/-- THE TIED CARD OF 'calepinlaw03.LineQuotes'. -/
def lineQuotesCard : Claim7 := { stood := { row := lineQuotesRow, standIns := [], harness := (true, "1db07b5d2ad99b5c1ba914d3ef266c2404b66ba2138fed0b7f2f8e39c33c0a24"), looks := true }, kinds := [], alts := [], laidByText := true, laidKinds := [.data, .pinned], laidTests := true, laidLooks := .later }
def LineQuotesCardSaid : Prop := Claim7.holds Tryz.pinned (.plain (OpenSpec.ofChange lineQuotesSpec)) lineQuotesCard

/-- THE TIED CARD OF 'calepinlaw03.LineParts'. -/
def linePartsCard : Claim7 := { stood := { row := linePartsRow, standIns := [], harness := (true, "1db07b5d2ad99b5c1ba914d3ef266c2404b66ba2138fed0b7f2f8e39c33c0a24"), looks := true }, kinds := [], alts := [], laidByText := true, laidKinds := [.data, .pinned], laidTests := true, laidLooks := .later }
def LinePartsCardSaid : Prop := Claim7.holds Tryz.pinned (.plain (OpenSpec.ofChange linePartsSpec)) linePartsCard

/-- THE TIED CARD OF 'calepinlaw03.LineGreat'. -/
def lineGreatCard : Claim7 := { stood := { row := lineGreatRow, standIns := [], harness := (true, "1db07b5d2ad99b5c1ba914d3ef266c2404b66ba2138fed0b7f2f8e39c33c0a24"), looks := true }, kinds := [], alts := [], laidByText := true, laidKinds := [.data, .pinned], laidTests := true, laidLooks := .later }
def LineGreatCardSaid : Prop := Claim7.holds Tryz.pinned (.plain (OpenSpec.ofChange lineGreatSpec)) lineGreatCard

/-- THE TIED CARD OF 'calepinlaw03.LineReads'. -/
def lineReadsCard : Claim7 := { stood := { row := lineReadsRow, standIns := [], harness := (true, "1db07b5d2ad99b5c1ba914d3ef266c2404b66ba2138fed0b7f2f8e39c33c0a24"), looks := true }, kinds := [], alts := [], laidByText := true, laidKinds := [.data, .pinned], laidTests := true, laidLooks := .later }
def LineReadsCardSaid : Prop := Claim7.holds Tryz.pinned (.plain (OpenSpec.ofChange lineReadsSpec)) lineReadsCard

/-- THE TIED CARD OF 'calepinlaw03.LineWrites'. -/
def lineWritesCard : Claim7 := { stood := { row := lineWritesRow, standIns := [], harness := (true, "1db07b5d2ad99b5c1ba914d3ef266c2404b66ba2138fed0b7f2f8e39c33c0a24"), looks := true }, kinds := [], alts := [], laidByText := true, laidKinds := [.data, .pinned], laidTests := true, laidLooks := .later }
def LineWritesCardSaid : Prop := Claim7.holds Tryz.pinned (.plain (OpenSpec.ofChange lineWritesSpec)) lineWritesCard

/-- THE TIED CARD OF 'calepinlaw05.CardReads'. -/
def cardReadsCard : Claim7 := { stood := { row := cardReadsRow, standIns := [], harness := (true, "1db07b5d2ad99b5c1ba914d3ef266c2404b66ba2138fed0b7f2f8e39c33c0a24"), looks := true }, kinds := [], alts := [], laidByText := true, laidKinds := [.data, .pinned], laidTests := true, laidLooks := .later }
def CardReadsCardSaid : Prop := Claim7.holds Tryz.pinned (.plain (OpenSpec.ofChange cardReadsSpec)) cardReadsCard

/-- THE TIED CARD OF 'calepinlaw05.CardOrder'. -/
def cardOrderCard : Claim7 := { stood := { row := cardOrderRow, standIns := [], harness := (true, "1db07b5d2ad99b5c1ba914d3ef266c2404b66ba2138fed0b7f2f8e39c33c0a24"), looks := true }, kinds := [], alts := [], laidByText := true, laidKinds := [.data, .pinned], laidTests := true, laidLooks := .later }
def CardOrderCardSaid : Prop := Claim7.holds Tryz.pinned (.plain (OpenSpec.ofChange cardOrderSpec)) cardOrderCard

/-- THE TIED CARD OF 'calepinlaw05.CardNeeds'. -/
def cardNeedsCard : Claim7 := { stood := { row := cardNeedsRow, standIns := [], harness := (true, "1db07b5d2ad99b5c1ba914d3ef266c2404b66ba2138fed0b7f2f8e39c33c0a24"), looks := true }, kinds := [], alts := [], laidByText := true, laidKinds := [.data, .pinned], laidTests := true, laidLooks := .later }
def CardNeedsCardSaid : Prop := Claim7.holds Tryz.pinned (.plain (OpenSpec.ofChange cardNeedsSpec)) cardNeedsCard

/-- THE TIED CARD OF 'calepinlaw05.CardChecks'. -/
def cardChecksCard : Claim7 := { stood := { row := cardChecksRow, standIns := [], harness := (true, "1db07b5d2ad99b5c1ba914d3ef266c2404b66ba2138fed0b7f2f8e39c33c0a24"), looks := true }, kinds := [], alts := [], laidByText := true, laidKinds := [.data, .pinned], laidTests := true, laidLooks := .later }
def CardChecksCardSaid : Prop := Claim7.holds Tryz.pinned (.plain (OpenSpec.ofChange cardChecksSpec)) cardChecksCard

/-- THE TIED CARD OF 'calepinlaw05.CardSame'. -/
def cardSameCard : Claim7 := { stood := { row := cardSameRow, standIns := [], harness := (true, "1db07b5d2ad99b5c1ba914d3ef266c2404b66ba2138fed0b7f2f8e39c33c0a24"), looks := true }, kinds := [], alts := [], laidByText := true, laidKinds := [.data, .pinned], laidTests := true, laidLooks := .later }
def CardSameCardSaid : Prop := Claim7.holds Tryz.pinned (.plain (OpenSpec.ofChange cardSameSpec)) cardSameCard

/-- THE TIED CARD OF 'calepinlaw05.CardFinds'. -/
def cardFindsCard : Claim7 := { stood := { row := cardFindsRow, standIns := [], harness := (true, "1db07b5d2ad99b5c1ba914d3ef266c2404b66ba2138fed0b7f2f8e39c33c0a24"), looks := true }, kinds := [], alts := [], laidByText := true, laidKinds := [.data, .data, .data, .pinned, .pinned], laidTests := true, laidLooks := .later }
def CardFindsCardSaid : Prop := Claim7.holds Tryz.pinned (.plain (OpenSpec.ofChange cardFindsSpec)) cardFindsCard

/-- THE SECOND FORM's CARD OF 'calepinlaw03.LineQuotes'. -/
def lineQuotesUptoCard : Claim7 := { stood := { row := lineQuotesUptoRow, standIns := [], harness := (true, "1db07b5d2ad99b5c1ba914d3ef266c2404b66ba2138fed0b7f2f8e39c33c0a24"), looks := true }, kinds := [], alts := [], laidByText := true, laidKinds := [.data, .pinned], laidTests := true, laidLooks := .later }
def LineQuotesUptoCardSaid : Prop := Claim7.holds Tryz.pinned (.plain (OpenSpec.upto lineQuotesSpec)) lineQuotesUptoCard

/-- THE SECOND FORM's CARD OF 'calepinlaw03.LineParts'. -/
def linePartsUptoCard : Claim7 := { stood := { row := linePartsUptoRow, standIns := [], harness := (true, "1db07b5d2ad99b5c1ba914d3ef266c2404b66ba2138fed0b7f2f8e39c33c0a24"), looks := true }, kinds := [], alts := [], laidByText := true, laidKinds := [.data, .pinned], laidTests := true, laidLooks := .later }
def LinePartsUptoCardSaid : Prop := Claim7.holds Tryz.pinned (.plain (OpenSpec.upto linePartsSpec)) linePartsUptoCard

/-- THE SECOND FORM's CARD OF 'calepinlaw03.LineGreat'. -/
def lineGreatUptoCard : Claim7 := { stood := { row := lineGreatUptoRow, standIns := [], harness := (true, "1db07b5d2ad99b5c1ba914d3ef266c2404b66ba2138fed0b7f2f8e39c33c0a24"), looks := true }, kinds := [], alts := [], laidByText := true, laidKinds := [.data, .pinned], laidTests := true, laidLooks := .later }
def LineGreatUptoCardSaid : Prop := Claim7.holds Tryz.pinned (.plain (OpenSpec.upto lineGreatSpec)) lineGreatUptoCard

/-- THE SECOND FORM's CARD OF 'calepinlaw03.LineReads'. -/
def lineReadsUptoCard : Claim7 := { stood := { row := lineReadsUptoRow, standIns := [], harness := (true, "1db07b5d2ad99b5c1ba914d3ef266c2404b66ba2138fed0b7f2f8e39c33c0a24"), looks := true }, kinds := [], alts := [], laidByText := true, laidKinds := [.data, .pinned], laidTests := true, laidLooks := .later }
def LineReadsUptoCardSaid : Prop := Claim7.holds Tryz.pinned (.plain (OpenSpec.upto lineReadsSpec)) lineReadsUptoCard

/-- THE SECOND FORM's CARD OF 'calepinlaw03.LineWrites'. -/
def lineWritesUptoCard : Claim7 := { stood := { row := lineWritesUptoRow, standIns := [], harness := (true, "1db07b5d2ad99b5c1ba914d3ef266c2404b66ba2138fed0b7f2f8e39c33c0a24"), looks := true }, kinds := [], alts := [], laidByText := true, laidKinds := [.data, .pinned], laidTests := true, laidLooks := .later }
def LineWritesUptoCardSaid : Prop := Claim7.holds Tryz.pinned (.plain (OpenSpec.upto lineWritesSpec)) lineWritesUptoCard

/-- THE SECOND FORM's CARD OF 'calepinlaw05.CardReads'. -/
def cardReadsUptoCard : Claim7 := { stood := { row := cardReadsUptoRow, standIns := [], harness := (true, "1db07b5d2ad99b5c1ba914d3ef266c2404b66ba2138fed0b7f2f8e39c33c0a24"), looks := true }, kinds := [], alts := [], laidByText := true, laidKinds := [.data, .pinned], laidTests := true, laidLooks := .later }
def CardReadsUptoCardSaid : Prop := Claim7.holds Tryz.pinned (.plain (OpenSpec.upto cardReadsSpec)) cardReadsUptoCard

/-- THE SECOND FORM's CARD OF 'calepinlaw05.CardOrder'. -/
def cardOrderUptoCard : Claim7 := { stood := { row := cardOrderUptoRow, standIns := [], harness := (true, "1db07b5d2ad99b5c1ba914d3ef266c2404b66ba2138fed0b7f2f8e39c33c0a24"), looks := true }, kinds := [], alts := [], laidByText := true, laidKinds := [.data, .pinned], laidTests := true, laidLooks := .later }
def CardOrderUptoCardSaid : Prop := Claim7.holds Tryz.pinned (.plain (OpenSpec.upto cardOrderSpec)) cardOrderUptoCard

/-- THE SECOND FORM's CARD OF 'calepinlaw05.CardNeeds'. -/
def cardNeedsUptoCard : Claim7 := { stood := { row := cardNeedsUptoRow, standIns := [], harness := (true, "1db07b5d2ad99b5c1ba914d3ef266c2404b66ba2138fed0b7f2f8e39c33c0a24"), looks := true }, kinds := [], alts := [], laidByText := true, laidKinds := [.data, .pinned], laidTests := true, laidLooks := .later }
def CardNeedsUptoCardSaid : Prop := Claim7.holds Tryz.pinned (.plain (OpenSpec.upto cardNeedsSpec)) cardNeedsUptoCard

/-- THE SECOND FORM's CARD OF 'calepinlaw05.CardChecks'. -/
def cardChecksUptoCard : Claim7 := { stood := { row := cardChecksUptoRow, standIns := [], harness := (true, "1db07b5d2ad99b5c1ba914d3ef266c2404b66ba2138fed0b7f2f8e39c33c0a24"), looks := true }, kinds := [], alts := [], laidByText := true, laidKinds := [.data, .pinned], laidTests := true, laidLooks := .later }
def CardChecksUptoCardSaid : Prop := Claim7.holds Tryz.pinned (.plain (OpenSpec.upto cardChecksSpec)) cardChecksUptoCard

/-- THE SECOND FORM's CARD OF 'calepinlaw05.CardSame'. -/
def cardSameUptoCard : Claim7 := { stood := { row := cardSameUptoRow, standIns := [], harness := (true, "1db07b5d2ad99b5c1ba914d3ef266c2404b66ba2138fed0b7f2f8e39c33c0a24"), looks := true }, kinds := [], alts := [], laidByText := true, laidKinds := [.data, .pinned], laidTests := true, laidLooks := .later }
def CardSameUptoCardSaid : Prop := Claim7.holds Tryz.pinned (.plain (OpenSpec.upto cardSameSpec)) cardSameUptoCard

/-- THE SECOND FORM's CARD OF 'calepinlaw05.CardFinds'. -/
def cardFindsUptoCard : Claim7 := { stood := { row := cardFindsUptoRow, standIns := [], harness := (true, "1db07b5d2ad99b5c1ba914d3ef266c2404b66ba2138fed0b7f2f8e39c33c0a24"), looks := true }, kinds := [], alts := [], laidByText := true, laidKinds := [.data, .data, .data, .pinned, .pinned], laidTests := true, laidLooks := .later }
def CardFindsUptoCardSaid : Prop := Claim7.holds Tryz.pinned (.plain (OpenSpec.upto cardFindsSpec)) cardFindsUptoCard
end Rows
end Go.Proofs.YthabooeapfepnaaGreatDoor
