/-
  DERIVED. GIVEN WITH THE SEED: THE CARDS: each row of YthagibkmfgodgaaGreatDoorRows.lean that lists a variable, with what it lists TIED to the program's text (the seventh form; the later family's looks); each row that meets fmt, with fmt's text TOLD by the authors' own Lean function (tested against real Go, not proved from fmt's source: count such statements apart). THE CARD IS WHAT COUNTS. Prove the row's statement (the work); the ties are given (YthagibkmfgodgaaGreatDoorTie.lean); close each card by the builder's one call (the guide's Derived/Test/ToyasCard.lean, 'card_holds'). Laid BY PROGRAM, IN A SANDBOX (cutbox-door.mjs). By AI agents, Wed Nov 11 2026. No macro, syntax, notation, axiom, sorry.
-/
import Derived.Test.YthagibkmfgodgaaGreatDoorRows
import GoSem.ClaimSeven
namespace Go.Proofs.YthagibkmfgodgaaGreatDoor
namespace Rows

/-- THE TIED CARD OF 'shipwrightlaw4.LexAll'. -/
def lexAllCard : Claim7 := { stood := { row := lexAllRow, standIns := [], harness := (true, "fdc0b9d474c4645d842cda9497b3930bd72ef37c9620d026230feba595a9f77b"), looks := true }, kinds := [], alts := [], laidByText := true, laidKinds := [.data, .data, .data, .data, .sentinel, .sentinel, .pinned], laidTests := true, laidLooks := .later }
def LexAllCardSaid : Prop := Claim7.holds Tryz.pinned (.plain (OpenSpec.ofChange lexAllSpec)) lexAllCard

/-- THE TIED CARD OF 'shipwrightlaw4.LexQuote'. -/
def lexQuoteCard : Claim7 := { stood := { row := lexQuoteRow, standIns := [], harness := (true, "fdc0b9d474c4645d842cda9497b3930bd72ef37c9620d026230feba595a9f77b"), looks := true }, kinds := [], alts := [], laidByText := true, laidKinds := [.data, .data, .data, .data, .sentinel, .sentinel, .pinned], laidTests := true, laidLooks := .later }
def LexQuoteCardSaid : Prop := Claim7.holds Tryz.pinned (.plain (OpenSpec.ofChange lexQuoteSpec)) lexQuoteCard

/-- THE TIED CARD OF 'shipwrightlaw4.ParseAll'. -/
def parseAllCard : Claim7 := { stood := { row := parseAllRow, standIns := [], harness := (true, "fdc0b9d474c4645d842cda9497b3930bd72ef37c9620d026230feba595a9f77b"), looks := true }, kinds := [], alts := [], laidByText := true, laidKinds := [.data, .data, .data, .data, .sentinel, .sentinel, .pinned], laidTests := true, laidLooks := .later }
def ParseAllCardSaid : Prop := Claim7.holds Tryz.pinned (.plain (OpenSpec.ofChange parseAllSpec)) parseAllCard

/-- THE TIED CARD OF 'shipwrightlaw4.ParseTurn'. -/
def parseTurnCard : Claim7 := { stood := { row := parseTurnRow, standIns := [], harness := (true, "fdc0b9d474c4645d842cda9497b3930bd72ef37c9620d026230feba595a9f77b"), looks := true }, kinds := [], alts := [], laidByText := true, laidKinds := [.data, .data, .data, .data, .sentinel, .sentinel, .pinned], laidTests := true, laidLooks := .later }
def ParseTurnCardSaid : Prop := Claim7.holds Tryz.pinned (.plain (OpenSpec.ofChange parseTurnSpec)) parseTurnCard

/-- THE TIED CARD OF 'shipwrightlaw4.PrintBack'. -/
def printBackCard : Claim7 := { stood := { row := printBackRow, standIns := [], harness := (true, "fdc0b9d474c4645d842cda9497b3930bd72ef37c9620d026230feba595a9f77b"), looks := true }, kinds := [], alts := [], laidByText := true, laidKinds := [.data, .data, .data, .data, .sentinel, .sentinel, .pinned], laidTests := true, laidLooks := .later }
def PrintBackCardSaid : Prop := Claim7.holds Tryz.pinned (.plain (OpenSpec.ofChange printBackSpec)) printBackCard

/-- THE TIED CARD OF 'shipwrightlaw4.PrintLayout'. -/
def printLayoutCard : Claim7 := { stood := { row := printLayoutRow, standIns := [], harness := (true, "fdc0b9d474c4645d842cda9497b3930bd72ef37c9620d026230feba595a9f77b"), looks := true }, kinds := [], alts := [], laidByText := true, laidKinds := [.data, .data, .data, .data, .sentinel, .sentinel, .pinned], laidTests := true, laidLooks := .later }
def PrintLayoutCardSaid : Prop := Claim7.holds Tryz.pinned (.plain (OpenSpec.ofChange printLayoutSpec)) printLayoutCard

/-- THE TIED CARD OF 'shipwrightlaw4.PrintNone'. -/
def printNoneCard : Claim7 := { stood := { row := printNoneRow, standIns := [], harness := (true, "fdc0b9d474c4645d842cda9497b3930bd72ef37c9620d026230feba595a9f77b"), looks := true }, kinds := [], alts := [], laidByText := true, laidKinds := [.data, .data, .data, .data, .sentinel, .sentinel, .pinned], laidTests := true, laidLooks := .later }
def PrintNoneCardSaid : Prop := Claim7.holds Tryz.pinned (.plain (OpenSpec.ofChange printNoneSpec)) printNoneCard

/-- THE TIED CARD OF 'shipwrightlaw4.LexPlaces'. -/
def lexPlacesCard : Claim7 := { stood := { row := lexPlacesRow, standIns := [], harness := (true, "fdc0b9d474c4645d842cda9497b3930bd72ef37c9620d026230feba595a9f77b"), looks := true }, kinds := [], alts := [], laidByText := true, laidKinds := [.data, .data, .data, .data, .sentinel, .sentinel, .pinned], laidTests := true, laidLooks := .later }
def LexPlacesCardSaid : Prop := Claim7.holds Tryz.pinned (.plain (OpenSpec.ofChange lexPlacesSpec)) lexPlacesCard

/-- THE TIED CARD OF 'shipwrightlaw4.LexGap'. -/
def lexGapCard : Claim7 := { stood := { row := lexGapRow, standIns := [], harness := (true, "fdc0b9d474c4645d842cda9497b3930bd72ef37c9620d026230feba595a9f77b"), looks := true }, kinds := [], alts := [], laidByText := true, laidKinds := [.data, .data, .data, .data, .sentinel, .sentinel, .pinned], laidTests := true, laidLooks := .later }
def LexGapCardSaid : Prop := Claim7.holds Tryz.pinned (.plain (OpenSpec.ofChange lexGapSpec)) lexGapCard

/-- THE TIED CARD OF 'shipwrightlaw4.LexByte'. -/
def lexByteCard : Claim7 := { stood := { row := lexByteRow, standIns := [], harness := (true, "fdc0b9d474c4645d842cda9497b3930bd72ef37c9620d026230feba595a9f77b"), looks := true }, kinds := [], alts := [], laidByText := true, laidKinds := [.data, .data, .data, .data, .sentinel, .sentinel, .pinned], laidTests := true, laidLooks := .later }
def LexByteCardSaid : Prop := Claim7.holds Tryz.pinned (.plain (OpenSpec.ofChange lexByteSpec)) lexByteCard

/-- THE TIED CARD OF 'shipwrightlaw4.ParsePrefix'. -/
def parsePrefixCard : Claim7 := { stood := { row := parsePrefixRow, standIns := [], harness := (true, "fdc0b9d474c4645d842cda9497b3930bd72ef37c9620d026230feba595a9f77b"), looks := true }, kinds := [], alts := [], laidByText := true, laidKinds := [.data, .data, .data, .data, .sentinel, .sentinel, .pinned], laidTests := true, laidLooks := .later }
def ParsePrefixCardSaid : Prop := Claim7.holds Tryz.pinned (.plain (OpenSpec.ofChange parsePrefixSpec)) parsePrefixCard

/-- THE TIED CARD OF 'shipwrightlaw4.ParseTwo'. -/
def parseTwoCard : Claim7 := { stood := { row := parseTwoRow, standIns := [], harness := (true, "fdc0b9d474c4645d842cda9497b3930bd72ef37c9620d026230feba595a9f77b"), looks := true }, kinds := [], alts := [], laidByText := true, laidKinds := [.data, .data, .data, .data, .sentinel, .sentinel, .pinned], laidTests := true, laidLooks := .later }
def ParseTwoCardSaid : Prop := Claim7.holds Tryz.pinned (.plain (OpenSpec.ofChange parseTwoSpec)) parseTwoCard

/-- THE TIED CARD OF 'shipwrightlaw4.PrintSorted'. -/
def printSortedCard : Claim7 := { stood := { row := printSortedRow, standIns := [], harness := (true, "fdc0b9d474c4645d842cda9497b3930bd72ef37c9620d026230feba595a9f77b"), looks := true }, kinds := [], alts := [], laidByText := true, laidKinds := [.data, .data, .data, .data, .sentinel, .sentinel, .pinned], laidTests := true, laidLooks := .later }
def PrintSortedCardSaid : Prop := Claim7.holds Tryz.pinned (.plain (OpenSpec.ofChange printSortedSpec)) printSortedCard

/-- THE SECOND FORM's CARD OF 'shipwrightlaw4.LexAll'. -/
def lexAllUptoCard : Claim7 := { stood := { row := lexAllUptoRow, standIns := [], harness := (true, "fdc0b9d474c4645d842cda9497b3930bd72ef37c9620d026230feba595a9f77b"), looks := true }, kinds := [], alts := [], laidByText := true, laidKinds := [.data, .data, .data, .data, .sentinel, .sentinel, .pinned], laidTests := true, laidLooks := .later }
def LexAllUptoCardSaid : Prop := Claim7.holds Tryz.pinned (.plain (OpenSpec.upto lexAllSpec)) lexAllUptoCard

/-- THE SECOND FORM's CARD OF 'shipwrightlaw4.LexQuote'. -/
def lexQuoteUptoCard : Claim7 := { stood := { row := lexQuoteUptoRow, standIns := [], harness := (true, "fdc0b9d474c4645d842cda9497b3930bd72ef37c9620d026230feba595a9f77b"), looks := true }, kinds := [], alts := [], laidByText := true, laidKinds := [.data, .data, .data, .data, .sentinel, .sentinel, .pinned], laidTests := true, laidLooks := .later }
def LexQuoteUptoCardSaid : Prop := Claim7.holds Tryz.pinned (.plain (OpenSpec.upto lexQuoteSpec)) lexQuoteUptoCard

/-- THE SECOND FORM's CARD OF 'shipwrightlaw4.ParseAll'. -/
def parseAllUptoCard : Claim7 := { stood := { row := parseAllUptoRow, standIns := [], harness := (true, "fdc0b9d474c4645d842cda9497b3930bd72ef37c9620d026230feba595a9f77b"), looks := true }, kinds := [], alts := [], laidByText := true, laidKinds := [.data, .data, .data, .data, .sentinel, .sentinel, .pinned], laidTests := true, laidLooks := .later }
def ParseAllUptoCardSaid : Prop := Claim7.holds Tryz.pinned (.plain (OpenSpec.upto parseAllSpec)) parseAllUptoCard

/-- THE SECOND FORM's CARD OF 'shipwrightlaw4.ParseTurn'. -/
def parseTurnUptoCard : Claim7 := { stood := { row := parseTurnUptoRow, standIns := [], harness := (true, "fdc0b9d474c4645d842cda9497b3930bd72ef37c9620d026230feba595a9f77b"), looks := true }, kinds := [], alts := [], laidByText := true, laidKinds := [.data, .data, .data, .data, .sentinel, .sentinel, .pinned], laidTests := true, laidLooks := .later }
def ParseTurnUptoCardSaid : Prop := Claim7.holds Tryz.pinned (.plain (OpenSpec.upto parseTurnSpec)) parseTurnUptoCard

/-- THE SECOND FORM's CARD OF 'shipwrightlaw4.PrintBack'. -/
def printBackUptoCard : Claim7 := { stood := { row := printBackUptoRow, standIns := [], harness := (true, "fdc0b9d474c4645d842cda9497b3930bd72ef37c9620d026230feba595a9f77b"), looks := true }, kinds := [], alts := [], laidByText := true, laidKinds := [.data, .data, .data, .data, .sentinel, .sentinel, .pinned], laidTests := true, laidLooks := .later }
def PrintBackUptoCardSaid : Prop := Claim7.holds Tryz.pinned (.plain (OpenSpec.upto printBackSpec)) printBackUptoCard

/-- THE SECOND FORM's CARD OF 'shipwrightlaw4.PrintLayout'. -/
def printLayoutUptoCard : Claim7 := { stood := { row := printLayoutUptoRow, standIns := [], harness := (true, "fdc0b9d474c4645d842cda9497b3930bd72ef37c9620d026230feba595a9f77b"), looks := true }, kinds := [], alts := [], laidByText := true, laidKinds := [.data, .data, .data, .data, .sentinel, .sentinel, .pinned], laidTests := true, laidLooks := .later }
def PrintLayoutUptoCardSaid : Prop := Claim7.holds Tryz.pinned (.plain (OpenSpec.upto printLayoutSpec)) printLayoutUptoCard

/-- THE SECOND FORM's CARD OF 'shipwrightlaw4.PrintNone'. -/
def printNoneUptoCard : Claim7 := { stood := { row := printNoneUptoRow, standIns := [], harness := (true, "fdc0b9d474c4645d842cda9497b3930bd72ef37c9620d026230feba595a9f77b"), looks := true }, kinds := [], alts := [], laidByText := true, laidKinds := [.data, .data, .data, .data, .sentinel, .sentinel, .pinned], laidTests := true, laidLooks := .later }
def PrintNoneUptoCardSaid : Prop := Claim7.holds Tryz.pinned (.plain (OpenSpec.upto printNoneSpec)) printNoneUptoCard

/-- THE SECOND FORM's CARD OF 'shipwrightlaw4.LexPlaces'. -/
def lexPlacesUptoCard : Claim7 := { stood := { row := lexPlacesUptoRow, standIns := [], harness := (true, "fdc0b9d474c4645d842cda9497b3930bd72ef37c9620d026230feba595a9f77b"), looks := true }, kinds := [], alts := [], laidByText := true, laidKinds := [.data, .data, .data, .data, .sentinel, .sentinel, .pinned], laidTests := true, laidLooks := .later }
def LexPlacesUptoCardSaid : Prop := Claim7.holds Tryz.pinned (.plain (OpenSpec.upto lexPlacesSpec)) lexPlacesUptoCard

/-- THE SECOND FORM's CARD OF 'shipwrightlaw4.LexGap'. -/
def lexGapUptoCard : Claim7 := { stood := { row := lexGapUptoRow, standIns := [], harness := (true, "fdc0b9d474c4645d842cda9497b3930bd72ef37c9620d026230feba595a9f77b"), looks := true }, kinds := [], alts := [], laidByText := true, laidKinds := [.data, .data, .data, .data, .sentinel, .sentinel, .pinned], laidTests := true, laidLooks := .later }
def LexGapUptoCardSaid : Prop := Claim7.holds Tryz.pinned (.plain (OpenSpec.upto lexGapSpec)) lexGapUptoCard

/-- THE SECOND FORM's CARD OF 'shipwrightlaw4.LexByte'. -/
def lexByteUptoCard : Claim7 := { stood := { row := lexByteUptoRow, standIns := [], harness := (true, "fdc0b9d474c4645d842cda9497b3930bd72ef37c9620d026230feba595a9f77b"), looks := true }, kinds := [], alts := [], laidByText := true, laidKinds := [.data, .data, .data, .data, .sentinel, .sentinel, .pinned], laidTests := true, laidLooks := .later }
def LexByteUptoCardSaid : Prop := Claim7.holds Tryz.pinned (.plain (OpenSpec.upto lexByteSpec)) lexByteUptoCard

/-- THE SECOND FORM's CARD OF 'shipwrightlaw4.ParsePrefix'. -/
def parsePrefixUptoCard : Claim7 := { stood := { row := parsePrefixUptoRow, standIns := [], harness := (true, "fdc0b9d474c4645d842cda9497b3930bd72ef37c9620d026230feba595a9f77b"), looks := true }, kinds := [], alts := [], laidByText := true, laidKinds := [.data, .data, .data, .data, .sentinel, .sentinel, .pinned], laidTests := true, laidLooks := .later }
def ParsePrefixUptoCardSaid : Prop := Claim7.holds Tryz.pinned (.plain (OpenSpec.upto parsePrefixSpec)) parsePrefixUptoCard

/-- THE SECOND FORM's CARD OF 'shipwrightlaw4.ParseTwo'. -/
def parseTwoUptoCard : Claim7 := { stood := { row := parseTwoUptoRow, standIns := [], harness := (true, "fdc0b9d474c4645d842cda9497b3930bd72ef37c9620d026230feba595a9f77b"), looks := true }, kinds := [], alts := [], laidByText := true, laidKinds := [.data, .data, .data, .data, .sentinel, .sentinel, .pinned], laidTests := true, laidLooks := .later }
def ParseTwoUptoCardSaid : Prop := Claim7.holds Tryz.pinned (.plain (OpenSpec.upto parseTwoSpec)) parseTwoUptoCard

/-- THE SECOND FORM's CARD OF 'shipwrightlaw4.PrintSorted'. -/
def printSortedUptoCard : Claim7 := { stood := { row := printSortedUptoRow, standIns := [], harness := (true, "fdc0b9d474c4645d842cda9497b3930bd72ef37c9620d026230feba595a9f77b"), looks := true }, kinds := [], alts := [], laidByText := true, laidKinds := [.data, .data, .data, .data, .sentinel, .sentinel, .pinned], laidTests := true, laidLooks := .later }
def PrintSortedUptoCardSaid : Prop := Claim7.holds Tryz.pinned (.plain (OpenSpec.upto printSortedSpec)) printSortedUptoCard
end Rows
end Go.Proofs.YthagibkmfgodgaaGreatDoor
