/-
  DERIVED. GIVEN WITH THE SEED: THE CARDS: each row of YtobbliglnjgbaaaGreatDoorRows.lean that lists a variable, with what it lists TIED to the program's text (the seventh form; the later family's looks); each row that meets fmt, with fmt's text TOLD by the authors' own Lean function (tested against real Go, not proved from fmt's source: count such statements apart). THE CARD IS WHAT COUNTS. Prove the row's statement (the work); the ties are given (YtobbliglnjgbaaaGreatDoorTie.lean); close each card by the builder's one call (the guide's Derived/Test/ToyasCard.lean, 'card_holds'). Laid BY PROGRAM, IN A SANDBOX (cutbox-door.mjs). By AI agents, Wed Nov 11 2026. No macro, syntax, notation, axiom, sorry.
-/
import Derived.Test.YtobbliglnjgbaaaGreatDoorRows
import GoSem.ClaimSeven
namespace Go.Proofs.YtobbliglnjgbaaaGreatDoor
namespace Rows

/-- THE TIED CARD OF 'shipwrightlaw1.PathNorm'. -/
def pathNormCard : Claim7 := { stood := { row := pathNormRow, standIns := [], harness := (true, "a9f7ffce918b8ae71a81e65dfd7312b71a21ffa323b04241016e783f7753f33e"), looks := true }, kinds := [], alts := [], laidByText := true, laidKinds := [.data, .data, .data, .data, .sentinel, .sentinel, .pinned], laidTests := true, laidLooks := .later }
def PathNormCardSaid : Prop := Claim7.holds Tryz.pinned (.plain (OpenSpec.ofChange pathNormSpec)) pathNormCard

/-- THE TIED CARD OF 'shipwrightlaw1.PathParts'. -/
def pathPartsCard : Claim7 := { stood := { row := pathPartsRow, standIns := [], harness := (true, "a9f7ffce918b8ae71a81e65dfd7312b71a21ffa323b04241016e783f7753f33e"), looks := true }, kinds := [], alts := [], laidByText := true, laidKinds := [.data, .data, .data, .data, .sentinel, .sentinel, .pinned], laidTests := true, laidLooks := .later }
def PathPartsCardSaid : Prop := Claim7.holds Tryz.pinned (.plain (OpenSpec.ofChange pathPartsSpec)) pathPartsCard

/-- THE TIED CARD OF 'shipwrightlaw1.MintVals'. -/
def mintValsCard : Claim7 := { stood := { row := mintValsRow, standIns := [], harness := (true, "a9f7ffce918b8ae71a81e65dfd7312b71a21ffa323b04241016e783f7753f33e"), looks := true }, kinds := [], alts := [], laidByText := true, laidKinds := [.data, .data, .data, .data, .sentinel, .sentinel, .pinned], laidTests := true, laidLooks := .later }
def MintValsCardSaid : Prop := Claim7.holds Tryz.pinned (.plain (OpenSpec.ofChange mintValsSpec)) mintValsCard

/-- THE TIED CARD OF 'shipwrightlaw1.TreeFull'. -/
def treeFullCard : Claim7 := { stood := { row := treeFullRow, standIns := [], harness := (true, "a9f7ffce918b8ae71a81e65dfd7312b71a21ffa323b04241016e783f7753f33e"), looks := true }, kinds := [], alts := [], laidByText := true, laidKinds := [.data, .data, .data, .data, .sentinel, .sentinel, .pinned], laidTests := true, laidLooks := .later }
def TreeFullCardSaid : Prop := Claim7.holds Tryz.pinned (.plain (OpenSpec.ofChange treeFullSpec)) treeFullCard

/-- THE TIED CARD OF 'shipwrightlaw1.TreeKey'. -/
def treeKeyCard : Claim7 := { stood := { row := treeKeyRow, standIns := [], harness := (true, "a9f7ffce918b8ae71a81e65dfd7312b71a21ffa323b04241016e783f7753f33e"), looks := true }, kinds := [], alts := [], laidByText := true, laidKinds := [.data, .data, .data, .data, .sentinel, .sentinel, .pinned], laidTests := true, laidLooks := .later }
def TreeKeyCardSaid : Prop := Claim7.holds Tryz.pinned (.plain (OpenSpec.ofChange treeKeySpec)) treeKeyCard

/-- THE TIED CARD OF 'shipwrightlaw1.PathJoin'. -/
def pathJoinCard : Claim7 := { stood := { row := pathJoinRow, standIns := [], harness := (true, "a9f7ffce918b8ae71a81e65dfd7312b71a21ffa323b04241016e783f7753f33e"), looks := true }, kinds := [], alts := [], laidByText := true, laidKinds := [.data, .data, .data, .data, .sentinel, .sentinel, .pinned], laidTests := true, laidLooks := .later }
def PathJoinCardSaid : Prop := Claim7.holds Tryz.pinned (.plain (OpenSpec.ofChange pathJoinSpec)) pathJoinCard

/-- THE TIED CARD OF 'shipwrightlaw1.PathSpan'. -/
def pathSpanCard : Claim7 := { stood := { row := pathSpanRow, standIns := [], harness := (true, "a9f7ffce918b8ae71a81e65dfd7312b71a21ffa323b04241016e783f7753f33e"), looks := true }, kinds := [], alts := [], laidByText := true, laidKinds := [.data, .data, .data, .data, .sentinel, .sentinel, .pinned], laidTests := true, laidLooks := .later }
def PathSpanCardSaid : Prop := Claim7.holds Tryz.pinned (.plain (OpenSpec.ofChange pathSpanSpec)) pathSpanCard

/-- THE TIED CARD OF 'shipwrightlaw1.MintUnlike'. -/
def mintUnlikeCard : Claim7 := { stood := { row := mintUnlikeRow, standIns := [], harness := (true, "a9f7ffce918b8ae71a81e65dfd7312b71a21ffa323b04241016e783f7753f33e"), looks := true }, kinds := [], alts := [], laidByText := true, laidKinds := [.data, .data, .data, .data, .sentinel, .sentinel, .pinned], laidTests := true, laidLooks := .later }
def MintUnlikeCardSaid : Prop := Claim7.holds Tryz.pinned (.plain (OpenSpec.ofChange mintUnlikeSpec)) mintUnlikeCard

/-- THE TIED CARD OF 'shipwrightlaw1.MintTurn'. -/
def mintTurnCard : Claim7 := { stood := { row := mintTurnRow, standIns := [], harness := (true, "a9f7ffce918b8ae71a81e65dfd7312b71a21ffa323b04241016e783f7753f33e"), looks := true }, kinds := [], alts := [], laidByText := true, laidKinds := [.data, .data, .data, .data, .sentinel, .sentinel, .pinned], laidTests := true, laidLooks := .later }
def MintTurnCardSaid : Prop := Claim7.holds Tryz.pinned (.plain (OpenSpec.ofChange mintTurnSpec)) mintTurnCard

/-- THE TIED CARD OF 'shipwrightlaw1.TreeLast'. -/
def treeLastCard : Claim7 := { stood := { row := treeLastRow, standIns := [], harness := (true, "a9f7ffce918b8ae71a81e65dfd7312b71a21ffa323b04241016e783f7753f33e"), looks := true }, kinds := [], alts := [], laidByText := true, laidKinds := [.data, .data, .data, .data, .sentinel, .sentinel, .pinned], laidTests := true, laidLooks := .later }
def TreeLastCardSaid : Prop := Claim7.holds Tryz.pinned (.plain (OpenSpec.ofChange treeLastSpec)) treeLastCard

/-- THE TIED CARD OF 'shipwrightlaw1.TreeAll'. -/
def treeAllCard : Claim7 := { stood := { row := treeAllRow, standIns := [], harness := (true, "a9f7ffce918b8ae71a81e65dfd7312b71a21ffa323b04241016e783f7753f33e"), looks := true }, kinds := [], alts := [], laidByText := true, laidKinds := [.data, .data, .data, .data, .sentinel, .sentinel, .pinned], laidTests := true, laidLooks := .later }
def TreeAllCardSaid : Prop := Claim7.holds Tryz.pinned (.plain (OpenSpec.ofChange treeAllSpec)) treeAllCard

/-- THE TIED CARD OF 'shipwrightlaw1.TreeNone'. -/
def treeNoneCard : Claim7 := { stood := { row := treeNoneRow, standIns := [], harness := (true, "a9f7ffce918b8ae71a81e65dfd7312b71a21ffa323b04241016e783f7753f33e"), looks := true }, kinds := [], alts := [], laidByText := true, laidKinds := [.data, .data, .data, .data, .sentinel, .sentinel, .pinned], laidTests := true, laidLooks := .later }
def TreeNoneCardSaid : Prop := Claim7.holds Tryz.pinned (.plain (OpenSpec.ofChange treeNoneSpec)) treeNoneCard

/-- THE TIED CARD OF 'shipwrightlaw1.TreeOwn'. -/
def treeOwnCard : Claim7 := { stood := { row := treeOwnRow, standIns := [], harness := (true, "a9f7ffce918b8ae71a81e65dfd7312b71a21ffa323b04241016e783f7753f33e"), looks := true }, kinds := [], alts := [], laidByText := true, laidKinds := [.data, .data, .data, .data, .sentinel, .sentinel, .pinned], laidTests := true, laidLooks := .later }
def TreeOwnCardSaid : Prop := Claim7.holds Tryz.pinned (.plain (OpenSpec.ofChange treeOwnSpec)) treeOwnCard

/-- THE SECOND FORM's CARD OF 'shipwrightlaw1.PathNorm'. -/
def pathNormUptoCard : Claim7 := { stood := { row := pathNormUptoRow, standIns := [], harness := (true, "a9f7ffce918b8ae71a81e65dfd7312b71a21ffa323b04241016e783f7753f33e"), looks := true }, kinds := [], alts := [], laidByText := true, laidKinds := [.data, .data, .data, .data, .sentinel, .sentinel, .pinned], laidTests := true, laidLooks := .later }
def PathNormUptoCardSaid : Prop := Claim7.holds Tryz.pinned (.plain (OpenSpec.upto pathNormSpec)) pathNormUptoCard

/-- THE SECOND FORM's CARD OF 'shipwrightlaw1.PathParts'. -/
def pathPartsUptoCard : Claim7 := { stood := { row := pathPartsUptoRow, standIns := [], harness := (true, "a9f7ffce918b8ae71a81e65dfd7312b71a21ffa323b04241016e783f7753f33e"), looks := true }, kinds := [], alts := [], laidByText := true, laidKinds := [.data, .data, .data, .data, .sentinel, .sentinel, .pinned], laidTests := true, laidLooks := .later }
def PathPartsUptoCardSaid : Prop := Claim7.holds Tryz.pinned (.plain (OpenSpec.upto pathPartsSpec)) pathPartsUptoCard

/-- THE SECOND FORM's CARD OF 'shipwrightlaw1.MintVals'. -/
def mintValsUptoCard : Claim7 := { stood := { row := mintValsUptoRow, standIns := [], harness := (true, "a9f7ffce918b8ae71a81e65dfd7312b71a21ffa323b04241016e783f7753f33e"), looks := true }, kinds := [], alts := [], laidByText := true, laidKinds := [.data, .data, .data, .data, .sentinel, .sentinel, .pinned], laidTests := true, laidLooks := .later }
def MintValsUptoCardSaid : Prop := Claim7.holds Tryz.pinned (.plain (OpenSpec.upto mintValsSpec)) mintValsUptoCard

/-- THE SECOND FORM's CARD OF 'shipwrightlaw1.TreeFull'. -/
def treeFullUptoCard : Claim7 := { stood := { row := treeFullUptoRow, standIns := [], harness := (true, "a9f7ffce918b8ae71a81e65dfd7312b71a21ffa323b04241016e783f7753f33e"), looks := true }, kinds := [], alts := [], laidByText := true, laidKinds := [.data, .data, .data, .data, .sentinel, .sentinel, .pinned], laidTests := true, laidLooks := .later }
def TreeFullUptoCardSaid : Prop := Claim7.holds Tryz.pinned (.plain (OpenSpec.upto treeFullSpec)) treeFullUptoCard

/-- THE SECOND FORM's CARD OF 'shipwrightlaw1.TreeKey'. -/
def treeKeyUptoCard : Claim7 := { stood := { row := treeKeyUptoRow, standIns := [], harness := (true, "a9f7ffce918b8ae71a81e65dfd7312b71a21ffa323b04241016e783f7753f33e"), looks := true }, kinds := [], alts := [], laidByText := true, laidKinds := [.data, .data, .data, .data, .sentinel, .sentinel, .pinned], laidTests := true, laidLooks := .later }
def TreeKeyUptoCardSaid : Prop := Claim7.holds Tryz.pinned (.plain (OpenSpec.upto treeKeySpec)) treeKeyUptoCard

/-- THE SECOND FORM's CARD OF 'shipwrightlaw1.PathJoin'. -/
def pathJoinUptoCard : Claim7 := { stood := { row := pathJoinUptoRow, standIns := [], harness := (true, "a9f7ffce918b8ae71a81e65dfd7312b71a21ffa323b04241016e783f7753f33e"), looks := true }, kinds := [], alts := [], laidByText := true, laidKinds := [.data, .data, .data, .data, .sentinel, .sentinel, .pinned], laidTests := true, laidLooks := .later }
def PathJoinUptoCardSaid : Prop := Claim7.holds Tryz.pinned (.plain (OpenSpec.upto pathJoinSpec)) pathJoinUptoCard

/-- THE SECOND FORM's CARD OF 'shipwrightlaw1.PathSpan'. -/
def pathSpanUptoCard : Claim7 := { stood := { row := pathSpanUptoRow, standIns := [], harness := (true, "a9f7ffce918b8ae71a81e65dfd7312b71a21ffa323b04241016e783f7753f33e"), looks := true }, kinds := [], alts := [], laidByText := true, laidKinds := [.data, .data, .data, .data, .sentinel, .sentinel, .pinned], laidTests := true, laidLooks := .later }
def PathSpanUptoCardSaid : Prop := Claim7.holds Tryz.pinned (.plain (OpenSpec.upto pathSpanSpec)) pathSpanUptoCard

/-- THE SECOND FORM's CARD OF 'shipwrightlaw1.MintUnlike'. -/
def mintUnlikeUptoCard : Claim7 := { stood := { row := mintUnlikeUptoRow, standIns := [], harness := (true, "a9f7ffce918b8ae71a81e65dfd7312b71a21ffa323b04241016e783f7753f33e"), looks := true }, kinds := [], alts := [], laidByText := true, laidKinds := [.data, .data, .data, .data, .sentinel, .sentinel, .pinned], laidTests := true, laidLooks := .later }
def MintUnlikeUptoCardSaid : Prop := Claim7.holds Tryz.pinned (.plain (OpenSpec.upto mintUnlikeSpec)) mintUnlikeUptoCard

/-- THE SECOND FORM's CARD OF 'shipwrightlaw1.MintTurn'. -/
def mintTurnUptoCard : Claim7 := { stood := { row := mintTurnUptoRow, standIns := [], harness := (true, "a9f7ffce918b8ae71a81e65dfd7312b71a21ffa323b04241016e783f7753f33e"), looks := true }, kinds := [], alts := [], laidByText := true, laidKinds := [.data, .data, .data, .data, .sentinel, .sentinel, .pinned], laidTests := true, laidLooks := .later }
def MintTurnUptoCardSaid : Prop := Claim7.holds Tryz.pinned (.plain (OpenSpec.upto mintTurnSpec)) mintTurnUptoCard

/-- THE SECOND FORM's CARD OF 'shipwrightlaw1.TreeLast'. -/
def treeLastUptoCard : Claim7 := { stood := { row := treeLastUptoRow, standIns := [], harness := (true, "a9f7ffce918b8ae71a81e65dfd7312b71a21ffa323b04241016e783f7753f33e"), looks := true }, kinds := [], alts := [], laidByText := true, laidKinds := [.data, .data, .data, .data, .sentinel, .sentinel, .pinned], laidTests := true, laidLooks := .later }
def TreeLastUptoCardSaid : Prop := Claim7.holds Tryz.pinned (.plain (OpenSpec.upto treeLastSpec)) treeLastUptoCard

/-- THE SECOND FORM's CARD OF 'shipwrightlaw1.TreeAll'. -/
def treeAllUptoCard : Claim7 := { stood := { row := treeAllUptoRow, standIns := [], harness := (true, "a9f7ffce918b8ae71a81e65dfd7312b71a21ffa323b04241016e783f7753f33e"), looks := true }, kinds := [], alts := [], laidByText := true, laidKinds := [.data, .data, .data, .data, .sentinel, .sentinel, .pinned], laidTests := true, laidLooks := .later }
def TreeAllUptoCardSaid : Prop := Claim7.holds Tryz.pinned (.plain (OpenSpec.upto treeAllSpec)) treeAllUptoCard

/-- THE SECOND FORM's CARD OF 'shipwrightlaw1.TreeNone'. -/
def treeNoneUptoCard : Claim7 := { stood := { row := treeNoneUptoRow, standIns := [], harness := (true, "a9f7ffce918b8ae71a81e65dfd7312b71a21ffa323b04241016e783f7753f33e"), looks := true }, kinds := [], alts := [], laidByText := true, laidKinds := [.data, .data, .data, .data, .sentinel, .sentinel, .pinned], laidTests := true, laidLooks := .later }
def TreeNoneUptoCardSaid : Prop := Claim7.holds Tryz.pinned (.plain (OpenSpec.upto treeNoneSpec)) treeNoneUptoCard

/-- THE SECOND FORM's CARD OF 'shipwrightlaw1.TreeOwn'. -/
def treeOwnUptoCard : Claim7 := { stood := { row := treeOwnUptoRow, standIns := [], harness := (true, "a9f7ffce918b8ae71a81e65dfd7312b71a21ffa323b04241016e783f7753f33e"), looks := true }, kinds := [], alts := [], laidByText := true, laidKinds := [.data, .data, .data, .data, .sentinel, .sentinel, .pinned], laidTests := true, laidLooks := .later }
def TreeOwnUptoCardSaid : Prop := Claim7.holds Tryz.pinned (.plain (OpenSpec.upto treeOwnSpec)) treeOwnUptoCard
end Rows
end Go.Proofs.YtobbliglnjgbaaaGreatDoor
