/-
  DERIVED. GIVEN WITH THE SEED: THE CARDS: each row of YtdpgdnpddndeoaaGreatDoorRows.lean that lists a variable, with what it lists TIED to the program's text (the seventh form; the later family's looks); each row that meets fmt, with fmt's text TOLD by the authors' own Lean function (tested against real Go, not proved from fmt's source: count such statements apart). THE CARD IS WHAT COUNTS. Prove the row's statement (the work); the ties are given (YtdpgdnpddndeoaaGreatDoorTie.lean); close each card by the builder's one call (the guide's Derived/Test/ToyasCard.lean, 'card_holds'). Laid BY PROGRAM, IN A SANDBOX (cutbox-door.mjs). By AI agents, Wed Nov 11 2026. No macro, syntax, notation, axiom, sorry.
-/
import Derived.Test.YtdpgdnpddndeoaaGreatDoorRows
import GoSem.ClaimSeven
namespace Go.Proofs.YtdpgdnpddndeoaaGreatDoor
namespace Rows

/-- THE TIED CARD OF 'shipwrightlaw7.StepAll'. -/
def stepAllCard : Claim7 := { stood := { row := stepAllRow, standIns := [], harness := (true, "ea74c96f55d1eae7e0f76fb72a22373a058dd3ac5178b8b664e12c17586d2cf4"), looks := true }, kinds := [], alts := [], laidByText := true, laidKinds := [.data, .data, .data, .data, .sentinel, .sentinel, .pinned], laidTests := true, laidLooks := .later }
def StepAllCardSaid : Prop := Claim7.holds Tryz.pinned (.plain (OpenSpec.ofChange stepAllSpec)) stepAllCard

/-- THE TIED CARD OF 'shipwrightlaw7.StepLong'. -/
def stepLongCard : Claim7 := { stood := { row := stepLongRow, standIns := [], harness := (true, "ea74c96f55d1eae7e0f76fb72a22373a058dd3ac5178b8b664e12c17586d2cf4"), looks := true }, kinds := [], alts := [], laidByText := true, laidKinds := [.data, .data, .data, .data, .sentinel, .sentinel, .pinned], laidTests := true, laidLooks := .later }
def StepLongCardSaid : Prop := Claim7.holds Tryz.pinned (.plain (OpenSpec.ofChange stepLongSpec)) stepLongCard

/-- THE TIED CARD OF 'shipwrightlaw7.StepLaws'. -/
def stepLawsCard : Claim7 := { stood := { row := stepLawsRow, standIns := [], harness := (true, "ea74c96f55d1eae7e0f76fb72a22373a058dd3ac5178b8b664e12c17586d2cf4"), looks := true }, kinds := [], alts := [], laidByText := true, laidKinds := [.data, .data, .data, .data, .sentinel, .sentinel, .pinned], laidTests := true, laidLooks := .later }
def StepLawsCardSaid : Prop := Claim7.holds Tryz.pinned (.plain (OpenSpec.ofChange stepLawsSpec)) stepLawsCard

/-- THE TIED CARD OF 'shipwrightlaw7.RunAll'. -/
def runAllCard : Claim7 := { stood := { row := runAllRow, standIns := [], harness := (true, "ea74c96f55d1eae7e0f76fb72a22373a058dd3ac5178b8b664e12c17586d2cf4"), looks := true }, kinds := [], alts := [], laidByText := true, laidKinds := [.data, .data, .data, .data, .sentinel, .sentinel, .pinned], laidTests := true, laidLooks := .later }
def RunAllCardSaid : Prop := Claim7.holds Tryz.pinned (.plain (OpenSpec.ofChange runAllSpec)) runAllCard

/-- THE TIED CARD OF 'shipwrightlaw7.SliceAll'. -/
def sliceAllCard : Claim7 := { stood := { row := sliceAllRow, standIns := [], harness := (true, "ea74c96f55d1eae7e0f76fb72a22373a058dd3ac5178b8b664e12c17586d2cf4"), looks := true }, kinds := [], alts := [], laidByText := true, laidKinds := [.data, .data, .data, .data, .sentinel, .sentinel, .pinned], laidTests := true, laidLooks := .later }
def SliceAllCardSaid : Prop := Claim7.holds Tryz.pinned (.plain (OpenSpec.ofChange sliceAllSpec)) sliceAllCard

/-- THE TIED CARD OF 'shipwrightlaw7.SliceTurn'. -/
def sliceTurnCard : Claim7 := { stood := { row := sliceTurnRow, standIns := [], harness := (true, "ea74c96f55d1eae7e0f76fb72a22373a058dd3ac5178b8b664e12c17586d2cf4"), looks := true }, kinds := [], alts := [], laidByText := true, laidKinds := [.data, .data, .data, .data, .sentinel, .sentinel, .pinned], laidTests := true, laidLooks := .later }
def SliceTurnCardSaid : Prop := Claim7.holds Tryz.pinned (.plain (OpenSpec.ofChange sliceTurnSpec)) sliceTurnCard

/-- THE TIED CARD OF 'shipwrightlaw7.StepFail'. -/
def stepFailCard : Claim7 := { stood := { row := stepFailRow, standIns := [], harness := (true, "ea74c96f55d1eae7e0f76fb72a22373a058dd3ac5178b8b664e12c17586d2cf4"), looks := true }, kinds := [], alts := [], laidByText := true, laidKinds := [.data, .data, .data, .data, .sentinel, .sentinel, .pinned], laidTests := true, laidLooks := .later }
def StepFailCardSaid : Prop := Claim7.holds Tryz.pinned (.plain (OpenSpec.ofChange stepFailSpec)) stepFailCard

/-- THE TIED CARD OF 'shipwrightlaw7.StepConcat'. -/
def stepConcatCard : Claim7 := { stood := { row := stepConcatRow, standIns := [], harness := (true, "ea74c96f55d1eae7e0f76fb72a22373a058dd3ac5178b8b664e12c17586d2cf4"), looks := true }, kinds := [], alts := [], laidByText := true, laidKinds := [.data, .data, .data, .data, .sentinel, .sentinel, .pinned], laidTests := true, laidLooks := .later }
def StepConcatCardSaid : Prop := Claim7.holds Tryz.pinned (.plain (OpenSpec.ofChange stepConcatSpec)) stepConcatCard

/-- THE TIED CARD OF 'shipwrightlaw7.StepReplace'. -/
def stepReplaceCard : Claim7 := { stood := { row := stepReplaceRow, standIns := [], harness := (true, "ea74c96f55d1eae7e0f76fb72a22373a058dd3ac5178b8b664e12c17586d2cf4"), looks := true }, kinds := [], alts := [], laidByText := true, laidKinds := [.data, .data, .data, .data, .sentinel, .sentinel, .pinned], laidTests := true, laidLooks := .later }
def StepReplaceCardSaid : Prop := Claim7.holds Tryz.pinned (.plain (OpenSpec.ofChange stepReplaceSpec)) stepReplaceCard

/-- THE TIED CARD OF 'shipwrightlaw7.StepLines'. -/
def stepLinesCard : Claim7 := { stood := { row := stepLinesRow, standIns := [], harness := (true, "ea74c96f55d1eae7e0f76fb72a22373a058dd3ac5178b8b664e12c17586d2cf4"), looks := true }, kinds := [], alts := [], laidByText := true, laidKinds := [.data, .data, .data, .data, .sentinel, .sentinel, .pinned], laidTests := true, laidLooks := .later }
def StepLinesCardSaid : Prop := Claim7.holds Tryz.pinned (.plain (OpenSpec.ofChange stepLinesSpec)) stepLinesCard

/-- THE TIED CARD OF 'shipwrightlaw7.RunPart'. -/
def runPartCard : Claim7 := { stood := { row := runPartRow, standIns := [], harness := (true, "ea74c96f55d1eae7e0f76fb72a22373a058dd3ac5178b8b664e12c17586d2cf4"), looks := true }, kinds := [], alts := [], laidByText := true, laidKinds := [.data, .data, .data, .data, .sentinel, .sentinel, .pinned], laidTests := true, laidLooks := .later }
def RunPartCardSaid : Prop := Claim7.holds Tryz.pinned (.plain (OpenSpec.ofChange runPartSpec)) runPartCard

/-- THE TIED CARD OF 'shipwrightlaw7.RunNames'. -/
def runNamesCard : Claim7 := { stood := { row := runNamesRow, standIns := [], harness := (true, "ea74c96f55d1eae7e0f76fb72a22373a058dd3ac5178b8b664e12c17586d2cf4"), looks := true }, kinds := [], alts := [], laidByText := true, laidKinds := [.data, .data, .data, .data, .sentinel, .sentinel, .pinned], laidTests := true, laidLooks := .later }
def RunNamesCardSaid : Prop := Claim7.holds Tryz.pinned (.plain (OpenSpec.ofChange runNamesSpec)) runNamesCard

/-- THE TIED CARD OF 'shipwrightlaw7.SliceSteps'. -/
def sliceStepsCard : Claim7 := { stood := { row := sliceStepsRow, standIns := [], harness := (true, "ea74c96f55d1eae7e0f76fb72a22373a058dd3ac5178b8b664e12c17586d2cf4"), looks := true }, kinds := [], alts := [], laidByText := true, laidKinds := [.data, .data, .data, .data, .sentinel, .sentinel, .pinned], laidTests := true, laidLooks := .later }
def SliceStepsCardSaid : Prop := Claim7.holds Tryz.pinned (.plain (OpenSpec.ofChange sliceStepsSpec)) sliceStepsCard

/-- THE SECOND FORM's CARD OF 'shipwrightlaw7.StepAll'. -/
def stepAllUptoCard : Claim7 := { stood := { row := stepAllUptoRow, standIns := [], harness := (true, "ea74c96f55d1eae7e0f76fb72a22373a058dd3ac5178b8b664e12c17586d2cf4"), looks := true }, kinds := [], alts := [], laidByText := true, laidKinds := [.data, .data, .data, .data, .sentinel, .sentinel, .pinned], laidTests := true, laidLooks := .later }
def StepAllUptoCardSaid : Prop := Claim7.holds Tryz.pinned (.plain (OpenSpec.upto stepAllSpec)) stepAllUptoCard

/-- THE SECOND FORM's CARD OF 'shipwrightlaw7.StepLong'. -/
def stepLongUptoCard : Claim7 := { stood := { row := stepLongUptoRow, standIns := [], harness := (true, "ea74c96f55d1eae7e0f76fb72a22373a058dd3ac5178b8b664e12c17586d2cf4"), looks := true }, kinds := [], alts := [], laidByText := true, laidKinds := [.data, .data, .data, .data, .sentinel, .sentinel, .pinned], laidTests := true, laidLooks := .later }
def StepLongUptoCardSaid : Prop := Claim7.holds Tryz.pinned (.plain (OpenSpec.upto stepLongSpec)) stepLongUptoCard

/-- THE SECOND FORM's CARD OF 'shipwrightlaw7.StepLaws'. -/
def stepLawsUptoCard : Claim7 := { stood := { row := stepLawsUptoRow, standIns := [], harness := (true, "ea74c96f55d1eae7e0f76fb72a22373a058dd3ac5178b8b664e12c17586d2cf4"), looks := true }, kinds := [], alts := [], laidByText := true, laidKinds := [.data, .data, .data, .data, .sentinel, .sentinel, .pinned], laidTests := true, laidLooks := .later }
def StepLawsUptoCardSaid : Prop := Claim7.holds Tryz.pinned (.plain (OpenSpec.upto stepLawsSpec)) stepLawsUptoCard

/-- THE SECOND FORM's CARD OF 'shipwrightlaw7.RunAll'. -/
def runAllUptoCard : Claim7 := { stood := { row := runAllUptoRow, standIns := [], harness := (true, "ea74c96f55d1eae7e0f76fb72a22373a058dd3ac5178b8b664e12c17586d2cf4"), looks := true }, kinds := [], alts := [], laidByText := true, laidKinds := [.data, .data, .data, .data, .sentinel, .sentinel, .pinned], laidTests := true, laidLooks := .later }
def RunAllUptoCardSaid : Prop := Claim7.holds Tryz.pinned (.plain (OpenSpec.upto runAllSpec)) runAllUptoCard

/-- THE SECOND FORM's CARD OF 'shipwrightlaw7.SliceAll'. -/
def sliceAllUptoCard : Claim7 := { stood := { row := sliceAllUptoRow, standIns := [], harness := (true, "ea74c96f55d1eae7e0f76fb72a22373a058dd3ac5178b8b664e12c17586d2cf4"), looks := true }, kinds := [], alts := [], laidByText := true, laidKinds := [.data, .data, .data, .data, .sentinel, .sentinel, .pinned], laidTests := true, laidLooks := .later }
def SliceAllUptoCardSaid : Prop := Claim7.holds Tryz.pinned (.plain (OpenSpec.upto sliceAllSpec)) sliceAllUptoCard

/-- THE SECOND FORM's CARD OF 'shipwrightlaw7.SliceTurn'. -/
def sliceTurnUptoCard : Claim7 := { stood := { row := sliceTurnUptoRow, standIns := [], harness := (true, "ea74c96f55d1eae7e0f76fb72a22373a058dd3ac5178b8b664e12c17586d2cf4"), looks := true }, kinds := [], alts := [], laidByText := true, laidKinds := [.data, .data, .data, .data, .sentinel, .sentinel, .pinned], laidTests := true, laidLooks := .later }
def SliceTurnUptoCardSaid : Prop := Claim7.holds Tryz.pinned (.plain (OpenSpec.upto sliceTurnSpec)) sliceTurnUptoCard

/-- THE SECOND FORM's CARD OF 'shipwrightlaw7.StepFail'. -/
def stepFailUptoCard : Claim7 := { stood := { row := stepFailUptoRow, standIns := [], harness := (true, "ea74c96f55d1eae7e0f76fb72a22373a058dd3ac5178b8b664e12c17586d2cf4"), looks := true }, kinds := [], alts := [], laidByText := true, laidKinds := [.data, .data, .data, .data, .sentinel, .sentinel, .pinned], laidTests := true, laidLooks := .later }
def StepFailUptoCardSaid : Prop := Claim7.holds Tryz.pinned (.plain (OpenSpec.upto stepFailSpec)) stepFailUptoCard

/-- THE SECOND FORM's CARD OF 'shipwrightlaw7.StepConcat'. -/
def stepConcatUptoCard : Claim7 := { stood := { row := stepConcatUptoRow, standIns := [], harness := (true, "ea74c96f55d1eae7e0f76fb72a22373a058dd3ac5178b8b664e12c17586d2cf4"), looks := true }, kinds := [], alts := [], laidByText := true, laidKinds := [.data, .data, .data, .data, .sentinel, .sentinel, .pinned], laidTests := true, laidLooks := .later }
def StepConcatUptoCardSaid : Prop := Claim7.holds Tryz.pinned (.plain (OpenSpec.upto stepConcatSpec)) stepConcatUptoCard

/-- THE SECOND FORM's CARD OF 'shipwrightlaw7.StepReplace'. -/
def stepReplaceUptoCard : Claim7 := { stood := { row := stepReplaceUptoRow, standIns := [], harness := (true, "ea74c96f55d1eae7e0f76fb72a22373a058dd3ac5178b8b664e12c17586d2cf4"), looks := true }, kinds := [], alts := [], laidByText := true, laidKinds := [.data, .data, .data, .data, .sentinel, .sentinel, .pinned], laidTests := true, laidLooks := .later }
def StepReplaceUptoCardSaid : Prop := Claim7.holds Tryz.pinned (.plain (OpenSpec.upto stepReplaceSpec)) stepReplaceUptoCard

/-- THE SECOND FORM's CARD OF 'shipwrightlaw7.StepLines'. -/
def stepLinesUptoCard : Claim7 := { stood := { row := stepLinesUptoRow, standIns := [], harness := (true, "ea74c96f55d1eae7e0f76fb72a22373a058dd3ac5178b8b664e12c17586d2cf4"), looks := true }, kinds := [], alts := [], laidByText := true, laidKinds := [.data, .data, .data, .data, .sentinel, .sentinel, .pinned], laidTests := true, laidLooks := .later }
def StepLinesUptoCardSaid : Prop := Claim7.holds Tryz.pinned (.plain (OpenSpec.upto stepLinesSpec)) stepLinesUptoCard

/-- THE SECOND FORM's CARD OF 'shipwrightlaw7.RunPart'. -/
def runPartUptoCard : Claim7 := { stood := { row := runPartUptoRow, standIns := [], harness := (true, "ea74c96f55d1eae7e0f76fb72a22373a058dd3ac5178b8b664e12c17586d2cf4"), looks := true }, kinds := [], alts := [], laidByText := true, laidKinds := [.data, .data, .data, .data, .sentinel, .sentinel, .pinned], laidTests := true, laidLooks := .later }
def RunPartUptoCardSaid : Prop := Claim7.holds Tryz.pinned (.plain (OpenSpec.upto runPartSpec)) runPartUptoCard

/-- THE SECOND FORM's CARD OF 'shipwrightlaw7.RunNames'. -/
def runNamesUptoCard : Claim7 := { stood := { row := runNamesUptoRow, standIns := [], harness := (true, "ea74c96f55d1eae7e0f76fb72a22373a058dd3ac5178b8b664e12c17586d2cf4"), looks := true }, kinds := [], alts := [], laidByText := true, laidKinds := [.data, .data, .data, .data, .sentinel, .sentinel, .pinned], laidTests := true, laidLooks := .later }
def RunNamesUptoCardSaid : Prop := Claim7.holds Tryz.pinned (.plain (OpenSpec.upto runNamesSpec)) runNamesUptoCard

/-- THE SECOND FORM's CARD OF 'shipwrightlaw7.SliceSteps'. -/
def sliceStepsUptoCard : Claim7 := { stood := { row := sliceStepsUptoRow, standIns := [], harness := (true, "ea74c96f55d1eae7e0f76fb72a22373a058dd3ac5178b8b664e12c17586d2cf4"), looks := true }, kinds := [], alts := [], laidByText := true, laidKinds := [.data, .data, .data, .data, .sentinel, .sentinel, .pinned], laidTests := true, laidLooks := .later }
def SliceStepsUptoCardSaid : Prop := Claim7.holds Tryz.pinned (.plain (OpenSpec.upto sliceStepsSpec)) sliceStepsUptoCard
end Rows
end Go.Proofs.YtdpgdnpddndeoaaGreatDoor
