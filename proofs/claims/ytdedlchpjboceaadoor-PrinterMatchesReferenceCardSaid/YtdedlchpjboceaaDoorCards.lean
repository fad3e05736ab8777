/-
  DERIVED. GIVEN WITH THE SEED: THE CARDS: each row of YtdedlchpjboceaaDoorRows.lean that lists a variable, with what it lists TIED to the program's text (the seventh form; the later family's looks); each row that meets fmt, with fmt's text TOLD by the authors' own Lean function (tested against real Go, not proved from fmt's source: count such statements apart). THE CARD IS WHAT COUNTS. Prove the row's statement (the work); the ties are given (YtdedlchpjboceaaDoorTie.lean); close each card by the builder's one call (the guide's Derived/Test/ToyasCard.lean, 'card_holds'). Laid BY PROGRAM, IN A SANDBOX (cutbox-door.mjs). By AI agents, Wed Nov 11 2026. No macro, syntax, notation, axiom, sorry.
-/
import Derived.Test.YtdedlchpjboceaaDoorRows
import GoSem.ClaimSeven
namespace Go.Proofs.YtdedlchpjboceaaDoor
namespace Rows

/-- THE TIED CARD OF 'slotmeshtop.TopSameScripts'. -/
def topSameScriptsCard : Claim7 := { stood := { row := topSameScriptsRow, standIns := [], harness := (true, "4bd8fd7cc011fa33a001e1e8ff03f499588148676cffa4664f8730ae8f1a7957"), looks := true }, kinds := [], alts := [], laidByText := true, laidKinds := [.data, .data, .data, .sentinel, .sentinel, .data], laidTests := true, laidLooks := .later }
def TopSameScriptsCardSaid : Prop := Claim7.holds Tryd.pinned (.plain (OpenSpec.ofChange topSameScriptsSpec)) topSameScriptsCard

/-- THE TIED CARD OF 'slotmeshtop.TopNames'. -/
def topNamesCard : Claim7 := { stood := { row := topNamesRow, standIns := [], harness := (true, "4bd8fd7cc011fa33a001e1e8ff03f499588148676cffa4664f8730ae8f1a7957"), looks := true }, kinds := [], alts := [], laidByText := true, laidKinds := [.data, .data, .data, .sentinel, .sentinel, .data], laidTests := true, laidLooks := .later }
def TopNamesCardSaid : Prop := Claim7.holds Tryd.pinned (.plain (OpenSpec.ofChange topNamesSpec)) topNamesCard

/-- THE TIED CARD OF 'slotmeshlaw03.PrinterMatchesReference'. -/
def printerMatchesReferenceCard : Claim7 := { stood := { row := printerMatchesReferenceRow, standIns := [], harness := (true, "4bd8fd7cc011fa33a001e1e8ff03f499588148676cffa4664f8730ae8f1a7957"), looks := true }, kinds := [], alts := [], laidByText := true, laidKinds := [.data, .data, .data, .sentinel, .sentinel, .data], laidTests := true, laidLooks := .later }
def PrinterMatchesReferenceCardSaid : Prop := Claim7.holds Tryd.pinned (.plain (OpenSpec.ofChange printerMatchesReferenceSpec)) printerMatchesReferenceCard

/-- THE TIED CARD OF 'slotmeshlaw03.PrinterJoins'. -/
def printerJoinsCard : Claim7 := { stood := { row := printerJoinsRow, standIns := [], harness := (true, "4bd8fd7cc011fa33a001e1e8ff03f499588148676cffa4664f8730ae8f1a7957"), looks := true }, kinds := [], alts := [], laidByText := true, laidKinds := [.data, .data, .data, .sentinel, .sentinel, .data], laidTests := true, laidLooks := .later }
def PrinterJoinsCardSaid : Prop := Claim7.holds Tryd.pinned (.plain (OpenSpec.ofChange printerJoinsSpec)) printerJoinsCard

/-- THE TIED CARD OF 'slotmeshlaw03.PrinterParts'. -/
def printerPartsCard : Claim7 := { stood := { row := printerPartsRow, standIns := [], harness := (true, "4bd8fd7cc011fa33a001e1e8ff03f499588148676cffa4664f8730ae8f1a7957"), looks := true }, kinds := [], alts := [], laidByText := true, laidKinds := [.data, .data, .data, .sentinel, .sentinel, .data], laidTests := true, laidLooks := .later }
def PrinterPartsCardSaid : Prop := Claim7.holds Tryd.pinned (.plain (OpenSpec.ofChange printerPartsSpec)) printerPartsCard

/-- THE TIED CARD OF 'slotmeshlaw03.PrinterDiffers'. -/
def printerDiffersCard : Claim7 := { stood := { row := printerDiffersRow, standIns := [], harness := (true, "4bd8fd7cc011fa33a001e1e8ff03f499588148676cffa4664f8730ae8f1a7957"), looks := true }, kinds := [], alts := [], laidByText := true, laidKinds := [.data, .data, .data, .sentinel, .sentinel, .data], laidTests := true, laidLooks := .later }
def PrinterDiffersCardSaid : Prop := Claim7.holds Tryd.pinned (.plain (OpenSpec.ofChange printerDiffersSpec)) printerDiffersCard

/-- THE TIED CARD OF 'slotmeshlaw02.ParserCommands'. -/
def parserCommandsCard : Claim7 := { stood := { row := parserCommandsRow, standIns := [], harness := (true, "4bd8fd7cc011fa33a001e1e8ff03f499588148676cffa4664f8730ae8f1a7957"), looks := true }, kinds := [], alts := [], laidByText := true, laidKinds := [.data, .data, .data, .sentinel, .sentinel], laidTests := true, laidLooks := .later }
def ParserCommandsCardSaid : Prop := Claim7.holds Tryd.pinned (.plain (OpenSpec.ofChange parserCommandsSpec)) parserCommandsCard

/-- THE TIED CARD OF 'slotmeshlaw02.ParserTexts'. -/
def parserTextsCard : Claim7 := { stood := { row := parserTextsRow, standIns := [], harness := (true, "4bd8fd7cc011fa33a001e1e8ff03f499588148676cffa4664f8730ae8f1a7957"), looks := true }, kinds := [], alts := [], laidByText := true, laidKinds := [.data, .data, .data, .sentinel, .sentinel], laidTests := true, laidLooks := .later }
def ParserTextsCardSaid : Prop := Claim7.holds Tryd.pinned (.plain (OpenSpec.ofChange parserTextsSpec)) parserTextsCard

/-- THE TIED CARD OF 'slotmeshlaw02.ParserJoining'. -/
def parserJoiningCard : Claim7 := { stood := { row := parserJoiningRow, standIns := [], harness := (true, "4bd8fd7cc011fa33a001e1e8ff03f499588148676cffa4664f8730ae8f1a7957"), looks := true }, kinds := [], alts := [], laidByText := true, laidKinds := [.data, .data, .data, .sentinel, .sentinel], laidTests := true, laidLooks := .later }
def ParserJoiningCardSaid : Prop := Claim7.holds Tryd.pinned (.plain (OpenSpec.ofChange parserJoiningSpec)) parserJoiningCard

/-- THE TIED CARD OF 'slotmeshlaw02.ParserErrors'. -/
def parserErrorsCard : Claim7 := { stood := { row := parserErrorsRow, standIns := [], harness := (true, "4bd8fd7cc011fa33a001e1e8ff03f499588148676cffa4664f8730ae8f1a7957"), looks := true }, kinds := [], alts := [], laidByText := true, laidKinds := [.data, .data, .data, .sentinel, .sentinel], laidTests := true, laidLooks := .later }
def ParserErrorsCardSaid : Prop := Claim7.holds Tryd.pinned (.plain (OpenSpec.ofChange parserErrorsSpec)) parserErrorsCard

/-- THE TIED CARD OF 'slotmeshlaw02.ParserBeginnings'. -/
def parserBeginningsCard : Claim7 := { stood := { row := parserBeginningsRow, standIns := [], harness := (true, "4bd8fd7cc011fa33a001e1e8ff03f499588148676cffa4664f8730ae8f1a7957"), looks := true }, kinds := [], alts := [], laidByText := true, laidKinds := [.data, .data, .data, .sentinel, .sentinel], laidTests := true, laidLooks := .later }
def ParserBeginningsCardSaid : Prop := Claim7.holds Tryd.pinned (.plain (OpenSpec.ofChange parserBeginningsSpec)) parserBeginningsCard

/-- THE TIED CARD OF 'slotmeshlaw02.ParserGaps'. -/
def parserGapsCard : Claim7 := { stood := { row := parserGapsRow, standIns := [], harness := (true, "4bd8fd7cc011fa33a001e1e8ff03f499588148676cffa4664f8730ae8f1a7957"), looks := true }, kinds := [], alts := [], laidByText := true, laidKinds := [.data, .data, .data, .sentinel, .sentinel], laidTests := true, laidLooks := .later }
def ParserGapsCardSaid : Prop := Claim7.holds Tryd.pinned (.plain (OpenSpec.ofChange parserGapsSpec)) parserGapsCard

/-- THE TIED CARD OF 'slotmeshlaw03.PrinterCanonical'. -/
def printerCanonicalCard : Claim7 := { stood := { row := printerCanonicalRow, standIns := [], harness := (true, "4bd8fd7cc011fa33a001e1e8ff03f499588148676cffa4664f8730ae8f1a7957"), looks := true }, kinds := [], alts := [], laidByText := true, laidKinds := [.data, .data, .data, .sentinel, .sentinel, .data], laidTests := true, laidLooks := .later }
def PrinterCanonicalCardSaid : Prop := Claim7.holds Tryd.pinned (.plain (OpenSpec.ofChange printerCanonicalSpec)) printerCanonicalCard

/-- THE TIED CARD OF 'slotmeshlaw03.PrinterLines'. -/
def printerLinesCard : Claim7 := { stood := { row := printerLinesRow, standIns := [], harness := (true, "4bd8fd7cc011fa33a001e1e8ff03f499588148676cffa4664f8730ae8f1a7957"), looks := true }, kinds := [], alts := [], laidByText := true, laidKinds := [.data, .data, .data, .sentinel, .sentinel, .data], laidTests := true, laidLooks := .later }
def PrinterLinesCardSaid : Prop := Claim7.holds Tryd.pinned (.plain (OpenSpec.ofChange printerLinesSpec)) printerLinesCard

/-- THE TIED CARD OF 'slotmeshlaw03.PrinterInverse'. -/
def printerInverseCard : Claim7 := { stood := { row := printerInverseRow, standIns := [], harness := (true, "4bd8fd7cc011fa33a001e1e8ff03f499588148676cffa4664f8730ae8f1a7957"), looks := true }, kinds := [], alts := [], laidByText := true, laidKinds := [.data, .data, .data, .sentinel, .sentinel, .data], laidTests := true, laidLooks := .later }
def PrinterInverseCardSaid : Prop := Claim7.holds Tryd.pinned (.plain (OpenSpec.ofChange printerInverseSpec)) printerInverseCard

/-- THE SECOND FORM's CARD OF 'slotmeshtop.TopSameScripts'. -/
def topSameScriptsUptoCard : Claim7 := { stood := { row := topSameScriptsUptoRow, standIns := [], harness := (true, "4bd8fd7cc011fa33a001e1e8ff03f499588148676cffa4664f8730ae8f1a7957"), looks := true }, kinds := [], alts := [], laidByText := true, laidKinds := [.data, .data, .data, .sentinel, .sentinel, .data], laidTests := true, laidLooks := .later }
def TopSameScriptsUptoCardSaid : Prop := Claim7.holds Tryd.pinned (.plain (OpenSpec.upto topSameScriptsSpec)) topSameScriptsUptoCard

/-- THE SECOND FORM's CARD OF 'slotmeshtop.TopNames'. -/
def topNamesUptoCard : Claim7 := { stood := { row := topNamesUptoRow, standIns := [], harness := (true, "4bd8fd7cc011fa33a001e1e8ff03f499588148676cffa4664f8730ae8f1a7957"), looks := true }, kinds := [], alts := [], laidByText := true, laidKinds := [.data, .data, .data, .sentinel, .sentinel, .data], laidTests := true, laidLooks := .later }
def TopNamesUptoCardSaid : Prop := Claim7.holds Tryd.pinned (.plain (OpenSpec.upto topNamesSpec)) topNamesUptoCard

/-- THE SECOND FORM's CARD OF 'slotmeshlaw03.PrinterMatchesReference'. -/
def printerMatchesReferenceUptoCard : Claim7 := { stood := { row := printerMatchesReferenceUptoRow, standIns := [], harness := (true, "4bd8fd7cc011fa33a001e1e8ff03f499588148676cffa4664f8730ae8f1a7957"), looks := true }, kinds := [], alts := [], laidByText := true, laidKinds := [.data, .data, .data, .sentinel, .sentinel, .data], laidTests := true, laidLooks := .later }
def PrinterMatchesReferenceUptoCardSaid : Prop := Claim7.holds Tryd.pinned (.plain (OpenSpec.upto printerMatchesReferenceSpec)) printerMatchesReferenceUptoCard

/-- THE SECOND FORM's CARD OF 'slotmeshlaw03.PrinterJoins'. -/
def printerJoinsUptoCard : Claim7 := { stood := { row := printerJoinsUptoRow, standIns := [], harness := (true, "4bd8fd7cc011fa33a001e1e8ff03f499588148676cffa4664f8730ae8f1a7957"), looks := true }, kinds := [], alts := [], laidByText := true, laidKinds := [.data, .data, .data, .sentinel, .sentinel, .data], laidTests := true, laidLooks := .later }
def PrinterJoinsUptoCardSaid : Prop := Claim7.holds Tryd.pinned (.plain (OpenSpec.upto printerJoinsSpec)) printerJoinsUptoCard

/-- THE SECOND FORM's CARD OF 'slotmeshlaw03.PrinterParts'. -/
def printerPartsUptoCard : Claim7 := { stood := { row := printerPartsUptoRow, standIns := [], harness := (true, "4bd8fd7cc011fa33a001e1e8ff03f499588148676cffa4664f8730ae8f1a7957"), looks := true }, kinds := [], alts := [], laidByText := true, laidKinds := [.data, .data, .data, .sentinel, .sentinel, .data], laidTests := true, laidLooks := .later }
def PrinterPartsUptoCardSaid : Prop := Claim7.holds Tryd.pinned (.plain (OpenSpec.upto printerPartsSpec)) printerPartsUptoCard

/-- THE SECOND FORM's CARD OF 'slotmeshlaw03.PrinterDiffers'. -/
def printerDiffersUptoCard : Claim7 := { stood := { row := printerDiffersUptoRow, standIns := [], harness := (true, "4bd8fd7cc011fa33a001e1e8ff03f499588148676cffa4664f8730ae8f1a7957"), looks := true }, kinds := [], alts := [], laidByText := true, laidKinds := [.data, .data, .data, .sentinel, .sentinel, .data], laidTests := true, laidLooks := .later }
def PrinterDiffersUptoCardSaid : Prop := Claim7.holds Tryd.pinned (.plain (OpenSpec.upto printerDiffersSpec)) printerDiffersUptoCard

/-- THE SECOND FORM's CARD OF 'slotmeshlaw02.ParserCommands'. -/
def parserCommandsUptoCard : Claim7 := { stood := { row := parserCommandsUptoRow, standIns := [], harness := (true, "4bd8fd7cc011fa33a001e1e8ff03f499588148676cffa4664f8730ae8f1a7957"), looks := true }, kinds := [], alts := [], laidByText := true, laidKinds := [.data, .data, .data, .sentinel, .sentinel], laidTests := true, laidLooks := .later }
def ParserCommandsUptoCardSaid : Prop := Claim7.holds Tryd.pinned (.plain (OpenSpec.upto parserCommandsSpec)) parserCommandsUptoCard

/-- THE SECOND FORM's CARD OF 'slotmeshlaw02.ParserTexts'. -/
def parserTextsUptoCard : Claim7 := { stood := { row := parserTextsUptoRow, standIns := [], harness := (true, "4bd8fd7cc011fa33a001e1e8ff03f499588148676cffa4664f8730ae8f1a7957"), looks := true }, kinds := [], alts := [], laidByText := true, laidKinds := [.data, .data, .data, .sentinel, .sentinel], laidTests := true, laidLooks := .later }
def ParserTextsUptoCardSaid : Prop := Claim7.holds Tryd.pinned (.plain (OpenSpec.upto parserTextsSpec)) parserTextsUptoCard

/-- THE SECOND FORM's CARD OF 'slotmeshlaw02.ParserJoining'. -/
def parserJoiningUptoCard : Claim7 := { stood := { row := parserJoiningUptoRow, standIns := [], harness := (true, "4bd8fd7cc011fa33a001e1e8ff03f499588148676cffa4664f8730ae8f1a7957"), looks := true }, kinds := [], alts := [], laidByText := true, laidKinds := [.data, .data, .data, .sentinel, .sentinel], laidTests := true, laidLooks := .later }
def ParserJoiningUptoCardSaid : Prop := Claim7.holds Tryd.pinned (.plain (OpenSpec.upto parserJoiningSpec)) parserJoiningUptoCard

/-- THE SECOND FORM's CARD OF 'slotmeshlaw02.ParserErrors'. -/
def parserErrorsUptoCard : Claim7 := { stood := { row := parserErrorsUptoRow, standIns := [], harness := (true, "4bd8fd7cc011fa33a001e1e8ff03f499588148676cffa4664f8730ae8f1a7957"), looks := true }, kinds := [], alts := [], laidByText := true, laidKinds := [.data, .data, .data, .sentinel, .sentinel], laidTests := true, laidLooks := .later }
def ParserErrorsUptoCardSaid : Prop := Claim7.holds Tryd.pinned (.plain (OpenSpec.upto parserErrorsSpec)) parserErrorsUptoCard

/-- THE SECOND FORM's CARD OF 'slotmeshlaw02.ParserBeginnings'. -/
def parserBeginningsUptoCard : Claim7 := { stood := { row := parserBeginningsUptoRow, standIns := [], harness := (true, "4bd8fd7cc011fa33a001e1e8ff03f499588148676cffa4664f8730ae8f1a7957"), looks := true }, kinds := [], alts := [], laidByText := true, laidKinds := [.data, .data, .data, .sentinel, .sentinel], laidTests := true, laidLooks := .later }
def ParserBeginningsUptoCardSaid : Prop := Claim7.holds Tryd.pinned (.plain (OpenSpec.upto parserBeginningsSpec)) parserBeginningsUptoCard

/-- THE SECOND FORM's CARD OF 'slotmeshlaw02.ParserGaps'. -/
def parserGapsUptoCard : Claim7 := { stood := { row := parserGapsUptoRow, standIns := [], harness := (true, "4bd8fd7cc011fa33a001e1e8ff03f499588148676cffa4664f8730ae8f1a7957"), looks := true }, kinds := [], alts := [], laidByText := true, laidKinds := [.data, .data, .data, .sentinel, .sentinel], laidTests := true, laidLooks := .later }
def ParserGapsUptoCardSaid : Prop := Claim7.holds Tryd.pinned (.plain (OpenSpec.upto parserGapsSpec)) parserGapsUptoCard

/-- THE SECOND FORM's CARD OF 'slotmeshlaw03.PrinterCanonical'. -/
def printerCanonicalUptoCard : Claim7 := { stood := { row := printerCanonicalUptoRow, standIns := [], harness := (true, "4bd8fd7cc011fa33a001e1e8ff03f499588148676cffa4664f8730ae8f1a7957"), looks := true }, kinds := [], alts := [], laidByText := true, laidKinds := [.data, .data, .data, .sentinel, .sentinel, .data], laidTests := true, laidLooks := .later }
def PrinterCanonicalUptoCardSaid : Prop := Claim7.holds Tryd.pinned (.plain (OpenSpec.upto printerCanonicalSpec)) printerCanonicalUptoCard

/-- THE SECOND FORM's CARD OF 'slotmeshlaw03.PrinterLines'. -/
def printerLinesUptoCard : Claim7 := { stood := { row := printerLinesUptoRow, standIns := [], harness := (true, "4bd8fd7cc011fa33a001e1e8ff03f499588148676cffa4664f8730ae8f1a7957"), looks := true }, kinds := [], alts := [], laidByText := true, laidKinds := [.data, .data, .data, .sentinel, .sentinel, .data], laidTests := true, laidLooks := .later }
def PrinterLinesUptoCardSaid : Prop := Claim7.holds Tryd.pinned (.plain (OpenSpec.upto printerLinesSpec)) printerLinesUptoCard

/-- THE SECOND FORM's CARD OF 'slotmeshlaw03.PrinterInverse'. -/
def printerInverseUptoCard : Claim7 := { stood := { row := printerInverseUptoRow, standIns := [], harness := (true, "4bd8fd7cc011fa33a001e1e8ff03f499588148676cffa4664f8730ae8f1a7957"), looks := true }, kinds := [], alts := [], laidByText := true, laidKinds := [.data, .data, .data, .sentinel, .sentinel, .data], laidTests := true, laidLooks := .later }
def PrinterInverseUptoCardSaid : Prop := Claim7.holds Tryd.pinned (.plain (OpenSpec.upto printerInverseSpec)) printerInverseUptoCard
end Rows
end Go.Proofs.YtdedlchpjboceaaDoor
