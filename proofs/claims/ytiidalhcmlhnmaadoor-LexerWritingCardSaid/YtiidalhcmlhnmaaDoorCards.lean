/-
  DERIVED. GIVEN WITH THE SEED: THE CARDS: each row of YtiidalhcmlhnmaaDoorRows.lean that lists a variable, with what it lists TIED to the program's text (the seventh form; the later family's looks); each row that meets fmt, with fmt's text TOLD by the authors' own Lean function (tested against real Go, not proved from fmt's source: count such statements apart). THE CARD IS WHAT COUNTS. Prove the row's statement (the work); the ties are given (YtiidalhcmlhnmaaDoorTie.lean); close each card by the builder's one call (the guide's Derived/Test/ToyasCard.lean, 'card_holds'). Laid BY PROGRAM, IN A SANDBOX (cutbox-door.mjs). By AI agents, Wed Nov 11 2026. No macro, syntax, notation, axiom, sorry.
-/
import Derived.Test.YtiidalhcmlhnmaaDoorRows
import GoSem.ClaimSeven
namespace Go.Proofs.YtiidalhcmlhnmaaDoor
namespace Rows

/-- THE TIED CARD OF 'slotmeshlaw01.LexerMatchesReference'. -/
def lexerMatchesReferenceCard : Claim7 := { stood := { row := lexerMatchesReferenceRow, standIns := [], harness := (true, "2492229512ac4070446df84fef0d0ca87ac8498d327c7b89d6210cf04abe032f"), looks := true }, kinds := [], alts := [], laidByText := true, laidKinds := [.data, .data, .data, .sentinel, .sentinel], laidTests := true, laidLooks := .later }
def LexerMatchesReferenceCardSaid : Prop := Claim7.holds Tryd.pinned (.plain (OpenSpec.ofChange lexerMatchesReferenceSpec)) lexerMatchesReferenceCard

/-- THE TIED CARD OF 'slotmeshlaw01.LexerOffsets'. -/
def lexerOffsetsCard : Claim7 := { stood := { row := lexerOffsetsRow, standIns := [], harness := (true, "2492229512ac4070446df84fef0d0ca87ac8498d327c7b89d6210cf04abe032f"), looks := true }, kinds := [], alts := [], laidByText := true, laidKinds := [.data, .data, .data, .sentinel, .sentinel], laidTests := true, laidLooks := .later }
def LexerOffsetsCardSaid : Prop := Claim7.holds Tryd.pinned (.plain (OpenSpec.ofChange lexerOffsetsSpec)) lexerOffsetsCard

/-- THE TIED CARD OF 'slotmeshlaw01.LexerGaps'. -/
def lexerGapsCard : Claim7 := { stood := { row := lexerGapsRow, standIns := [], harness := (true, "2492229512ac4070446df84fef0d0ca87ac8498d327c7b89d6210cf04abe032f"), looks := true }, kinds := [], alts := [], laidByText := true, laidKinds := [.data, .data, .data, .sentinel, .sentinel], laidTests := true, laidLooks := .later }
def LexerGapsCardSaid : Prop := Claim7.holds Tryd.pinned (.plain (OpenSpec.ofChange lexerGapsSpec)) lexerGapsCard

/-- THE TIED CARD OF 'slotmeshlaw01.LexerTwoScripts'. -/
def lexerTwoScriptsCard : Claim7 := { stood := { row := lexerTwoScriptsRow, standIns := [], harness := (true, "2492229512ac4070446df84fef0d0ca87ac8498d327c7b89d6210cf04abe032f"), looks := true }, kinds := [], alts := [], laidByText := true, laidKinds := [.data, .data, .data, .sentinel, .sentinel], laidTests := true, laidLooks := .later }
def LexerTwoScriptsCardSaid : Prop := Claim7.holds Tryd.pinned (.plain (OpenSpec.ofChange lexerTwoScriptsSpec)) lexerTwoScriptsCard

/-- THE TIED CARD OF 'slotmeshlaw01.LexerWriting'. -/
def lexerWritingCard : Claim7 := { stood := { row := lexerWritingRow, standIns := [], harness := (true, "2492229512ac4070446df84fef0d0ca87ac8498d327c7b89d6210cf04abe032f"), looks := true }, kinds := [], alts := [], laidByText := true, laidKinds := [.data, .data, .data, .sentinel, .sentinel], laidTests := true, laidLooks := .later }
def LexerWritingCardSaid : Prop := Claim7.holds Tryd.pinned (.plain (OpenSpec.ofChange lexerWritingSpec)) lexerWritingCard

/-- THE TIED CARD OF 'slotmeshlaw01.LexerErrors'. -/
def lexerErrorsCard : Claim7 := { stood := { row := lexerErrorsRow, standIns := [], harness := (true, "2492229512ac4070446df84fef0d0ca87ac8498d327c7b89d6210cf04abe032f"), looks := true }, kinds := [], alts := [], laidByText := true, laidKinds := [.data, .data, .data, .sentinel, .sentinel], laidTests := true, laidLooks := .later }
def LexerErrorsCardSaid : Prop := Claim7.holds Tryd.pinned (.plain (OpenSpec.ofChange lexerErrorsSpec)) lexerErrorsCard

/-- THE SECOND FORM's CARD OF 'slotmeshlaw01.LexerMatchesReference'. -/
def lexerMatchesReferenceUptoCard : Claim7 := { stood := { row := lexerMatchesReferenceUptoRow, standIns := [], harness := (true, "2492229512ac4070446df84fef0d0ca87ac8498d327c7b89d6210cf04abe032f"), looks := true }, kinds := [], alts := [], laidByText := true, laidKinds := [.data, .data, .data, .sentinel, .sentinel], laidTests := true, laidLooks := .later }
def LexerMatchesReferenceUptoCardSaid : Prop := Claim7.holds Tryd.pinned (.plain (OpenSpec.upto lexerMatchesReferenceSpec)) lexerMatchesReferenceUptoCard

/-- THE SECOND FORM's CARD OF 'slotmeshlaw01.LexerOffsets'. -/
def lexerOffsetsUptoCard : Claim7 := { stood := { row := lexerOffsetsUptoRow, standIns := [], harness := (true, "2492229512ac4070446df84fef0d0ca87ac8498d327c7b89d6210cf04abe032f"), looks := true }, kinds := [], alts := [], laidByText := true, laidKinds := [.data, .data, .data, .sentinel, .sentinel], laidTests := true, laidLooks := .later }
def LexerOffsetsUptoCardSaid : Prop := Claim7.holds Tryd.pinned (.plain (OpenSpec.upto lexerOffsetsSpec)) lexerOffsetsUptoCard

/-- THE SECOND FORM's CARD OF 'slotmeshlaw01.LexerGaps'. -/
def lexerGapsUptoCard : Claim7 := { stood := { row := lexerGapsUptoRow, standIns := [], harness := (true, "2492229512ac4070446df84fef0d0ca87ac8498d327c7b89d6210cf04abe032f"), looks := true }, kinds := [], alts := [], laidByText := true, laidKinds := [.data, .data, .data, .sentinel, .sentinel], laidTests := true, laidLooks := .later }
def LexerGapsUptoCardSaid : Prop := Claim7.holds Tryd.pinned (.plain (OpenSpec.upto lexerGapsSpec)) lexerGapsUptoCard

/-- THE SECOND FORM's CARD OF 'slotmeshlaw01.LexerTwoScripts'. -/
def lexerTwoScriptsUptoCard : Claim7 := { stood := { row := lexerTwoScriptsUptoRow, standIns := [], harness := (true, "2492229512ac4070446df84fef0d0ca87ac8498d327c7b89d6210cf04abe032f"), looks := true }, kinds := [], alts := [], laidByText := true, laidKinds := [.data, .data, .data, .sentinel, .sentinel], laidTests := true, laidLooks := .later }
def LexerTwoScriptsUptoCardSaid : Prop := Claim7.holds Tryd.pinned (.plain (OpenSpec.upto lexerTwoScriptsSpec)) lexerTwoScriptsUptoCard

/-- THE SECOND FORM's CARD OF 'slotmeshlaw01.LexerWriting'. -/
def lexerWritingUptoCard : Claim7 := { stood := { row := lexerWritingUptoRow, standIns := [], harness := (true, "2492229512ac4070446df84fef0d0ca87ac8498d327c7b89d6210cf04abe032f"), looks := true }, kinds := [], alts := [], laidByText := true, laidKinds := [.data, .data, .data, .sentinel, .sentinel], laidTests := true, laidLooks := .later }
def LexerWritingUptoCardSaid : Prop := Claim7.holds Tryd.pinned (.plain (OpenSpec.upto lexerWritingSpec)) lexerWritingUptoCard

/-- THE SECOND FORM's CARD OF 'slotmeshlaw01.LexerErrors'. -/
def lexerErrorsUptoCard : Claim7 := { stood := { row := lexerErrorsUptoRow, standIns := [], harness := (true, "2492229512ac4070446df84fef0d0ca87ac8498d327c7b89d6210cf04abe032f"), looks := true }, kinds := [], alts := [], laidByText := true, laidKinds := [.data, .data, .data, .sentinel, .sentinel], laidTests := true, laidLooks := .later }
def LexerErrorsUptoCardSaid : Prop := Claim7.holds Tryd.pinned (.plain (OpenSpec.upto lexerErrorsSpec)) lexerErrorsUptoCard
end Rows
end Go.Proofs.YtiidalhcmlhnmaaDoor
