/-
  NARROWER THAN 'FOR EVERY INPUT', by the rows' own cells (each row's printed sentence says how): TopSameScripts: laid · TopNames: laid · PrinterMatchesReference: laid · PrinterJoins: laid · PrinterParts: laid · PrinterDiffers: laid · ParserCommands: laid · ParserTexts: laid · ParserJoining: laid · ParserErrors: laid · ParserBeginnings: laid · ParserGaps: laid · PrinterCanonical: laid · PrinterLines: laid · PrinterInverse: laid.
  DERIVED. THE GIVEN ROWS OF THIS SEAT. 15 by the template 'for every input the law returns true; each argument reads behind the call as it read before'; 0 by the template 'total and deterministic' (their statements: YtdedlchpjboceaaDoorTotals.lean).
  GIVEN WITH THE SEED: the statements are not yours to turn. If you find one false, say at which input.
  Laid BY PROGRAM, IN A SANDBOX (cutbox-rows.mjs): the forced cells as the released guide's own fill.sh prints them over the translation 96adb76365f7e147… (all of the seat's roots in one cut). By AI agents, Wed Nov 11 2026. No macro, syntax, notation, axiom, sorry.
-/
import Derived.Test.YtdedlchpjboceaaDoorChecked
import GoSem.Claim
import GoSem.ClaimJoined
import GoSem.ClaimMapViews
import Derived.JoinedTies
import Derived.KernelRfl
namespace Go.Proofs.YtdedlchpjboceaaDoor
/- THE CELL 'sum', in the pinned program and in every row, IS THE sha256 OF THE DUMP (.gsa) THAT YtdedlchpjboceaaDoorProg.lean LOADS. Nothing in Lean hashes anything: it is a label: what it is worth is what the hold of that sum in a sandbox is worth. -/
noncomputable def Tryd.pinned : Pinned := { name := "ytdedlchpjboceaadoor", sum := "96adb76365f7e1479abfdc88a361f42f23d6560505a5ac00c8dc4f4280b2b0cb", checked := Tryd.checked }
namespace Rows
def none {H : Type} : Left H := { results := [], args := [] }

/- WHAT THE LISTED PACKAGE-LEVEL VARIABLES READ AS WHEN THE CALL BEGINS. Each datum BY PROGRAM (the guide's laid-datum.mjs) off the statement by which the dump's own 'gosem.cut.vars' lays the variable. In a bare row this is a premise. The card (YtdedlchpjboceaaDoorCards.lean) ties it to the program's text. -/
def laid_math_bits_deBruijn32tab {H : Type} : DataW H := .agg [.lit (.int .u8 0), .lit (.int .u8 1), .lit (.int .u8 28), .lit (.int .u8 2), .lit (.int .u8 29), .lit (.int .u8 14), .lit (.int .u8 24), .lit (.int .u8 3), .lit (.int .u8 30), .lit (.int .u8 22), .lit (.int .u8 20), .lit (.int .u8 15), .lit (.int .u8 25), .lit (.int .u8 17), .lit (.int .u8 4), .lit (.int .u8 8), .lit (.int .u8 31), .lit (.int .u8 27), .lit (.int .u8 13), .lit (.int .u8 23), .lit (.int .u8 21), .lit (.int .u8 19), .lit (.int .u8 16), .lit (.int .u8 7), .lit (.int .u8 26), .lit (.int .u8 12), .lit (.int .u8 18), .lit (.int .u8 6), .lit (.int .u8 11), .lit (.int .u8 5), .lit (.int .u8 10), .lit (.int .u8 9)]
def laid_math_bits_deBruijn64tab {H : Type} : DataW H := .agg [.lit (.int .u8 0), .lit (.int .u8 1), .lit (.int .u8 56), .lit (.int .u8 2), .lit (.int .u8 57), .lit (.int .u8 49), .lit (.int .u8 28), .lit (.int .u8 3), .lit (.int .u8 61), .lit (.int .u8 58), .lit (.int .u8 42), .lit (.int .u8 50), .lit (.int .u8 38), .lit (.int .u8 29), .lit (.int .u8 17), .lit (.int .u8 4), .lit (.int .u8 62), .lit (.int .u8 47), .lit (.int .u8 59), .lit (.int .u8 36), .lit (.int .u8 45), .lit (.int .u8 43), .lit (.int .u8 51), .lit (.int .u8 22), .lit (.int .u8 53), .lit (.int .u8 39), .lit (.int .u8 33), .lit (.int .u8 30), .lit (.int .u8 24), .lit (.int .u8 18), .lit (.int .u8 12), .lit (.int .u8 5), .lit (.int .u8 63), .lit (.int .u8 55), .lit (.int .u8 48), .lit (.int .u8 27), .lit (.int .u8 60), .lit (.int .u8 41), .lit (.int .u8 37), .lit (.int .u8 16), .lit (.int .u8 46), .lit (.int .u8 35), .lit (.int .u8 44), .lit (.int .u8 21), .lit (.int .u8 52), .lit (.int .u8 32), .lit (.int .u8 23), .lit (.int .u8 11), .lit (.int .u8 54), .lit (.int .u8 26), .lit (.int .u8 40), .lit (.int .u8 15), .lit (.int .u8 34), .lit (.int .u8 20), .lit (.int .u8 31), .lit (.int .u8 10), .lit (.int .u8 25), .lit (.int .u8 14), .lit (.int .u8 19), .lit (.int .u8 9), .lit (.int .u8 13), .lit (.int .u8 8), .lit (.int .u8 7), .lit (.int .u8 6)]
def laid_internal_strconv_uint64pow10 {H : Type} : DataW H := .agg [.lit (.int .u64 1), .lit (.int .u64 10), .lit (.int .u64 100), .lit (.int .u64 1000), .lit (.int .u64 10000), .lit (.int .u64 100000), .lit (.int .u64 1000000), .lit (.int .u64 10000000), .lit (.int .u64 100000000), .lit (.int .u64 1000000000), .lit (.int .u64 10000000000), .lit (.int .u64 100000000000), .lit (.int .u64 1000000000000), .lit (.int .u64 10000000000000), .lit (.int .u64 100000000000000), .lit (.int .u64 1000000000000000), .lit (.int .u64 10000000000000000), .lit (.int .u64 100000000000000000), .lit (.int .u64 1000000000000000000), .lit (.int .u64 10000000000000000000)]
def laid_strconv_ErrRange {H : Type} : DataW H := .iface "*errors.errorString" (.ptr (.agg [.lit (.string [118, 97, 108, 117, 101, 32, 111, 117, 116, 32, 111, 102, 32, 114, 97, 110, 103, 101])]))
def laid_strconv_ErrSyntax {H : Type} : DataW H := .iface "*errors.errorString" (.ptr (.agg [.lit (.string [105, 110, 118, 97, 108, 105, 100, 32, 115, 121, 110, 116, 97, 120])]))
def laid_slotmesh_printer_forms {H : Type} : DataW H := .agg [.lit (.string []), .lit (.string [109, 101, 115, 104, 32, 100, 97, 116, 97, 32, 35, 32, 114, 97, 110, 103, 101, 32, 35]), .lit (.string [114, 111, 111, 116, 32, 78, 32, 97, 116, 32, 35, 32, 35]), .lit (.string [110, 111, 100, 101, 32, 78, 32, 97, 116, 32, 35, 32, 35, 32, 37, 32, 98, 97, 116, 116, 101, 114, 121, 32, 35]), .lit (.string [97, 116, 32, 35, 32, 109, 111, 118, 101, 32, 78, 32, 35, 32, 35]), .lit (.string [97, 116, 32, 35, 32, 102, 97, 105, 108, 32, 78]), .lit (.string [97, 116, 32, 35, 32, 115, 116, 97, 114, 116, 32, 78]), .lit (.string [97, 116, 32, 35, 32, 114, 101, 97, 100, 32, 78, 32, 35]), .lit (.string [97, 116, 32, 35, 32, 106, 97, 109, 32, 35, 32, 35, 32, 114, 97, 100, 105, 117, 115, 32, 35, 32, 99, 104, 97, 110, 110, 101, 108, 32, 35, 32, 102, 111, 114, 32, 35]), .lit (.string [97, 116, 32, 35, 32, 114, 101, 112, 108, 97, 121, 32, 35, 32, 97, 116, 32, 35, 32, 35]), .lit (.string [97, 116, 32, 35, 32, 112, 114, 111, 103, 114, 97, 109, 32, 35, 32, 115, 105, 122, 101, 32, 35]), .lit (.string [114, 117, 110, 32, 35])]

/-- 'slotmeshtop.TopSameScripts': WHATEVER THE INPUT: true; the input reads as it did. -/
def topSameScriptsSpec : ChangeSpec := { name := "topSameScripts", fn := fun _ => fun
  | [d1, d2] => { results := [.lit (.bool true)], args := [d1, d2] }
  | _ => none }
def topSameScriptsRow : OpenClaim := { program := "ytdedlchpjboceaadoor", sum := "96adb76365f7e1479abfdc88a361f42f23d6560505a5ac00c8dc4f4280b2b0cb", func := "slotmesh/slotmeshtop.TopSameScripts", spec := "topSameScripts", inPlace := ["internal/abi.NoEscape"], unfollowed := true, recurses := true, named := ["strconv.ErrSyntax", "strconv.ErrRange", "internal/strconv.uint64pow10", "math/bits.deBruijn32tab", "math/bits.deBruijn64tab", "slotmesh/printer.forms"], apart := false, laid := [("math/bits.deBruijn32tab", laid_math_bits_deBruijn32tab), ("math/bits.deBruijn64tab", laid_math_bits_deBruijn64tab), ("internal/strconv.uint64pow10", laid_internal_strconv_uint64pow10), ("strconv.ErrRange", laid_strconv_ErrRange), ("strconv.ErrSyntax", laid_strconv_ErrSyntax), ("slotmesh/printer.forms", laid_slotmesh_printer_forms)] }
def TopSameScriptsSaid : Prop := topSameScriptsRow.holds Tryd.pinned (OpenSpec.ofChange topSameScriptsSpec)

/-- ITS FALSE NEIGHBOUR: 'it returns false'. Refute it at one input. -/
def topSameScriptsWrong : ChangeSpec := { name := "topSameScripts", fn := fun _ => fun
  | [d1, d2] => { results := [.lit (.bool false)], args := [d1, d2] }
  | _ => none }
def TopSameScriptsWrongFalsely : Prop := topSameScriptsRow.holds Tryd.pinned (OpenSpec.ofChange topSameScriptsWrong)

/-- 'slotmeshtop.TopNames': WHATEVER THE INPUT: true; the input reads as it did. -/
def topNamesSpec : ChangeSpec := { name := "topNames", fn := fun _ => fun
  | [d] => { results := [.lit (.bool true)], args := [d] }
  | _ => none }
def topNamesRow : OpenClaim := { program := "ytdedlchpjboceaadoor", sum := "96adb76365f7e1479abfdc88a361f42f23d6560505a5ac00c8dc4f4280b2b0cb", func := "slotmesh/slotmeshtop.TopNames", spec := "topNames", inPlace := ["internal/abi.NoEscape"], unfollowed := true, recurses := true, named := ["strconv.ErrSyntax", "strconv.ErrRange", "internal/strconv.uint64pow10", "math/bits.deBruijn32tab", "math/bits.deBruijn64tab", "slotmesh/printer.forms"], apart := false, laid := [("math/bits.deBruijn32tab", laid_math_bits_deBruijn32tab), ("math/bits.deBruijn64tab", laid_math_bits_deBruijn64tab), ("internal/strconv.uint64pow10", laid_internal_strconv_uint64pow10), ("strconv.ErrRange", laid_strconv_ErrRange), ("strconv.ErrSyntax", laid_strconv_ErrSyntax), ("slotmesh/printer.forms", laid_slotmesh_printer_forms)] }
def TopNamesSaid : Prop := topNamesRow.holds Tryd.pinned (OpenSpec.ofChange topNamesSpec)

/-- ITS FALSE NEIGHBOUR: 'it returns false'. Refute it at one input. -/
def topNamesWrong : ChangeSpec := { name := "topNames", fn := fun _ => fun
  | [d] => { results := [.lit (.bool false)], args := [d] }
  | _ => none }
def TopNamesWrongFalsely : Prop := topNamesRow.holds Tryd.pinned (OpenSpec.ofChange topNamesWrong)

/-- 'slotmeshlaw03.PrinterMatchesReference': WHATEVER THE INPUT: true; the input reads as it did. -/
def printerMatchesReferenceSpec : ChangeSpec := { name := "printerMatchesReference", fn := fun _ => fun
  | [d] => { results := [.lit (.bool true)], args := [d] }
  | _ => none }
def printerMatchesReferenceRow : OpenClaim := { program := "ytdedlchpjboceaadoor", sum := "96adb76365f7e1479abfdc88a361f42f23d6560505a5ac00c8dc4f4280b2b0cb", func := "slotmesh/slotmeshlaw03.PrinterMatchesReference", spec := "printerMatchesReference", inPlace := ["internal/abi.NoEscape"], unfollowed := true, recurses := true, named := ["slotmesh/printer.forms", "internal/strconv.uint64pow10", "math/bits.deBruijn32tab", "math/bits.deBruijn64tab", "strconv.ErrSyntax", "strconv.ErrRange"], apart := false, laid := [("math/bits.deBruijn32tab", laid_math_bits_deBruijn32tab), ("math/bits.deBruijn64tab", laid_math_bits_deBruijn64tab), ("internal/strconv.uint64pow10", laid_internal_strconv_uint64pow10), ("strconv.ErrRange", laid_strconv_ErrRange), ("strconv.ErrSyntax", laid_strconv_ErrSyntax), ("slotmesh/printer.forms", laid_slotmesh_printer_forms)] }
def PrinterMatchesReferenceSaid : Prop := printerMatchesReferenceRow.holds Tryd.pinned (OpenSpec.ofChange printerMatchesReferenceSpec)

/-- ITS FALSE NEIGHBOUR: 'it returns false'. Refute it at one input. -/
def printerMatchesReferenceWrong : ChangeSpec := { name := "printerMatchesReference", fn := fun _ => fun
  | [d] => { results := [.lit (.bool false)], args := [d] }
  | _ => none }
def PrinterMatchesReferenceWrongFalsely : Prop := printerMatchesReferenceRow.holds Tryd.pinned (OpenSpec.ofChange printerMatchesReferenceWrong)

/-- 'slotmeshlaw03.PrinterJoins': WHATEVER THE INPUT: true; the input reads as it did. -/
def printerJoinsSpec : ChangeSpec := { name := "printerJoins", fn := fun _ => fun
  | [d1, d2] => { results := [.lit (.bool true)], args := [d1, d2] }
  | _ => none }
def printerJoinsRow : OpenClaim := { program := "ytdedlchpjboceaadoor", sum := "96adb76365f7e1479abfdc88a361f42f23d6560505a5ac00c8dc4f4280b2b0cb", func := "slotmesh/slotmeshlaw03.PrinterJoins", spec := "printerJoins", inPlace := ["internal/abi.NoEscape"], unfollowed := true, recurses := true, named := ["slotmesh/printer.forms", "internal/strconv.uint64pow10", "math/bits.deBruijn32tab", "math/bits.deBruijn64tab", "strconv.ErrSyntax", "strconv.ErrRange"], apart := false, laid := [("math/bits.deBruijn32tab", laid_math_bits_deBruijn32tab), ("math/bits.deBruijn64tab", laid_math_bits_deBruijn64tab), ("internal/strconv.uint64pow10", laid_internal_strconv_uint64pow10), ("strconv.ErrRange", laid_strconv_ErrRange), ("strconv.ErrSyntax", laid_strconv_ErrSyntax), ("slotmesh/printer.forms", laid_slotmesh_printer_forms)] }
def PrinterJoinsSaid : Prop := printerJoinsRow.holds Tryd.pinned (OpenSpec.ofChange printerJoinsSpec)

/-- ITS FALSE NEIGHBOUR: 'it returns false'. Refute it at one input. -/
def printerJoinsWrong : ChangeSpec := { name := "printerJoins", fn := fun _ => fun
  | [d1, d2] => { results := [.lit (.bool false)], args := [d1, d2] }
  | _ => none }
def PrinterJoinsWrongFalsely : Prop := printerJoinsRow.holds Tryd.pinned (OpenSpec.ofChange printerJoinsWrong)

/-- 'slotmeshlaw03.PrinterParts': WHATEVER THE INPUT: true; the input reads as it did. -/
def printerPartsSpec : ChangeSpec := { name := "printerParts", fn := fun _ => fun
  | [d1, d2, d3] => { results := [.lit (.bool true)], args := [d1, d2, d3] }
  | _ => none }
def printerPartsRow : OpenClaim := { program := "ytdedlchpjboceaadoor", sum := "96adb76365f7e1479abfdc88a361f42f23d6560505a5ac00c8dc4f4280b2b0cb", func := "slotmesh/slotmeshlaw03.PrinterParts", spec := "printerParts", inPlace := ["internal/abi.NoEscape"], unfollowed := true, recurses := true, named := ["slotmesh/printer.forms", "internal/strconv.uint64pow10", "math/bits.deBruijn32tab", "math/bits.deBruijn64tab", "strconv.ErrSyntax", "strconv.ErrRange"], apart := false, laid := [("math/bits.deBruijn32tab", laid_math_bits_deBruijn32tab), ("math/bits.deBruijn64tab", laid_math_bits_deBruijn64tab), ("internal/strconv.uint64pow10", laid_internal_strconv_uint64pow10), ("strconv.ErrRange", laid_strconv_ErrRange), ("strconv.ErrSyntax", laid_strconv_ErrSyntax), ("slotmesh/printer.forms", laid_slotmesh_printer_forms)] }
def PrinterPartsSaid : Prop := printerPartsRow.holds Tryd.pinned (OpenSpec.ofChange printerPartsSpec)

/-- ITS FALSE NEIGHBOUR: 'it returns false'. Refute it at one input. -/
def printerPartsWrong : ChangeSpec := { name := "printerParts", fn := fun _ => fun
  | [d1, d2, d3] => { results := [.lit (.bool false)], args := [d1, d2, d3] }
  | _ => none }
def PrinterPartsWrongFalsely : Prop := printerPartsRow.holds Tryd.pinned (OpenSpec.ofChange printerPartsWrong)

/-- 'slotmeshlaw03.PrinterDiffers': WHATEVER THE INPUT: true; the input reads as it did. -/
def printerDiffersSpec : ChangeSpec := { name := "printerDiffers", fn := fun _ => fun
  | [d1, d2] => { results := [.lit (.bool true)], args := [d1, d2] }
  | _ => none }
def printerDiffersRow : OpenClaim := { program := "ytdedlchpjboceaadoor", sum := "96adb76365f7e1479abfdc88a361f42f23d6560505a5ac00c8dc4f4280b2b0cb", func := "slotmesh/slotmeshlaw03.PrinterDiffers", spec := "printerDiffers", inPlace := ["internal/abi.NoEscape"], unfollowed := true, recurses := true, named := ["slotmesh/printer.forms", "internal/strconv.uint64pow10", "math/bits.deBruijn32tab", "math/bits.deBruijn64tab", "strconv.ErrSyntax", "strconv.ErrRange"], apart := false, laid := [("math/bits.deBruijn32tab", laid_math_bits_deBruijn32tab), ("math/bits.deBruijn64tab", laid_math_bits_deBruijn64tab), ("internal/strconv.uint64pow10", laid_internal_strconv_uint64pow10), ("strconv.ErrRange", laid_strconv_ErrRange), ("strconv.ErrSyntax", laid_strconv_ErrSyntax), ("slotmesh/printer.forms", laid_slotmesh_printer_forms)] }
def PrinterDiffersSaid : Prop := printerDiffersRow.holds Tryd.pinned (OpenSpec.ofChange printerDiffersSpec)

/-- ITS FALSE NEIGHBOUR: 'it returns false'. Refute it at one input. -/
def printerDiffersWrong : ChangeSpec := { name := "printerDiffers", fn := fun _ => fun
  | [d1, d2] => { results := [.lit (.bool false)], args := [d1, d2] }
  | _ => none }
def PrinterDiffersWrongFalsely : Prop := printerDiffersRow.holds Tryd.pinned (OpenSpec.ofChange printerDiffersWrong)

/-- 'slotmeshlaw02.ParserCommands': WHATEVER THE INPUT: true; the input reads as it did. -/
def parserCommandsSpec : ChangeSpec := { name := "parserCommands", fn := fun _ => fun
  | [d] => { results := [.lit (.bool true)], args := [d] }
  | _ => none }
def parserCommandsRow : OpenClaim := { program := "ytdedlchpjboceaadoor", sum := "96adb76365f7e1479abfdc88a361f42f23d6560505a5ac00c8dc4f4280b2b0cb", func := "slotmesh/slotmeshlaw02.ParserCommands", spec := "parserCommands", unfollowed := true, recurses := true, named := ["strconv.ErrSyntax", "strconv.ErrRange", "internal/strconv.uint64pow10", "math/bits.deBruijn32tab", "math/bits.deBruijn64tab"], apart := false, laid := [("math/bits.deBruijn32tab", laid_math_bits_deBruijn32tab), ("math/bits.deBruijn64tab", laid_math_bits_deBruijn64tab), ("internal/strconv.uint64pow10", laid_internal_strconv_uint64pow10), ("strconv.ErrRange", laid_strconv_ErrRange), ("strconv.ErrSyntax", laid_strconv_ErrSyntax)] }
def ParserCommandsSaid : Prop := parserCommandsRow.holds Tryd.pinned (OpenSpec.ofChange parserCommandsSpec)

/-- ITS FALSE NEIGHBOUR: 'it returns false'. Refute it at one input. -/
def parserCommandsWrong : ChangeSpec := { name := "parserCommands", fn := fun _ => fun
  | [d] => { results := [.lit (.bool false)], args := [d] }
  | _ => none }
def ParserCommandsWrongFalsely : Prop := parserCommandsRow.holds Tryd.pinned (OpenSpec.ofChange parserCommandsWrong)

/-- 'slotmeshlaw02.ParserTexts': WHATEVER THE INPUT: true; the input reads as it did. -/
def parserTextsSpec : ChangeSpec := { name := "parserTexts", fn := fun _ => fun
  | [d] => { results := [.lit (.bool true)], args := [d] }
  | _ => none }
def parserTextsRow : OpenClaim := { program := "ytdedlchpjboceaadoor", sum := "96adb76365f7e1479abfdc88a361f42f23d6560505a5ac00c8dc4f4280b2b0cb", func := "slotmesh/slotmeshlaw02.ParserTexts", spec := "parserTexts", unfollowed := true, recurses := true, named := ["strconv.ErrSyntax", "strconv.ErrRange", "internal/strconv.uint64pow10", "math/bits.deBruijn32tab", "math/bits.deBruijn64tab"], apart := false, laid := [("math/bits.deBruijn32tab", laid_math_bits_deBruijn32tab), ("math/bits.deBruijn64tab", laid_math_bits_deBruijn64tab), ("internal/strconv.uint64pow10", laid_internal_strconv_uint64pow10), ("strconv.ErrRange", laid_strconv_ErrRange), ("strconv.ErrSyntax", laid_strconv_ErrSyntax)] }
def ParserTextsSaid : Prop := parserTextsRow.holds Tryd.pinned (OpenSpec.ofChange parserTextsSpec)

/-- ITS FALSE NEIGHBOUR: 'it returns false'. Refute it at one input. -/
def parserTextsWrong : ChangeSpec := { name := "parserTexts", fn := fun _ => fun
  | [d] => { results := [.lit (.bool false)], args := [d] }
  | _ => none }
def ParserTextsWrongFalsely : Prop := parserTextsRow.holds Tryd.pinned (OpenSpec.ofChange parserTextsWrong)

/-- 'slotmeshlaw02.ParserJoining': WHATEVER THE INPUT: true; the input reads as it did. -/
def parserJoiningSpec : ChangeSpec := { name := "parserJoining", fn := fun _ => fun
  | [d1, d2] => { results := [.lit (.bool true)], args := [d1, d2] }
  | _ => none }
def parserJoiningRow : OpenClaim := { program := "ytdedlchpjboceaadoor", sum := "96adb76365f7e1479abfdc88a361f42f23d6560505a5ac00c8dc4f4280b2b0cb", func := "slotmesh/slotmeshlaw02.ParserJoining", spec := "parserJoining", unfollowed := true, recurses := true, named := ["strconv.ErrSyntax", "strconv.ErrRange", "internal/strconv.uint64pow10", "math/bits.deBruijn32tab", "math/bits.deBruijn64tab"], apart := false, laid := [("math/bits.deBruijn32tab", laid_math_bits_deBruijn32tab), ("math/bits.deBruijn64tab", laid_math_bits_deBruijn64tab), ("internal/strconv.uint64pow10", laid_internal_strconv_uint64pow10), ("strconv.ErrRange", laid_strconv_ErrRange), ("strconv.ErrSyntax", laid_strconv_ErrSyntax)] }
def ParserJoiningSaid : Prop := parserJoiningRow.holds Tryd.pinned (OpenSpec.ofChange parserJoiningSpec)

/-- ITS FALSE NEIGHBOUR: 'it returns false'. Refute it at one input. -/
def parserJoiningWrong : ChangeSpec := { name := "parserJoining", fn := fun _ => fun
  | [d1, d2] => { results := [.lit (.bool false)], args := [d1, d2] }
  | _ => none }
def ParserJoiningWrongFalsely : Prop := parserJoiningRow.holds Tryd.pinned (OpenSpec.ofChange parserJoiningWrong)

/-- 'slotmeshlaw02.ParserErrors': WHATEVER THE INPUT: true; the input reads as it did. -/
def parserErrorsSpec : ChangeSpec := { name := "parserErrors", fn := fun _ => fun
  | [d1, d2, d3] => { results := [.lit (.bool true)], args := [d1, d2, d3] }
  | _ => none }
def parserErrorsRow : OpenClaim := { program := "ytdedlchpjboceaadoor", sum := "96adb76365f7e1479abfdc88a361f42f23d6560505a5ac00c8dc4f4280b2b0cb", func := "slotmesh/slotmeshlaw02.ParserErrors", spec := "parserErrors", unfollowed := true, recurses := true, named := ["strconv.ErrSyntax", "strconv.ErrRange", "internal/strconv.uint64pow10", "math/bits.deBruijn32tab", "math/bits.deBruijn64tab"], apart := false, laid := [("math/bits.deBruijn32tab", laid_math_bits_deBruijn32tab), ("math/bits.deBruijn64tab", laid_math_bits_deBruijn64tab), ("internal/strconv.uint64pow10", laid_internal_strconv_uint64pow10), ("strconv.ErrRange", laid_strconv_ErrRange), ("strconv.ErrSyntax", laid_strconv_ErrSyntax)] }
def ParserErrorsSaid : Prop := parserErrorsRow.holds Tryd.pinned (OpenSpec.ofChange parserErrorsSpec)

/-- ITS FALSE NEIGHBOUR: 'it returns false'. Refute it at one input. -/
def parserErrorsWrong : ChangeSpec := { name := "parserErrors", fn := fun _ => fun
  | [d1, d2, d3] => { results := [.lit (.bool false)], args := [d1, d2, d3] }
  | _ => none }
def ParserErrorsWrongFalsely : Prop := parserErrorsRow.holds Tryd.pinned (OpenSpec.ofChange parserErrorsWrong)

/-- 'slotmeshlaw02.ParserBeginnings': WHATEVER THE INPUT: true; the input reads as it did. -/
def parserBeginningsSpec : ChangeSpec := { name := "parserBeginnings", fn := fun _ => fun
  | [d1, d2] => { results := [.lit (.bool true)], args := [d1, d2] }
  | _ => none }
def parserBeginningsRow : OpenClaim := { program := "ytdedlchpjboceaadoor", sum := "96adb76365f7e1479abfdc88a361f42f23d6560505a5ac00c8dc4f4280b2b0cb", func := "slotmesh/slotmeshlaw02.ParserBeginnings", spec := "parserBeginnings", unfollowed := true, recurses := true, named := ["strconv.ErrSyntax", "strconv.ErrRange", "internal/strconv.uint64pow10", "math/bits.deBruijn32tab", "math/bits.deBruijn64tab"], apart := false, laid := [("math/bits.deBruijn32tab", laid_math_bits_deBruijn32tab), ("math/bits.deBruijn64tab", laid_math_bits_deBruijn64tab), ("internal/strconv.uint64pow10", laid_internal_strconv_uint64pow10), ("strconv.ErrRange", laid_strconv_ErrRange), ("strconv.ErrSyntax", laid_strconv_ErrSyntax)] }
def ParserBeginningsSaid : Prop := parserBeginningsRow.holds Tryd.pinned (OpenSpec.ofChange parserBeginningsSpec)

/-- ITS FALSE NEIGHBOUR: 'it returns false'. Refute it at one input. -/
def parserBeginningsWrong : ChangeSpec := { name := "parserBeginnings", fn := fun _ => fun
  | [d1, d2] => { results := [.lit (.bool false)], args := [d1, d2] }
  | _ => none }
def ParserBeginningsWrongFalsely : Prop := parserBeginningsRow.holds Tryd.pinned (OpenSpec.ofChange parserBeginningsWrong)

/-- 'slotmeshlaw02.ParserGaps': WHATEVER THE INPUT: true; the input reads as it did. -/
def parserGapsSpec : ChangeSpec := { name := "parserGaps", fn := fun _ => fun
  | [d1, d2] => { results := [.lit (.bool true)], args := [d1, d2] }
  | _ => none }
def parserGapsRow : OpenClaim := { program := "ytdedlchpjboceaadoor", sum := "96adb76365f7e1479abfdc88a361f42f23d6560505a5ac00c8dc4f4280b2b0cb", func := "slotmesh/slotmeshlaw02.ParserGaps", spec := "parserGaps", unfollowed := true, recurses := true, named := ["strconv.ErrSyntax", "strconv.ErrRange", "internal/strconv.uint64pow10", "math/bits.deBruijn32tab", "math/bits.deBruijn64tab"], apart := false, laid := [("math/bits.deBruijn32tab", laid_math_bits_deBruijn32tab), ("math/bits.deBruijn64tab", laid_math_bits_deBruijn64tab), ("internal/strconv.uint64pow10", laid_internal_strconv_uint64pow10), ("strconv.ErrRange", laid_strconv_ErrRange), ("strconv.ErrSyntax", laid_strconv_ErrSyntax)] }
def ParserGapsSaid : Prop := parserGapsRow.holds Tryd.pinned (OpenSpec.ofChange parserGapsSpec)

/-- ITS FALSE NEIGHBOUR: 'it returns false'. Refute it at one input. -/
def parserGapsWrong : ChangeSpec := { name := "parserGaps", fn := fun _ => fun
  | [d1, d2] => { results := [.lit (.bool false)], args := [d1, d2] }
  | _ => none }
def ParserGapsWrongFalsely : Prop := parserGapsRow.holds Tryd.pinned (OpenSpec.ofChange parserGapsWrong)

/-- 'slotmeshlaw03.PrinterCanonical': WHATEVER THE INPUT: true; the input reads as it did. -/
def printerCanonicalSpec : ChangeSpec := { name := "printerCanonical", fn := fun _ => fun
  | [d1, d2] => { results := [.lit (.bool true)], args := [d1, d2] }
  | _ => none }
def printerCanonicalRow : OpenClaim := { program := "ytdedlchpjboceaadoor", sum := "96adb76365f7e1479abfdc88a361f42f23d6560505a5ac00c8dc4f4280b2b0cb", func := "slotmesh/slotmeshlaw03.PrinterCanonical", spec := "printerCanonical", inPlace := ["internal/abi.NoEscape"], unfollowed := true, recurses := true, named := ["slotmesh/printer.forms", "internal/strconv.uint64pow10", "math/bits.deBruijn32tab", "math/bits.deBruijn64tab", "strconv.ErrSyntax", "strconv.ErrRange"], apart := false, laid := [("math/bits.deBruijn32tab", laid_math_bits_deBruijn32tab), ("math/bits.deBruijn64tab", laid_math_bits_deBruijn64tab), ("internal/strconv.uint64pow10", laid_internal_strconv_uint64pow10), ("strconv.ErrRange", laid_strconv_ErrRange), ("strconv.ErrSyntax", laid_strconv_ErrSyntax), ("slotmesh/printer.forms", laid_slotmesh_printer_forms)] }
def PrinterCanonicalSaid : Prop := printerCanonicalRow.holds Tryd.pinned (OpenSpec.ofChange printerCanonicalSpec)

/-- ITS FALSE NEIGHBOUR: 'it returns false'. Refute it at one input. -/
def printerCanonicalWrong : ChangeSpec := { name := "printerCanonical", fn := fun _ => fun
  | [d1, d2] => { results := [.lit (.bool false)], args := [d1, d2] }
  | _ => none }
def PrinterCanonicalWrongFalsely : Prop := printerCanonicalRow.holds Tryd.pinned (OpenSpec.ofChange printerCanonicalWrong)

/-- 'slotmeshlaw03.PrinterLines': WHATEVER THE INPUT: true; the input reads as it did. -/
def printerLinesSpec : ChangeSpec := { name := "printerLines", fn := fun _ => fun
  | [d] => { results := [.lit (.bool true)], args := [d] }
  | _ => none }
def printerLinesRow : OpenClaim := { program := "ytdedlchpjboceaadoor", sum := "96adb76365f7e1479abfdc88a361f42f23d6560505a5ac00c8dc4f4280b2b0cb", func := "slotmesh/slotmeshlaw03.PrinterLines", spec := "printerLines", inPlace := ["internal/abi.NoEscape"], unfollowed := true, recurses := true, named := ["slotmesh/printer.forms", "internal/strconv.uint64pow10", "math/bits.deBruijn32tab", "math/bits.deBruijn64tab", "strconv.ErrSyntax", "strconv.ErrRange"], apart := false, laid := [("math/bits.deBruijn32tab", laid_math_bits_deBruijn32tab), ("math/bits.deBruijn64tab", laid_math_bits_deBruijn64tab), ("internal/strconv.uint64pow10", laid_internal_strconv_uint64pow10), ("strconv.ErrRange", laid_strconv_ErrRange), ("strconv.ErrSyntax", laid_strconv_ErrSyntax), ("slotmesh/printer.forms", laid_slotmesh_printer_forms)] }
def PrinterLinesSaid : Prop := printerLinesRow.holds Tryd.pinned (OpenSpec.ofChange printerLinesSpec)

/-- ITS FALSE NEIGHBOUR: 'it returns false'. Refute it at one input. -/
def printerLinesWrong : ChangeSpec := { name := "printerLines", fn := fun _ => fun
  | [d] => { results := [.lit (.bool false)], args := [d] }
  | _ => none }
def PrinterLinesWrongFalsely : Prop := printerLinesRow.holds Tryd.pinned (OpenSpec.ofChange printerLinesWrong)

/-- 'slotmeshlaw03.PrinterInverse': WHATEVER THE INPUT: true; the input reads as it did. -/
def printerInverseSpec : ChangeSpec := { name := "printerInverse", fn := fun _ => fun
  | [d] => { results := [.lit (.bool true)], args := [d] }
  | _ => none }
def printerInverseRow : OpenClaim := { program := "ytdedlchpjboceaadoor", sum := "96adb76365f7e1479abfdc88a361f42f23d6560505a5ac00c8dc4f4280b2b0cb", func := "slotmesh/slotmeshlaw03.PrinterInverse", spec := "printerInverse", inPlace := ["internal/abi.NoEscape"], unfollowed := true, recurses := true, named := ["slotmesh/printer.forms", "internal/strconv.uint64pow10", "math/bits.deBruijn32tab", "math/bits.deBruijn64tab", "strconv.ErrSyntax", "strconv.ErrRange"], apart := false, laid := [("math/bits.deBruijn32tab", laid_math_bits_deBruijn32tab), ("math/bits.deBruijn64tab", laid_math_bits_deBruijn64tab), ("internal/strconv.uint64pow10", laid_internal_strconv_uint64pow10), ("strconv.ErrRange", laid_strconv_ErrRange), ("strconv.ErrSyntax", laid_strconv_ErrSyntax), ("slotmesh/printer.forms", laid_slotmesh_printer_forms)] }
def PrinterInverseSaid : Prop := printerInverseRow.holds Tryd.pinned (OpenSpec.ofChange printerInverseSpec)

/-- ITS FALSE NEIGHBOUR: 'it returns false'. Refute it at one input. -/
def printerInverseWrong : ChangeSpec := { name := "printerInverse", fn := fun _ => fun
  | [d] => { results := [.lit (.bool false)], args := [d] }
  | _ => none }
def PrinterInverseWrongFalsely : Prop := printerInverseRow.holds Tryd.pinned (OpenSpec.ofChange printerInverseWrong)

/- THE SECOND FORM. 'bulk': how many values and letters a reading holds, each counted each time it is reached (what is shared counts as often as it is met; a slice's spare places count too). A statement '..UptoSaid' is the law's where the arguments, and the package variables that the reading takes, are together of bulk at most 1048576: NARROWER than '..Said'. Prove '..Said' where nothing that the law and all that it calls make is longer than what came in: it says more and counts as full. Else prove '..UptoSaid'. A law counts once. -/
mutual
def uptoBulk {H : Type} : DataW H → Nat
  | .lit (.string bytes) => bytes.length + 1
  | .lit _ => 1
  | .nil => 1
  | .ptr d => uptoBulk d + 1
  | .slice elems spare => uptoBulkAll elems + uptoBulkAll spare + 1
  | .agg parts => uptoBulkAll parts + 1
  | .iface _ d => uptoBulk d + 1
  | .map entries => uptoBulkEntries entries + 1
  | .held _ => 1
def uptoBulkAll {H : Type} : List (DataW H) → Nat
  | [] => 0
  | d :: r => uptoBulk d + uptoBulkAll r
def uptoBulkEntries {H : Type} : List (Lit × DataW H) → Nat
  | [] => 0
  | x :: r => uptoBulkEntry x + uptoBulkEntries r
def uptoBulkEntry {H : Type} : Lit × DataW H → Nat
  | (.string bytes, d) => bytes.length + uptoBulk d + 1
  | (_, d) => uptoBulk d + 1
 end
def uptoSmall : (H : Type) → List (DataW H) → Bool := fun _ ds => decide (uptoBulkAll ds ≤ 1048576)
def OpenSpec.upto (s : _root_.Go.ChangeSpec) : _root_.Go.OpenSpec := { _root_.Go.OpenSpec.ofChange s with cond := some uptoSmall }

/-- 'slotmeshtop.TopSameScripts', WHERE WHAT IT READS IS OF BULK AT MOST 1048576: true; the input reads as it did. -/
def topSameScriptsUptoRow : OpenClaim := { program := "ytdedlchpjboceaadoor", sum := "96adb76365f7e1479abfdc88a361f42f23d6560505a5ac00c8dc4f4280b2b0cb", func := "slotmesh/slotmeshtop.TopSameScripts", spec := "topSameScripts", inPlace := ["internal/abi.NoEscape"], unfollowed := true, recurses := true, named := ["strconv.ErrSyntax", "strconv.ErrRange", "internal/strconv.uint64pow10", "math/bits.deBruijn32tab", "math/bits.deBruijn64tab", "slotmesh/printer.forms"], apart := false, laid := [("math/bits.deBruijn32tab", laid_math_bits_deBruijn32tab), ("math/bits.deBruijn64tab", laid_math_bits_deBruijn64tab), ("internal/strconv.uint64pow10", laid_internal_strconv_uint64pow10), ("strconv.ErrRange", laid_strconv_ErrRange), ("strconv.ErrSyntax", laid_strconv_ErrSyntax), ("slotmesh/printer.forms", laid_slotmesh_printer_forms)], narrowed := true }
def TopSameScriptsUptoSaid : Prop := topSameScriptsUptoRow.holds Tryd.pinned (OpenSpec.upto topSameScriptsSpec)

/-- 'slotmeshtop.TopNames', WHERE WHAT IT READS IS OF BULK AT MOST 1048576: true; the input reads as it did. -/
def topNamesUptoRow : OpenClaim := { program := "ytdedlchpjboceaadoor", sum := "96adb76365f7e1479abfdc88a361f42f23d6560505a5ac00c8dc4f4280b2b0cb", func := "slotmesh/slotmeshtop.TopNames", spec := "topNames", inPlace := ["internal/abi.NoEscape"], unfollowed := true, recurses := true, named := ["strconv.ErrSyntax", "strconv.ErrRange", "internal/strconv.uint64pow10", "math/bits.deBruijn32tab", "math/bits.deBruijn64tab", "slotmesh/printer.forms"], apart := false, laid := [("math/bits.deBruijn32tab", laid_math_bits_deBruijn32tab), ("math/bits.deBruijn64tab", laid_math_bits_deBruijn64tab), ("internal/strconv.uint64pow10", laid_internal_strconv_uint64pow10), ("strconv.ErrRange", laid_strconv_ErrRange), ("strconv.ErrSyntax", laid_strconv_ErrSyntax), ("slotmesh/printer.forms", laid_slotmesh_printer_forms)], narrowed := true }
def TopNamesUptoSaid : Prop := topNamesUptoRow.holds Tryd.pinned (OpenSpec.upto topNamesSpec)

/-- 'slotmeshlaw03.PrinterMatchesReference', WHERE WHAT IT READS IS OF BULK AT MOST 1048576: true; the input reads as it did. -/
def printerMatchesReferenceUptoRow : OpenClaim := { program := "ytdedlchpjboceaadoor", sum := "96adb76365f7e1479abfdc88a361f42f23d6560505a5ac00c8dc4f4280b2b0cb", func := "slotmesh/slotmeshlaw03.PrinterMatchesReference", spec := "printerMatchesReference", inPlace := ["internal/abi.NoEscape"], unfollowed := true, recurses := true, named := ["slotmesh/printer.forms", "internal/strconv.uint64pow10", "math/bits.deBruijn32tab", "math/bits.deBruijn64tab", "strconv.ErrSyntax", "strconv.ErrRange"], apart := false, laid := [("math/bits.deBruijn32tab", laid_math_bits_deBruijn32tab), ("math/bits.deBruijn64tab", laid_math_bits_deBruijn64tab), ("internal/strconv.uint64pow10", laid_internal_strconv_uint64pow10), ("strconv.ErrRange", laid_strconv_ErrRange), ("strconv.ErrSyntax", laid_strconv_ErrSyntax), ("slotmesh/printer.forms", laid_slotmesh_printer_forms)], narrowed := true }
def PrinterMatchesReferenceUptoSaid : Prop := printerMatchesReferenceUptoRow.holds Tryd.pinned (OpenSpec.upto printerMatchesReferenceSpec)

/-- 'slotmeshlaw03.PrinterJoins', WHERE WHAT IT READS IS OF BULK AT MOST 1048576: true; the input reads as it did. -/
def printerJoinsUptoRow : OpenClaim := { program := "ytdedlchpjboceaadoor", sum := "96adb76365f7e1479abfdc88a361f42f23d6560505a5ac00c8dc4f4280b2b0cb", func := "slotmesh/slotmeshlaw03.PrinterJoins", spec := "printerJoins", inPlace := ["internal/abi.NoEscape"], unfollowed := true, recurses := true, named := ["slotmesh/printer.forms", "internal/strconv.uint64pow10", "math/bits.deBruijn32tab", "math/bits.deBruijn64tab", "strconv.ErrSyntax", "strconv.ErrRange"], apart := false, laid := [("math/bits.deBruijn32tab", laid_math_bits_deBruijn32tab), ("math/bits.deBruijn64tab", laid_math_bits_deBruijn64tab), ("internal/strconv.uint64pow10", laid_internal_strconv_uint64pow10), ("strconv.ErrRange", laid_strconv_ErrRange), ("strconv.ErrSyntax", laid_strconv_ErrSyntax), ("slotmesh/printer.forms", laid_slotmesh_printer_forms)], narrowed := true }
def PrinterJoinsUptoSaid : Prop := printerJoinsUptoRow.holds Tryd.pinned (OpenSpec.upto printerJoinsSpec)

/-- 'slotmeshlaw03.PrinterParts', WHERE WHAT IT READS IS OF BULK AT MOST 1048576: true; the input reads as it did. -/
def printerPartsUptoRow : OpenClaim := { program := "ytdedlchpjboceaadoor", sum := "96adb76365f7e1479abfdc88a361f42f23d6560505a5ac00c8dc4f4280b2b0cb", func := "slotmesh/slotmeshlaw03.PrinterParts", spec := "printerParts", inPlace := ["internal/abi.NoEscape"], unfollowed := true, recurses := true, named := ["slotmesh/printer.forms", "internal/strconv.uint64pow10", "math/bits.deBruijn32tab", "math/bits.deBruijn64tab", "strconv.ErrSyntax", "strconv.ErrRange"], apart := false, laid := [("math/bits.deBruijn32tab", laid_math_bits_deBruijn32tab), ("math/bits.deBruijn64tab", laid_math_bits_deBruijn64tab), ("internal/strconv.uint64pow10", laid_internal_strconv_uint64pow10), ("strconv.ErrRange", laid_strconv_ErrRange), ("strconv.ErrSyntax", laid_strconv_ErrSyntax), ("slotmesh/printer.forms", laid_slotmesh_printer_forms)], narrowed := true }
def PrinterPartsUptoSaid : Prop := printerPartsUptoRow.holds Tryd.pinned (OpenSpec.upto printerPartsSpec)

/-- 'slotmeshlaw03.PrinterDiffers', WHERE WHAT IT READS IS OF BULK AT MOST 1048576: true; the input reads as it did. -/
def printerDiffersUptoRow : OpenClaim := { program := "ytdedlchpjboceaadoor", sum := "96adb76365f7e1479abfdc88a361f42f23d6560505a5ac00c8dc4f4280b2b0cb", func := "slotmesh/slotmeshlaw03.PrinterDiffers", spec := "printerDiffers", inPlace := ["internal/abi.NoEscape"], unfollowed := true, recurses := true, named := ["slotmesh/printer.forms", "internal/strconv.uint64pow10", "math/bits.deBruijn32tab", "math/bits.deBruijn64tab", "strconv.ErrSyntax", "strconv.ErrRange"], apart := false, laid := [("math/bits.deBruijn32tab", laid_math_bits_deBruijn32tab), ("math/bits.deBruijn64tab", laid_math_bits_deBruijn64tab), ("internal/strconv.uint64pow10", laid_internal_strconv_uint64pow10), ("strconv.ErrRange", laid_strconv_ErrRange), ("strconv.ErrSyntax", laid_strconv_ErrSyntax), ("slotmesh/printer.forms", laid_slotmesh_printer_forms)], narrowed := true }
def PrinterDiffersUptoSaid : Prop := printerDiffersUptoRow.holds Tryd.pinned (OpenSpec.upto printerDiffersSpec)

/-- 'slotmeshlaw02.ParserCommands', WHERE WHAT IT READS IS OF BULK AT MOST 1048576: true; the input reads as it did. -/
def parserCommandsUptoRow : OpenClaim := { program := "ytdedlchpjboceaadoor", sum := "96adb76365f7e1479abfdc88a361f42f23d6560505a5ac00c8dc4f4280b2b0cb", func := "slotmesh/slotmeshlaw02.ParserCommands", spec := "parserCommands", unfollowed := true, recurses := true, named := ["strconv.ErrSyntax", "strconv.ErrRange", "internal/strconv.uint64pow10", "math/bits.deBruijn32tab", "math/bits.deBruijn64tab"], apart := false, laid := [("math/bits.deBruijn32tab", laid_math_bits_deBruijn32tab), ("math/bits.deBruijn64tab", laid_math_bits_deBruijn64tab), ("internal/strconv.uint64pow10", laid_internal_strconv_uint64pow10), ("strconv.ErrRange", laid_strconv_ErrRange), ("strconv.ErrSyntax", laid_strconv_ErrSyntax)], narrowed := true }
def ParserCommandsUptoSaid : Prop := parserCommandsUptoRow.holds Tryd.pinned (OpenSpec.upto parserCommandsSpec)

/-- 'slotmeshlaw02.ParserTexts', WHERE WHAT IT READS IS OF BULK AT MOST 1048576: true; the input reads as it did. -/
def parserTextsUptoRow : OpenClaim := { program := "ytdedlchpjboceaadoor", sum := "96adb76365f7e1479abfdc88a361f42f23d6560505a5ac00c8dc4f4280b2b0cb", func := "slotmesh/slotmeshlaw02.ParserTexts", spec := "parserTexts", unfollowed := true, recurses := true, named := ["strconv.ErrSyntax", "strconv.ErrRange", "internal/strconv.uint64pow10", "math/bits.deBruijn32tab", "math/bits.deBruijn64tab"], apart := false, laid := [("math/bits.deBruijn32tab", laid_math_bits_deBruijn32tab), ("math/bits.deBruijn64tab", laid_math_bits_deBruijn64tab), ("internal/strconv.uint64pow10", laid_internal_strconv_uint64pow10), ("strconv.ErrRange", laid_strconv_ErrRange), ("strconv.ErrSyntax", laid_strconv_ErrSyntax)], narrowed := true }
def ParserTextsUptoSaid : Prop := parserTextsUptoRow.holds Tryd.pinned (OpenSpec.upto parserTextsSpec)

/-- 'slotmeshlaw02.ParserJoining', WHERE WHAT IT READS IS OF BULK AT MOST 1048576: true; the input reads as it did. -/
def parserJoiningUptoRow : OpenClaim := { program := "ytdedlchpjboceaadoor", sum := "96adb76365f7e1479abfdc88a361f42f23d6560505a5ac00c8dc4f4280b2b0cb", func := "slotmesh/slotmeshlaw02.ParserJoining", spec := "parserJoining", unfollowed := true, recurses := true, named := ["strconv.ErrSyntax", "strconv.ErrRange", "internal/strconv.uint64pow10", "math/bits.deBruijn32tab", "math/bits.deBruijn64tab"], apart := false, laid := [("math/bits.deBruijn32tab", laid_math_bits_deBruijn32tab), ("math/bits.deBruijn64tab", laid_math_bits_deBruijn64tab), ("internal/strconv.uint64pow10", laid_internal_strconv_uint64pow10), ("strconv.ErrRange", laid_strconv_ErrRange), ("strconv.ErrSyntax", laid_strconv_ErrSyntax)], narrowed := true }
def ParserJoiningUptoSaid : Prop := parserJoiningUptoRow.holds Tryd.pinned (OpenSpec.upto parserJoiningSpec)

/-- 'slotmeshlaw02.ParserErrors', WHERE WHAT IT READS IS OF BULK AT MOST 1048576: true; the input reads as it did. -/
def parserErrorsUptoRow : OpenClaim := { program := "ytdedlchpjboceaadoor", sum := "96adb76365f7e1479abfdc88a361f42f23d6560505a5ac00c8dc4f4280b2b0cb", func := "slotmesh/slotmeshlaw02.ParserErrors", spec := "parserErrors", unfollowed := true, recurses := true, named := ["strconv.ErrSyntax", "strconv.ErrRange", "internal/strconv.uint64pow10", "math/bits.deBruijn32tab", "math/bits.deBruijn64tab"], apart := false, laid := [("math/bits.deBruijn32tab", laid_math_bits_deBruijn32tab), ("math/bits.deBruijn64tab", laid_math_bits_deBruijn64tab), ("internal/strconv.uint64pow10", laid_internal_strconv_uint64pow10), ("strconv.ErrRange", laid_strconv_ErrRange), ("strconv.ErrSyntax", laid_strconv_ErrSyntax)], narrowed := true }
def ParserErrorsUptoSaid : Prop := parserErrorsUptoRow.holds Tryd.pinned (OpenSpec.upto parserErrorsSpec)

/-- 'slotmeshlaw02.ParserBeginnings', WHERE WHAT IT READS IS OF BULK AT MOST 1048576: true; the input reads as it did. -/
def parserBeginningsUptoRow : OpenClaim := { program := "ytdedlchpjboceaadoor", sum := "96adb76365f7e1479abfdc88a361f42f23d6560505a5ac00c8dc4f4280b2b0cb", func := "slotmesh/slotmeshlaw02.ParserBeginnings", spec := "parserBeginnings", unfollowed := true, recurses := true, named := ["strconv.ErrSyntax", "strconv.ErrRange", "internal/strconv.uint64pow10", "math/bits.deBruijn32tab", "math/bits.deBruijn64tab"], apart := false, laid := [("math/bits.deBruijn32tab", laid_math_bits_deBruijn32tab), ("math/bits.deBruijn64tab", laid_math_bits_deBruijn64tab), ("internal/strconv.uint64pow10", laid_internal_strconv_uint64pow10), ("strconv.ErrRange", laid_strconv_ErrRange), ("strconv.ErrSyntax", laid_strconv_ErrSyntax)], narrowed := true }
def ParserBeginningsUptoSaid : Prop := parserBeginningsUptoRow.holds Tryd.pinned (OpenSpec.upto parserBeginningsSpec)

/-- 'slotmeshlaw02.ParserGaps', WHERE WHAT IT READS IS OF BULK AT MOST 1048576: true; the input reads as it did. -/
def parserGapsUptoRow : OpenClaim := { program := "ytdedlchpjboceaadoor", sum := "96adb76365f7e1479abfdc88a361f42f23d6560505a5ac00c8dc4f4280b2b0cb", func := "slotmesh/slotmeshlaw02.ParserGaps", spec := "parserGaps", unfollowed := true, recurses := true, named := ["strconv.ErrSyntax", "strconv.ErrRange", "internal/strconv.uint64pow10", "math/bits.deBruijn32tab", "math/bits.deBruijn64tab"], apart := false, laid := [("math/bits.deBruijn32tab", laid_math_bits_deBruijn32tab), ("math/bits.deBruijn64tab", laid_math_bits_deBruijn64tab), ("internal/strconv.uint64pow10", laid_internal_strconv_uint64pow10), ("strconv.ErrRange", laid_strconv_ErrRange), ("strconv.ErrSyntax", laid_strconv_ErrSyntax)], narrowed := true }
def ParserGapsUptoSaid : Prop := parserGapsUptoRow.holds Tryd.pinned (OpenSpec.upto parserGapsSpec)

/-- 'slotmeshlaw03.PrinterCanonical', WHERE WHAT IT READS IS OF BULK AT MOST 1048576: true; the input reads as it did. -/
def printerCanonicalUptoRow : OpenClaim := { program := "ytdedlchpjboceaadoor", sum := "96adb76365f7e1479abfdc88a361f42f23d6560505a5ac00c8dc4f4280b2b0cb", func := "slotmesh/slotmeshlaw03.PrinterCanonical", spec := "printerCanonical", inPlace := ["internal/abi.NoEscape"], unfollowed := true, recurses := true, named := ["slotmesh/printer.forms", "internal/strconv.uint64pow10", "math/bits.deBruijn32tab", "math/bits.deBruijn64tab", "strconv.ErrSyntax", "strconv.ErrRange"], apart := false, laid := [("math/bits.deBruijn32tab", laid_math_bits_deBruijn32tab), ("math/bits.deBruijn64tab", laid_math_bits_deBruijn64tab), ("internal/strconv.uint64pow10", laid_internal_strconv_uint64pow10), ("strconv.ErrRange", laid_strconv_ErrRange), ("strconv.ErrSyntax", laid_strconv_ErrSyntax), ("slotmesh/printer.forms", laid_slotmesh_printer_forms)], narrowed := true }
def PrinterCanonicalUptoSaid : Prop := printerCanonicalUptoRow.holds Tryd.pinned (OpenSpec.upto printerCanonicalSpec)

/-- 'slotmeshlaw03.PrinterLines', WHERE WHAT IT READS IS OF BULK AT MOST 1048576: true; the input reads as it did. -/
def printerLinesUptoRow : OpenClaim := { program := "ytdedlchpjboceaadoor", sum := "96adb76365f7e1479abfdc88a361f42f23d6560505a5ac00c8dc4f4280b2b0cb", func := "slotmesh/slotmeshlaw03.PrinterLines", spec := "printerLines", inPlace := ["internal/abi.NoEscape"], unfollowed := true, recurses := true, named := ["slotmesh/printer.forms", "internal/strconv.uint64pow10", "math/bits.deBruijn32tab", "math/bits.deBruijn64tab", "strconv.ErrSyntax", "strconv.ErrRange"], apart := false, laid := [("math/bits.deBruijn32tab", laid_math_bits_deBruijn32tab), ("math/bits.deBruijn64tab", laid_math_bits_deBruijn64tab), ("internal/strconv.uint64pow10", laid_internal_strconv_uint64pow10), ("strconv.ErrRange", laid_strconv_ErrRange), ("strconv.ErrSyntax", laid_strconv_ErrSyntax), ("slotmesh/printer.forms", laid_slotmesh_printer_forms)], narrowed := true }
def PrinterLinesUptoSaid : Prop := printerLinesUptoRow.holds Tryd.pinned (OpenSpec.upto printerLinesSpec)

/-- 'slotmeshlaw03.PrinterInverse', WHERE WHAT IT READS IS OF BULK AT MOST 1048576: true; the input reads as it did. -/
def printerInverseUptoRow : OpenClaim := { program := "ytdedlchpjboceaadoor", sum := "96adb76365f7e1479abfdc88a361f42f23d6560505a5ac00c8dc4f4280b2b0cb", func := "slotmesh/slotmeshlaw03.PrinterInverse", spec := "printerInverse", inPlace := ["internal/abi.NoEscape"], unfollowed := true, recurses := true, named := ["slotmesh/printer.forms", "internal/strconv.uint64pow10", "math/bits.deBruijn32tab", "math/bits.deBruijn64tab", "strconv.ErrSyntax", "strconv.ErrRange"], apart := false, laid := [("math/bits.deBruijn32tab", laid_math_bits_deBruijn32tab), ("math/bits.deBruijn64tab", laid_math_bits_deBruijn64tab), ("internal/strconv.uint64pow10", laid_internal_strconv_uint64pow10), ("strconv.ErrRange", laid_strconv_ErrRange), ("strconv.ErrSyntax", laid_strconv_ErrSyntax), ("slotmesh/printer.forms", laid_slotmesh_printer_forms)], narrowed := true }
def PrinterInverseUptoSaid : Prop := printerInverseUptoRow.holds Tryd.pinned (OpenSpec.upto printerInverseSpec)

end Rows
end Go.Proofs.YtdedlchpjboceaaDoor
