/- Texts of proofs: plain words, and walks through the program's functions. -/
import Derived.Test.YtdedlchpjboceaaDoorM5f72d8ed

section
namespace Go.Proofs.YtdedlchpjboceaaDoor.PE
open Go.RowKit Go.Proofs.YtdedlchpjboceaaDoorW.PrintWords Go.Proofs.YtdedlchpjboceaaDoorW.PrintLast Go.Proofs.YtdedlchpjboceaaDoorW.PrintMore
attribute [local go_sem] max2_int min2_int max_two min_two max_three min_three max_four min_four   -- for this text's walks alone
def slotmeshlaw03_head.f  : Option (Bool) := (printer_Print.f (([(⟨3, (⟨#[97]⟩ : ByteArray), (([1, 2, (-30), 9] : List Int)), 0⟩ : S40), (⟨5, (⟨#[97]⟩ : ByteArray), (([7] : List Int)), 0⟩ : S40), (⟨8, (⟨#[]⟩ : ByteArray), (([5, 1, 2, 300, 4, 50] : List Int)), 0⟩ : S40)] : List (S40)))).bind fun bt160 => ((printer_Print.f ([] : List (S40))).bind fun bt162 => ((printer_Print.f (([(⟨5, (⟨#[114, 117, 110]⟩ : ByteArray), (([7] : List Int)), 0⟩ : S40)] : List (S40)))).bind fun bt170 => (if bt160.2 = 0 then (if bt162.2 = 0 then (if bt170.2 = 1 then (if bt162.1.toList = ([] : List UInt8) then (some (bt160.1.toList == ([110, 111, 100, 101, 32, 97, 32, 97, 116, 32, 49, 32, 50, 32, 115, 108, 111, 119, 32, 51, 48, 32, 98, 97, 116, 116, 101, 114, 121, 32, 57, 59, 10, 97, 116, 32, 55, 32, 102, 97, 105, 108, 32, 97, 59, 10, 97, 116, 32, 53, 32, 106, 97, 109, 32, 49, 32, 50, 32, 114, 97, 100, 105, 117, 115, 32, 51, 48, 48, 32, 99, 104, 97, 110, 110, 101, 108, 32, 52, 32, 102, 111, 114, 32, 53, 48, 59, 10] : List UInt8))) else (some false)) else (some false)) else (some false)) else (some false))))
end Go.Proofs.YtdedlchpjboceaaDoor.PE
end
