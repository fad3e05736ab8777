/- Texts of proofs: plain words, and walks through the program's functions. -/
import Derived.Test.YtdedlchpjboceaaDoorM5f72d8ed
import Derived.Test.YtdedlchpjboceaaDoorMfade9d46
import Derived.Test.YtdedlchpjboceaaDoorM7c8612c7
import Derived.Test.YtdedlchpjboceaaDoorM8845ac94
import Derived.Test.YtdedlchpjboceaaDoorMb7727cfe

section
namespace Go.Proofs.YtdedlchpjboceaaDoor.PE
open Go.RowKit Go.Proofs.YtdedlchpjboceaaDoorW.PrintWords Go.Proofs.YtdedlchpjboceaaDoorW.PrintLast Go.Proofs.YtdedlchpjboceaaDoorW.PrintMore
attribute [local go_sem] max2_int min2_int max_two min_two max_three min_three max_four min_four   -- for this text's walks alone
def slotmeshref03_Line.l0 : Nat → List ByteArray → Int → Int → ByteArray → List Int → Int → Option (ByteArray)
 | 0, _, _, _, _, _, _ => none
 | k + 1, x3, x4, x182000, x182001, x182002, x182003 => if x4 < (x182002.length : Int) then (if 0 ≤ x4 then ((slotmeshref03_number.f k (mx 0 (rd x182002 x4))).bind fun t183 => (if x3.length < 8796093022208 then (slotmeshref03_Line.l0 k (x3 ++ [t183]) (wrap64 (x4 + 1)) x182000 x182001 x182002 x182003) else (none))) else (none)) else (if x182000 = 1 then (if 0 < (x3.length : Int) then (if 10 + (rdOf ByteArray.empty x3 0).size ≤ 9223372036854775807 then (if ((⟨#[109, 101, 115, 104, 32, 100, 97, 116, 97, 32]⟩ : ByteArray) ++ (rdOf ByteArray.empty x3 0)).size + 7 ≤ 9223372036854775807 then (if 1 < (x3.length : Int) then (if (((⟨#[109, 101, 115, 104, 32, 100, 97, 116, 97, 32]⟩ : ByteArray) ++ (rdOf ByteArray.empty x3 0)) ++ (⟨#[32, 114, 97, 110, 103, 101, 32]⟩ : ByteArray)).size + (rdOf ByteArray.empty x3 1).size ≤ 9223372036854775807 then (if ((((⟨#[109, 101, 115, 104, 32, 100, 97, 116, 97, 32]⟩ : ByteArray) ++ (rdOf ByteArray.empty x3 0)) ++ (⟨#[32, 114, 97, 110, 103, 101, 32]⟩ : ByteArray)) ++ (rdOf ByteArray.empty x3 1)).size + 1 ≤ 9223372036854775807 then (some (((((⟨#[109, 101, 115, 104, 32, 100, 97, 116, 97, 32]⟩ : ByteArray) ++ (rdOf ByteArray.empty x3 0)) ++ (⟨#[32, 114, 97, 110, 103, 101, 32]⟩ : ByteArray)) ++ (rdOf ByteArray.empty x3 1)) ++ (⟨#[59]⟩ : ByteArray))) else (none)) else (none)) else (none)) else (none)) else (none)) else (none)) else (if x182000 = 2 then (if 5 + x182001.size ≤ 9223372036854775807 then (if ((⟨#[114, 111, 111, 116, 32]⟩ : ByteArray) ++ x182001).size + 4 ≤ 9223372036854775807 then (if 0 < (x3.length : Int) then (if (((⟨#[114, 111, 111, 116, 32]⟩ : ByteArray) ++ x182001) ++ (⟨#[32, 97, 116, 32]⟩ : ByteArray)).size + (rdOf ByteArray.empty x3 0).size ≤ 9223372036854775807 then (if ((((⟨#[114, 111, 111, 116, 32]⟩ : ByteArray) ++ x182001) ++ (⟨#[32, 97, 116, 32]⟩ : ByteArray)) ++ (rdOf ByteArray.empty x3 0)).size + 1 ≤ 9223372036854775807 then (if 1 < (x3.length : Int) then (if (((((⟨#[114, 111, 111, 116, 32]⟩ : ByteArray) ++ x182001) ++ (⟨#[32, 97, 116, 32]⟩ : ByteArray)) ++ (rdOf ByteArray.empty x3 0)) ++ (⟨#[32]⟩ : ByteArray)).size + (rdOf ByteArray.empty x3 1).size ≤ 9223372036854775807 then (if ((((((⟨#[114, 111, 111, 116, 32]⟩ : ByteArray) ++ x182001) ++ (⟨#[32, 97, 116, 32]⟩ : ByteArray)) ++ (rdOf ByteArray.empty x3 0)) ++ (⟨#[32]⟩ : ByteArray)) ++ (rdOf ByteArray.empty x3 1)).size + 1 ≤ 9223372036854775807 then (some (((((((⟨#[114, 111, 111, 116, 32]⟩ : ByteArray) ++ x182001) ++ (⟨#[32, 97, 116, 32]⟩ : ByteArray)) ++ (rdOf ByteArray.empty x3 0)) ++ (⟨#[32]⟩ : ByteArray)) ++ (rdOf ByteArray.empty x3 1)) ++ (⟨#[59]⟩ : ByteArray))) else (none)) else (none)) else (none)) else (none)) else (none)) else (none)) else (none)) else (none)) else (if x182000 = 3 then (if 5 + x182001.size ≤ 9223372036854775807 then (if ((⟨#[110, 111, 100, 101, 32]⟩ : ByteArray) ++ x182001).size + 4 ≤ 9223372036854775807 then (if 0 < (x3.length : Int) then (if (((⟨#[110, 111, 100, 101, 32]⟩ : ByteArray) ++ x182001) ++ (⟨#[32, 97, 116, 32]⟩ : ByteArray)).size + (rdOf ByteArray.empty x3 0).size ≤ 9223372036854775807 then (if ((((⟨#[110, 111, 100, 101, 32]⟩ : ByteArray) ++ x182001) ++ (⟨#[32, 97, 116, 32]⟩ : ByteArray)) ++ (rdOf ByteArray.empty x3 0)).size + 1 ≤ 9223372036854775807 then (if 1 < (x3.length : Int) then (if (((((⟨#[110, 111, 100, 101, 32]⟩ : ByteArray) ++ x182001) ++ (⟨#[32, 97, 116, 32]⟩ : ByteArray)) ++ (rdOf ByteArray.empty x3 0)) ++ (⟨#[32]⟩ : ByteArray)).size + (rdOf ByteArray.empty x3 1).size ≤ 9223372036854775807 then (if ((((((⟨#[110, 111, 100, 101, 32]⟩ : ByteArray) ++ x182001) ++ (⟨#[32, 97, 116, 32]⟩ : ByteArray)) ++ (rdOf ByteArray.empty x3 0)) ++ (⟨#[32]⟩ : ByteArray)) ++ (rdOf ByteArray.empty x3 1)).size + 1 ≤ 9223372036854775807 then (if 2 < (x182002.length : Int) then ((slotmeshref03_drift.f k (rd x182002 2)).bind fun t194 => (if (((((((⟨#[110, 111, 100, 101, 32]⟩ : ByteArray) ++ x182001) ++ (⟨#[32, 97, 116, 32]⟩ : ByteArray)) ++ (rdOf ByteArray.empty x3 0)) ++ (⟨#[32]⟩ : ByteArray)) ++ (rdOf ByteArray.empty x3 1)) ++ (⟨#[32]⟩ : ByteArray)).size + t194.size ≤ 9223372036854775807 then (if ((((((((⟨#[110, 111, 100, 101, 32]⟩ : ByteArray) ++ x182001) ++ (⟨#[32, 97, 116, 32]⟩ : ByteArray)) ++ (rdOf ByteArray.empty x3 0)) ++ (⟨#[32]⟩ : ByteArray)) ++ (rdOf ByteArray.empty x3 1)) ++ (⟨#[32]⟩ : ByteArray)) ++ t194).size + 9 ≤ 9223372036854775807 then (if 3 < (x3.length : Int) then (if (((((((((⟨#[110, 111, 100, 101, 32]⟩ : ByteArray) ++ x182001) ++ (⟨#[32, 97, 116, 32]⟩ : ByteArray)) ++ (rdOf ByteArray.empty x3 0)) ++ (⟨#[32]⟩ : ByteArray)) ++ (rdOf ByteArray.empty x3 1)) ++ (⟨#[32]⟩ : ByteArray)) ++ t194) ++ (⟨#[32, 98, 97, 116, 116, 101, 114, 121, 32]⟩ : ByteArray)).size + (rdOf ByteArray.empty x3 3).size ≤ 9223372036854775807 then (if ((((((((((⟨#[110, 111, 100, 101, 32]⟩ : ByteArray) ++ x182001) ++ (⟨#[32, 97, 116, 32]⟩ : ByteArray)) ++ (rdOf ByteArray.empty x3 0)) ++ (⟨#[32]⟩ : ByteArray)) ++ (rdOf ByteArray.empty x3 1)) ++ (⟨#[32]⟩ : ByteArray)) ++ t194) ++ (⟨#[32, 98, 97, 116, 116, 101, 114, 121, 32]⟩ : ByteArray)) ++ (rdOf ByteArray.empty x3 3)).size + 1 ≤ 9223372036854775807 then (some (((((((((((⟨#[110, 111, 100, 101, 32]⟩ : ByteArray) ++ x182001) ++ (⟨#[32, 97, 116, 32]⟩ : ByteArray)) ++ (rdOf ByteArray.empty x3 0)) ++ (⟨#[32]⟩ : ByteArray)) ++ (rdOf ByteArray.empty x3 1)) ++ (⟨#[32]⟩ : ByteArray)) ++ t194) ++ (⟨#[32, 98, 97, 116, 116, 101, 114, 121, 32]⟩ : ByteArray)) ++ (rdOf ByteArray.empty x3 3)) ++ (⟨#[59]⟩ : ByteArray))) else (none)) else (none)) else (none)) else (none)) else (none))) else (none)) else (none)) else (none)) else (none)) else (none)) else (none)) else (none)) else (none)) else (none)) else (if x182000 = 4 then (if 0 < (x3.length : Int) then (if 3 + (rdOf ByteArray.empty x3 0).size ≤ 9223372036854775807 then (if ((⟨#[97, 116, 32]⟩ : ByteArray) ++ (rdOf ByteArray.empty x3 0)).size + 6 ≤ 9223372036854775807 then (if (((⟨#[97, 116, 32]⟩ : ByteArray) ++ (rdOf ByteArray.empty x3 0)) ++ (⟨#[32, 109, 111, 118, 101, 32]⟩ : ByteArray)).size + x182001.size ≤ 9223372036854775807 then (if ((((⟨#[97, 116, 32]⟩ : ByteArray) ++ (rdOf ByteArray.empty x3 0)) ++ (⟨#[32, 109, 111, 118, 101, 32]⟩ : ByteArray)) ++ x182001).size + 1 ≤ 9223372036854775807 then (if 1 < (x3.length : Int) then (if (((((⟨#[97, 116, 32]⟩ : ByteArray) ++ (rdOf ByteArray.empty x3 0)) ++ (⟨#[32, 109, 111, 118, 101, 32]⟩ : ByteArray)) ++ x182001) ++ (⟨#[32]⟩ : ByteArray)).size + (rdOf ByteArray.empty x3 1).size ≤ 9223372036854775807 then (if ((((((⟨#[97, 116, 32]⟩ : ByteArray) ++ (rdOf ByteArray.empty x3 0)) ++ (⟨#[32, 109, 111, 118, 101, 32]⟩ : ByteArray)) ++ x182001) ++ (⟨#[32]⟩ : ByteArray)) ++ (rdOf ByteArray.empty x3 1)).size + 1 ≤ 9223372036854775807 then (if 2 < (x3.length : Int) then (if (((((((⟨#[97, 116, 32]⟩ : ByteArray) ++ (rdOf ByteArray.empty x3 0)) ++ (⟨#[32, 109, 111, 118, 101, 32]⟩ : ByteArray)) ++ x182001) ++ (⟨#[32]⟩ : ByteArray)) ++ (rdOf ByteArray.empty x3 1)) ++ (⟨#[32]⟩ : ByteArray)).size + (rdOf ByteArray.empty x3 2).size ≤ 9223372036854775807 then (if ((((((((⟨#[97, 116, 32]⟩ : ByteArray) ++ (rdOf ByteArray.empty x3 0)) ++ (⟨#[32, 109, 111, 118, 101, 32]⟩ : ByteArray)) ++ x182001) ++ (⟨#[32]⟩ : ByteArray)) ++ (rdOf ByteArray.empty x3 1)) ++ (⟨#[32]⟩ : ByteArray)) ++ (rdOf ByteArray.empty x3 2)).size + 1 ≤ 9223372036854775807 then (some (((((((((⟨#[97, 116, 32]⟩ : ByteArray) ++ (rdOf ByteArray.empty x3 0)) ++ (⟨#[32, 109, 111, 118, 101, 32]⟩ : ByteArray)) ++ x182001) ++ (⟨#[32]⟩ : ByteArray)) ++ (rdOf ByteArray.empty x3 1)) ++ (⟨#[32]⟩ : ByteArray)) ++ (rdOf ByteArray.empty x3 2)) ++ (⟨#[59]⟩ : ByteArray))) else (none)) else (none)) else (none)) else (none)) else (none)) else (none)) else (none)) else (none)) else (none)) else (none)) else (none)) else (if x182000 = 5 then (if 0 < (x3.length : Int) then (if 3 + (rdOf ByteArray.empty x3 0).size ≤ 9223372036854775807 then (if ((⟨#[97, 116, 32]⟩ : ByteArray) ++ (rdOf ByteArray.empty x3 0)).size + 6 ≤ 9223372036854775807 then (if (((⟨#[97, 116, 32]⟩ : ByteArray) ++ (rdOf ByteArray.empty x3 0)) ++ (⟨#[32, 102, 97, 105, 108, 32]⟩ : ByteArray)).size + x182001.size ≤ 9223372036854775807 then (if ((((⟨#[97, 116, 32]⟩ : ByteArray) ++ (rdOf ByteArray.empty x3 0)) ++ (⟨#[32, 102, 97, 105, 108, 32]⟩ : ByteArray)) ++ x182001).size + 1 ≤ 9223372036854775807 then (some (((((⟨#[97, 116, 32]⟩ : ByteArray) ++ (rdOf ByteArray.empty x3 0)) ++ (⟨#[32, 102, 97, 105, 108, 32]⟩ : ByteArray)) ++ x182001) ++ (⟨#[59]⟩ : ByteArray))) else (none)) else (none)) else (none)) else (none)) else (none)) else (if x182000 = 6 then (if 0 < (x3.length : Int) then (if 3 + (rdOf ByteArray.empty x3 0).size ≤ 9223372036854775807 then (if ((⟨#[97, 116, 32]⟩ : ByteArray) ++ (rdOf ByteArray.empty x3 0)).size + 7 ≤ 9223372036854775807 then (if (((⟨#[97, 116, 32]⟩ : ByteArray) ++ (rdOf ByteArray.empty x3 0)) ++ (⟨#[32, 115, 116, 97, 114, 116, 32]⟩ : ByteArray)).size + x182001.size ≤ 9223372036854775807 then (if ((((⟨#[97, 116, 32]⟩ : ByteArray) ++ (rdOf ByteArray.empty x3 0)) ++ (⟨#[32, 115, 116, 97, 114, 116, 32]⟩ : ByteArray)) ++ x182001).size + 1 ≤ 9223372036854775807 then (some (((((⟨#[97, 116, 32]⟩ : ByteArray) ++ (rdOf ByteArray.empty x3 0)) ++ (⟨#[32, 115, 116, 97, 114, 116, 32]⟩ : ByteArray)) ++ x182001) ++ (⟨#[59]⟩ : ByteArray))) else (none)) else (none)) else (none)) else (none)) else (none)) else (if x182000 = 7 then (if 0 < (x3.length : Int) then (if 3 + (rdOf ByteArray.empty x3 0).size ≤ 9223372036854775807 then (if ((⟨#[97, 116, 32]⟩ : ByteArray) ++ (rdOf ByteArray.empty x3 0)).size + 6 ≤ 9223372036854775807 then (if (((⟨#[97, 116, 32]⟩ : ByteArray) ++ (rdOf ByteArray.empty x3 0)) ++ (⟨#[32, 114, 101, 97, 100, 32]⟩ : ByteArray)).size + x182001.size ≤ 9223372036854775807 then (if ((((⟨#[97, 116, 32]⟩ : ByteArray) ++ (rdOf ByteArray.empty x3 0)) ++ (⟨#[32, 114, 101, 97, 100, 32]⟩ : ByteArray)) ++ x182001).size + 1 ≤ 9223372036854775807 then (if 1 < (x3.length : Int) then (if (((((⟨#[97, 116, 32]⟩ : ByteArray) ++ (rdOf ByteArray.empty x3 0)) ++ (⟨#[32, 114, 101, 97, 100, 32]⟩ : ByteArray)) ++ x182001) ++ (⟨#[32]⟩ : ByteArray)).size + (rdOf ByteArray.empty x3 1).size ≤ 9223372036854775807 then (if ((((((⟨#[97, 116, 32]⟩ : ByteArray) ++ (rdOf ByteArray.empty x3 0)) ++ (⟨#[32, 114, 101, 97, 100, 32]⟩ : ByteArray)) ++ x182001) ++ (⟨#[32]⟩ : ByteArray)) ++ (rdOf ByteArray.empty x3 1)).size + 1 ≤ 9223372036854775807 then (some (((((((⟨#[97, 116, 32]⟩ : ByteArray) ++ (rdOf ByteArray.empty x3 0)) ++ (⟨#[32, 114, 101, 97, 100, 32]⟩ : ByteArray)) ++ x182001) ++ (⟨#[32]⟩ : ByteArray)) ++ (rdOf ByteArray.empty x3 1)) ++ (⟨#[59]⟩ : ByteArray))) else (none)) else (none)) else (none)) else (none)) else (none)) else (none)) else (none)) else (none)) else (if x182000 = 8 then (if 0 < (x3.length : Int) then (if 3 + (rdOf ByteArray.empty x3 0).size ≤ 9223372036854775807 then (if ((⟨#[97, 116, 32]⟩ : ByteArray) ++ (rdOf ByteArray.empty x3 0)).size + 5 ≤ 9223372036854775807 then (if 1 < (x3.length : Int) then (if (((⟨#[97, 116, 32]⟩ : ByteArray) ++ (rdOf ByteArray.empty x3 0)) ++ (⟨#[32, 106, 97, 109, 32]⟩ : ByteArray)).size + (rdOf ByteArray.empty x3 1).size ≤ 9223372036854775807 then (if ((((⟨#[97, 116, 32]⟩ : ByteArray) ++ (rdOf ByteArray.empty x3 0)) ++ (⟨#[32, 106, 97, 109, 32]⟩ : ByteArray)) ++ (rdOf ByteArray.empty x3 1)).size + 1 ≤ 9223372036854775807 then (if 2 < (x3.length : Int) then (if (((((⟨#[97, 116, 32]⟩ : ByteArray) ++ (rdOf ByteArray.empty x3 0)) ++ (⟨#[32, 106, 97, 109, 32]⟩ : ByteArray)) ++ (rdOf ByteArray.empty x3 1)) ++ (⟨#[32]⟩ : ByteArray)).size + (rdOf ByteArray.empty x3 2).size ≤ 9223372036854775807 then (if ((((((⟨#[97, 116, 32]⟩ : ByteArray) ++ (rdOf ByteArray.empty x3 0)) ++ (⟨#[32, 106, 97, 109, 32]⟩ : ByteArray)) ++ (rdOf ByteArray.empty x3 1)) ++ (⟨#[32]⟩ : ByteArray)) ++ (rdOf ByteArray.empty x3 2)).size + 8 ≤ 9223372036854775807 then (if 3 < (x3.length : Int) then (if (((((((⟨#[97, 116, 32]⟩ : ByteArray) ++ (rdOf ByteArray.empty x3 0)) ++ (⟨#[32, 106, 97, 109, 32]⟩ : ByteArray)) ++ (rdOf ByteArray.empty x3 1)) ++ (⟨#[32]⟩ : ByteArray)) ++ (rdOf ByteArray.empty x3 2)) ++ (⟨#[32, 114, 97, 100, 105, 117, 115, 32]⟩ : ByteArray)).size + (rdOf ByteArray.empty x3 3).size ≤ 9223372036854775807 then (if ((((((((⟨#[97, 116, 32]⟩ : ByteArray) ++ (rdOf ByteArray.empty x3 0)) ++ (⟨#[32, 106, 97, 109, 32]⟩ : ByteArray)) ++ (rdOf ByteArray.empty x3 1)) ++ (⟨#[32]⟩ : ByteArray)) ++ (rdOf ByteArray.empty x3 2)) ++ (⟨#[32, 114, 97, 100, 105, 117, 115, 32]⟩ : ByteArray)) ++ (rdOf ByteArray.empty x3 3)).size + 9 ≤ 9223372036854775807 then (if 4 < (x3.length : Int) then (if (((((((((⟨#[97, 116, 32]⟩ : ByteArray) ++ (rdOf ByteArray.empty x3 0)) ++ (⟨#[32, 106, 97, 109, 32]⟩ : ByteArray)) ++ (rdOf ByteArray.empty x3 1)) ++ (⟨#[32]⟩ : ByteArray)) ++ (rdOf ByteArray.empty x3 2)) ++ (⟨#[32, 114, 97, 100, 105, 117, 115, 32]⟩ : ByteArray)) ++ (rdOf ByteArray.empty x3 3)) ++ (⟨#[32, 99, 104, 97, 110, 110, 101, 108, 32]⟩ : ByteArray)).size + (rdOf ByteArray.empty x3 4).size ≤ 9223372036854775807 then (if ((((((((((⟨#[97, 116, 32]⟩ : ByteArray) ++ (rdOf ByteArray.empty x3 0)) ++ (⟨#[32, 106, 97, 109, 32]⟩ : ByteArray)) ++ (rdOf ByteArray.empty x3 1)) ++ (⟨#[32]⟩ : ByteArray)) ++ (rdOf ByteArray.empty x3 2)) ++ (⟨#[32, 114, 97, 100, 105, 117, 115, 32]⟩ : ByteArray)) ++ (rdOf ByteArray.empty x3 3)) ++ (⟨#[32, 99, 104, 97, 110, 110, 101, 108, 32]⟩ : ByteArray)) ++ (rdOf ByteArray.empty x3 4)).size + 5 ≤ 9223372036854775807 then (if 5 < (x3.length : Int) then (if (((((((((((⟨#[97, 116, 32]⟩ : ByteArray) ++ (rdOf ByteArray.empty x3 0)) ++ (⟨#[32, 106, 97, 109, 32]⟩ : ByteArray)) ++ (rdOf ByteArray.empty x3 1)) ++ (⟨#[32]⟩ : ByteArray)) ++ (rdOf ByteArray.empty x3 2)) ++ (⟨#[32, 114, 97, 100, 105, 117, 115, 32]⟩ : ByteArray)) ++ (rdOf ByteArray.empty x3 3)) ++ (⟨#[32, 99, 104, 97, 110, 110, 101, 108, 32]⟩ : ByteArray)) ++ (rdOf ByteArray.empty x3 4)) ++ (⟨#[32, 102, 111, 114, 32]⟩ : ByteArray)).size + (rdOf ByteArray.empty x3 5).size ≤ 9223372036854775807 then (if ((((((((((((⟨#[97, 116, 32]⟩ : ByteArray) ++ (rdOf ByteArray.empty x3 0)) ++ (⟨#[32, 106, 97, 109, 32]⟩ : ByteArray)) ++ (rdOf ByteArray.empty x3 1)) ++ (⟨#[32]⟩ : ByteArray)) ++ (rdOf ByteArray.empty x3 2)) ++ (⟨#[32, 114, 97, 100, 105, 117, 115, 32]⟩ : ByteArray)) ++ (rdOf ByteArray.empty x3 3)) ++ (⟨#[32, 99, 104, 97, 110, 110, 101, 108, 32]⟩ : ByteArray)) ++ (rdOf ByteArray.empty x3 4)) ++ (⟨#[32, 102, 111, 114, 32]⟩ : ByteArray)) ++ (rdOf ByteArray.empty x3 5)).size + 1 ≤ 9223372036854775807 then (some (((((((((((((⟨#[97, 116, 32]⟩ : ByteArray) ++ (rdOf ByteArray.empty x3 0)) ++ (⟨#[32, 106, 97, 109, 32]⟩ : ByteArray)) ++ (rdOf ByteArray.empty x3 1)) ++ (⟨#[32]⟩ : ByteArray)) ++ (rdOf ByteArray.empty x3 2)) ++ (⟨#[32, 114, 97, 100, 105, 117, 115, 32]⟩ : ByteArray)) ++ (rdOf ByteArray.empty x3 3)) ++ (⟨#[32, 99, 104, 97, 110, 110, 101, 108, 32]⟩ : ByteArray)) ++ (rdOf ByteArray.empty x3 4)) ++ (⟨#[32, 102, 111, 114, 32]⟩ : ByteArray)) ++ (rdOf ByteArray.empty x3 5)) ++ (⟨#[59]⟩ : ByteArray))) else (none)) else (none)) else (none)) else (none)) else (none)) else (none)) else (none)) else (none)) else (none)) else (none)) else (none)) else (none)) else (none)) else (none)) else (none)) else (none)) else (none)) else (none)) else (if x182000 = 9 then (if 0 < (x3.length : Int) then (if 3 + (rdOf ByteArray.empty x3 0).size ≤ 9223372036854775807 then (if ((⟨#[97, 116, 32]⟩ : ByteArray) ++ (rdOf ByteArray.empty x3 0)).size + 8 ≤ 9223372036854775807 then (if 1 < (x3.length : Int) then (if (((⟨#[97, 116, 32]⟩ : ByteArray) ++ (rdOf ByteArray.empty x3 0)) ++ (⟨#[32, 114, 101, 112, 108, 97, 121, 32]⟩ : ByteArray)).size + (rdOf ByteArray.empty x3 1).size ≤ 9223372036854775807 then (if ((((⟨#[97, 116, 32]⟩ : ByteArray) ++ (rdOf ByteArray.empty x3 0)) ++ (⟨#[32, 114, 101, 112, 108, 97, 121, 32]⟩ : ByteArray)) ++ (rdOf ByteArray.empty x3 1)).size + 4 ≤ 9223372036854775807 then (if 2 < (x3.length : Int) then (if (((((⟨#[97, 116, 32]⟩ : ByteArray) ++ (rdOf ByteArray.empty x3 0)) ++ (⟨#[32, 114, 101, 112, 108, 97, 121, 32]⟩ : ByteArray)) ++ (rdOf ByteArray.empty x3 1)) ++ (⟨#[32, 97, 116, 32]⟩ : ByteArray)).size + (rdOf ByteArray.empty x3 2).size ≤ 9223372036854775807 then (if ((((((⟨#[97, 116, 32]⟩ : ByteArray) ++ (rdOf ByteArray.empty x3 0)) ++ (⟨#[32, 114, 101, 112, 108, 97, 121, 32]⟩ : ByteArray)) ++ (rdOf ByteArray.empty x3 1)) ++ (⟨#[32, 97, 116, 32]⟩ : ByteArray)) ++ (rdOf ByteArray.empty x3 2)).size + 1 ≤ 9223372036854775807 then (if 3 < (x3.length : Int) then (if (((((((⟨#[97, 116, 32]⟩ : ByteArray) ++ (rdOf ByteArray.empty x3 0)) ++ (⟨#[32, 114, 101, 112, 108, 97, 121, 32]⟩ : ByteArray)) ++ (rdOf ByteArray.empty x3 1)) ++ (⟨#[32, 97, 116, 32]⟩ : ByteArray)) ++ (rdOf ByteArray.empty x3 2)) ++ (⟨#[32]⟩ : ByteArray)).size + (rdOf ByteArray.empty x3 3).size ≤ 9223372036854775807 then (if ((((((((⟨#[97, 116, 32]⟩ : ByteArray) ++ (rdOf ByteArray.empty x3 0)) ++ (⟨#[32, 114, 101, 112, 108, 97, 121, 32]⟩ : ByteArray)) ++ (rdOf ByteArray.empty x3 1)) ++ (⟨#[32, 97, 116, 32]⟩ : ByteArray)) ++ (rdOf ByteArray.empty x3 2)) ++ (⟨#[32]⟩ : ByteArray)) ++ (rdOf ByteArray.empty x3 3)).size + 1 ≤ 9223372036854775807 then (some (((((((((⟨#[97, 116, 32]⟩ : ByteArray) ++ (rdOf ByteArray.empty x3 0)) ++ (⟨#[32, 114, 101, 112, 108, 97, 121, 32]⟩ : ByteArray)) ++ (rdOf ByteArray.empty x3 1)) ++ (⟨#[32, 97, 116, 32]⟩ : ByteArray)) ++ (rdOf ByteArray.empty x3 2)) ++ (⟨#[32]⟩ : ByteArray)) ++ (rdOf ByteArray.empty x3 3)) ++ (⟨#[59]⟩ : ByteArray))) else (none)) else (none)) else (none)) else (none)) else (none)) else (none)) else (none)) else (none)) else (none)) else (none)) else (none)) else (none)) else (if x182000 = 10 then (if 0 < (x3.length : Int) then (if 3 + (rdOf ByteArray.empty x3 0).size ≤ 9223372036854775807 then (if ((⟨#[97, 116, 32]⟩ : ByteArray) ++ (rdOf ByteArray.empty x3 0)).size + 9 ≤ 9223372036854775807 then (if 1 < (x3.length : Int) then (if (((⟨#[97, 116, 32]⟩ : ByteArray) ++ (rdOf ByteArray.empty x3 0)) ++ (⟨#[32, 112, 114, 111, 103, 114, 97, 109, 32]⟩ : ByteArray)).size + (rdOf ByteArray.empty x3 1).size ≤ 9223372036854775807 then (if ((((⟨#[97, 116, 32]⟩ : ByteArray) ++ (rdOf ByteArray.empty x3 0)) ++ (⟨#[32, 112, 114, 111, 103, 114, 97, 109, 32]⟩ : ByteArray)) ++ (rdOf ByteArray.empty x3 1)).size + 6 ≤ 9223372036854775807 then (if 2 < (x3.length : Int) then (if (((((⟨#[97, 116, 32]⟩ : ByteArray) ++ (rdOf ByteArray.empty x3 0)) ++ (⟨#[32, 112, 114, 111, 103, 114, 97, 109, 32]⟩ : ByteArray)) ++ (rdOf ByteArray.empty x3 1)) ++ (⟨#[32, 115, 105, 122, 101, 32]⟩ : ByteArray)).size + (rdOf ByteArray.empty x3 2).size ≤ 9223372036854775807 then (if ((((((⟨#[97, 116, 32]⟩ : ByteArray) ++ (rdOf ByteArray.empty x3 0)) ++ (⟨#[32, 112, 114, 111, 103, 114, 97, 109, 32]⟩ : ByteArray)) ++ (rdOf ByteArray.empty x3 1)) ++ (⟨#[32, 115, 105, 122, 101, 32]⟩ : ByteArray)) ++ (rdOf ByteArray.empty x3 2)).size + 1 ≤ 9223372036854775807 then (some (((((((⟨#[97, 116, 32]⟩ : ByteArray) ++ (rdOf ByteArray.empty x3 0)) ++ (⟨#[32, 112, 114, 111, 103, 114, 97, 109, 32]⟩ : ByteArray)) ++ (rdOf ByteArray.empty x3 1)) ++ (⟨#[32, 115, 105, 122, 101, 32]⟩ : ByteArray)) ++ (rdOf ByteArray.empty x3 2)) ++ (⟨#[59]⟩ : ByteArray))) else (none)) else (none)) else (none)) else (none)) else (none)) else (none)) else (none)) else (none)) else (none)) else (if 0 < (x3.length : Int) then (if 4 + (rdOf ByteArray.empty x3 0).size ≤ 9223372036854775807 then (if ((⟨#[114, 117, 110, 32]⟩ : ByteArray) ++ (rdOf ByteArray.empty x3 0)).size + 1 ≤ 9223372036854775807 then (some (((⟨#[114, 117, 110, 32]⟩ : ByteArray) ++ (rdOf ByteArray.empty x3 0)) ++ (⟨#[59]⟩ : ByteArray))) else (none)) else (none)) else (none))))))))))))
def slotmeshref03_Line.f (k : Nat) (a0_0 : Int) (a0_1 : ByteArray) (l0_2 : List Int) (a0_3 : Int) : Option (ByteArray) := slotmeshref03_Line.l0 k ([] : List ByteArray) 0 a0_0 a0_1 l0_2 a0_3
theorem slotmeshref03_Line.mono_l : ∀ k, (∀ y0 y1 y2 y3 y4 y5, LeO (slotmeshref03_Line.l0 k y0 y1 y2 y3 y4 y5) (slotmeshref03_Line.l0 (k + 1) y0 y1 y2 y3 y4 y5))
 | 0 => fun _ _ _ _ _ _ r h => by simp [slotmeshref03_Line.l0] at h
 | k + 1 => by
  have ih0 := slotmeshref03_Line.mono_l k
  ·
   intro y0 y1 y2 y3 y4 y5
   unfold slotmeshref03_Line.l0
   repeat' first
   | (with_reducible exact ih0 _ _ _ _ _ _)
   | (with_reducible exact slotmeshref03_drift.mono _ _)
   | (with_reducible exact slotmeshref03_number.mono _ _)
   | (with_reducible exact LeO.refl _)
   | (with_reducible exact LeO.none _)
   | (with_reducible refine LeO.ite ?_ ?_)
   | (with_reducible refine LeO.bind ?_ (fun _ => ?_))
   | exact ih0 _ _ _ _ _ _
   | exact slotmeshref03_drift.mono _ _
   | exact slotmeshref03_number.mono _ _
   | exact LeO.none _
   | refine LeO.ite ?_ ?_
   | refine LeO.bind ?_ (fun _ => ?_)
theorem slotmeshref03_Line.mono : ∀ a0 a1 a2 a3 k, LeO (slotmeshref03_Line.f k a0 a1 a2 a3) (slotmeshref03_Line.f (k + 1) a0 a1 a2 a3) := by
 intro a0 a1 a2 a3 k
 have ih0 := slotmeshref03_Line.mono_l k
 unfold slotmeshref03_Line.f
 repeat' first
   | (with_reducible exact ih0 _ _ _ _ _ _)
   | (with_reducible exact slotmeshref03_drift.mono _ _)
   | (with_reducible exact slotmeshref03_number.mono _ _)
   | (with_reducible exact LeO.refl _)
   | (with_reducible exact LeO.none _)
   | (with_reducible refine LeO.ite ?_ ?_)
   | (with_reducible refine LeO.bind ?_ (fun _ => ?_))
   | exact ih0 _ _ _ _ _ _
   | exact slotmeshref03_drift.mono _ _
   | exact slotmeshref03_number.mono _ _
   | exact LeO.none _
   | refine LeO.ite ?_ ?_
   | refine LeO.bind ?_ (fun _ => ?_)
def slotmeshref03_Line.T8 : Bool × List (List Nat × List Nat) := (true, [([], []), ([0], [0]), ([1], [1]), ([2], [2]), ([3], [3]), ([], []), ([5], [5]), ([6], [6]), ([4, 7], [4, 7]), ([8], [8]), ([9, 0, 1, 2, 3, 4, 5, 6, 7, 8, 9], [9])])
def slotmeshref03_Line.B8 : List Nat := [0, 1, 3, 7, 15, 0, 32, 96, 255, 511, 1023]
theorem slotmeshref03_Line.tab8 : rtab .any (opsOf Tryd.f52 8) = slotmeshref03_Line.T8 := by kernel_rfl
theorem slotmeshref03_Line.bits8 : waitsOk slotmeshref03_Line.T8.2 slotmeshref03_Line.B8 = true := by kernel_rfl
def slotmeshref03_Line.T10 : Bool × List (List Nat × List Nat) := (true, [([], []), ([0], [0]), ([1], [1]), ([2], [2]), ([], []), ([4], [4]), ([5], [5]), ([3, 6], [3, 6]), ([7], [7]), ([], []), ([9], [9]), ([10], [10]), ([8, 11], [8, 11]), ([12], [12]), ([13, 0, 1, 2, 3, 4, 5, 6, 7, 8, 9, 10, 11, 12, 13], [13])])
def slotmeshref03_Line.B10 : List Nat := [0, 1, 3, 7, 0, 16, 48, 127, 255, 0, 512, 1536, 4095, 8191, 16383]
theorem slotmeshref03_Line.tab10 : rtab .any (opsOf Tryd.f52 10) = slotmeshref03_Line.T10 := by kernel_rfl
theorem slotmeshref03_Line.bits10 : waitsOk slotmeshref03_Line.T10.2 slotmeshref03_Line.B10 = true := by kernel_rfl
def slotmeshref03_Line.T12 : Bool × List (List Nat × List Nat) := (true, [([], []), ([0], [0]), ([1], [1]), ([2], [2]), ([], []), ([4], [4]), ([5], [5]), ([3, 6], [3, 6]), ([7], [7]), ([], []), ([9], [9]), ([10], [10]), ([8, 11], [8, 11]), ([12], [12]), ([], []), ([14], [14]), ([15], [15]), ([16], [16]), ([17], [17]), ([13, 18], [13, 18]), ([19], [19]), ([], []), ([21], [21]), ([22], [22]), ([20, 23], [20, 23]), ([24], [24]), ([25, 18, 0, 1, 2, 3, 4, 5, 6, 7, 8, 9, 10, 11, 12, 13, 14, 15, 16, 17, 18, 19, 20, 21, 22, 23, 24, 25], [25])])
def slotmeshref03_Line.B12 : List Nat := [0, 1, 3, 7, 0, 16, 48, 127, 255, 0, 512, 1536, 4095, 8191, 0, 16384, 49152, 114688, 245760, 524287, 1048575, 0, 2097152, 6291456, 16777215, 33554431, 67108863]
theorem slotmeshref03_Line.tab12 : rtab .any (opsOf Tryd.f52 12) = slotmeshref03_Line.T12 := by kernel_rfl
theorem slotmeshref03_Line.bits12 : waitsOk slotmeshref03_Line.T12.2 slotmeshref03_Line.B12 = true := by kernel_rfl
def slotmeshref03_Line.T14 : Bool × List (List Nat × List Nat) := (true, [([], []), ([0], [0]), ([1], [1]), ([2], [2]), ([3], [3]), ([], []), ([5], [5]), ([4, 6], [4, 6]), ([7], [7]), ([], []), ([9], [9]), ([10], [10]), ([8, 11], [8, 11]), ([12], [12]), ([], []), ([14], [14]), ([15], [15]), ([13, 16], [13, 16]), ([17], [17]), ([18, 0, 1, 2, 3, 4, 5, 6, 7, 8, 9, 10, 11, 12, 13, 14, 15, 16, 17, 18], [18])])
def slotmeshref03_Line.B14 : List Nat := [0, 1, 3, 7, 15, 0, 32, 127, 255, 0, 512, 1536, 4095, 8191, 0, 16384, 49152, 131071, 262143, 524287]
theorem slotmeshref03_Line.tab14 : rtab .any (opsOf Tryd.f52 14) = slotmeshref03_Line.T14 := by kernel_rfl
theorem slotmeshref03_Line.bits14 : waitsOk slotmeshref03_Line.T14.2 slotmeshref03_Line.B14 = true := by kernel_rfl
def slotmeshref03_Line.T16 : Bool × List (List Nat × List Nat) := (true, [([], []), ([0], [0]), ([1], [1]), ([2], [2]), ([3], [3]), ([], []), ([5], [5]), ([4, 6], [4, 6]), ([7], [7]), ([8, 0, 1, 2, 3, 4, 5, 6, 7, 8], [8])])
def slotmeshref03_Line.B16 : List Nat := [0, 1, 3, 7, 15, 0, 32, 127, 255, 511]
theorem slotmeshref03_Line.tab16 : rtab .any (opsOf Tryd.f52 16) = slotmeshref03_Line.T16 := by kernel_rfl
theorem slotmeshref03_Line.bits16 : waitsOk slotmeshref03_Line.T16.2 slotmeshref03_Line.B16 = true := by kernel_rfl
def slotmeshref03_Line.T18 : Bool × List (List Nat × List Nat) := (true, [([], []), ([0], [0]), ([1], [1]), ([2], [2]), ([3], [3]), ([], []), ([5], [5]), ([4, 6], [4, 6]), ([7], [7]), ([8, 0, 1, 2, 3, 4, 5, 6, 7, 8], [8])])
def slotmeshref03_Line.B18 : List Nat := [0, 1, 3, 7, 15, 0, 32, 127, 255, 511]
theorem slotmeshref03_Line.tab18 : rtab .any (opsOf Tryd.f52 18) = slotmeshref03_Line.T18 := by kernel_rfl
theorem slotmeshref03_Line.bits18 : waitsOk slotmeshref03_Line.T18.2 slotmeshref03_Line.B18 = true := by kernel_rfl
def slotmeshref03_Line.T20 : Bool × List (List Nat × List Nat) := (true, [([], []), ([0], [0]), ([1], [1]), ([2], [2]), ([3], [3]), ([], []), ([5], [5]), ([4, 6], [4, 6]), ([7], [7]), ([], []), ([9], [9]), ([10], [10]), ([8, 11], [8, 11]), ([12], [12]), ([13, 0, 1, 2, 3, 4, 5, 6, 7, 8, 9, 10, 11, 12, 13], [13])])
def slotmeshref03_Line.B20 : List Nat := [0, 1, 3, 7, 15, 0, 32, 127, 255, 0, 512, 1536, 4095, 8191, 16383]
theorem slotmeshref03_Line.tab20 : rtab .any (opsOf Tryd.f52 20) = slotmeshref03_Line.T20 := by kernel_rfl
theorem slotmeshref03_Line.bits20 : waitsOk slotmeshref03_Line.T20.2 slotmeshref03_Line.B20 = true := by kernel_rfl
def slotmeshref03_Line.T22 : Bool × List (List Nat × List Nat) := (true, [([], []), ([0], [0]), ([1], [1]), ([2], [2]), ([3], [3]), ([], []), ([5], [5]), ([6], [6]), ([4, 7], [4, 7]), ([8], [8]), ([], []), ([10], [10]), ([11], [11]), ([9, 12], [9, 12]), ([13], [13]), ([], []), ([15], [15]), ([16], [16]), ([14, 17], [14, 17]), ([18], [18]), ([], []), ([20], [20]), ([21], [21]), ([19, 22], [19, 22]), ([23], [23]), ([], []), ([25], [25]), ([26], [26]), ([24, 27], [24, 27]), ([28], [28]), ([29, 0, 1, 2, 3, 4, 5, 6, 7, 8, 9, 10, 11, 12, 13, 14, 15, 16, 17, 18, 19, 20, 21, 22, 23, 24, 25, 26, 27, 28, 29], [29])])
def slotmeshref03_Line.B22 : List Nat := [0, 1, 3, 7, 15, 0, 32, 96, 255, 511, 0, 1024, 3072, 8191, 16383, 0, 32768, 98304, 262143, 524287, 0, 1048576, 3145728, 8388607, 16777215, 0, 33554432, 100663296, 268435455, 536870911, 1073741823]
theorem slotmeshref03_Line.tab22 : rtab .any (opsOf Tryd.f52 22) = slotmeshref03_Line.T22 := by kernel_rfl
theorem slotmeshref03_Line.bits22 : waitsOk slotmeshref03_Line.T22.2 slotmeshref03_Line.B22 = true := by kernel_rfl
def slotmeshref03_Line.T24 : Bool × List (List Nat × List Nat) := (true, [([], []), ([0], [0]), ([1], [1]), ([2], [2]), ([3], [3]), ([], []), ([5], [5]), ([6], [6]), ([4, 7], [4, 7]), ([8], [8]), ([], []), ([10], [10]), ([11], [11]), ([9, 12], [9, 12]), ([13], [13]), ([], []), ([15], [15]), ([16], [16]), ([14, 17], [14, 17]), ([18], [18]), ([19, 0, 1, 2, 3, 4, 5, 6, 7, 8, 9, 10, 11, 12, 13, 14, 15, 16, 17, 18, 19], [19])])
def slotmeshref03_Line.B24 : List Nat := [0, 1, 3, 7, 15, 0, 32, 96, 255, 511, 0, 1024, 3072, 8191, 16383, 0, 32768, 98304, 262143, 524287, 1048575]
theorem slotmeshref03_Line.tab24 : rtab .any (opsOf Tryd.f52 24) = slotmeshref03_Line.T24 := by kernel_rfl
theorem slotmeshref03_Line.bits24 : waitsOk slotmeshref03_Line.T24.2 slotmeshref03_Line.B24 = true := by kernel_rfl
def slotmeshref03_Line.T26 : Bool × List (List Nat × List Nat) := (true, [([], []), ([0], [0]), ([1], [1]), ([2], [2]), ([3], [3]), ([], []), ([5], [5]), ([6], [6]), ([4, 7], [4, 7]), ([8], [8]), ([], []), ([10], [10]), ([11], [11]), ([9, 12], [9, 12]), ([13], [13]), ([14, 0, 1, 2, 3, 4, 5, 6, 7, 8, 9, 10, 11, 12, 13, 14], [14])])
def slotmeshref03_Line.B26 : List Nat := [0, 1, 3, 7, 15, 0, 32, 96, 255, 511, 0, 1024, 3072, 8191, 16383, 32767]
theorem slotmeshref03_Line.tab26 : rtab .any (opsOf Tryd.f52 26) = slotmeshref03_Line.T26 := by kernel_rfl
theorem slotmeshref03_Line.bits26 : waitsOk slotmeshref03_Line.T26.2 slotmeshref03_Line.B26 = true := by kernel_rfl
set_option maxHeartbeats 8000000 in
set_option maxRecDepth 100000 in
theorem slotmeshref03_Line.calls (k : Nat) (a0_0 : Int) (a0_1 : ByteArray) (A0_2 : Option Addr) (c0_2 : Nat) (l0_2 : List Int) (a0_3 : Int) (r : ByteArray) (w : World) (hr0_2 : Kd.C (Kd.int .i64) w A0_2 l0_2.length l0_2) (hc0_2 : l0_2.length ≤ c0_2) (h : slotmeshref03_Line.f k a0_0 a0_1 l0_2 a0_3 = some r) :
  Calls Tryd.prog 52 #[.agg #[.int .i64 a0_0, .string a0_1, .slice A0_2 l0_2.length c0_2, .int .i64 a0_3]] w fun e w' => e = .returned (.string r) ∧ Below w.heap.size w w' := by
 have hu40 := Tryd.underlying40
 have HR0_2 := Aside0.mk hr0_2
 have HC0_2 := Aside0.mk hc0_2
 clear hr0_2 hc0_2
 have HB := Aside0.mk (Below.refl w.heap.size w)
 have H : (slotmeshref03_Line.l0 k ([] : List ByteArray) 0 a0_0 a0_1 l0_2 a0_3) = some r := h
 clear h
 have H' := Aside0.mk H
 clear H
 go_enter Tryd.func52, Tryd.ntmps52
 go_wp2_with (first | ((with_reducible refine gate_dst (N := 1) rfl ?_); refine box_event ?hg (N := 1) ?hd (cs := #[.int .i64 a0_0, .string a0_1, .slice A0_2 l0_2.length c0_2, .int .i64 a0_3]) (t := 40) ?hr ?_; (case hd => rfl); (case hg => rfl); (case hr => first | (go_simp; done) | (go_simp; rfl)); intro gb181 hg w2 hbox hb; have n0_ := Aside0.mk (below_step (by repeat (first | (with_reducible first | exact HB.out | apply below_alloc | apply pw_below_drewN | apply below_drew1) | exact HB.out)) hb); have n1_ := Aside0.mk (hbox); have n2_ := Aside0.mk ((by rw [hg]; exact (below_size (by repeat (first | (with_reducible first | exact HB.out | apply below_alloc | apply pw_below_drewN | apply below_drew1) | exact HB.out))) : w.heap.size ≤ gb181)); have n3_ := Aside0.mk ((by rw [hg]; exact (below_size (by repeat (first | (with_reducible first | exact HB.out | apply below_alloc | apply pw_below_drewN | apply below_drew1) | exact HB.out))) : w.heap.size ≤ gb181)); clear HB; have HB := n0_; have BK181 := n1_; have GW181 := n2_; have GE181 := n3_; clear n0_ n1_ n2_ n3_; clear hb hbox hg))
 go_loopg [3, 4] k (fun kq v3 v4 w' => ∃ (x3_1 : List ByteArray) (x4_1 : Int), v4 = .int .i64 x4_1 ∧ Aside0 (slotmeshref03_Line.l0 kq x3_1 x4_1 a0_0 a0_1 l0_2 a0_3 = some r) ∧ Aside0 (kq ≤ k) ∧ Aside0 (Kd.R Kd.string 9 w' w.heap.size (fun _ => True) v3 x3_1) ∧ Aside0 (w'.heap[gb181]? = some (.cells #[.int .i64 a0_0, .string a0_1, (.slice A0_2 l0_2.length c0_2), .int .i64 a0_3] 40 (0, 0))) ∧ Aside0 (Below w.heap.size w w'))
 case atStart => exact ⟨(([] : List ByteArray)), (0), (by first | rfl | (simp; done) | (simp [*]; done)), H', ⟨Nat.le_refl _⟩, ⟨by first | exact Kd.R_nil _ _ _ _ _ | exact Kd.N_nil _ _ _ _ _ | exact Kd.V_nil _ _ _ _ _ | exact Kd.Q_nil _ _ _ _ _ | exact Kd.S_nil _ _ _ _ _⟩, ⟨by (with_reducible repeat (first | refine blk_drewN ?_ _ | refine blk_drew ?_ | refine blk_alloc ?_ _)); exact BK181.out⟩, ⟨by repeat (first | (with_reducible first | exact HB.out | apply below_alloc | apply pw_below_drewN | apply below_drew1 | refine below_set ?_ GE181.out) | exact HB.out)⟩⟩
 case round =>
  clear H'
  try clear p2
  obtain ⟨x3_1, x4_1, rfl, HA, HK1, HO_3, BK181, HB⟩ := hrel
  cases gk with
  | zero => exact absurd HA.out (by simp [slotmeshref03_Line.l0])
  | succ k1 =>
   have H := HA.out
   clear HA
   simp only [slotmeshref03_Line.l0] at H
   by_cases c3 : x4_1 < (l0_2.length : Int)
   ·
    rw [if_pos c3] at H
    have c3b0 : decide (x4_1 < (l0_2.length : Int)) = true := decide_eq_true c3
    clear c3
    by_cases c4 : 0 ≤ x4_1
    ·
     rw [if_pos c4] at H
     have c4b0 : decide (0 ≤ x4_1) = true := decide_eq_true c4
     clear c4
     obtain ⟨ji5, hji5⟩ : ∃ j_ : Int, (mx 0 (rd l0_2 x4_1)) = j_ := ⟨_, rfl⟩
     replace H : ((slotmeshref03_number.f k1 (ji5)).bind fun t183 => (if x3_1.length < 8796093022208 then (slotmeshref03_Line.l0 k1 (x3_1 ++ [t183]) (wrap64 (x4_1 + 1)) a0_0 a0_1 l0_2 a0_3) else (none))) = some r := by first | (rw [hji5] at H; exact H) | (simp only [hji5] at H ⊢; exact H)
     have hji5_ : (if 0 < (rd l0_2 x4_1) then (rd l0_2 x4_1) else 0) = ji5 := hji5
     replace H := Option.bind_eq_some_iff.mp H
     obtain ⟨t183, A60, H⟩ := H
     replace H : (if x3_1.length < 8796093022208 then (slotmeshref03_Line.l0 k1 (x3_1 ++ [t183]) (wrap64 (x4_1 + 1)) a0_0 a0_1 l0_2 a0_3) else (none)) = some r := H
     have A6 := Aside0.mk A60
     clear A60
     by_cases c7 : x3_1.length < 8796093022208
     ·
      rw [if_pos c7] at H
      have LMc7 := Aside0.mk c7
      clear c7
      obtain ⟨y184, hy184⟩ : ∃ y_ : List ByteArray, y_ = (x3_1 ++ [t183]) := ⟨_, rfl⟩
      replace H : (slotmeshref03_Line.l0 k1 y184 (wrap64 (x4_1 + 1)) a0_0 a0_1 l0_2 a0_3) = some r := by first | (rw [hy184]; with_reducible exact H) | (have H2_ := (Option.bind_some _ _).symm.trans H; rw [hy184]; with_reducible exact H2_) | (have H2_ := (Option.bind_some _ _).symm.trans H; with_reducible exact H2_) | with_reducible exact H | (rw [hy184]; exact H) | exact H
      have Ny184 := Aside0.mk hy184
      clear hy184
      have H' := Aside0.mk H
      clear H
      have hcz8_0 : wr.cell? ⟨gb181, 0, none⟩ = some (.int .i64 a0_0) := (blk_cell BK181.out 0).trans rfl
      have hcz8_1 : wr.cell? ⟨gb181, 1, none⟩ = some (.string a0_1) := (blk_cell BK181.out 1).trans rfl
      have hcz8_2 : wr.cell? ⟨gb181, 2, none⟩ = some (.slice A0_2 l0_2.length c0_2) := (blk_cell BK181.out 2).trans rfl
      have hcz8_3 : wr.cell? ⟨gb181, 3, none⟩ = some (.int .i64 a0_3) := (blk_cell BK181.out 3).trans rfl
      have hfz8_0 := blk_frozen BK181.out 0
      have hfz8_1 := blk_frozen BK181.out 1
      have hfz8_2 := blk_frozen BK181.out 2
      have hfz8_3 := blk_frozen BK181.out 3
      have p182 : 0 ≤ (x4_1 : Int) := of_decide_eq_true (by first | (with_reducible assumption) | assumption)
      have q182 : x4_1 < (l0_2.length : Int) := of_decide_eq_true (by first | (with_reducible assumption) | assumption)
      obtain ⟨ad182, e182, hx182_0⟩ := Kd.at_int HR0_2.out x4_1 p182 q182
      cases e182
      replace hx182_0 := (HB.out.cell (World.block_lt_of_cell? w _ hx182_0)).trans hx182_0
      replace p182 := eq_true p182
      replace q182 := eq_true q182
      go_wp2_with (first | ((with_reducible refine gate_callee (f := 84) rfl ?_); refine goesL_ (some 19) rfl rfl Tryd.func84 (by kernel_rfl) rfl #[.int .i64 ji5] rfl (by (try simp only [List.map_toArray, List.map_cons, List.map_nil]); first | done | (simp only [hji5]; rfl) | rfl | (simp only [List.length_drop, List.length_take]; rfl)) ?_; (with_reducible refine (slotmeshref03_number.calls k1 ji5 t183 _ A6.out).mono ?_); rintro e w9 ⟨rfl, hb⟩; refine ⟨_, rfl, ?_⟩; have n0_ := Aside0.mk (Kd.R_below (by (with_reducible repeat (first | apply Kd.R_alloc | apply Kd.R_drewN | apply Kd.R_drew)); exact HO_3.out) hb); have n1_ := Aside0.mk (blk_below (g := gb181) (o := .cells #[.int .i64 a0_0, .string a0_1, .slice (some ad182) l0_2.length c0_2, .int .i64 a0_3] 40 (0, 0)) (by (with_reducible repeat (first | refine blk_drewN ?_ _ | refine blk_drew ?_ | refine blk_alloc ?_ _)); exact BK181.out) hb); have n2_ := Aside0.mk (below_step (by repeat (first | (with_reducible first | exact HB.out | apply below_alloc | apply pw_below_drewN | apply below_drew1 | refine below_set ?_ GE181.out) | exact HB.out)) hb); clear HO_3; clear BK181; clear HB; have HO_3 := n0_; have BK181 := n1_; have HB := n2_; clear n0_ n1_ n2_; (try clear hb); (try clear hb2); (try clear hk); (try clear hi)) | ((with_reducible refine gate_builtin (b := .append) (xs := #[.tmp 12, .tmp 20]) rfl ?_); at_builtin; refine Kd.R_append Kd.string (w0 := w) w.heap.size rfl (.tmp 12) (.tmp 20) 48 9 (.string ⟨#[]⟩) 16 rfl Tryd.underlying48 info9 rfl (by decide) (by omega) u3 x3_1 t183 [.string t183] (fun _ => True) (fun _ => False) rfl rfl ?aP (fun _ hk => hk.elim) ?aF ?aO ?aB ?aS ?aL ?_; (case aP => exact rfl); (case aB => exact (by repeat (first | (with_reducible first | exact HB.out | apply below_alloc | apply pw_below_drewN | apply below_drew1 | refine below_set ?_ GE181.out) | exact HB.out))); (case aF => exact (fun _ _ => trivial)); (case aO => exact (by (with_reducible repeat (first | apply Kd.R_alloc | apply Kd.R_drewN | apply Kd.R_drew)); exact HO_3.out)); (case aS => exact (below_size (by repeat (first | (with_reducible first | exact HB.out | apply below_alloc | apply pw_below_drewN | apply below_drew1 | refine below_set ?_ GE181.out) | exact HB.out)))); (case aL => have := LMc7.out; omega); intro v185 w10 ho hb hg hat; rw [← Ny184.out] at ho; have n0_ := Aside0.mk (blk_grown (g := gb181) (o := .cells #[.int .i64 a0_0, .string a0_1, .slice (some ad182) l0_2.length c0_2, .int .i64 a0_3] 40 (0, 0)) (by (with_reducible repeat (first | refine blk_drewN ?_ _ | refine blk_drew ?_ | refine blk_alloc ?_ _)); exact BK181.out) hg (Kd.R_ne HO_3.out BK181.out (by decide))); have n1_ := Aside0.mk (hb); have n2_ := Aside0.mk (ho); clear BK181; clear HB; clear HO_3; have BK181 := n0_; have HB := n1_; have HO186 := n2_; clear n0_ n1_ n2_; clear ho hb hg hat))
      go_roundg k1
      case measure => have := HK1.out; omega
      case rel => exact ⟨(y184), (wrap64 (x4_1 + 1)), (by first | rfl | (simp; done) | (simp [*]; done)), H', ⟨by have := HK1.out; omega⟩, ⟨by (with_reducible repeat (first | apply Kd.R_alloc | apply Kd.R_drewN | apply Kd.R_drew)); exact HO186.out⟩, ⟨by (with_reducible repeat (first | refine blk_drewN ?_ _ | refine blk_drew ?_ | refine blk_alloc ?_ _)); exact BK181.out⟩, ⟨by repeat (first | (with_reducible first | exact HB.out | apply below_alloc | apply pw_below_drewN | apply below_drew1 | refine below_set ?_ GE181.out) | exact HB.out)⟩⟩
     ·
      rw [if_neg c7] at H
      exact absurd H (by simp)
    ·
     rw [if_neg c4] at H
     exact absurd H (by simp)
   ·
    rw [if_neg c3] at H
    have c3b0 : decide (x4_1 < (l0_2.length : Int)) = false := decide_eq_false c3
    clear c3
    by_cases c11 : a0_0 = 1
    ·
     rw [if_pos c11] at H
     have c11b0 : (a0_0 == 1) = true := beq_iff_eq.mpr c11
     have c11b1 : (a0_0 != 1) = false := bne_eq_false_iff_eq.mpr c11
     clear c11
     by_cases c12 : 0 < (x3_1.length : Int)
     ·
      rw [if_pos c12] at H
      have c12b0 : decide (0 < (x3_1.length : Int)) = true := decide_eq_true c12
      have c12b1 : decide (0 < x3_1.length) = true := decide_eq_true (by omega)
      clear c12
      by_cases c13 : 10 + (rdOf ByteArray.empty x3_1 0).size ≤ 9223372036854775807
      ·
       rw [if_pos c13] at H
       have c13b0 := eq_true c13
       have c13b1 : decide (10 + (rdOf ByteArray.empty x3_1 0).size ≤ 9223372036854775807) = true := decide_eq_true c13
       try have c13b2 : (9223372036854775807 < 10 + (rdOf ByteArray.empty x3_1 0).size) = False := eq_false (Nat.not_lt.2 c13)
       by_cases c14 : ((⟨#[109, 101, 115, 104, 32, 100, 97, 116, 97, 32]⟩ : ByteArray) ++ (rdOf ByteArray.empty x3_1 0)).size + 7 ≤ 9223372036854775807
       ·
        rw [if_pos c14] at H
        have c14b9 : (9223372036854775807 < 10 + (rdOf ByteArray.empty x3_1 0).size + 7) = False := eq_false (Nat.not_lt.2 (by have h_ := c14; simp only [ByteArray.size_append] at h_; exact h_))
        clear c14
        by_cases c15 : 1 < (x3_1.length : Int)
        ·
         rw [if_pos c15] at H
         have c15b0 : decide (1 < (x3_1.length : Int)) = true := decide_eq_true c15
         have c15b1 : decide (1 < x3_1.length) = true := decide_eq_true (by omega)
         clear c15
         by_cases c16 : (((⟨#[109, 101, 115, 104, 32, 100, 97, 116, 97, 32]⟩ : ByteArray) ++ (rdOf ByteArray.empty x3_1 0)) ++ (⟨#[32, 114, 97, 110, 103, 101, 32]⟩ : ByteArray)).size + (rdOf ByteArray.empty x3_1 1).size ≤ 9223372036854775807
         ·
          rw [if_pos c16] at H
          have c16b9 : (9223372036854775807 < 10 + (rdOf ByteArray.empty x3_1 0).size + 7 + (rdOf ByteArray.empty x3_1 1).size) = False := eq_false (Nat.not_lt.2 (by have h_ := c16; simp only [ByteArray.size_append] at h_; exact h_))
          clear c16
          by_cases c17 : ((((⟨#[109, 101, 115, 104, 32, 100, 97, 116, 97, 32]⟩ : ByteArray) ++ (rdOf ByteArray.empty x3_1 0)) ++ (⟨#[32, 114, 97, 110, 103, 101, 32]⟩ : ByteArray)) ++ (rdOf ByteArray.empty x3_1 1)).size + 1 ≤ 9223372036854775807
          ·
           rw [if_pos c17] at H
           have c17b9 : (9223372036854775807 < 10 + (rdOf ByteArray.empty x3_1 0).size + 7 + (rdOf ByteArray.empty x3_1 1).size + 1) = False := eq_false (Nat.not_lt.2 (by have h_ := c17; simp only [ByteArray.size_append] at h_; exact h_))
           clear c17
           obtain rfl := Option.some.inj H
           have hcz18_0 : wr.cell? ⟨gb181, 0, none⟩ = some (.int .i64 a0_0) := (blk_cell BK181.out 0).trans rfl
           have hcz18_1 : wr.cell? ⟨gb181, 1, none⟩ = some (.string a0_1) := (blk_cell BK181.out 1).trans rfl
           have hcz18_2 : wr.cell? ⟨gb181, 2, none⟩ = some (.slice A0_2 l0_2.length c0_2) := (blk_cell BK181.out 2).trans rfl
           have hcz18_3 : wr.cell? ⟨gb181, 3, none⟩ = some (.int .i64 a0_3) := (blk_cell BK181.out 3).trans rfl
           have hfz18_0 := blk_frozen BK181.out 0
           have hfz18_1 := blk_frozen BK181.out 1
           have hfz18_2 := blk_frozen BK181.out 2
           have hfz18_3 := blk_frozen BK181.out 3
           try go_wp2
           have n0_ := Aside0.mk (Kd.R_drew HO_3.out)
           have n1_ := Aside0.mk (blk_drew BK181.out)
           have n2_ := Aside0.mk (below_drew1 HB.out)
           clear HO_3
           clear BK181
           clear HB
           have HO_3 := n0_
           have BK181 := n1_
           have HB := n2_
           clear n0_ n1_ n2_
           obtain ⟨Ao20, co20, eo20⟩ := Kd.R_slice HO_3.out
           (first | subst eo20 | (injection eo20 with f1_ f2_ f3_; have f4_ := f1_.symm; have f5_ := f3_.symm; clear f1_ f2_ f3_; subst f4_; subst f5_))
           have p187 : 0 ≤ (0 : Int) := (by omega)
           have q187 : 0 < (x3_1.length : Int) := of_decide_eq_true (by first | (with_reducible assumption) | assumption)
           obtain ⟨ad187, e187, hx187_0⟩ := Kd.at_string (Kd.R_reads' HO_3.out).2.2 0 p187 q187
           cases e187
           have qi187 : (0 < x3_1.length) = True := eq_true (by omega)
           (try rw [show ((0 : Int)).toNat = 0 from rfl] at hx187_0)
           (try rw [Addr.add_zero'] at hx187_0)
           replace p187 := eq_true p187
           replace q187 := eq_true q187
           have p188 : 0 ≤ (1 : Int) := (by omega)
           have q188 : 1 < (x3_1.length : Int) := of_decide_eq_true (by first | (with_reducible assumption) | assumption)
           obtain ⟨ad188, e188, hx188_0⟩ := Kd.at_string (Kd.R_reads' HO_3.out).2.2 1 p188 q188
           obtain rfl : ad187 = ad188 := (by injection e188)
           (try simp only [show (1 : Int).toNat = 1 from rfl, Nat.reduceEqDiff, Go.Addr.add, ↓reduceIte] at hx188_0)
           have qi188 : (1 < x3_1.length) = True := eq_true (by omega)
           (try rw [show ((1 : Int)).toNat = 1 from rfl] at hx188_0)
           replace p188 := eq_true p188
           replace q188 := eq_true q188
           refine start_ (n := 11) (S := fun w' => w'.cell? ad187 = some (.string (rdOf ByteArray.empty x3_1 0)) ∧ w'.cell? ⟨ad187.block, ad187.off + 1, none⟩ = some (.string (rdOf ByteArray.empty x3_1 1))) (ds := []) #[false, false, false, false, false, false, false, false, false, false, false] (by kernel_rfl) rfl rfl ⟨hx187_0, hx188_0⟩ (fun hHeld => ?_); refine with_tabW slotmeshref03_Line.tab8 slotmeshref03_Line.bits8 (fun HT_ HW_ => ?_)
           generalize wr.drew = w19 at HO_3 BK181 HB hx187_0 hx188_0 hHeld ⊢
           refine pure_ (i := 0) (N := some 26) (v := ?_) (a' := ?_) #[true, false, false, false, false, false, false, false, false, false, false] rfl rfl (any_of HT_.out (by kernel_rfl)) (fun _ _ _ h => h) (Or.inl ⟨by rfl, ?_⟩) ?_ ?_
           rotate_left
           ·
            intro w'
            go_simp
            with_reducible rfl
           rotate_left
           ·
            simp only [Act.put, List.setIfInBounds_toArray, List.set_cons_zero, List.set_cons_succ]
            rfl
           refine pure_ (i := 1) (N := some 27) (v := ?_) (a' := ?_) #[true, true, false, false, false, false, false, false, false, false, false] rfl rfl (any_of HT_.out (by kernel_rfl)) (fun _ _ _ h => h) (Or.inl ⟨by rfl, ?_⟩) ?_ ?_
           rotate_left
           ·
            intro w'
            go_simp
            with_reducible rfl
           rotate_left
           ·
            simp only [Act.put, List.setIfInBounds_toArray, List.set_cons_zero, List.set_cons_succ]
            rfl
           refine pure_ (i := 5) (N := some 31) (v := ?_) (a' := ?_) #[true, true, false, false, false, true, false, false, false, false, false] rfl rfl (any_of HT_.out (by kernel_rfl)) (fun _ _ _ h => h) (Or.inl ⟨by rfl, ?_⟩) ?_ ?_
           rotate_left
           ·
            intro w'
            go_simp
            with_reducible rfl
           rotate_left
           ·
            simp only [Act.put, List.setIfInBounds_toArray, List.set_cons_zero, List.set_cons_succ]
            rfl
           refine pure_ (i := 6) (N := some 32) (v := ?_) (a' := ?_) #[true, true, false, false, false, true, true, false, false, false, false] rfl rfl (any_of HT_.out (by kernel_rfl)) (fun _ _ _ h => h) (Or.inl ⟨by rfl, ?_⟩) ?_ ?_
           rotate_left
           ·
            intro w'
            go_simp
            with_reducible rfl
           rotate_left
           ·
            simp only [Act.put, List.setIfInBounds_toArray, List.set_cons_zero, List.set_cons_succ]
            rfl
           refine take_ (i := 2) (N := some 28) (v := ?_) (a' := ?_) #[true, true, true, false, false, true, true, false, false, false, false] rfl rfl (take_ofW HT_.out HW_.out (by kernel_rfl)) (fun _ _ _ h => h) (Or.inl ⟨by rfl, ?_⟩) hHeld ?_ ?_
           rotate_left
           ·
            rintro w' ⟨s0, s1⟩
            go_simp
            with_reducible rfl
           rotate_left
           ·
            simp only [Act.put, List.setIfInBounds_toArray, List.set_cons_zero, List.set_cons_succ]
            rfl
           refine pure_ (i := 3) (N := some 29) (v := ?_) (a' := ?_) #[true, true, true, true, false, true, true, false, false, false, false] rfl rfl (any_of HT_.out (by kernel_rfl)) (fun _ _ _ h => h) (Or.inl ⟨by rfl, ?_⟩) ?_ ?_
           rotate_left
           ·
            intro w'
            go_simp
            with_reducible rfl
           rotate_left
           ·
            simp only [Act.put, List.setIfInBounds_toArray, List.set_cons_zero, List.set_cons_succ]
            rfl
           refine pure_ (i := 4) (N := some 30) (v := ?_) (a' := ?_) #[true, true, true, true, true, true, true, false, false, false, false] rfl rfl (any_of HT_.out (by kernel_rfl)) (fun _ _ _ h => h) (Or.inl ⟨by rfl, ?_⟩) ?_ ?_
           rotate_left
           ·
            intro w'
            go_simp
            with_reducible rfl
           rotate_left
           ·
            simp only [Act.put, List.setIfInBounds_toArray, List.set_cons_zero, List.set_cons_succ]
            rfl
           refine take_ (i := 7) (N := some 33) (v := ?_) (a' := ?_) #[true, true, true, true, true, true, true, true, false, false, false] rfl rfl (take_ofW HT_.out HW_.out (by kernel_rfl)) (fun _ _ _ h => h) (Or.inl ⟨by rfl, ?_⟩) hHeld ?_ ?_
           rotate_left
           ·
            rintro w' ⟨s0, s1⟩
            go_simp
            with_reducible rfl
           rotate_left
           ·
            simp only [Act.put, List.setIfInBounds_toArray, List.set_cons_zero, List.set_cons_succ]
            rfl
           refine pure_ (i := 8) (N := some 34) (v := ?_) (a' := ?_) #[true, true, true, true, true, true, true, true, true, false, false] rfl rfl (any_of HT_.out (by kernel_rfl)) (fun _ _ _ h => h) (Or.inl ⟨by rfl, ?_⟩) ?_ ?_
           rotate_left
           ·
            intro w'
            go_simp
            with_reducible rfl
           rotate_left
           ·
            simp only [Act.put, List.setIfInBounds_toArray, List.set_cons_zero, List.set_cons_succ]
            rfl
           refine pure_ (i := 9) (N := some 35) (v := ?_) (a' := ?_) #[true, true, true, true, true, true, true, true, true, true, false] rfl rfl (any_of HT_.out (by kernel_rfl)) (fun _ _ _ h => h) (Or.inl ⟨by rfl, ?_⟩) ?_ ?_
           rotate_left
           ·
            intro w'
            go_simp
            with_reducible rfl
           rotate_left
           ·
            simp only [Act.put, List.setIfInBounds_toArray, List.set_cons_zero, List.set_cons_succ]
            rfl
           refine pure_ (i := 10) (N := some 2) (v := ?_) (a' := ?_) #[true, true, true, true, true, true, true, true, true, true, true] rfl rfl (any_of HT_.out (by kernel_rfl)) (fun _ _ _ h => h) (Or.inl ⟨by rfl, ?_⟩) ?_ ?_
           rotate_left
           ·
            intro w'
            go_simp
            with_reducible rfl
           rotate_left
           ·
            simp only [Act.put, List.setIfInBounds_toArray, List.set_cons_zero, List.set_cons_succ]
            rfl
           refine done_ (done_of HT_.out (by kernel_rfl)) ?_
           try go_wp2
           go_ret
           exact ⟨by first | rfl | (simp [errW_none, errW_some] <;> rfl) | (simp [*, errW_none, errW_some] <;> rfl), by repeat (first | (with_reducible first | exact HB.out | apply below_alloc | apply pw_below_drewN | apply below_drew1 | refine below_set ?_ GE181.out) | exact HB.out)⟩
          ·
           rw [if_neg c17] at H
           exact absurd H (by simp)
         ·
          rw [if_neg c16] at H
          exact absurd H (by simp)
        ·
         rw [if_neg c15] at H
         exact absurd H (by simp)
       ·
        rw [if_neg c14] at H
        exact absurd H (by simp)
      ·
       rw [if_neg c13] at H
       exact absurd H (by simp)
     ·
      rw [if_neg c12] at H
      exact absurd H (by simp)
    ·
     rw [if_neg c11] at H
     have c11b0 : (a0_0 == 1) = false := beq_eq_false_iff_ne.mpr c11
     have c11b1 : (a0_0 != 1) = true := bne_iff_ne.mpr c11
     by_cases c21 : a0_0 = 2
     ·
      rw [if_pos c21] at H
      have c21b0 : (a0_0 == 2) = true := beq_iff_eq.mpr c21
      have c21b1 : (a0_0 != 2) = false := bne_eq_false_iff_eq.mpr c21
      clear c21
      by_cases c22 : 5 + a0_1.size ≤ 9223372036854775807
      ·
       rw [if_pos c22] at H
       have c22b0 := eq_true c22
       have c22b1 : decide (5 + a0_1.size ≤ 9223372036854775807) = true := decide_eq_true c22
       try have c22b2 : (9223372036854775807 < 5 + a0_1.size) = False := eq_false (Nat.not_lt.2 c22)
       by_cases c23 : ((⟨#[114, 111, 111, 116, 32]⟩ : ByteArray) ++ a0_1).size + 4 ≤ 9223372036854775807
       ·
        rw [if_pos c23] at H
        have c23b9 : (9223372036854775807 < 5 + a0_1.size + 4) = False := eq_false (Nat.not_lt.2 (by have h_ := c23; simp only [ByteArray.size_append] at h_; exact h_))
        clear c23
        by_cases c24 : 0 < (x3_1.length : Int)
        ·
         rw [if_pos c24] at H
         have c24b0 : decide (0 < (x3_1.length : Int)) = true := decide_eq_true c24
         have c24b1 : decide (0 < x3_1.length) = true := decide_eq_true (by omega)
         clear c24
         by_cases c25 : (((⟨#[114, 111, 111, 116, 32]⟩ : ByteArray) ++ a0_1) ++ (⟨#[32, 97, 116, 32]⟩ : ByteArray)).size + (rdOf ByteArray.empty x3_1 0).size ≤ 9223372036854775807
         ·
          rw [if_pos c25] at H
          have c25b9 : (9223372036854775807 < 5 + a0_1.size + 4 + (rdOf ByteArray.empty x3_1 0).size) = False := eq_false (Nat.not_lt.2 (by have h_ := c25; simp only [ByteArray.size_append] at h_; exact h_))
          clear c25
          by_cases c26 : ((((⟨#[114, 111, 111, 116, 32]⟩ : ByteArray) ++ a0_1) ++ (⟨#[32, 97, 116, 32]⟩ : ByteArray)) ++ (rdOf ByteArray.empty x3_1 0)).size + 1 ≤ 9223372036854775807
          ·
           rw [if_pos c26] at H
           have c26b9 : (9223372036854775807 < 5 + a0_1.size + 4 + (rdOf ByteArray.empty x3_1 0).size + 1) = False := eq_false (Nat.not_lt.2 (by have h_ := c26; simp only [ByteArray.size_append] at h_; exact h_))
           clear c26
           by_cases c27 : 1 < (x3_1.length : Int)
           ·
            rw [if_pos c27] at H
            have c27b0 : decide (1 < (x3_1.length : Int)) = true := decide_eq_true c27
            have c27b1 : decide (1 < x3_1.length) = true := decide_eq_true (by omega)
            clear c27
            by_cases c28 : (((((⟨#[114, 111, 111, 116, 32]⟩ : ByteArray) ++ a0_1) ++ (⟨#[32, 97, 116, 32]⟩ : ByteArray)) ++ (rdOf ByteArray.empty x3_1 0)) ++ (⟨#[32]⟩ : ByteArray)).size + (rdOf ByteArray.empty x3_1 1).size ≤ 9223372036854775807
            ·
             rw [if_pos c28] at H
             have c28b9 : (9223372036854775807 < 5 + a0_1.size + 4 + (rdOf ByteArray.empty x3_1 0).size + 1 + (rdOf ByteArray.empty x3_1 1).size) = False := eq_false (Nat.not_lt.2 (by have h_ := c28; simp only [ByteArray.size_append] at h_; exact h_))
             clear c28
             by_cases c29 : ((((((⟨#[114, 111, 111, 116, 32]⟩ : ByteArray) ++ a0_1) ++ (⟨#[32, 97, 116, 32]⟩ : ByteArray)) ++ (rdOf ByteArray.empty x3_1 0)) ++ (⟨#[32]⟩ : ByteArray)) ++ (rdOf ByteArray.empty x3_1 1)).size + 1 ≤ 9223372036854775807
             ·
              rw [if_pos c29] at H
              have c29b9 : (9223372036854775807 < 5 + a0_1.size + 4 + (rdOf ByteArray.empty x3_1 0).size + 1 + (rdOf ByteArray.empty x3_1 1).size + 1) = False := eq_false (Nat.not_lt.2 (by have h_ := c29; simp only [ByteArray.size_append] at h_; exact h_))
              clear c29
              obtain rfl := Option.some.inj H
              have hcz30_0 : wr.cell? ⟨gb181, 0, none⟩ = some (.int .i64 a0_0) := (blk_cell BK181.out 0).trans rfl
              have hcz30_1 : wr.cell? ⟨gb181, 1, none⟩ = some (.string a0_1) := (blk_cell BK181.out 1).trans rfl
              have hcz30_2 : wr.cell? ⟨gb181, 2, none⟩ = some (.slice A0_2 l0_2.length c0_2) := (blk_cell BK181.out 2).trans rfl
              have hcz30_3 : wr.cell? ⟨gb181, 3, none⟩ = some (.int .i64 a0_3) := (blk_cell BK181.out 3).trans rfl
              have hfz30_0 := blk_frozen BK181.out 0
              have hfz30_1 := blk_frozen BK181.out 1
              have hfz30_2 := blk_frozen BK181.out 2
              have hfz30_3 := blk_frozen BK181.out 3
              try go_wp2
              have n0_ := Aside0.mk (Kd.R_drew HO_3.out)
              have n1_ := Aside0.mk (blk_drew BK181.out)
              have n2_ := Aside0.mk (below_drew1 HB.out)
              clear HO_3
              clear BK181
              clear HB
              have HO_3 := n0_
              have BK181 := n1_
              have HB := n2_
              clear n0_ n1_ n2_
              obtain ⟨Ao32, co32, eo32⟩ := Kd.R_slice HO_3.out
              (first | subst eo32 | (injection eo32 with f1_ f2_ f3_; have f4_ := f1_.symm; have f5_ := f3_.symm; clear f1_ f2_ f3_; subst f4_; subst f5_))
              have p189 : 0 ≤ (0 : Int) := (by omega)
              have q189 : 0 < (x3_1.length : Int) := of_decide_eq_true (by first | (with_reducible assumption) | assumption)
              obtain ⟨ad189, e189, hx189_0⟩ := Kd.at_string (Kd.R_reads' HO_3.out).2.2 0 p189 q189
              cases e189
              have qi189 : (0 < x3_1.length) = True := eq_true (by omega)
              (try rw [show ((0 : Int)).toNat = 0 from rfl] at hx189_0)
              (try rw [Addr.add_zero'] at hx189_0)
              replace p189 := eq_true p189
              replace q189 := eq_true q189
              have p190 : 0 ≤ (1 : Int) := (by omega)
              have q190 : 1 < (x3_1.length : Int) := of_decide_eq_true (by first | (with_reducible assumption) | assumption)
              obtain ⟨ad190, e190, hx190_0⟩ := Kd.at_string (Kd.R_reads' HO_3.out).2.2 1 p190 q190
              obtain rfl : ad189 = ad190 := (by injection e190)
              (try simp only [show (1 : Int).toNat = 1 from rfl, Nat.reduceEqDiff, Go.Addr.add, ↓reduceIte] at hx190_0)
              have qi190 : (1 < x3_1.length) = True := eq_true (by omega)
              (try rw [show ((1 : Int)).toNat = 1 from rfl] at hx190_0)
              replace p190 := eq_true p190
              replace q190 := eq_true q190
              refine start_ (n := 15) (S := fun w' => w'.cell? ⟨gb181, 0, none⟩ = some (.int .i64 a0_0) ∧ w'.cell? ⟨gb181, 1, none⟩ = some (.string a0_1) ∧ w'.cell? ⟨gb181, 2, none⟩ = some (.slice A0_2 l0_2.length c0_2) ∧ w'.cell? ⟨gb181, 3, none⟩ = some (.int .i64 a0_3) ∧ w'.cell? ad189 = some (.string (rdOf ByteArray.empty x3_1 0)) ∧ w'.cell? ⟨ad189.block, ad189.off + 1, none⟩ = some (.string (rdOf ByteArray.empty x3_1 1))) (ds := []) #[false, false, false, false, false, false, false, false, false, false, false, false, false, false, false] (by kernel_rfl) rfl rfl ⟨(blk_cell BK181.out 0).trans rfl, (blk_cell BK181.out 1).trans rfl, (blk_cell BK181.out 2).trans rfl, (blk_cell BK181.out 3).trans rfl, hx189_0, hx190_0⟩ (fun hHeld => ?_); refine with_tabW slotmeshref03_Line.tab10 slotmeshref03_Line.bits10 (fun HT_ HW_ => ?_)
              generalize wr.drew = w31 at HO_3 BK181 HB hx189_0 hx190_0 hHeld ⊢
              refine pure_ (i := 0) (N := some 38) (v := ?_) (a' := ?_) #[true, false, false, false, false, false, false, false, false, false, false, false, false, false, false] rfl rfl (any_of HT_.out (by kernel_rfl)) (fun _ _ _ h => h) (Or.inl ⟨by rfl, ?_⟩) ?_ ?_
              rotate_left
              ·
               intro w'
               go_simp
               with_reducible rfl
              rotate_left
              ·
               simp only [Act.put, List.setIfInBounds_toArray, List.set_cons_zero, List.set_cons_succ]
               rfl
              refine pure_ (i := 4) (N := some 42) (v := ?_) (a' := ?_) #[true, false, false, false, true, false, false, false, false, false, false, false, false, false, false] rfl rfl (any_of HT_.out (by kernel_rfl)) (fun _ _ _ h => h) (Or.inl ⟨by rfl, ?_⟩) ?_ ?_
              rotate_left
              ·
               intro w'
               go_simp
               with_reducible rfl
              rotate_left
              ·
               simp only [Act.put, List.setIfInBounds_toArray, List.set_cons_zero, List.set_cons_succ]
               rfl
              refine pure_ (i := 5) (N := some 43) (v := ?_) (a' := ?_) #[true, false, false, false, true, true, false, false, false, false, false, false, false, false, false] rfl rfl (any_of HT_.out (by kernel_rfl)) (fun _ _ _ h => h) (Or.inl ⟨by rfl, ?_⟩) ?_ ?_
              rotate_left
              ·
               intro w'
               go_simp
               with_reducible rfl
              rotate_left
              ·
               simp only [Act.put, List.setIfInBounds_toArray, List.set_cons_zero, List.set_cons_succ]
               rfl
              refine pure_ (i := 9) (N := some 47) (v := ?_) (a' := ?_) #[true, false, false, false, true, true, false, false, false, true, false, false, false, false, false] rfl rfl (any_of HT_.out (by kernel_rfl)) (fun _ _ _ h => h) (Or.inl ⟨by rfl, ?_⟩) ?_ ?_
              rotate_left
              ·
               intro w'
               go_simp
               with_reducible rfl
              rotate_left
              ·
               simp only [Act.put, List.setIfInBounds_toArray, List.set_cons_zero, List.set_cons_succ]
               rfl
              refine pure_ (i := 10) (N := some 48) (v := ?_) (a' := ?_) #[true, false, false, false, true, true, false, false, false, true, true, false, false, false, false] rfl rfl (any_of HT_.out (by kernel_rfl)) (fun _ _ _ h => h) (Or.inl ⟨by rfl, ?_⟩) ?_ ?_
              rotate_left
              ·
               intro w'
               go_simp
               with_reducible rfl
              rotate_left
              ·
               simp only [Act.put, List.setIfInBounds_toArray, List.set_cons_zero, List.set_cons_succ]
               rfl
              refine take_ (i := 1) (N := some 39) (v := ?_) (a' := ?_) #[true, true, false, false, true, true, false, false, false, true, true, false, false, false, false] rfl rfl (take_ofW HT_.out HW_.out (by kernel_rfl)) (fun _ _ _ h => h) (Or.inl ⟨by rfl, ?_⟩) hHeld ?_ ?_
              rotate_left
              ·
               rintro w' ⟨s0, s1, s2, s3, s4, s5⟩
               go_simp
               with_reducible rfl
              rotate_left
              ·
               simp only [Act.put, List.setIfInBounds_toArray, List.set_cons_zero, List.set_cons_succ]
               rfl
              refine pure_ (i := 2) (N := some 40) (v := ?_) (a' := ?_) #[true, true, true, false, true, true, false, false, false, true, true, false, false, false, false] rfl rfl (any_of HT_.out (by kernel_rfl)) (fun _ _ _ h => h) (Or.inl ⟨by rfl, ?_⟩) ?_ ?_
              rotate_left
              ·
               intro w'
               go_simp
               with_reducible rfl
              rotate_left
              ·
               simp only [Act.put, List.setIfInBounds_toArray, List.set_cons_zero, List.set_cons_succ]
               rfl
              refine pure_ (i := 3) (N := some 41) (v := ?_) (a' := ?_) #[true, true, true, true, true, true, false, false, false, true, true, false, false, false, false] rfl rfl (any_of HT_.out (by kernel_rfl)) (fun _ _ _ h => h) (Or.inl ⟨by rfl, ?_⟩) ?_ ?_
              rotate_left
              ·
               intro w'
               go_simp
               with_reducible rfl
              rotate_left
              ·
               simp only [Act.put, List.setIfInBounds_toArray, List.set_cons_zero, List.set_cons_succ]
               rfl
              refine take_ (i := 6) (N := some 44) (v := ?_) (a' := ?_) #[true, true, true, true, true, true, true, false, false, true, true, false, false, false, false] rfl rfl (take_ofW HT_.out HW_.out (by kernel_rfl)) (fun _ _ _ h => h) (Or.inl ⟨by rfl, ?_⟩) hHeld ?_ ?_
              rotate_left
              ·
               rintro w' ⟨s0, s1, s2, s3, s4, s5⟩
               go_simp
               with_reducible rfl
              rotate_left
              ·
               simp only [Act.put, List.setIfInBounds_toArray, List.set_cons_zero, List.set_cons_succ]
               rfl
              refine pure_ (i := 7) (N := some 45) (v := ?_) (a' := ?_) #[true, true, true, true, true, true, true, true, false, true, true, false, false, false, false] rfl rfl (any_of HT_.out (by kernel_rfl)) (fun _ _ _ h => h) (Or.inl ⟨by rfl, ?_⟩) ?_ ?_
              rotate_left
              ·
               intro w'
               go_simp
               with_reducible rfl
              rotate_left
              ·
               simp only [Act.put, List.setIfInBounds_toArray, List.set_cons_zero, List.set_cons_succ]
               rfl
              refine pure_ (i := 8) (N := some 46) (v := ?_) (a' := ?_) #[true, true, true, true, true, true, true, true, true, true, true, false, false, false, false] rfl rfl (any_of HT_.out (by kernel_rfl)) (fun _ _ _ h => h) (Or.inl ⟨by rfl, ?_⟩) ?_ ?_
              rotate_left
              ·
               intro w'
               go_simp
               with_reducible rfl
              rotate_left
              ·
               simp only [Act.put, List.setIfInBounds_toArray, List.set_cons_zero, List.set_cons_succ]
               rfl
              refine take_ (i := 11) (N := some 49) (v := ?_) (a' := ?_) #[true, true, true, true, true, true, true, true, true, true, true, true, false, false, false] rfl rfl (take_ofW HT_.out HW_.out (by kernel_rfl)) (fun _ _ _ h => h) (Or.inl ⟨by rfl, ?_⟩) hHeld ?_ ?_
              rotate_left
              ·
               rintro w' ⟨s0, s1, s2, s3, s4, s5⟩
               go_simp
               with_reducible rfl
              rotate_left
              ·
               simp only [Act.put, List.setIfInBounds_toArray, List.set_cons_zero, List.set_cons_succ]
               rfl
              refine pure_ (i := 12) (N := some 50) (v := ?_) (a' := ?_) #[true, true, true, true, true, true, true, true, true, true, true, true, true, false, false] rfl rfl (any_of HT_.out (by kernel_rfl)) (fun _ _ _ h => h) (Or.inl ⟨by rfl, ?_⟩) ?_ ?_
              rotate_left
              ·
               intro w'
               go_simp
               with_reducible rfl
              rotate_left
              ·
               simp only [Act.put, List.setIfInBounds_toArray, List.set_cons_zero, List.set_cons_succ]
               rfl
              refine pure_ (i := 13) (N := some 51) (v := ?_) (a' := ?_) #[true, true, true, true, true, true, true, true, true, true, true, true, true, true, false] rfl rfl (any_of HT_.out (by kernel_rfl)) (fun _ _ _ h => h) (Or.inl ⟨by rfl, ?_⟩) ?_ ?_
              rotate_left
              ·
               intro w'
               go_simp
               with_reducible rfl
              rotate_left
              ·
               simp only [Act.put, List.setIfInBounds_toArray, List.set_cons_zero, List.set_cons_succ]
               rfl
              refine pure_ (i := 14) (N := some 2) (v := ?_) (a' := ?_) #[true, true, true, true, true, true, true, true, true, true, true, true, true, true, true] rfl rfl (any_of HT_.out (by kernel_rfl)) (fun _ _ _ h => h) (Or.inl ⟨by rfl, ?_⟩) ?_ ?_
              rotate_left
              ·
               intro w'
               go_simp
               with_reducible rfl
              rotate_left
              ·
               simp only [Act.put, List.setIfInBounds_toArray, List.set_cons_zero, List.set_cons_succ]
               rfl
              refine done_ (done_of HT_.out (by kernel_rfl)) ?_
              try go_wp2
              go_ret
              exact ⟨by first | rfl | (simp [errW_none, errW_some] <;> rfl) | (simp [*, errW_none, errW_some] <;> rfl), by repeat (first | (with_reducible first | exact HB.out | apply below_alloc | apply pw_below_drewN | apply below_drew1 | refine below_set ?_ GE181.out) | exact HB.out)⟩
             ·
              rw [if_neg c29] at H
              exact absurd H (by simp)
            ·
             rw [if_neg c28] at H
             exact absurd H (by simp)
           ·
            rw [if_neg c27] at H
            exact absurd H (by simp)
          ·
           rw [if_neg c26] at H
           exact absurd H (by simp)
         ·
          rw [if_neg c25] at H
          exact absurd H (by simp)
        ·
         rw [if_neg c24] at H
         exact absurd H (by simp)
       ·
        rw [if_neg c23] at H
        exact absurd H (by simp)
      ·
       rw [if_neg c22] at H
       exact absurd H (by simp)
     ·
      rw [if_neg c21] at H
      have c21b0 : (a0_0 == 2) = false := beq_eq_false_iff_ne.mpr c21
      have c21b1 : (a0_0 != 2) = true := bne_iff_ne.mpr c21
      by_cases c33 : a0_0 = 3
      ·
       rw [if_pos c33] at H
       have c33b0 : (a0_0 == 3) = true := beq_iff_eq.mpr c33
       have c33b1 : (a0_0 != 3) = false := bne_eq_false_iff_eq.mpr c33
       clear c33
       by_cases c34 : 5 + a0_1.size ≤ 9223372036854775807
       ·
        rw [if_pos c34] at H
        have c34b0 := eq_true c34
        have c34b1 : decide (5 + a0_1.size ≤ 9223372036854775807) = true := decide_eq_true c34
        try have c34b2 : (9223372036854775807 < 5 + a0_1.size) = False := eq_false (Nat.not_lt.2 c34)
        by_cases c35 : ((⟨#[110, 111, 100, 101, 32]⟩ : ByteArray) ++ a0_1).size + 4 ≤ 9223372036854775807
        ·
         rw [if_pos c35] at H
         have c35b9 : (9223372036854775807 < 5 + a0_1.size + 4) = False := eq_false (Nat.not_lt.2 (by have h_ := c35; simp only [ByteArray.size_append] at h_; exact h_))
         clear c35
         by_cases c36 : 0 < (x3_1.length : Int)
         ·
          rw [if_pos c36] at H
          have c36b0 : decide (0 < (x3_1.length : Int)) = true := decide_eq_true c36
          have c36b1 : decide (0 < x3_1.length) = true := decide_eq_true (by omega)
          clear c36
          by_cases c37 : (((⟨#[110, 111, 100, 101, 32]⟩ : ByteArray) ++ a0_1) ++ (⟨#[32, 97, 116, 32]⟩ : ByteArray)).size + (rdOf ByteArray.empty x3_1 0).size ≤ 9223372036854775807
          ·
           rw [if_pos c37] at H
           have c37b9 : (9223372036854775807 < 5 + a0_1.size + 4 + (rdOf ByteArray.empty x3_1 0).size) = False := eq_false (Nat.not_lt.2 (by have h_ := c37; simp only [ByteArray.size_append] at h_; exact h_))
           clear c37
           by_cases c38 : ((((⟨#[110, 111, 100, 101, 32]⟩ : ByteArray) ++ a0_1) ++ (⟨#[32, 97, 116, 32]⟩ : ByteArray)) ++ (rdOf ByteArray.empty x3_1 0)).size + 1 ≤ 9223372036854775807
           ·
            rw [if_pos c38] at H
            have c38b9 : (9223372036854775807 < 5 + a0_1.size + 4 + (rdOf ByteArray.empty x3_1 0).size + 1) = False := eq_false (Nat.not_lt.2 (by have h_ := c38; simp only [ByteArray.size_append] at h_; exact h_))
            clear c38
            by_cases c39 : 1 < (x3_1.length : Int)
            ·
             rw [if_pos c39] at H
             have c39b0 : decide (1 < (x3_1.length : Int)) = true := decide_eq_true c39
             have c39b1 : decide (1 < x3_1.length) = true := decide_eq_true (by omega)
             clear c39
             by_cases c40 : (((((⟨#[110, 111, 100, 101, 32]⟩ : ByteArray) ++ a0_1) ++ (⟨#[32, 97, 116, 32]⟩ : ByteArray)) ++ (rdOf ByteArray.empty x3_1 0)) ++ (⟨#[32]⟩ : ByteArray)).size + (rdOf ByteArray.empty x3_1 1).size ≤ 9223372036854775807
             ·
              rw [if_pos c40] at H
              have c40b9 : (9223372036854775807 < 5 + a0_1.size + 4 + (rdOf ByteArray.empty x3_1 0).size + 1 + (rdOf ByteArray.empty x3_1 1).size) = False := eq_false (Nat.not_lt.2 (by have h_ := c40; simp only [ByteArray.size_append] at h_; exact h_))
              clear c40
              by_cases c41 : ((((((⟨#[110, 111, 100, 101, 32]⟩ : ByteArray) ++ a0_1) ++ (⟨#[32, 97, 116, 32]⟩ : ByteArray)) ++ (rdOf ByteArray.empty x3_1 0)) ++ (⟨#[32]⟩ : ByteArray)) ++ (rdOf ByteArray.empty x3_1 1)).size + 1 ≤ 9223372036854775807
              ·
               rw [if_pos c41] at H
               have c41b9 : (9223372036854775807 < 5 + a0_1.size + 4 + (rdOf ByteArray.empty x3_1 0).size + 1 + (rdOf ByteArray.empty x3_1 1).size + 1) = False := eq_false (Nat.not_lt.2 (by have h_ := c41; simp only [ByteArray.size_append] at h_; exact h_))
               clear c41
               by_cases c42 : 2 < (l0_2.length : Int)
               ·
                rw [if_pos c42] at H
                have c42b0 : decide (2 < (l0_2.length : Int)) = true := decide_eq_true c42
                have c42b1 : decide (2 < l0_2.length) = true := decide_eq_true (by omega)
                clear c42
                replace H := Option.bind_eq_some_iff.mp H
                obtain ⟨t194, A430, H⟩ := H
                replace H : (if (((((((⟨#[110, 111, 100, 101, 32]⟩ : ByteArray) ++ a0_1) ++ (⟨#[32, 97, 116, 32]⟩ : ByteArray)) ++ (rdOf ByteArray.empty x3_1 0)) ++ (⟨#[32]⟩ : ByteArray)) ++ (rdOf ByteArray.empty x3_1 1)) ++ (⟨#[32]⟩ : ByteArray)).size + t194.size ≤ 9223372036854775807 then (if ((((((((⟨#[110, 111, 100, 101, 32]⟩ : ByteArray) ++ a0_1) ++ (⟨#[32, 97, 116, 32]⟩ : ByteArray)) ++ (rdOf ByteArray.empty x3_1 0)) ++ (⟨#[32]⟩ : ByteArray)) ++ (rdOf ByteArray.empty x3_1 1)) ++ (⟨#[32]⟩ : ByteArray)) ++ t194).size + 9 ≤ 9223372036854775807 then (if 3 < (x3_1.length : Int) then (if (((((((((⟨#[110, 111, 100, 101, 32]⟩ : ByteArray) ++ a0_1) ++ (⟨#[32, 97, 116, 32]⟩ : ByteArray)) ++ (rdOf ByteArray.empty x3_1 0)) ++ (⟨#[32]⟩ : ByteArray)) ++ (rdOf ByteArray.empty x3_1 1)) ++ (⟨#[32]⟩ : ByteArray)) ++ t194) ++ (⟨#[32, 98, 97, 116, 116, 101, 114, 121, 32]⟩ : ByteArray)).size + (rdOf ByteArray.empty x3_1 3).size ≤ 9223372036854775807 then (if ((((((((((⟨#[110, 111, 100, 101, 32]⟩ : ByteArray) ++ a0_1) ++ (⟨#[32, 97, 116, 32]⟩ : ByteArray)) ++ (rdOf ByteArray.empty x3_1 0)) ++ (⟨#[32]⟩ : ByteArray)) ++ (rdOf ByteArray.empty x3_1 1)) ++ (⟨#[32]⟩ : ByteArray)) ++ t194) ++ (⟨#[32, 98, 97, 116, 116, 101, 114, 121, 32]⟩ : ByteArray)) ++ (rdOf ByteArray.empty x3_1 3)).size + 1 ≤ 9223372036854775807 then (some (((((((((((⟨#[110, 111, 100, 101, 32]⟩ : ByteArray) ++ a0_1) ++ (⟨#[32, 97, 116, 32]⟩ : ByteArray)) ++ (rdOf ByteArray.empty x3_1 0)) ++ (⟨#[32]⟩ : ByteArray)) ++ (rdOf ByteArray.empty x3_1 1)) ++ (⟨#[32]⟩ : ByteArray)) ++ t194) ++ (⟨#[32, 98, 97, 116, 116, 101, 114, 121, 32]⟩ : ByteArray)) ++ (rdOf ByteArray.empty x3_1 3)) ++ (⟨#[59]⟩ : ByteArray))) else (none)) else (none)) else (none)) else (none)) else (none)) = some r := H
                have A43 := Aside0.mk A430
                clear A430
                by_cases c44 : (((((((⟨#[110, 111, 100, 101, 32]⟩ : ByteArray) ++ a0_1) ++ (⟨#[32, 97, 116, 32]⟩ : ByteArray)) ++ (rdOf ByteArray.empty x3_1 0)) ++ (⟨#[32]⟩ : ByteArray)) ++ (rdOf ByteArray.empty x3_1 1)) ++ (⟨#[32]⟩ : ByteArray)).size + t194.size ≤ 9223372036854775807
                ·
                 rw [if_pos c44] at H
                 have c44b9 : (9223372036854775807 < 5 + a0_1.size + 4 + (rdOf ByteArray.empty x3_1 0).size + 1 + (rdOf ByteArray.empty x3_1 1).size + 1 + t194.size) = False := eq_false (Nat.not_lt.2 (by have h_ := c44; simp only [ByteArray.size_append] at h_; exact h_))
                 clear c44
                 by_cases c45 : ((((((((⟨#[110, 111, 100, 101, 32]⟩ : ByteArray) ++ a0_1) ++ (⟨#[32, 97, 116, 32]⟩ : ByteArray)) ++ (rdOf ByteArray.empty x3_1 0)) ++ (⟨#[32]⟩ : ByteArray)) ++ (rdOf ByteArray.empty x3_1 1)) ++ (⟨#[32]⟩ : ByteArray)) ++ t194).size + 9 ≤ 9223372036854775807
                 ·
                  rw [if_pos c45] at H
                  have c45b9 : (9223372036854775807 < 5 + a0_1.size + 4 + (rdOf ByteArray.empty x3_1 0).size + 1 + (rdOf ByteArray.empty x3_1 1).size + 1 + t194.size + 9) = False := eq_false (Nat.not_lt.2 (by have h_ := c45; simp only [ByteArray.size_append] at h_; exact h_))
                  clear c45
                  by_cases c46 : 3 < (x3_1.length : Int)
                  ·
                   rw [if_pos c46] at H
                   have c46b0 : decide (3 < (x3_1.length : Int)) = true := decide_eq_true c46
                   have c46b1 : decide (3 < x3_1.length) = true := decide_eq_true (by omega)
                   clear c46
                   by_cases c47 : (((((((((⟨#[110, 111, 100, 101, 32]⟩ : ByteArray) ++ a0_1) ++ (⟨#[32, 97, 116, 32]⟩ : ByteArray)) ++ (rdOf ByteArray.empty x3_1 0)) ++ (⟨#[32]⟩ : ByteArray)) ++ (rdOf ByteArray.empty x3_1 1)) ++ (⟨#[32]⟩ : ByteArray)) ++ t194) ++ (⟨#[32, 98, 97, 116, 116, 101, 114, 121, 32]⟩ : ByteArray)).size + (rdOf ByteArray.empty x3_1 3).size ≤ 9223372036854775807
                   ·
                    rw [if_pos c47] at H
                    have c47b9 : (9223372036854775807 < 5 + a0_1.size + 4 + (rdOf ByteArray.empty x3_1 0).size + 1 + (rdOf ByteArray.empty x3_1 1).size + 1 + t194.size + 9 + (rdOf ByteArray.empty x3_1 3).size) = False := eq_false (Nat.not_lt.2 (by have h_ := c47; simp only [ByteArray.size_append] at h_; exact h_))
                    clear c47
                    by_cases c48 : ((((((((((⟨#[110, 111, 100, 101, 32]⟩ : ByteArray) ++ a0_1) ++ (⟨#[32, 97, 116, 32]⟩ : ByteArray)) ++ (rdOf ByteArray.empty x3_1 0)) ++ (⟨#[32]⟩ : ByteArray)) ++ (rdOf ByteArray.empty x3_1 1)) ++ (⟨#[32]⟩ : ByteArray)) ++ t194) ++ (⟨#[32, 98, 97, 116, 116, 101, 114, 121, 32]⟩ : ByteArray)) ++ (rdOf ByteArray.empty x3_1 3)).size + 1 ≤ 9223372036854775807
                    ·
                     rw [if_pos c48] at H
                     have c48b9 : (9223372036854775807 < 5 + a0_1.size + 4 + (rdOf ByteArray.empty x3_1 0).size + 1 + (rdOf ByteArray.empty x3_1 1).size + 1 + t194.size + 9 + (rdOf ByteArray.empty x3_1 3).size + 1) = False := eq_false (Nat.not_lt.2 (by have h_ := c48; simp only [ByteArray.size_append] at h_; exact h_))
                     clear c48
                     obtain rfl := Option.some.inj H
                     have hcz49_0 : wr.cell? ⟨gb181, 0, none⟩ = some (.int .i64 a0_0) := (blk_cell BK181.out 0).trans rfl
                     have hcz49_1 : wr.cell? ⟨gb181, 1, none⟩ = some (.string a0_1) := (blk_cell BK181.out 1).trans rfl
                     have hcz49_2 : wr.cell? ⟨gb181, 2, none⟩ = some (.slice A0_2 l0_2.length c0_2) := (blk_cell BK181.out 2).trans rfl
                     have hcz49_3 : wr.cell? ⟨gb181, 3, none⟩ = some (.int .i64 a0_3) := (blk_cell BK181.out 3).trans rfl
                     have hfz49_0 := blk_frozen BK181.out 0
                     have hfz49_1 := blk_frozen BK181.out 1
                     have hfz49_2 := blk_frozen BK181.out 2
                     have hfz49_3 := blk_frozen BK181.out 3
                     try go_wp2
                     have n0_ := Aside0.mk (Kd.R_drew HO_3.out)
                     have n1_ := Aside0.mk (blk_drew BK181.out)
                     have n2_ := Aside0.mk (below_drew1 HB.out)
                     clear HO_3
                     clear BK181
                     clear HB
                     have HO_3 := n0_
                     have BK181 := n1_
                     have HB := n2_
                     clear n0_ n1_ n2_
                     obtain ⟨Ao51, co51, eo51⟩ := Kd.R_slice HO_3.out
                     (first | subst eo51 | (injection eo51 with f1_ f2_ f3_; have f4_ := f1_.symm; have f5_ := f3_.symm; clear f1_ f2_ f3_; subst f4_; subst f5_))
                     have p191 : 0 ≤ (0 : Int) := (by omega)
                     have q191 : 0 < (x3_1.length : Int) := of_decide_eq_true (by first | (with_reducible assumption) | assumption)
                     obtain ⟨ad191, e191, hx191_0⟩ := Kd.at_string (Kd.R_reads' HO_3.out).2.2 0 p191 q191
                     cases e191
                     have qi191 : (0 < x3_1.length) = True := eq_true (by omega)
                     (try rw [show ((0 : Int)).toNat = 0 from rfl] at hx191_0)
                     (try rw [Addr.add_zero'] at hx191_0)
                     replace p191 := eq_true p191
                     replace q191 := eq_true q191
                     have p192 : 0 ≤ (1 : Int) := (by omega)
                     have q192 : 1 < (x3_1.length : Int) := of_decide_eq_true (by first | (with_reducible assumption) | assumption)
                     obtain ⟨ad192, e192, hx192_0⟩ := Kd.at_string (Kd.R_reads' HO_3.out).2.2 1 p192 q192
                     obtain rfl : ad191 = ad192 := (by injection e192)
                     (try simp only [show (1 : Int).toNat = 1 from rfl, Nat.reduceEqDiff, Go.Addr.add, ↓reduceIte] at hx192_0)
                     have qi192 : (1 < x3_1.length) = True := eq_true (by omega)
                     (try rw [show ((1 : Int)).toNat = 1 from rfl] at hx192_0)
                     replace p192 := eq_true p192
                     replace q192 := eq_true q192
                     have p193 : 0 ≤ (2 : Int) := (by omega)
                     have q193 : 2 < (l0_2.length : Int) := of_decide_eq_true (by first | (with_reducible assumption) | assumption)
                     obtain ⟨ad193, e193, hx193_0⟩ := Kd.at_int HR0_2.out 2 p193 q193
                     have hw193_0 := hx193_0
                     (try rw [show ((2 : Int)).toNat = 2 from rfl] at hw193_0)
                     (try rw [show 2 * 1 = 2 from rfl] at hw193_0)
                     (try simp only [Nat.reduceEqDiff, Go.Addr.add, ↓reduceIte] at hw193_0)
                     cases e193
                     (try simp only [show (2 : Int).toNat = 2 from rfl, Nat.reduceEqDiff, Go.Addr.add, ↓reduceIte] at hx193_0)
                     have qi193 : (2 < l0_2.length) = True := eq_true (by omega)
                     (try rw [show ((2 : Int)).toNat = 2 from rfl] at hx193_0)
                     replace hx193_0 := (HB.out.cell (World.block_lt_of_cell? w _ hx193_0)).trans hx193_0
                     replace p193 := eq_true p193
                     replace q193 := eq_true q193
                     have p195 : 0 ≤ (3 : Int) := (by omega)
                     have q195 : 3 < (x3_1.length : Int) := of_decide_eq_true (by first | (with_reducible assumption) | assumption)
                     obtain ⟨ad195, e195, hx195_0⟩ := Kd.at_string (Kd.R_reads' HO_3.out).2.2 3 p195 q195
                     obtain rfl : ad191 = ad195 := (by injection e195)
                     (try simp only [show (3 : Int).toNat = 3 from rfl, Nat.reduceEqDiff, Go.Addr.add, ↓reduceIte] at hx195_0)
                     have qi195 : (3 < x3_1.length) = True := eq_true (by omega)
                     (try rw [show ((3 : Int)).toNat = 3 from rfl] at hx195_0)
                     replace p195 := eq_true p195
                     replace q195 := eq_true q195
                     refine start_ (n := 27) (S := fun w' => w'.cell? ⟨gb181, 0, none⟩ = some (.int .i64 a0_0) ∧ w'.cell? ⟨gb181, 1, none⟩ = some (.string a0_1) ∧ w'.cell? ⟨gb181, 2, none⟩ = some (.slice (some ad193) l0_2.length c0_2) ∧ w'.cell? ⟨gb181, 3, none⟩ = some (.int .i64 a0_3) ∧ w'.cell? ad191 = some (.string (rdOf ByteArray.empty x3_1 0)) ∧ w'.cell? ⟨ad191.block, ad191.off + 1, none⟩ = some (.string (rdOf ByteArray.empty x3_1 1)) ∧ w'.cell? ⟨ad193.block, ad193.off + 2, none⟩ = some (.int .i64 (rd l0_2 2)) ∧ w'.cell? ⟨ad191.block, ad191.off + 3, none⟩ = some (.string (rdOf ByteArray.empty x3_1 3))) (ds := []) #[false, false, false, false, false, false, false, false, false, false, false, false, false, false, false, false, false, false, false, false, false, false, false, false, false, false, false] (by kernel_rfl) rfl rfl ⟨(blk_cell BK181.out 0).trans rfl, (blk_cell BK181.out 1).trans rfl, (blk_cell BK181.out 2).trans rfl, (blk_cell BK181.out 3).trans rfl, hx191_0, hx192_0, ((HB.out.cell (World.block_lt_of_cell? w _ hw193_0)).trans hw193_0), hx195_0⟩ (fun hHeld => ?_); refine with_tabW slotmeshref03_Line.tab12 slotmeshref03_Line.bits12 (fun HT_ HW_ => ?_)
                     generalize wr.drew = w50 at HO_3 BK181 HB hx191_0 hx192_0 hx193_0 hx195_0 hHeld ⊢
                     refine pure_ (i := 0) (N := some 54) (v := ?_) (a' := ?_) #[true, false, false, false, false, false, false, false, false, false, false, false, false, false, false, false, false, false, false, false, false, false, false, false, false, false, false] rfl rfl (any_of HT_.out (by kernel_rfl)) (fun _ _ _ h => h) (Or.inl ⟨by rfl, ?_⟩) ?_ ?_
                     rotate_left
                     ·
                      intro w'
                      go_simp
                      with_reducible rfl
                     rotate_left
                     ·
                      simp only [Act.put, List.setIfInBounds_toArray, List.set_cons_zero, List.set_cons_succ]
                      rfl
                     refine pure_ (i := 4) (N := some 58) (v := ?_) (a' := ?_) #[true, false, false, false, true, false, false, false, false, false, false, false, false, false, false, false, false, false, false, false, false, false, false, false, false, false, false] rfl rfl (any_of HT_.out (by kernel_rfl)) (fun _ _ _ h => h) (Or.inl ⟨by rfl, ?_⟩) ?_ ?_
                     rotate_left
                     ·
                      intro w'
                      go_simp
                      with_reducible rfl
                     rotate_left
                     ·
                      simp only [Act.put, List.setIfInBounds_toArray, List.set_cons_zero, List.set_cons_succ]
                      rfl
                     refine pure_ (i := 5) (N := some 59) (v := ?_) (a' := ?_) #[true, false, false, false, true, true, false, false, false, false, false, false, false, false, false, false, false, false, false, false, false, false, false, false, false, false, false] rfl rfl (any_of HT_.out (by kernel_rfl)) (fun _ _ _ h => h) (Or.inl ⟨by rfl, ?_⟩) ?_ ?_
                     rotate_left
                     ·
                      intro w'
                      go_simp
                      with_reducible rfl
                     rotate_left
                     ·
                      simp only [Act.put, List.setIfInBounds_toArray, List.set_cons_zero, List.set_cons_succ]
                      rfl
                     refine pure_ (i := 9) (N := some 63) (v := ?_) (a' := ?_) #[true, false, false, false, true, true, false, false, false, true, false, false, false, false, false, false, false, false, false, false, false, false, false, false, false, false, false] rfl rfl (any_of HT_.out (by kernel_rfl)) (fun _ _ _ h => h) (Or.inl ⟨by rfl, ?_⟩) ?_ ?_
                     rotate_left
                     ·
                      intro w'
                      go_simp
                      with_reducible rfl
                     rotate_left
                     ·
                      simp only [Act.put, List.setIfInBounds_toArray, List.set_cons_zero, List.set_cons_succ]
                      rfl
                     refine pure_ (i := 10) (N := some 64) (v := ?_) (a' := ?_) #[true, false, false, false, true, true, false, false, false, true, true, false, false, false, false, false, false, false, false, false, false, false, false, false, false, false, false] rfl rfl (any_of HT_.out (by kernel_rfl)) (fun _ _ _ h => h) (Or.inl ⟨by rfl, ?_⟩) ?_ ?_
                     rotate_left
                     ·
                      intro w'
                      go_simp
                      with_reducible rfl
                     rotate_left
                     ·
                      simp only [Act.put, List.setIfInBounds_toArray, List.set_cons_zero, List.set_cons_succ]
                      rfl
                     refine pure_ (i := 14) (N := some 68) (v := ?_) (a' := ?_) #[true, false, false, false, true, true, false, false, false, true, true, false, false, false, true, false, false, false, false, false, false, false, false, false, false, false, false] rfl rfl (any_of HT_.out (by kernel_rfl)) (fun _ _ _ h => h) (Or.inl ⟨by rfl, ?_⟩) ?_ ?_
                     rotate_left
                     ·
                      intro w'
                      go_simp
                      with_reducible rfl
                     rotate_left
                     ·
                      simp only [Act.put, List.setIfInBounds_toArray, List.set_cons_zero, List.set_cons_succ]
                      rfl
                     refine pure_ (i := 21) (N := some 75) (v := ?_) (a' := ?_) #[true, false, false, false, true, true, false, false, false, true, true, false, false, false, true, false, false, false, false, false, false, true, false, false, false, false, false] rfl rfl (any_of HT_.out (by kernel_rfl)) (fun _ _ _ h => h) (Or.inl ⟨by rfl, ?_⟩) ?_ ?_
                     rotate_left
                     ·
                      intro w'
                      go_simp
                      with_reducible rfl
                     rotate_left
                     ·
                      simp only [Act.put, List.setIfInBounds_toArray, List.set_cons_zero, List.set_cons_succ]
                      rfl
                     refine pure_ (i := 22) (N := some 76) (v := ?_) (a' := ?_) #[true, false, false, false, true, true, false, false, false, true, true, false, false, false, true, false, false, false, false, false, false, true, true, false, false, false, false] rfl rfl (any_of HT_.out (by kernel_rfl)) (fun _ _ _ h => h) (Or.inl ⟨by rfl, ?_⟩) ?_ ?_
                     rotate_left
                     ·
                      intro w'
                      go_simp
                      with_reducible rfl
                     rotate_left
                     ·
                      simp only [Act.put, List.setIfInBounds_toArray, List.set_cons_zero, List.set_cons_succ]
                      rfl
                     refine take_ (i := 1) (N := some 55) (v := ?_) (a' := ?_) #[true, true, false, false, true, true, false, false, false, true, true, false, false, false, true, false, false, false, false, false, false, true, true, false, false, false, false] rfl rfl (take_ofW HT_.out HW_.out (by kernel_rfl)) (fun _ _ _ h => h) (Or.inl ⟨by rfl, ?_⟩) hHeld ?_ ?_
                     rotate_left
                     ·
                      rintro w' ⟨s0, s1, s2, s3, s4, s5, s6, s7⟩
                      go_simp
                      with_reducible rfl
                     rotate_left
                     ·
                      simp only [Act.put, List.setIfInBounds_toArray, List.set_cons_zero, List.set_cons_succ]
                      rfl
                     refine pure_ (i := 2) (N := some 56) (v := ?_) (a' := ?_) #[true, true, true, false, true, true, false, false, false, true, true, false, false, false, true, false, false, false, false, false, false, true, true, false, false, false, false] rfl rfl (any_of HT_.out (by kernel_rfl)) (fun _ _ _ h => h) (Or.inl ⟨by rfl, ?_⟩) ?_ ?_
                     rotate_left
                     ·
                      intro w'
                      go_simp
                      with_reducible rfl
                     rotate_left
                     ·
                      simp only [Act.put, List.setIfInBounds_toArray, List.set_cons_zero, List.set_cons_succ]
                      rfl
                     refine pure_ (i := 3) (N := some 57) (v := ?_) (a' := ?_) #[true, true, true, true, true, true, false, false, false, true, true, false, false, false, true, false, false, false, false, false, false, true, true, false, false, false, false] rfl rfl (any_of HT_.out (by kernel_rfl)) (fun _ _ _ h => h) (Or.inl ⟨by rfl, ?_⟩) ?_ ?_
                     rotate_left
                     ·
                      intro w'
                      go_simp
                      with_reducible rfl
                     rotate_left
                     ·
                      simp only [Act.put, List.setIfInBounds_toArray, List.set_cons_zero, List.set_cons_succ]
                      rfl
                     refine take_ (i := 6) (N := some 60) (v := ?_) (a' := ?_) #[true, true, true, true, true, true, true, false, false, true, true, false, false, false, true, false, false, false, false, false, false, true, true, false, false, false, false] rfl rfl (take_ofW HT_.out HW_.out (by kernel_rfl)) (fun _ _ _ h => h) (Or.inl ⟨by rfl, ?_⟩) hHeld ?_ ?_
                     rotate_left
                     ·
                      rintro w' ⟨s0, s1, s2, s3, s4, s5, s6, s7⟩
                      go_simp
                      with_reducible rfl
                     rotate_left
                     ·
                      simp only [Act.put, List.setIfInBounds_toArray, List.set_cons_zero, List.set_cons_succ]
                      rfl
                     refine pure_ (i := 7) (N := some 61) (v := ?_) (a' := ?_) #[true, true, true, true, true, true, true, true, false, true, true, false, false, false, true, false, false, false, false, false, false, true, true, false, false, false, false] rfl rfl (any_of HT_.out (by kernel_rfl)) (fun _ _ _ h => h) (Or.inl ⟨by rfl, ?_⟩) ?_ ?_
                     rotate_left
                     ·
                      intro w'
                      go_simp
                      with_reducible rfl
                     rotate_left
                     ·
                      simp only [Act.put, List.setIfInBounds_toArray, List.set_cons_zero, List.set_cons_succ]
                      rfl
                     refine pure_ (i := 8) (N := some 62) (v := ?_) (a' := ?_) #[true, true, true, true, true, true, true, true, true, true, true, false, false, false, true, false, false, false, false, false, false, true, true, false, false, false, false] rfl rfl (any_of HT_.out (by kernel_rfl)) (fun _ _ _ h => h) (Or.inl ⟨by rfl, ?_⟩) ?_ ?_
                     rotate_left
                     ·
                      intro w'
                      go_simp
                      with_reducible rfl
                     rotate_left
                     ·
                      simp only [Act.put, List.setIfInBounds_toArray, List.set_cons_zero, List.set_cons_succ]
                      rfl
                     refine take_ (i := 11) (N := some 65) (v := ?_) (a' := ?_) #[true, true, true, true, true, true, true, true, true, true, true, true, false, false, true, false, false, false, false, false, false, true, true, false, false, false, false] rfl rfl (take_ofW HT_.out HW_.out (by kernel_rfl)) (fun _ _ _ h => h) (Or.inl ⟨by rfl, ?_⟩) hHeld ?_ ?_
                     rotate_left
                     ·
                      rintro w' ⟨s0, s1, s2, s3, s4, s5, s6, s7⟩
                      go_simp
                      with_reducible rfl
                     rotate_left
                     ·
                      simp only [Act.put, List.setIfInBounds_toArray, List.set_cons_zero, List.set_cons_succ]
                      rfl
                     refine pure_ (i := 12) (N := some 66) (v := ?_) (a' := ?_) #[true, true, true, true, true, true, true, true, true, true, true, true, true, false, true, false, false, false, false, false, false, true, true, false, false, false, false] rfl rfl (any_of HT_.out (by kernel_rfl)) (fun _ _ _ h => h) (Or.inl ⟨by rfl, ?_⟩) ?_ ?_
                     rotate_left
                     ·
                      intro w'
                      go_simp
                      with_reducible rfl
                     rotate_left
                     ·
                      simp only [Act.put, List.setIfInBounds_toArray, List.set_cons_zero, List.set_cons_succ]
                      rfl
                     refine pure_ (i := 13) (N := some 67) (v := ?_) (a' := ?_) #[true, true, true, true, true, true, true, true, true, true, true, true, true, true, true, false, false, false, false, false, false, true, true, false, false, false, false] rfl rfl (any_of HT_.out (by kernel_rfl)) (fun _ _ _ h => h) (Or.inl ⟨by rfl, ?_⟩) ?_ ?_
                     rotate_left
                     ·
                      intro w'
                      go_simp
                      with_reducible rfl
                     rotate_left
                     ·
                      simp only [Act.put, List.setIfInBounds_toArray, List.set_cons_zero, List.set_cons_succ]
                      rfl
                     refine take_ (i := 15) (N := some 69) (v := ?_) (a' := ?_) #[true, true, true, true, true, true, true, true, true, true, true, true, true, true, true, true, false, false, false, false, false, true, true, false, false, false, false] rfl rfl (take_ofW HT_.out HW_.out (by kernel_rfl)) (fun _ _ _ h => h) (Or.inl ⟨by rfl, ?_⟩) hHeld ?_ ?_
                     rotate_left
                     ·
                      rintro w' ⟨s0, s1, s2, s3, s4, s5, s6, s7⟩
                      go_simp
                      with_reducible rfl
                     rotate_left
                     ·
                      simp only [Act.put, List.setIfInBounds_toArray, List.set_cons_zero, List.set_cons_succ]
                      rfl
                     refine pure_ (i := 16) (N := some 70) (v := ?_) (a' := ?_) #[true, true, true, true, true, true, true, true, true, true, true, true, true, true, true, true, true, false, false, false, false, true, true, false, false, false, false] rfl rfl (any_of HT_.out (by kernel_rfl)) (fun _ _ _ h => h) (Or.inl ⟨by rfl, ?_⟩) ?_ ?_
                     rotate_left
                     ·
                      intro w'
                      go_simp
                      with_reducible rfl
                     rotate_left
                     ·
                      simp only [Act.put, List.setIfInBounds_toArray, List.set_cons_zero, List.set_cons_succ]
                      rfl
                     refine take_ (i := 17) (N := some 71) (v := ?_) (a' := ?_) #[true, true, true, true, true, true, true, true, true, true, true, true, true, true, true, true, true, true, false, false, false, true, true, false, false, false, false] rfl rfl (take_ofW HT_.out HW_.out (by kernel_rfl)) (fun _ _ _ h => h) (Or.inl ⟨by rfl, ?_⟩) hHeld ?_ ?_
                     rotate_left
                     ·
                      rintro w' ⟨s0, s1, s2, s3, s4, s5, s6, s7⟩
                      go_simp
                      with_reducible rfl
                     rotate_left
                     ·
                      simp only [Act.put, List.setIfInBounds_toArray, List.set_cons_zero, List.set_cons_succ]
                      rfl
                     refine take_ (i := 23) (N := some 77) (v := ?_) (a' := ?_) #[true, true, true, true, true, true, true, true, true, true, true, true, true, true, true, true, true, true, false, false, false, true, true, true, false, false, false] rfl rfl (take_ofW HT_.out HW_.out (by kernel_rfl)) (fun _ _ _ h => h) (Or.inl ⟨by rfl, ?_⟩) hHeld ?_ ?_
                     rotate_left
                     ·
                      rintro w' ⟨s0, s1, s2, s3, s4, s5, s6, s7⟩
                      go_simp
                      with_reducible rfl
                     rotate_left
                     ·
                      simp only [Act.put, List.setIfInBounds_toArray, List.set_cons_zero, List.set_cons_succ]
                      rfl
                     refine one_ (i := 18) (N := some 72) #[true, true, true, true, true, true, true, true, true, true, true, true, true, true, true, true, true, true, true, false, false, true, true, true, false, false, false] rfl rfl (one_of HT_.out (by kernel_rfl)) (by decide) (fun K hK => ?_)
                     refine goes_ Tryd.func85 (by kernel_rfl) rfl #[.int .i64 (rd l0_2 2)] (by rfl) rfl rfl (by (try simp only [List.map_toArray, List.map_cons, List.map_nil]); first | done | rfl | (simp only [List.length_drop, List.length_take]; rfl) | (simp (disch := omega) only [IntWalk.wrap64_in]; done)) ?_
                     with_reducible refine (slotmeshref03_drift.calls k1 (rd l0_2 2) t194 _ A43.out).mono ?_
                     rintro e w52 ⟨rfl, hb⟩
                     have HS4_ := (hb.cell (World.block_lt_of_cell? _ _ (hHeld.2.2.2.2.1))).trans (hHeld.2.2.2.2.1)
                     have HS5_ := (hb.cell (World.block_lt_of_cell? _ _ (hHeld.2.2.2.2.2.1))).trans (hHeld.2.2.2.2.2.1)
                     have HS7_ := (hb.cell (World.block_lt_of_cell? _ _ (hHeld.2.2.2.2.2.2.2))).trans (hHeld.2.2.2.2.2.2.2)
                     refine ⟨_, rfl, ?_⟩
                     have n0_ := Aside0.mk (Kd.R_below (by (with_reducible repeat (first | apply Kd.R_alloc | apply Kd.R_drewN | apply Kd.R_drew)); exact HO_3.out) hb)
                     have n1_ := Aside0.mk (blk_below (g := gb181) (o := .cells #[.int .i64 a0_0, .string a0_1, .slice (some ad193) l0_2.length c0_2, .int .i64 a0_3] 40 (0, 0)) (by (with_reducible repeat (first | refine blk_drewN ?_ _ | refine blk_drew ?_ | refine blk_alloc ?_ _)); exact BK181.out) hb)
                     have n2_ := Aside0.mk (below_step (by repeat (first | (with_reducible first | exact HB.out | apply below_alloc | apply pw_below_drewN | apply below_drew1 | refine below_set ?_ GE181.out) | exact HB.out)) hb)
                     clear HO_3
                     clear BK181
                     clear HB
                     have HO_3 := n0_
                     have BK181 := n1_
                     have HB := n2_
                     clear n0_ n1_ n2_
                     (try clear hb)
                     (try clear hb2)
                     (try clear hk)
                     (try clear hi)
                     refine hK.out _ _ ⟨(blk_cell BK181.out 0).trans rfl, (blk_cell BK181.out 1).trans rfl, (blk_cell BK181.out 2).trans rfl, (blk_cell BK181.out 3).trans rfl, HS4_, HS5_, ((HB.out.cell (World.block_lt_of_cell? w _ hw193_0)).trans hw193_0), HS7_⟩ (fun hHeld => ?_)
                     clear hK K
                     refine norm_ (a' := ?_) ?_ ?_
                     rotate_left
                     ·
                      show Act.put _ (some 72) _ = _
                      simp only [Act.put, List.setIfInBounds_toArray, List.set_cons_zero, List.set_cons_succ]
                      rfl
                     refine pure_ (i := 19) (N := some 73) (v := ?_) (a' := ?_) #[true, true, true, true, true, true, true, true, true, true, true, true, true, true, true, true, true, true, true, true, false, true, true, true, false, false, false] rfl rfl (any_of HT_.out (by kernel_rfl)) (fun _ _ _ h => h) (Or.inl ⟨by rfl, ?_⟩) ?_ ?_
                     rotate_left
                     ·
                      intro w'
                      go_simp
                      with_reducible rfl
                     rotate_left
                     ·
                      simp only [Act.put, List.setIfInBounds_toArray, List.set_cons_zero, List.set_cons_succ]
                      rfl
                     refine pure_ (i := 20) (N := some 74) (v := ?_) (a' := ?_) #[true, true, true, true, true, true, true, true, true, true, true, true, true, true, true, true, true, true, true, true, true, true, true, true, false, false, false] rfl rfl (any_of HT_.out (by kernel_rfl)) (fun _ _ _ h => h) (Or.inl ⟨by rfl, ?_⟩) ?_ ?_
                     rotate_left
                     ·
                      intro w'
                      go_simp
                      with_reducible rfl
                     rotate_left
                     ·
                      simp only [Act.put, List.setIfInBounds_toArray, List.set_cons_zero, List.set_cons_succ]
                      rfl
                     refine pure_ (i := 24) (N := some 78) (v := ?_) (a' := ?_) #[true, true, true, true, true, true, true, true, true, true, true, true, true, true, true, true, true, true, true, true, true, true, true, true, true, false, false] rfl rfl (any_of HT_.out (by kernel_rfl)) (fun _ _ _ h => h) (Or.inl ⟨by rfl, ?_⟩) ?_ ?_
                     rotate_left
                     ·
                      intro w'
                      go_simp
                      with_reducible rfl
                     rotate_left
                     ·
                      simp only [Act.put, List.setIfInBounds_toArray, List.set_cons_zero, List.set_cons_succ]
                      rfl
                     refine pure_ (i := 25) (N := some 79) (v := ?_) (a' := ?_) #[true, true, true, true, true, true, true, true, true, true, true, true, true, true, true, true, true, true, true, true, true, true, true, true, true, true, false] rfl rfl (any_of HT_.out (by kernel_rfl)) (fun _ _ _ h => h) (Or.inl ⟨by rfl, ?_⟩) ?_ ?_
                     rotate_left
                     ·
                      intro w'
                      go_simp
                      with_reducible rfl
                     rotate_left
                     ·
                      simp only [Act.put, List.setIfInBounds_toArray, List.set_cons_zero, List.set_cons_succ]
                      rfl
                     refine pure_ (i := 26) (N := some 2) (v := ?_) (a' := ?_) #[true, true, true, true, true, true, true, true, true, true, true, true, true, true, true, true, true, true, true, true, true, true, true, true, true, true, true] rfl rfl (any_of HT_.out (by kernel_rfl)) (fun _ _ _ h => h) (Or.inl ⟨by rfl, ?_⟩) ?_ ?_
                     rotate_left
                     ·
                      intro w'
                      go_simp
                      with_reducible rfl
                     rotate_left
                     ·
                      simp only [Act.put, List.setIfInBounds_toArray, List.set_cons_zero, List.set_cons_succ]
                      rfl
                     refine done_ (done_of HT_.out (by kernel_rfl)) ?_
                     try go_wp2
                     go_ret
                     exact ⟨by first | rfl | (simp [errW_none, errW_some] <;> rfl) | (simp [*, errW_none, errW_some] <;> rfl), by repeat (first | (with_reducible first | exact HB.out | apply below_alloc | apply pw_below_drewN | apply below_drew1 | refine below_set ?_ GE181.out) | exact HB.out)⟩
                    ·
                     rw [if_neg c48] at H
                     exact absurd H (by simp)
                   ·
                    rw [if_neg c47] at H
                    exact absurd H (by simp)
                  ·
                   rw [if_neg c46] at H
                   exact absurd H (by simp)
                 ·
                  rw [if_neg c45] at H
                  exact absurd H (by simp)
                ·
                 rw [if_neg c44] at H
                 exact absurd H (by simp)
               ·
                rw [if_neg c42] at H
                exact absurd H (by simp)
              ·
               rw [if_neg c41] at H
               exact absurd H (by simp)
             ·
              rw [if_neg c40] at H
              exact absurd H (by simp)
            ·
             rw [if_neg c39] at H
             exact absurd H (by simp)
           ·
            rw [if_neg c38] at H
            exact absurd H (by simp)
          ·
           rw [if_neg c37] at H
           exact absurd H (by simp)
         ·
          rw [if_neg c36] at H
          exact absurd H (by simp)
        ·
         rw [if_neg c35] at H
         exact absurd H (by simp)
       ·
        rw [if_neg c34] at H
        exact absurd H (by simp)
      ·
       rw [if_neg c33] at H
       have c33b0 : (a0_0 == 3) = false := beq_eq_false_iff_ne.mpr c33
       have c33b1 : (a0_0 != 3) = true := bne_iff_ne.mpr c33
       by_cases c53 : a0_0 = 4
       ·
        rw [if_pos c53] at H
        have c53b0 : (a0_0 == 4) = true := beq_iff_eq.mpr c53
        have c53b1 : (a0_0 != 4) = false := bne_eq_false_iff_eq.mpr c53
        clear c53
        by_cases c54 : 0 < (x3_1.length : Int)
        ·
         rw [if_pos c54] at H
         have c54b0 : decide (0 < (x3_1.length : Int)) = true := decide_eq_true c54
         have c54b1 : decide (0 < x3_1.length) = true := decide_eq_true (by omega)
         clear c54
         by_cases c55 : 3 + (rdOf ByteArray.empty x3_1 0).size ≤ 9223372036854775807
         ·
          rw [if_pos c55] at H
          have c55b0 := eq_true c55
          have c55b1 : decide (3 + (rdOf ByteArray.empty x3_1 0).size ≤ 9223372036854775807) = true := decide_eq_true c55
          try have c55b2 : (9223372036854775807 < 3 + (rdOf ByteArray.empty x3_1 0).size) = False := eq_false (Nat.not_lt.2 c55)
          by_cases c56 : ((⟨#[97, 116, 32]⟩ : ByteArray) ++ (rdOf ByteArray.empty x3_1 0)).size + 6 ≤ 9223372036854775807
          ·
           rw [if_pos c56] at H
           have c56b9 : (9223372036854775807 < 3 + (rdOf ByteArray.empty x3_1 0).size + 6) = False := eq_false (Nat.not_lt.2 (by have h_ := c56; simp only [ByteArray.size_append] at h_; exact h_))
           clear c56
           by_cases c57 : (((⟨#[97, 116, 32]⟩ : ByteArray) ++ (rdOf ByteArray.empty x3_1 0)) ++ (⟨#[32, 109, 111, 118, 101, 32]⟩ : ByteArray)).size + a0_1.size ≤ 9223372036854775807
           ·
            rw [if_pos c57] at H
            have c57b9 : (9223372036854775807 < 3 + (rdOf ByteArray.empty x3_1 0).size + 6 + a0_1.size) = False := eq_false (Nat.not_lt.2 (by have h_ := c57; simp only [ByteArray.size_append] at h_; exact h_))
            clear c57
            by_cases c58 : ((((⟨#[97, 116, 32]⟩ : ByteArray) ++ (rdOf ByteArray.empty x3_1 0)) ++ (⟨#[32, 109, 111, 118, 101, 32]⟩ : ByteArray)) ++ a0_1).size + 1 ≤ 9223372036854775807
            ·
             rw [if_pos c58] at H
             have c58b9 : (9223372036854775807 < 3 + (rdOf ByteArray.empty x3_1 0).size + 6 + a0_1.size + 1) = False := eq_false (Nat.not_lt.2 (by have h_ := c58; simp only [ByteArray.size_append] at h_; exact h_))
             clear c58
             by_cases c59 : 1 < (x3_1.length : Int)
             ·
              rw [if_pos c59] at H
              have c59b0 : decide (1 < (x3_1.length : Int)) = true := decide_eq_true c59
              have c59b1 : decide (1 < x3_1.length) = true := decide_eq_true (by omega)
              clear c59
              by_cases c60 : (((((⟨#[97, 116, 32]⟩ : ByteArray) ++ (rdOf ByteArray.empty x3_1 0)) ++ (⟨#[32, 109, 111, 118, 101, 32]⟩ : ByteArray)) ++ a0_1) ++ (⟨#[32]⟩ : ByteArray)).size + (rdOf ByteArray.empty x3_1 1).size ≤ 9223372036854775807
              ·
               rw [if_pos c60] at H
               have c60b9 : (9223372036854775807 < 3 + (rdOf ByteArray.empty x3_1 0).size + 6 + a0_1.size + 1 + (rdOf ByteArray.empty x3_1 1).size) = False := eq_false (Nat.not_lt.2 (by have h_ := c60; simp only [ByteArray.size_append] at h_; exact h_))
               clear c60
               by_cases c61 : ((((((⟨#[97, 116, 32]⟩ : ByteArray) ++ (rdOf ByteArray.empty x3_1 0)) ++ (⟨#[32, 109, 111, 118, 101, 32]⟩ : ByteArray)) ++ a0_1) ++ (⟨#[32]⟩ : ByteArray)) ++ (rdOf ByteArray.empty x3_1 1)).size + 1 ≤ 9223372036854775807
               ·
                rw [if_pos c61] at H
                have c61b9 : (9223372036854775807 < 3 + (rdOf ByteArray.empty x3_1 0).size + 6 + a0_1.size + 1 + (rdOf ByteArray.empty x3_1 1).size + 1) = False := eq_false (Nat.not_lt.2 (by have h_ := c61; simp only [ByteArray.size_append] at h_; exact h_))
                clear c61
                by_cases c62 : 2 < (x3_1.length : Int)
                ·
                 rw [if_pos c62] at H
                 have c62b0 : decide (2 < (x3_1.length : Int)) = true := decide_eq_true c62
                 have c62b1 : decide (2 < x3_1.length) = true := decide_eq_true (by omega)
                 clear c62
                 by_cases c63 : (((((((⟨#[97, 116, 32]⟩ : ByteArray) ++ (rdOf ByteArray.empty x3_1 0)) ++ (⟨#[32, 109, 111, 118, 101, 32]⟩ : ByteArray)) ++ a0_1) ++ (⟨#[32]⟩ : ByteArray)) ++ (rdOf ByteArray.empty x3_1 1)) ++ (⟨#[32]⟩ : ByteArray)).size + (rdOf ByteArray.empty x3_1 2).size ≤ 9223372036854775807
                 ·
                  rw [if_pos c63] at H
                  have c63b9 : (9223372036854775807 < 3 + (rdOf ByteArray.empty x3_1 0).size + 6 + a0_1.size + 1 + (rdOf ByteArray.empty x3_1 1).size + 1 + (rdOf ByteArray.empty x3_1 2).size) = False := eq_false (Nat.not_lt.2 (by have h_ := c63; simp only [ByteArray.size_append] at h_; exact h_))
                  clear c63
                  by_cases c64 : ((((((((⟨#[97, 116, 32]⟩ : ByteArray) ++ (rdOf ByteArray.empty x3_1 0)) ++ (⟨#[32, 109, 111, 118, 101, 32]⟩ : ByteArray)) ++ a0_1) ++ (⟨#[32]⟩ : ByteArray)) ++ (rdOf ByteArray.empty x3_1 1)) ++ (⟨#[32]⟩ : ByteArray)) ++ (rdOf ByteArray.empty x3_1 2)).size + 1 ≤ 9223372036854775807
                  ·
                   rw [if_pos c64] at H
                   have c64b9 : (9223372036854775807 < 3 + (rdOf ByteArray.empty x3_1 0).size + 6 + a0_1.size + 1 + (rdOf ByteArray.empty x3_1 1).size + 1 + (rdOf ByteArray.empty x3_1 2).size + 1) = False := eq_false (Nat.not_lt.2 (by have h_ := c64; simp only [ByteArray.size_append] at h_; exact h_))
                   clear c64
                   obtain rfl := Option.some.inj H
                   have hcz65_0 : wr.cell? ⟨gb181, 0, none⟩ = some (.int .i64 a0_0) := (blk_cell BK181.out 0).trans rfl
                   have hcz65_1 : wr.cell? ⟨gb181, 1, none⟩ = some (.string a0_1) := (blk_cell BK181.out 1).trans rfl
                   have hcz65_2 : wr.cell? ⟨gb181, 2, none⟩ = some (.slice A0_2 l0_2.length c0_2) := (blk_cell BK181.out 2).trans rfl
                   have hcz65_3 : wr.cell? ⟨gb181, 3, none⟩ = some (.int .i64 a0_3) := (blk_cell BK181.out 3).trans rfl
                   have hfz65_0 := blk_frozen BK181.out 0
                   have hfz65_1 := blk_frozen BK181.out 1
                   have hfz65_2 := blk_frozen BK181.out 2
                   have hfz65_3 := blk_frozen BK181.out 3
                   try go_wp2
                   have n0_ := Aside0.mk (Kd.R_drew HO_3.out)
                   have n1_ := Aside0.mk (blk_drew BK181.out)
                   have n2_ := Aside0.mk (below_drew1 HB.out)
                   clear HO_3
                   clear BK181
                   clear HB
                   have HO_3 := n0_
                   have BK181 := n1_
                   have HB := n2_
                   clear n0_ n1_ n2_
                   obtain ⟨Ao67, co67, eo67⟩ := Kd.R_slice HO_3.out
                   (first | subst eo67 | (injection eo67 with f1_ f2_ f3_; have f4_ := f1_.symm; have f5_ := f3_.symm; clear f1_ f2_ f3_; subst f4_; subst f5_))
                   have p196 : 0 ≤ (0 : Int) := (by omega)
                   have q196 : 0 < (x3_1.length : Int) := of_decide_eq_true (by first | (with_reducible assumption) | assumption)
                   obtain ⟨ad196, e196, hx196_0⟩ := Kd.at_string (Kd.R_reads' HO_3.out).2.2 0 p196 q196
                   cases e196
                   have qi196 : (0 < x3_1.length) = True := eq_true (by omega)
                   (try rw [show ((0 : Int)).toNat = 0 from rfl] at hx196_0)
                   (try rw [Addr.add_zero'] at hx196_0)
                   replace p196 := eq_true p196
                   replace q196 := eq_true q196
                   have p197 : 0 ≤ (1 : Int) := (by omega)
                   have q197 : 1 < (x3_1.length : Int) := of_decide_eq_true (by first | (with_reducible assumption) | assumption)
                   obtain ⟨ad197, e197, hx197_0⟩ := Kd.at_string (Kd.R_reads' HO_3.out).2.2 1 p197 q197
                   obtain rfl : ad196 = ad197 := (by injection e197)
                   (try simp only [show (1 : Int).toNat = 1 from rfl, Nat.reduceEqDiff, Go.Addr.add, ↓reduceIte] at hx197_0)
                   have qi197 : (1 < x3_1.length) = True := eq_true (by omega)
                   (try rw [show ((1 : Int)).toNat = 1 from rfl] at hx197_0)
                   replace p197 := eq_true p197
                   replace q197 := eq_true q197
                   have p198 : 0 ≤ (2 : Int) := (by omega)
                   have q198 : 2 < (x3_1.length : Int) := of_decide_eq_true (by first | (with_reducible assumption) | assumption)
                   obtain ⟨ad198, e198, hx198_0⟩ := Kd.at_string (Kd.R_reads' HO_3.out).2.2 2 p198 q198
                   obtain rfl : ad196 = ad198 := (by injection e198)
                   (try simp only [show (2 : Int).toNat = 2 from rfl, Nat.reduceEqDiff, Go.Addr.add, ↓reduceIte] at hx198_0)
                   have qi198 : (2 < x3_1.length) = True := eq_true (by omega)
                   (try rw [show ((2 : Int)).toNat = 2 from rfl] at hx198_0)
                   replace p198 := eq_true p198
                   replace q198 := eq_true q198
                   refine start_ (n := 20) (S := fun w' => w'.cell? ⟨gb181, 0, none⟩ = some (.int .i64 a0_0) ∧ w'.cell? ⟨gb181, 1, none⟩ = some (.string a0_1) ∧ w'.cell? ⟨gb181, 2, none⟩ = some (.slice A0_2 l0_2.length c0_2) ∧ w'.cell? ⟨gb181, 3, none⟩ = some (.int .i64 a0_3) ∧ w'.cell? ad196 = some (.string (rdOf ByteArray.empty x3_1 0)) ∧ w'.cell? ⟨ad196.block, ad196.off + 1, none⟩ = some (.string (rdOf ByteArray.empty x3_1 1)) ∧ w'.cell? ⟨ad196.block, ad196.off + 2, none⟩ = some (.string (rdOf ByteArray.empty x3_1 2))) (ds := []) #[false, false, false, false, false, false, false, false, false, false, false, false, false, false, false, false, false, false, false, false] (by kernel_rfl) rfl rfl ⟨(blk_cell BK181.out 0).trans rfl, (blk_cell BK181.out 1).trans rfl, (blk_cell BK181.out 2).trans rfl, (blk_cell BK181.out 3).trans rfl, hx196_0, hx197_0, hx198_0⟩ (fun hHeld => ?_); refine with_tabW slotmeshref03_Line.tab14 slotmeshref03_Line.bits14 (fun HT_ HW_ => ?_)
                   generalize wr.drew = w66 at HO_3 BK181 HB hx196_0 hx197_0 hx198_0 hHeld ⊢
                   refine pure_ (i := 0) (N := some 82) (v := ?_) (a' := ?_) #[true, false, false, false, false, false, false, false, false, false, false, false, false, false, false, false, false, false, false, false] rfl rfl (any_of HT_.out (by kernel_rfl)) (fun _ _ _ h => h) (Or.inl ⟨by rfl, ?_⟩) ?_ ?_
                   rotate_left
                   ·
                    intro w'
                    go_simp
                    with_reducible rfl
                   rotate_left
                   ·
                    simp only [Act.put, List.setIfInBounds_toArray, List.set_cons_zero, List.set_cons_succ]
                    rfl
                   refine pure_ (i := 1) (N := some 83) (v := ?_) (a' := ?_) #[true, true, false, false, false, false, false, false, false, false, false, false, false, false, false, false, false, false, false, false] rfl rfl (any_of HT_.out (by kernel_rfl)) (fun _ _ _ h => h) (Or.inl ⟨by rfl, ?_⟩) ?_ ?_
                   rotate_left
                   ·
                    intro w'
                    go_simp
                    with_reducible rfl
                   rotate_left
                   ·
                    simp only [Act.put, List.setIfInBounds_toArray, List.set_cons_zero, List.set_cons_succ]
                    rfl
                   refine pure_ (i := 5) (N := some 87) (v := ?_) (a' := ?_) #[true, true, false, false, false, true, false, false, false, false, false, false, false, false, false, false, false, false, false, false] rfl rfl (any_of HT_.out (by kernel_rfl)) (fun _ _ _ h => h) (Or.inl ⟨by rfl, ?_⟩) ?_ ?_
                   rotate_left
                   ·
                    intro w'
                    go_simp
                    with_reducible rfl
                   rotate_left
                   ·
                    simp only [Act.put, List.setIfInBounds_toArray, List.set_cons_zero, List.set_cons_succ]
                    rfl
                   refine pure_ (i := 9) (N := some 91) (v := ?_) (a' := ?_) #[true, true, false, false, false, true, false, false, false, true, false, false, false, false, false, false, false, false, false, false] rfl rfl (any_of HT_.out (by kernel_rfl)) (fun _ _ _ h => h) (Or.inl ⟨by rfl, ?_⟩) ?_ ?_
                   rotate_left
                   ·
                    intro w'
                    go_simp
                    with_reducible rfl
                   rotate_left
                   ·
                    simp only [Act.put, List.setIfInBounds_toArray, List.set_cons_zero, List.set_cons_succ]
                    rfl
                   refine pure_ (i := 10) (N := some 92) (v := ?_) (a' := ?_) #[true, true, false, false, false, true, false, false, false, true, true, false, false, false, false, false, false, false, false, false] rfl rfl (any_of HT_.out (by kernel_rfl)) (fun _ _ _ h => h) (Or.inl ⟨by rfl, ?_⟩) ?_ ?_
                   rotate_left
                   ·
                    intro w'
                    go_simp
                    with_reducible rfl
                   rotate_left
                   ·
                    simp only [Act.put, List.setIfInBounds_toArray, List.set_cons_zero, List.set_cons_succ]
                    rfl
                   refine pure_ (i := 14) (N := some 96) (v := ?_) (a' := ?_) #[true, true, false, false, false, true, false, false, false, true, true, false, false, false, true, false, false, false, false, false] rfl rfl (any_of HT_.out (by kernel_rfl)) (fun _ _ _ h => h) (Or.inl ⟨by rfl, ?_⟩) ?_ ?_
                   rotate_left
                   ·
                    intro w'
                    go_simp
                    with_reducible rfl
                   rotate_left
                   ·
                    simp only [Act.put, List.setIfInBounds_toArray, List.set_cons_zero, List.set_cons_succ]
                    rfl
                   refine pure_ (i := 15) (N := some 97) (v := ?_) (a' := ?_) #[true, true, false, false, false, true, false, false, false, true, true, false, false, false, true, true, false, false, false, false] rfl rfl (any_of HT_.out (by kernel_rfl)) (fun _ _ _ h => h) (Or.inl ⟨by rfl, ?_⟩) ?_ ?_
                   rotate_left
                   ·
                    intro w'
                    go_simp
                    with_reducible rfl
                   rotate_left
                   ·
                    simp only [Act.put, List.setIfInBounds_toArray, List.set_cons_zero, List.set_cons_succ]
                    rfl
                   refine take_ (i := 2) (N := some 84) (v := ?_) (a' := ?_) #[true, true, true, false, false, true, false, false, false, true, true, false, false, false, true, true, false, false, false, false] rfl rfl (take_ofW HT_.out HW_.out (by kernel_rfl)) (fun _ _ _ h => h) (Or.inl ⟨by rfl, ?_⟩) hHeld ?_ ?_
                   rotate_left
                   ·
                    rintro w' ⟨s0, s1, s2, s3, s4, s5, s6⟩
                    go_simp
                    with_reducible rfl
                   rotate_left
                   ·
                    simp only [Act.put, List.setIfInBounds_toArray, List.set_cons_zero, List.set_cons_succ]
                    rfl
                   refine pure_ (i := 3) (N := some 85) (v := ?_) (a' := ?_) #[true, true, true, true, false, true, false, false, false, true, true, false, false, false, true, true, false, false, false, false] rfl rfl (any_of HT_.out (by kernel_rfl)) (fun _ _ _ h => h) (Or.inl ⟨by rfl, ?_⟩) ?_ ?_
                   rotate_left
                   ·
                    intro w'
                    go_simp
                    with_reducible rfl
                   rotate_left
                   ·
                    simp only [Act.put, List.setIfInBounds_toArray, List.set_cons_zero, List.set_cons_succ]
                    rfl
                   refine pure_ (i := 4) (N := some 86) (v := ?_) (a' := ?_) #[true, true, true, true, true, true, false, false, false, true, true, false, false, false, true, true, false, false, false, false] rfl rfl (any_of HT_.out (by kernel_rfl)) (fun _ _ _ h => h) (Or.inl ⟨by rfl, ?_⟩) ?_ ?_
                   rotate_left
                   ·
                    intro w'
                    go_simp
                    with_reducible rfl
                   rotate_left
                   ·
                    simp only [Act.put, List.setIfInBounds_toArray, List.set_cons_zero, List.set_cons_succ]
                    rfl
                   refine take_ (i := 6) (N := some 88) (v := ?_) (a' := ?_) #[true, true, true, true, true, true, true, false, false, true, true, false, false, false, true, true, false, false, false, false] rfl rfl (take_ofW HT_.out HW_.out (by kernel_rfl)) (fun _ _ _ h => h) (Or.inl ⟨by rfl, ?_⟩) hHeld ?_ ?_
                   rotate_left
                   ·
                    rintro w' ⟨s0, s1, s2, s3, s4, s5, s6⟩
                    go_simp
                    with_reducible rfl
                   rotate_left
                   ·
                    simp only [Act.put, List.setIfInBounds_toArray, List.set_cons_zero, List.set_cons_succ]
                    rfl
                   refine pure_ (i := 7) (N := some 89) (v := ?_) (a' := ?_) #[true, true, true, true, true, true, true, true, false, true, true, false, false, false, true, true, false, false, false, false] rfl rfl (any_of HT_.out (by kernel_rfl)) (fun _ _ _ h => h) (Or.inl ⟨by rfl, ?_⟩) ?_ ?_
                   rotate_left
                   ·
                    intro w'
                    go_simp
                    with_reducible rfl
                   rotate_left
                   ·
                    simp only [Act.put, List.setIfInBounds_toArray, List.set_cons_zero, List.set_cons_succ]
                    rfl
                   refine pure_ (i := 8) (N := some 90) (v := ?_) (a' := ?_) #[true, true, true, true, true, true, true, true, true, true, true, false, false, false, true, true, false, false, false, false] rfl rfl (any_of HT_.out (by kernel_rfl)) (fun _ _ _ h => h) (Or.inl ⟨by rfl, ?_⟩) ?_ ?_
                   rotate_left
                   ·
                    intro w'
                    go_simp
                    with_reducible rfl
                   rotate_left
                   ·
                    simp only [Act.put, List.setIfInBounds_toArray, List.set_cons_zero, List.set_cons_succ]
                    rfl
                   refine take_ (i := 11) (N := some 93) (v := ?_) (a' := ?_) #[true, true, true, true, true, true, true, true, true, true, true, true, false, false, true, true, false, false, false, false] rfl rfl (take_ofW HT_.out HW_.out (by kernel_rfl)) (fun _ _ _ h => h) (Or.inl ⟨by rfl, ?_⟩) hHeld ?_ ?_
                   rotate_left
                   ·
                    rintro w' ⟨s0, s1, s2, s3, s4, s5, s6⟩
                    go_simp
                    with_reducible rfl
                   rotate_left
                   ·
                    simp only [Act.put, List.setIfInBounds_toArray, List.set_cons_zero, List.set_cons_succ]
                    rfl
                   refine pure_ (i := 12) (N := some 94) (v := ?_) (a' := ?_) #[true, true, true, true, true, true, true, true, true, true, true, true, true, false, true, true, false, false, false, false] rfl rfl (any_of HT_.out (by kernel_rfl)) (fun _ _ _ h => h) (Or.inl ⟨by rfl, ?_⟩) ?_ ?_
                   rotate_left
                   ·
                    intro w'
                    go_simp
                    with_reducible rfl
                   rotate_left
                   ·
                    simp only [Act.put, List.setIfInBounds_toArray, List.set_cons_zero, List.set_cons_succ]
                    rfl
                   refine pure_ (i := 13) (N := some 95) (v := ?_) (a' := ?_) #[true, true, true, true, true, true, true, true, true, true, true, true, true, true, true, true, false, false, false, false] rfl rfl (any_of HT_.out (by kernel_rfl)) (fun _ _ _ h => h) (Or.inl ⟨by rfl, ?_⟩) ?_ ?_
                   rotate_left
                   ·
                    intro w'
                    go_simp
                    with_reducible rfl
                   rotate_left
                   ·
                    simp only [Act.put, List.setIfInBounds_toArray, List.set_cons_zero, List.set_cons_succ]
                    rfl
                   refine take_ (i := 16) (N := some 98) (v := ?_) (a' := ?_) #[true, true, true, true, true, true, true, true, true, true, true, true, true, true, true, true, true, false, false, false] rfl rfl (take_ofW HT_.out HW_.out (by kernel_rfl)) (fun _ _ _ h => h) (Or.inl ⟨by rfl, ?_⟩) hHeld ?_ ?_
                   rotate_left
                   ·
                    rintro w' ⟨s0, s1, s2, s3, s4, s5, s6⟩
                    go_simp
                    with_reducible rfl
                   rotate_left
                   ·
                    simp only [Act.put, List.setIfInBounds_toArray, List.set_cons_zero, List.set_cons_succ]
                    rfl
                   refine pure_ (i := 17) (N := some 99) (v := ?_) (a' := ?_) #[true, true, true, true, true, true, true, true, true, true, true, true, true, true, true, true, true, true, false, false] rfl rfl (any_of HT_.out (by kernel_rfl)) (fun _ _ _ h => h) (Or.inl ⟨by rfl, ?_⟩) ?_ ?_
                   rotate_left
                   ·
                    intro w'
                    go_simp
                    with_reducible rfl
                   rotate_left
                   ·
                    simp only [Act.put, List.setIfInBounds_toArray, List.set_cons_zero, List.set_cons_succ]
                    rfl
                   refine pure_ (i := 18) (N := some 100) (v := ?_) (a' := ?_) #[true, true, true, true, true, true, true, true, true, true, true, true, true, true, true, true, true, true, true, false] rfl rfl (any_of HT_.out (by kernel_rfl)) (fun _ _ _ h => h) (Or.inl ⟨by rfl, ?_⟩) ?_ ?_
                   rotate_left
                   ·
                    intro w'
                    go_simp
                    with_reducible rfl
                   rotate_left
                   ·
                    simp only [Act.put, List.setIfInBounds_toArray, List.set_cons_zero, List.set_cons_succ]
                    rfl
                   refine pure_ (i := 19) (N := some 2) (v := ?_) (a' := ?_) #[true, true, true, true, true, true, true, true, true, true, true, true, true, true, true, true, true, true, true, true] rfl rfl (any_of HT_.out (by kernel_rfl)) (fun _ _ _ h => h) (Or.inl ⟨by rfl, ?_⟩) ?_ ?_
                   rotate_left
                   ·
                    intro w'
                    go_simp
                    with_reducible rfl
                   rotate_left
                   ·
                    simp only [Act.put, List.setIfInBounds_toArray, List.set_cons_zero, List.set_cons_succ]
                    rfl
                   refine done_ (done_of HT_.out (by kernel_rfl)) ?_
                   try go_wp2
                   go_ret
                   exact ⟨by first | rfl | (simp [errW_none, errW_some] <;> rfl) | (simp [*, errW_none, errW_some] <;> rfl), by repeat (first | (with_reducible first | exact HB.out | apply below_alloc | apply pw_below_drewN | apply below_drew1 | refine below_set ?_ GE181.out) | exact HB.out)⟩
                  ·
                   rw [if_neg c64] at H
                   exact absurd H (by simp)
                 ·
                  rw [if_neg c63] at H
                  exact absurd H (by simp)
                ·
                 rw [if_neg c62] at H
                 exact absurd H (by simp)
               ·
                rw [if_neg c61] at H
                exact absurd H (by simp)
              ·
               rw [if_neg c60] at H
               exact absurd H (by simp)
             ·
              rw [if_neg c59] at H
              exact absurd H (by simp)
            ·
             rw [if_neg c58] at H
             exact absurd H (by simp)
           ·
            rw [if_neg c57] at H
            exact absurd H (by simp)
          ·
           rw [if_neg c56] at H
           exact absurd H (by simp)
         ·
          rw [if_neg c55] at H
          exact absurd H (by simp)
        ·
         rw [if_neg c54] at H
         exact absurd H (by simp)
       ·
        rw [if_neg c53] at H
        have c53b0 : (a0_0 == 4) = false := beq_eq_false_iff_ne.mpr c53
        have c53b1 : (a0_0 != 4) = true := bne_iff_ne.mpr c53
        by_cases c68 : a0_0 = 5
        ·
         rw [if_pos c68] at H
         have c68b0 : (a0_0 == 5) = true := beq_iff_eq.mpr c68
         have c68b1 : (a0_0 != 5) = false := bne_eq_false_iff_eq.mpr c68
         clear c68
         by_cases c69 : 0 < (x3_1.length : Int)
         ·
          rw [if_pos c69] at H
          have c69b0 : decide (0 < (x3_1.length : Int)) = true := decide_eq_true c69
          have c69b1 : decide (0 < x3_1.length) = true := decide_eq_true (by omega)
          clear c69
          by_cases c70 : 3 + (rdOf ByteArray.empty x3_1 0).size ≤ 9223372036854775807
          ·
           rw [if_pos c70] at H
           have c70b0 := eq_true c70
           have c70b1 : decide (3 + (rdOf ByteArray.empty x3_1 0).size ≤ 9223372036854775807) = true := decide_eq_true c70
           try have c70b2 : (9223372036854775807 < 3 + (rdOf ByteArray.empty x3_1 0).size) = False := eq_false (Nat.not_lt.2 c70)
           by_cases c71 : ((⟨#[97, 116, 32]⟩ : ByteArray) ++ (rdOf ByteArray.empty x3_1 0)).size + 6 ≤ 9223372036854775807
           ·
            rw [if_pos c71] at H
            have c71b9 : (9223372036854775807 < 3 + (rdOf ByteArray.empty x3_1 0).size + 6) = False := eq_false (Nat.not_lt.2 (by have h_ := c71; simp only [ByteArray.size_append] at h_; exact h_))
            clear c71
            by_cases c72 : (((⟨#[97, 116, 32]⟩ : ByteArray) ++ (rdOf ByteArray.empty x3_1 0)) ++ (⟨#[32, 102, 97, 105, 108, 32]⟩ : ByteArray)).size + a0_1.size ≤ 9223372036854775807
            ·
             rw [if_pos c72] at H
             have c72b9 : (9223372036854775807 < 3 + (rdOf ByteArray.empty x3_1 0).size + 6 + a0_1.size) = False := eq_false (Nat.not_lt.2 (by have h_ := c72; simp only [ByteArray.size_append] at h_; exact h_))
             clear c72
             by_cases c73 : ((((⟨#[97, 116, 32]⟩ : ByteArray) ++ (rdOf ByteArray.empty x3_1 0)) ++ (⟨#[32, 102, 97, 105, 108, 32]⟩ : ByteArray)) ++ a0_1).size + 1 ≤ 9223372036854775807
             ·
              rw [if_pos c73] at H
              have c73b9 : (9223372036854775807 < 3 + (rdOf ByteArray.empty x3_1 0).size + 6 + a0_1.size + 1) = False := eq_false (Nat.not_lt.2 (by have h_ := c73; simp only [ByteArray.size_append] at h_; exact h_))
              clear c73
              obtain rfl := Option.some.inj H
              have hcz74_0 : wr.cell? ⟨gb181, 0, none⟩ = some (.int .i64 a0_0) := (blk_cell BK181.out 0).trans rfl
              have hcz74_1 : wr.cell? ⟨gb181, 1, none⟩ = some (.string a0_1) := (blk_cell BK181.out 1).trans rfl
              have hcz74_2 : wr.cell? ⟨gb181, 2, none⟩ = some (.slice A0_2 l0_2.length c0_2) := (blk_cell BK181.out 2).trans rfl
              have hcz74_3 : wr.cell? ⟨gb181, 3, none⟩ = some (.int .i64 a0_3) := (blk_cell BK181.out 3).trans rfl
              have hfz74_0 := blk_frozen BK181.out 0
              have hfz74_1 := blk_frozen BK181.out 1
              have hfz74_2 := blk_frozen BK181.out 2
              have hfz74_3 := blk_frozen BK181.out 3
              try go_wp2
              have n0_ := Aside0.mk (Kd.R_drew HO_3.out)
              have n1_ := Aside0.mk (blk_drew BK181.out)
              have n2_ := Aside0.mk (below_drew1 HB.out)
              clear HO_3
              clear BK181
              clear HB
              have HO_3 := n0_
              have BK181 := n1_
              have HB := n2_
              clear n0_ n1_ n2_
              obtain ⟨Ao76, co76, eo76⟩ := Kd.R_slice HO_3.out
              (first | subst eo76 | (injection eo76 with f1_ f2_ f3_; have f4_ := f1_.symm; have f5_ := f3_.symm; clear f1_ f2_ f3_; subst f4_; subst f5_))
              have p199 : 0 ≤ (0 : Int) := (by omega)
              have q199 : 0 < (x3_1.length : Int) := of_decide_eq_true (by first | (with_reducible assumption) | assumption)
              obtain ⟨ad199, e199, hx199_0⟩ := Kd.at_string (Kd.R_reads' HO_3.out).2.2 0 p199 q199
              cases e199
              have qi199 : (0 < x3_1.length) = True := eq_true (by omega)
              (try rw [show ((0 : Int)).toNat = 0 from rfl] at hx199_0)
              (try rw [Addr.add_zero'] at hx199_0)
              replace p199 := eq_true p199
              replace q199 := eq_true q199
              refine start_ (n := 10) (S := fun w' => w'.cell? ⟨gb181, 0, none⟩ = some (.int .i64 a0_0) ∧ w'.cell? ⟨gb181, 1, none⟩ = some (.string a0_1) ∧ w'.cell? ⟨gb181, 2, none⟩ = some (.slice A0_2 l0_2.length c0_2) ∧ w'.cell? ⟨gb181, 3, none⟩ = some (.int .i64 a0_3) ∧ w'.cell? ad199 = some (.string (rdOf ByteArray.empty x3_1 0))) (ds := []) #[false, false, false, false, false, false, false, false, false, false] (by kernel_rfl) rfl rfl ⟨(blk_cell BK181.out 0).trans rfl, (blk_cell BK181.out 1).trans rfl, (blk_cell BK181.out 2).trans rfl, (blk_cell BK181.out 3).trans rfl, hx199_0⟩ (fun hHeld => ?_); refine with_tabW slotmeshref03_Line.tab16 slotmeshref03_Line.bits16 (fun HT_ HW_ => ?_)
              generalize wr.drew = w75 at HO_3 BK181 HB hx199_0 hHeld ⊢
              refine pure_ (i := 0) (N := some 103) (v := ?_) (a' := ?_) #[true, false, false, false, false, false, false, false, false, false] rfl rfl (any_of HT_.out (by kernel_rfl)) (fun _ _ _ h => h) (Or.inl ⟨by rfl, ?_⟩) ?_ ?_
              rotate_left
              ·
               intro w'
               go_simp
               with_reducible rfl
              rotate_left
              ·
               simp only [Act.put, List.setIfInBounds_toArray, List.set_cons_zero, List.set_cons_succ]
               rfl
              refine pure_ (i := 1) (N := some 104) (v := ?_) (a' := ?_) #[true, true, false, false, false, false, false, false, false, false] rfl rfl (any_of HT_.out (by kernel_rfl)) (fun _ _ _ h => h) (Or.inl ⟨by rfl, ?_⟩) ?_ ?_
              rotate_left
              ·
               intro w'
               go_simp
               with_reducible rfl
              rotate_left
              ·
               simp only [Act.put, List.setIfInBounds_toArray, List.set_cons_zero, List.set_cons_succ]
               rfl
              refine pure_ (i := 5) (N := some 108) (v := ?_) (a' := ?_) #[true, true, false, false, false, true, false, false, false, false] rfl rfl (any_of HT_.out (by kernel_rfl)) (fun _ _ _ h => h) (Or.inl ⟨by rfl, ?_⟩) ?_ ?_
              rotate_left
              ·
               intro w'
               go_simp
               with_reducible rfl
              rotate_left
              ·
               simp only [Act.put, List.setIfInBounds_toArray, List.set_cons_zero, List.set_cons_succ]
               rfl
              refine take_ (i := 2) (N := some 105) (v := ?_) (a' := ?_) #[true, true, true, false, false, true, false, false, false, false] rfl rfl (take_ofW HT_.out HW_.out (by kernel_rfl)) (fun _ _ _ h => h) (Or.inl ⟨by rfl, ?_⟩) hHeld ?_ ?_
              rotate_left
              ·
               rintro w' ⟨s0, s1, s2, s3, s4⟩
               go_simp
               with_reducible rfl
              rotate_left
              ·
               simp only [Act.put, List.setIfInBounds_toArray, List.set_cons_zero, List.set_cons_succ]
               rfl
              refine pure_ (i := 3) (N := some 106) (v := ?_) (a' := ?_) #[true, true, true, true, false, true, false, false, false, false] rfl rfl (any_of HT_.out (by kernel_rfl)) (fun _ _ _ h => h) (Or.inl ⟨by rfl, ?_⟩) ?_ ?_
              rotate_left
              ·
               intro w'
               go_simp
               with_reducible rfl
              rotate_left
              ·
               simp only [Act.put, List.setIfInBounds_toArray, List.set_cons_zero, List.set_cons_succ]
               rfl
              refine pure_ (i := 4) (N := some 107) (v := ?_) (a' := ?_) #[true, true, true, true, true, true, false, false, false, false] rfl rfl (any_of HT_.out (by kernel_rfl)) (fun _ _ _ h => h) (Or.inl ⟨by rfl, ?_⟩) ?_ ?_
              rotate_left
              ·
               intro w'
               go_simp
               with_reducible rfl
              rotate_left
              ·
               simp only [Act.put, List.setIfInBounds_toArray, List.set_cons_zero, List.set_cons_succ]
               rfl
              refine take_ (i := 6) (N := some 109) (v := ?_) (a' := ?_) #[true, true, true, true, true, true, true, false, false, false] rfl rfl (take_ofW HT_.out HW_.out (by kernel_rfl)) (fun _ _ _ h => h) (Or.inl ⟨by rfl, ?_⟩) hHeld ?_ ?_
              rotate_left
              ·
               rintro w' ⟨s0, s1, s2, s3, s4⟩
               go_simp
               with_reducible rfl
              rotate_left
              ·
               simp only [Act.put, List.setIfInBounds_toArray, List.set_cons_zero, List.set_cons_succ]
               rfl
              refine pure_ (i := 7) (N := some 110) (v := ?_) (a' := ?_) #[true, true, true, true, true, true, true, true, false, false] rfl rfl (any_of HT_.out (by kernel_rfl)) (fun _ _ _ h => h) (Or.inl ⟨by rfl, ?_⟩) ?_ ?_
              rotate_left
              ·
               intro w'
               go_simp
               with_reducible rfl
              rotate_left
              ·
               simp only [Act.put, List.setIfInBounds_toArray, List.set_cons_zero, List.set_cons_succ]
               rfl
              refine pure_ (i := 8) (N := some 111) (v := ?_) (a' := ?_) #[true, true, true, true, true, true, true, true, true, false] rfl rfl (any_of HT_.out (by kernel_rfl)) (fun _ _ _ h => h) (Or.inl ⟨by rfl, ?_⟩) ?_ ?_
              rotate_left
              ·
               intro w'
               go_simp
               with_reducible rfl
              rotate_left
              ·
               simp only [Act.put, List.setIfInBounds_toArray, List.set_cons_zero, List.set_cons_succ]
               rfl
              refine pure_ (i := 9) (N := some 2) (v := ?_) (a' := ?_) #[true, true, true, true, true, true, true, true, true, true] rfl rfl (any_of HT_.out (by kernel_rfl)) (fun _ _ _ h => h) (Or.inl ⟨by rfl, ?_⟩) ?_ ?_
              rotate_left
              ·
               intro w'
               go_simp
               with_reducible rfl
              rotate_left
              ·
               simp only [Act.put, List.setIfInBounds_toArray, List.set_cons_zero, List.set_cons_succ]
               rfl
              refine done_ (done_of HT_.out (by kernel_rfl)) ?_
              try go_wp2
              go_ret
              exact ⟨by first | rfl | (simp [errW_none, errW_some] <;> rfl) | (simp [*, errW_none, errW_some] <;> rfl), by repeat (first | (with_reducible first | exact HB.out | apply below_alloc | apply pw_below_drewN | apply below_drew1 | refine below_set ?_ GE181.out) | exact HB.out)⟩
             ·
              rw [if_neg c73] at H
              exact absurd H (by simp)
            ·
             rw [if_neg c72] at H
             exact absurd H (by simp)
           ·
            rw [if_neg c71] at H
            exact absurd H (by simp)
          ·
           rw [if_neg c70] at H
           exact absurd H (by simp)
         ·
          rw [if_neg c69] at H
          exact absurd H (by simp)
        ·
         rw [if_neg c68] at H
         have c68b0 : (a0_0 == 5) = false := beq_eq_false_iff_ne.mpr c68
         have c68b1 : (a0_0 != 5) = true := bne_iff_ne.mpr c68
         by_cases c77 : a0_0 = 6
         ·
          rw [if_pos c77] at H
          have c77b0 : (a0_0 == 6) = true := beq_iff_eq.mpr c77
          have c77b1 : (a0_0 != 6) = false := bne_eq_false_iff_eq.mpr c77
          clear c77
          by_cases c78 : 0 < (x3_1.length : Int)
          ·
           rw [if_pos c78] at H
           have c78b0 : decide (0 < (x3_1.length : Int)) = true := decide_eq_true c78
           have c78b1 : decide (0 < x3_1.length) = true := decide_eq_true (by omega)
           clear c78
           by_cases c79 : 3 + (rdOf ByteArray.empty x3_1 0).size ≤ 9223372036854775807
           ·
            rw [if_pos c79] at H
            have c79b0 := eq_true c79
            have c79b1 : decide (3 + (rdOf ByteArray.empty x3_1 0).size ≤ 9223372036854775807) = true := decide_eq_true c79
            try have c79b2 : (9223372036854775807 < 3 + (rdOf ByteArray.empty x3_1 0).size) = False := eq_false (Nat.not_lt.2 c79)
            by_cases c80 : ((⟨#[97, 116, 32]⟩ : ByteArray) ++ (rdOf ByteArray.empty x3_1 0)).size + 7 ≤ 9223372036854775807
            ·
             rw [if_pos c80] at H
             have c80b9 : (9223372036854775807 < 3 + (rdOf ByteArray.empty x3_1 0).size + 7) = False := eq_false (Nat.not_lt.2 (by have h_ := c80; simp only [ByteArray.size_append] at h_; exact h_))
             clear c80
             by_cases c81 : (((⟨#[97, 116, 32]⟩ : ByteArray) ++ (rdOf ByteArray.empty x3_1 0)) ++ (⟨#[32, 115, 116, 97, 114, 116, 32]⟩ : ByteArray)).size + a0_1.size ≤ 9223372036854775807
             ·
              rw [if_pos c81] at H
              have c81b9 : (9223372036854775807 < 3 + (rdOf ByteArray.empty x3_1 0).size + 7 + a0_1.size) = False := eq_false (Nat.not_lt.2 (by have h_ := c81; simp only [ByteArray.size_append] at h_; exact h_))
              clear c81
              by_cases c82 : ((((⟨#[97, 116, 32]⟩ : ByteArray) ++ (rdOf ByteArray.empty x3_1 0)) ++ (⟨#[32, 115, 116, 97, 114, 116, 32]⟩ : ByteArray)) ++ a0_1).size + 1 ≤ 9223372036854775807
              ·
               rw [if_pos c82] at H
               have c82b9 : (9223372036854775807 < 3 + (rdOf ByteArray.empty x3_1 0).size + 7 + a0_1.size + 1) = False := eq_false (Nat.not_lt.2 (by have h_ := c82; simp only [ByteArray.size_append] at h_; exact h_))
               clear c82
               obtain rfl := Option.some.inj H
               have hcz83_0 : wr.cell? ⟨gb181, 0, none⟩ = some (.int .i64 a0_0) := (blk_cell BK181.out 0).trans rfl
               have hcz83_1 : wr.cell? ⟨gb181, 1, none⟩ = some (.string a0_1) := (blk_cell BK181.out 1).trans rfl
               have hcz83_2 : wr.cell? ⟨gb181, 2, none⟩ = some (.slice A0_2 l0_2.length c0_2) := (blk_cell BK181.out 2).trans rfl
               have hcz83_3 : wr.cell? ⟨gb181, 3, none⟩ = some (.int .i64 a0_3) := (blk_cell BK181.out 3).trans rfl
               have hfz83_0 := blk_frozen BK181.out 0
               have hfz83_1 := blk_frozen BK181.out 1
               have hfz83_2 := blk_frozen BK181.out 2
               have hfz83_3 := blk_frozen BK181.out 3
               try go_wp2
               have n0_ := Aside0.mk (Kd.R_drew HO_3.out)
               have n1_ := Aside0.mk (blk_drew BK181.out)
               have n2_ := Aside0.mk (below_drew1 HB.out)
               clear HO_3
               clear BK181
               clear HB
               have HO_3 := n0_
               have BK181 := n1_
               have HB := n2_
               clear n0_ n1_ n2_
               obtain ⟨Ao85, co85, eo85⟩ := Kd.R_slice HO_3.out
               (first | subst eo85 | (injection eo85 with f1_ f2_ f3_; have f4_ := f1_.symm; have f5_ := f3_.symm; clear f1_ f2_ f3_; subst f4_; subst f5_))
               have p200 : 0 ≤ (0 : Int) := (by omega)
               have q200 : 0 < (x3_1.length : Int) := of_decide_eq_true (by first | (with_reducible assumption) | assumption)
               obtain ⟨ad200, e200, hx200_0⟩ := Kd.at_string (Kd.R_reads' HO_3.out).2.2 0 p200 q200
               cases e200
               have qi200 : (0 < x3_1.length) = True := eq_true (by omega)
               (try rw [show ((0 : Int)).toNat = 0 from rfl] at hx200_0)
               (try rw [Addr.add_zero'] at hx200_0)
               replace p200 := eq_true p200
               replace q200 := eq_true q200
               refine start_ (n := 10) (S := fun w' => w'.cell? ⟨gb181, 0, none⟩ = some (.int .i64 a0_0) ∧ w'.cell? ⟨gb181, 1, none⟩ = some (.string a0_1) ∧ w'.cell? ⟨gb181, 2, none⟩ = some (.slice A0_2 l0_2.length c0_2) ∧ w'.cell? ⟨gb181, 3, none⟩ = some (.int .i64 a0_3) ∧ w'.cell? ad200 = some (.string (rdOf ByteArray.empty x3_1 0))) (ds := []) #[false, false, false, false, false, false, false, false, false, false] (by kernel_rfl) rfl rfl ⟨(blk_cell BK181.out 0).trans rfl, (blk_cell BK181.out 1).trans rfl, (blk_cell BK181.out 2).trans rfl, (blk_cell BK181.out 3).trans rfl, hx200_0⟩ (fun hHeld => ?_); refine with_tabW slotmeshref03_Line.tab18 slotmeshref03_Line.bits18 (fun HT_ HW_ => ?_)
               generalize wr.drew = w84 at HO_3 BK181 HB hx200_0 hHeld ⊢
               refine pure_ (i := 0) (N := some 114) (v := ?_) (a' := ?_) #[true, false, false, false, false, false, false, false, false, false] rfl rfl (any_of HT_.out (by kernel_rfl)) (fun _ _ _ h => h) (Or.inl ⟨by rfl, ?_⟩) ?_ ?_
               rotate_left
               ·
                intro w'
                go_simp
                with_reducible rfl
               rotate_left
               ·
                simp only [Act.put, List.setIfInBounds_toArray, List.set_cons_zero, List.set_cons_succ]
                rfl
               refine pure_ (i := 1) (N := some 115) (v := ?_) (a' := ?_) #[true, true, false, false, false, false, false, false, false, false] rfl rfl (any_of HT_.out (by kernel_rfl)) (fun _ _ _ h => h) (Or.inl ⟨by rfl, ?_⟩) ?_ ?_
               rotate_left
               ·
                intro w'
                go_simp
                with_reducible rfl
               rotate_left
               ·
                simp only [Act.put, List.setIfInBounds_toArray, List.set_cons_zero, List.set_cons_succ]
                rfl
               refine pure_ (i := 5) (N := some 119) (v := ?_) (a' := ?_) #[true, true, false, false, false, true, false, false, false, false] rfl rfl (any_of HT_.out (by kernel_rfl)) (fun _ _ _ h => h) (Or.inl ⟨by rfl, ?_⟩) ?_ ?_
               rotate_left
               ·
                intro w'
                go_simp
                with_reducible rfl
               rotate_left
               ·
                simp only [Act.put, List.setIfInBounds_toArray, List.set_cons_zero, List.set_cons_succ]
                rfl
               refine take_ (i := 2) (N := some 116) (v := ?_) (a' := ?_) #[true, true, true, false, false, true, false, false, false, false] rfl rfl (take_ofW HT_.out HW_.out (by kernel_rfl)) (fun _ _ _ h => h) (Or.inl ⟨by rfl, ?_⟩) hHeld ?_ ?_
               rotate_left
               ·
                rintro w' ⟨s0, s1, s2, s3, s4⟩
                go_simp
                with_reducible rfl
               rotate_left
               ·
                simp only [Act.put, List.setIfInBounds_toArray, List.set_cons_zero, List.set_cons_succ]
                rfl
               refine pure_ (i := 3) (N := some 117) (v := ?_) (a' := ?_) #[true, true, true, true, false, true, false, false, false, false] rfl rfl (any_of HT_.out (by kernel_rfl)) (fun _ _ _ h => h) (Or.inl ⟨by rfl, ?_⟩) ?_ ?_
               rotate_left
               ·
                intro w'
                go_simp
                with_reducible rfl
               rotate_left
               ·
                simp only [Act.put, List.setIfInBounds_toArray, List.set_cons_zero, List.set_cons_succ]
                rfl
               refine pure_ (i := 4) (N := some 118) (v := ?_) (a' := ?_) #[true, true, true, true, true, true, false, false, false, false] rfl rfl (any_of HT_.out (by kernel_rfl)) (fun _ _ _ h => h) (Or.inl ⟨by rfl, ?_⟩) ?_ ?_
               rotate_left
               ·
                intro w'
                go_simp
                with_reducible rfl
               rotate_left
               ·
                simp only [Act.put, List.setIfInBounds_toArray, List.set_cons_zero, List.set_cons_succ]
                rfl
               refine take_ (i := 6) (N := some 120) (v := ?_) (a' := ?_) #[true, true, true, true, true, true, true, false, false, false] rfl rfl (take_ofW HT_.out HW_.out (by kernel_rfl)) (fun _ _ _ h => h) (Or.inl ⟨by rfl, ?_⟩) hHeld ?_ ?_
               rotate_left
               ·
                rintro w' ⟨s0, s1, s2, s3, s4⟩
                go_simp
                with_reducible rfl
               rotate_left
               ·
                simp only [Act.put, List.setIfInBounds_toArray, List.set_cons_zero, List.set_cons_succ]
                rfl
               refine pure_ (i := 7) (N := some 121) (v := ?_) (a' := ?_) #[true, true, true, true, true, true, true, true, false, false] rfl rfl (any_of HT_.out (by kernel_rfl)) (fun _ _ _ h => h) (Or.inl ⟨by rfl, ?_⟩) ?_ ?_
               rotate_left
               ·
                intro w'
                go_simp
                with_reducible rfl
               rotate_left
               ·
                simp only [Act.put, List.setIfInBounds_toArray, List.set_cons_zero, List.set_cons_succ]
                rfl
               refine pure_ (i := 8) (N := some 122) (v := ?_) (a' := ?_) #[true, true, true, true, true, true, true, true, true, false] rfl rfl (any_of HT_.out (by kernel_rfl)) (fun _ _ _ h => h) (Or.inl ⟨by rfl, ?_⟩) ?_ ?_
               rotate_left
               ·
                intro w'
                go_simp
                with_reducible rfl
               rotate_left
               ·
                simp only [Act.put, List.setIfInBounds_toArray, List.set_cons_zero, List.set_cons_succ]
                rfl
               refine pure_ (i := 9) (N := some 2) (v := ?_) (a' := ?_) #[true, true, true, true, true, true, true, true, true, true] rfl rfl (any_of HT_.out (by kernel_rfl)) (fun _ _ _ h => h) (Or.inl ⟨by rfl, ?_⟩) ?_ ?_
               rotate_left
               ·
                intro w'
                go_simp
                with_reducible rfl
               rotate_left
               ·
                simp only [Act.put, List.setIfInBounds_toArray, List.set_cons_zero, List.set_cons_succ]
                rfl
               refine done_ (done_of HT_.out (by kernel_rfl)) ?_
               try go_wp2
               go_ret
               exact ⟨by first | rfl | (simp [errW_none, errW_some] <;> rfl) | (simp [*, errW_none, errW_some] <;> rfl), by repeat (first | (with_reducible first | exact HB.out | apply below_alloc | apply pw_below_drewN | apply below_drew1 | refine below_set ?_ GE181.out) | exact HB.out)⟩
              ·
               rw [if_neg c82] at H
               exact absurd H (by simp)
             ·
              rw [if_neg c81] at H
              exact absurd H (by simp)
            ·
             rw [if_neg c80] at H
             exact absurd H (by simp)
           ·
            rw [if_neg c79] at H
            exact absurd H (by simp)
          ·
           rw [if_neg c78] at H
           exact absurd H (by simp)
         ·
          rw [if_neg c77] at H
          have c77b0 : (a0_0 == 6) = false := beq_eq_false_iff_ne.mpr c77
          have c77b1 : (a0_0 != 6) = true := bne_iff_ne.mpr c77
          by_cases c86 : a0_0 = 7
          ·
           rw [if_pos c86] at H
           have c86b0 : (a0_0 == 7) = true := beq_iff_eq.mpr c86
           have c86b1 : (a0_0 != 7) = false := bne_eq_false_iff_eq.mpr c86
           clear c86
           by_cases c87 : 0 < (x3_1.length : Int)
           ·
            rw [if_pos c87] at H
            have c87b0 : decide (0 < (x3_1.length : Int)) = true := decide_eq_true c87
            have c87b1 : decide (0 < x3_1.length) = true := decide_eq_true (by omega)
            clear c87
            by_cases c88 : 3 + (rdOf ByteArray.empty x3_1 0).size ≤ 9223372036854775807
            ·
             rw [if_pos c88] at H
             have c88b0 := eq_true c88
             have c88b1 : decide (3 + (rdOf ByteArray.empty x3_1 0).size ≤ 9223372036854775807) = true := decide_eq_true c88
             try have c88b2 : (9223372036854775807 < 3 + (rdOf ByteArray.empty x3_1 0).size) = False := eq_false (Nat.not_lt.2 c88)
             by_cases c89 : ((⟨#[97, 116, 32]⟩ : ByteArray) ++ (rdOf ByteArray.empty x3_1 0)).size + 6 ≤ 9223372036854775807
             ·
              rw [if_pos c89] at H
              have c89b9 : (9223372036854775807 < 3 + (rdOf ByteArray.empty x3_1 0).size + 6) = False := eq_false (Nat.not_lt.2 (by have h_ := c89; simp only [ByteArray.size_append] at h_; exact h_))
              clear c89
              by_cases c90 : (((⟨#[97, 116, 32]⟩ : ByteArray) ++ (rdOf ByteArray.empty x3_1 0)) ++ (⟨#[32, 114, 101, 97, 100, 32]⟩ : ByteArray)).size + a0_1.size ≤ 9223372036854775807
              ·
               rw [if_pos c90] at H
               have c90b9 : (9223372036854775807 < 3 + (rdOf ByteArray.empty x3_1 0).size + 6 + a0_1.size) = False := eq_false (Nat.not_lt.2 (by have h_ := c90; simp only [ByteArray.size_append] at h_; exact h_))
               clear c90
               by_cases c91 : ((((⟨#[97, 116, 32]⟩ : ByteArray) ++ (rdOf ByteArray.empty x3_1 0)) ++ (⟨#[32, 114, 101, 97, 100, 32]⟩ : ByteArray)) ++ a0_1).size + 1 ≤ 9223372036854775807
               ·
                rw [if_pos c91] at H
                have c91b9 : (9223372036854775807 < 3 + (rdOf ByteArray.empty x3_1 0).size + 6 + a0_1.size + 1) = False := eq_false (Nat.not_lt.2 (by have h_ := c91; simp only [ByteArray.size_append] at h_; exact h_))
                clear c91
                by_cases c92 : 1 < (x3_1.length : Int)
                ·
                 rw [if_pos c92] at H
                 have c92b0 : decide (1 < (x3_1.length : Int)) = true := decide_eq_true c92
                 have c92b1 : decide (1 < x3_1.length) = true := decide_eq_true (by omega)
                 clear c92
                 by_cases c93 : (((((⟨#[97, 116, 32]⟩ : ByteArray) ++ (rdOf ByteArray.empty x3_1 0)) ++ (⟨#[32, 114, 101, 97, 100, 32]⟩ : ByteArray)) ++ a0_1) ++ (⟨#[32]⟩ : ByteArray)).size + (rdOf ByteArray.empty x3_1 1).size ≤ 9223372036854775807
                 ·
                  rw [if_pos c93] at H
                  have c93b9 : (9223372036854775807 < 3 + (rdOf ByteArray.empty x3_1 0).size + 6 + a0_1.size + 1 + (rdOf ByteArray.empty x3_1 1).size) = False := eq_false (Nat.not_lt.2 (by have h_ := c93; simp only [ByteArray.size_append] at h_; exact h_))
                  clear c93
                  by_cases c94 : ((((((⟨#[97, 116, 32]⟩ : ByteArray) ++ (rdOf ByteArray.empty x3_1 0)) ++ (⟨#[32, 114, 101, 97, 100, 32]⟩ : ByteArray)) ++ a0_1) ++ (⟨#[32]⟩ : ByteArray)) ++ (rdOf ByteArray.empty x3_1 1)).size + 1 ≤ 9223372036854775807
                  ·
                   rw [if_pos c94] at H
                   have c94b9 : (9223372036854775807 < 3 + (rdOf ByteArray.empty x3_1 0).size + 6 + a0_1.size + 1 + (rdOf ByteArray.empty x3_1 1).size + 1) = False := eq_false (Nat.not_lt.2 (by have h_ := c94; simp only [ByteArray.size_append] at h_; exact h_))
                   clear c94
                   obtain rfl := Option.some.inj H
                   have hcz95_0 : wr.cell? ⟨gb181, 0, none⟩ = some (.int .i64 a0_0) := (blk_cell BK181.out 0).trans rfl
                   have hcz95_1 : wr.cell? ⟨gb181, 1, none⟩ = some (.string a0_1) := (blk_cell BK181.out 1).trans rfl
                   have hcz95_2 : wr.cell? ⟨gb181, 2, none⟩ = some (.slice A0_2 l0_2.length c0_2) := (blk_cell BK181.out 2).trans rfl
                   have hcz95_3 : wr.cell? ⟨gb181, 3, none⟩ = some (.int .i64 a0_3) := (blk_cell BK181.out 3).trans rfl
                   have hfz95_0 := blk_frozen BK181.out 0
                   have hfz95_1 := blk_frozen BK181.out 1
                   have hfz95_2 := blk_frozen BK181.out 2
                   have hfz95_3 := blk_frozen BK181.out 3
                   try go_wp2
                   have n0_ := Aside0.mk (Kd.R_drew HO_3.out)
                   have n1_ := Aside0.mk (blk_drew BK181.out)
                   have n2_ := Aside0.mk (below_drew1 HB.out)
                   clear HO_3
                   clear BK181
                   clear HB
                   have HO_3 := n0_
                   have BK181 := n1_
                   have HB := n2_
                   clear n0_ n1_ n2_
                   obtain ⟨Ao97, co97, eo97⟩ := Kd.R_slice HO_3.out
                   (first | subst eo97 | (injection eo97 with f1_ f2_ f3_; have f4_ := f1_.symm; have f5_ := f3_.symm; clear f1_ f2_ f3_; subst f4_; subst f5_))
                   have p201 : 0 ≤ (0 : Int) := (by omega)
                   have q201 : 0 < (x3_1.length : Int) := of_decide_eq_true (by first | (with_reducible assumption) | assumption)
                   obtain ⟨ad201, e201, hx201_0⟩ := Kd.at_string (Kd.R_reads' HO_3.out).2.2 0 p201 q201
                   cases e201
                   have qi201 : (0 < x3_1.length) = True := eq_true (by omega)
                   (try rw [show ((0 : Int)).toNat = 0 from rfl] at hx201_0)
                   (try rw [Addr.add_zero'] at hx201_0)
                   replace p201 := eq_true p201
                   replace q201 := eq_true q201
                   have p202 : 0 ≤ (1 : Int) := (by omega)
                   have q202 : 1 < (x3_1.length : Int) := of_decide_eq_true (by first | (with_reducible assumption) | assumption)
                   obtain ⟨ad202, e202, hx202_0⟩ := Kd.at_string (Kd.R_reads' HO_3.out).2.2 1 p202 q202
                   obtain rfl : ad201 = ad202 := (by injection e202)
                   (try simp only [show (1 : Int).toNat = 1 from rfl, Nat.reduceEqDiff, Go.Addr.add, ↓reduceIte] at hx202_0)
                   have qi202 : (1 < x3_1.length) = True := eq_true (by omega)
                   (try rw [show ((1 : Int)).toNat = 1 from rfl] at hx202_0)
                   replace p202 := eq_true p202
                   replace q202 := eq_true q202
                   refine start_ (n := 15) (S := fun w' => w'.cell? ⟨gb181, 0, none⟩ = some (.int .i64 a0_0) ∧ w'.cell? ⟨gb181, 1, none⟩ = some (.string a0_1) ∧ w'.cell? ⟨gb181, 2, none⟩ = some (.slice A0_2 l0_2.length c0_2) ∧ w'.cell? ⟨gb181, 3, none⟩ = some (.int .i64 a0_3) ∧ w'.cell? ad201 = some (.string (rdOf ByteArray.empty x3_1 0)) ∧ w'.cell? ⟨ad201.block, ad201.off + 1, none⟩ = some (.string (rdOf ByteArray.empty x3_1 1))) (ds := []) #[false, false, false, false, false, false, false, false, false, false, false, false, false, false, false] (by kernel_rfl) rfl rfl ⟨(blk_cell BK181.out 0).trans rfl, (blk_cell BK181.out 1).trans rfl, (blk_cell BK181.out 2).trans rfl, (blk_cell BK181.out 3).trans rfl, hx201_0, hx202_0⟩ (fun hHeld => ?_); refine with_tabW slotmeshref03_Line.tab20 slotmeshref03_Line.bits20 (fun HT_ HW_ => ?_)
                   generalize wr.drew = w96 at HO_3 BK181 HB hx201_0 hx202_0 hHeld ⊢
                   refine pure_ (i := 0) (N := some 125) (v := ?_) (a' := ?_) #[true, false, false, false, false, false, false, false, false, false, false, false, false, false, false] rfl rfl (any_of HT_.out (by kernel_rfl)) (fun _ _ _ h => h) (Or.inl ⟨by rfl, ?_⟩) ?_ ?_
                   rotate_left
                   ·
                    intro w'
                    go_simp
                    with_reducible rfl
                   rotate_left
                   ·
                    simp only [Act.put, List.setIfInBounds_toArray, List.set_cons_zero, List.set_cons_succ]
                    rfl
                   refine pure_ (i := 1) (N := some 126) (v := ?_) (a' := ?_) #[true, true, false, false, false, false, false, false, false, false, false, false, false, false, false] rfl rfl (any_of HT_.out (by kernel_rfl)) (fun _ _ _ h => h) (Or.inl ⟨by rfl, ?_⟩) ?_ ?_
                   rotate_left
                   ·
                    intro w'
                    go_simp
                    with_reducible rfl
                   rotate_left
                   ·
                    simp only [Act.put, List.setIfInBounds_toArray, List.set_cons_zero, List.set_cons_succ]
                    rfl
                   refine pure_ (i := 5) (N := some 130) (v := ?_) (a' := ?_) #[true, true, false, false, false, true, false, false, false, false, false, false, false, false, false] rfl rfl (any_of HT_.out (by kernel_rfl)) (fun _ _ _ h => h) (Or.inl ⟨by rfl, ?_⟩) ?_ ?_
                   rotate_left
                   ·
                    intro w'
                    go_simp
                    with_reducible rfl
                   rotate_left
                   ·
                    simp only [Act.put, List.setIfInBounds_toArray, List.set_cons_zero, List.set_cons_succ]
                    rfl
                   refine pure_ (i := 9) (N := some 134) (v := ?_) (a' := ?_) #[true, true, false, false, false, true, false, false, false, true, false, false, false, false, false] rfl rfl (any_of HT_.out (by kernel_rfl)) (fun _ _ _ h => h) (Or.inl ⟨by rfl, ?_⟩) ?_ ?_
                   rotate_left
                   ·
                    intro w'
                    go_simp
                    with_reducible rfl
                   rotate_left
                   ·
                    simp only [Act.put, List.setIfInBounds_toArray, List.set_cons_zero, List.set_cons_succ]
                    rfl
                   refine pure_ (i := 10) (N := some 135) (v := ?_) (a' := ?_) #[true, true, false, false, false, true, false, false, false, true, true, false, false, false, false] rfl rfl (any_of HT_.out (by kernel_rfl)) (fun _ _ _ h => h) (Or.inl ⟨by rfl, ?_⟩) ?_ ?_
                   rotate_left
                   ·
                    intro w'
                    go_simp
                    with_reducible rfl
                   rotate_left
                   ·
                    simp only [Act.put, List.setIfInBounds_toArray, List.set_cons_zero, List.set_cons_succ]
                    rfl
                   refine take_ (i := 2) (N := some 127) (v := ?_) (a' := ?_) #[true, true, true, false, false, true, false, false, false, true, true, false, false, false, false] rfl rfl (take_ofW HT_.out HW_.out (by kernel_rfl)) (fun _ _ _ h => h) (Or.inl ⟨by rfl, ?_⟩) hHeld ?_ ?_
                   rotate_left
                   ·
                    rintro w' ⟨s0, s1, s2, s3, s4, s5⟩
                    go_simp
                    with_reducible rfl
                   rotate_left
                   ·
                    simp only [Act.put, List.setIfInBounds_toArray, List.set_cons_zero, List.set_cons_succ]
                    rfl
                   refine pure_ (i := 3) (N := some 128) (v := ?_) (a' := ?_) #[true, true, true, true, false, true, false, false, false, true, true, false, false, false, false] rfl rfl (any_of HT_.out (by kernel_rfl)) (fun _ _ _ h => h) (Or.inl ⟨by rfl, ?_⟩) ?_ ?_
                   rotate_left
                   ·
                    intro w'
                    go_simp
                    with_reducible rfl
                   rotate_left
                   ·
                    simp only [Act.put, List.setIfInBounds_toArray, List.set_cons_zero, List.set_cons_succ]
                    rfl
                   refine pure_ (i := 4) (N := some 129) (v := ?_) (a' := ?_) #[true, true, true, true, true, true, false, false, false, true, true, false, false, false, false] rfl rfl (any_of HT_.out (by kernel_rfl)) (fun _ _ _ h => h) (Or.inl ⟨by rfl, ?_⟩) ?_ ?_
                   rotate_left
                   ·
                    intro w'
                    go_simp
                    with_reducible rfl
                   rotate_left
                   ·
                    simp only [Act.put, List.setIfInBounds_toArray, List.set_cons_zero, List.set_cons_succ]
                    rfl
                   refine take_ (i := 6) (N := some 131) (v := ?_) (a' := ?_) #[true, true, true, true, true, true, true, false, false, true, true, false, false, false, false] rfl rfl (take_ofW HT_.out HW_.out (by kernel_rfl)) (fun _ _ _ h => h) (Or.inl ⟨by rfl, ?_⟩) hHeld ?_ ?_
                   rotate_left
                   ·
                    rintro w' ⟨s0, s1, s2, s3, s4, s5⟩
                    go_simp
                    with_reducible rfl
                   rotate_left
                   ·
                    simp only [Act.put, List.setIfInBounds_toArray, List.set_cons_zero, List.set_cons_succ]
                    rfl
                   refine pure_ (i := 7) (N := some 132) (v := ?_) (a' := ?_) #[true, true, true, true, true, true, true, true, false, true, true, false, false, false, false] rfl rfl (any_of HT_.out (by kernel_rfl)) (fun _ _ _ h => h) (Or.inl ⟨by rfl, ?_⟩) ?_ ?_
                   rotate_left
                   ·
                    intro w'
                    go_simp
                    with_reducible rfl
                   rotate_left
                   ·
                    simp only [Act.put, List.setIfInBounds_toArray, List.set_cons_zero, List.set_cons_succ]
                    rfl
                   refine pure_ (i := 8) (N := some 133) (v := ?_) (a' := ?_) #[true, true, true, true, true, true, true, true, true, true, true, false, false, false, false] rfl rfl (any_of HT_.out (by kernel_rfl)) (fun _ _ _ h => h) (Or.inl ⟨by rfl, ?_⟩) ?_ ?_
                   rotate_left
                   ·
                    intro w'
                    go_simp
                    with_reducible rfl
                   rotate_left
                   ·
                    simp only [Act.put, List.setIfInBounds_toArray, List.set_cons_zero, List.set_cons_succ]
                    rfl
                   refine take_ (i := 11) (N := some 136) (v := ?_) (a' := ?_) #[true, true, true, true, true, true, true, true, true, true, true, true, false, false, false] rfl rfl (take_ofW HT_.out HW_.out (by kernel_rfl)) (fun _ _ _ h => h) (Or.inl ⟨by rfl, ?_⟩) hHeld ?_ ?_
                   rotate_left
                   ·
                    rintro w' ⟨s0, s1, s2, s3, s4, s5⟩
                    go_simp
                    with_reducible rfl
                   rotate_left
                   ·
                    simp only [Act.put, List.setIfInBounds_toArray, List.set_cons_zero, List.set_cons_succ]
                    rfl
                   refine pure_ (i := 12) (N := some 137) (v := ?_) (a' := ?_) #[true, true, true, true, true, true, true, true, true, true, true, true, true, false, false] rfl rfl (any_of HT_.out (by kernel_rfl)) (fun _ _ _ h => h) (Or.inl ⟨by rfl, ?_⟩) ?_ ?_
                   rotate_left
                   ·
                    intro w'
                    go_simp
                    with_reducible rfl
                   rotate_left
                   ·
                    simp only [Act.put, List.setIfInBounds_toArray, List.set_cons_zero, List.set_cons_succ]
                    rfl
                   refine pure_ (i := 13) (N := some 138) (v := ?_) (a' := ?_) #[true, true, true, true, true, true, true, true, true, true, true, true, true, true, false] rfl rfl (any_of HT_.out (by kernel_rfl)) (fun _ _ _ h => h) (Or.inl ⟨by rfl, ?_⟩) ?_ ?_
                   rotate_left
                   ·
                    intro w'
                    go_simp
                    with_reducible rfl
                   rotate_left
                   ·
                    simp only [Act.put, List.setIfInBounds_toArray, List.set_cons_zero, List.set_cons_succ]
                    rfl
                   refine pure_ (i := 14) (N := some 2) (v := ?_) (a' := ?_) #[true, true, true, true, true, true, true, true, true, true, true, true, true, true, true] rfl rfl (any_of HT_.out (by kernel_rfl)) (fun _ _ _ h => h) (Or.inl ⟨by rfl, ?_⟩) ?_ ?_
                   rotate_left
                   ·
                    intro w'
                    go_simp
                    with_reducible rfl
                   rotate_left
                   ·
                    simp only [Act.put, List.setIfInBounds_toArray, List.set_cons_zero, List.set_cons_succ]
                    rfl
                   refine done_ (done_of HT_.out (by kernel_rfl)) ?_
                   try go_wp2
                   go_ret
                   exact ⟨by first | rfl | (simp [errW_none, errW_some] <;> rfl) | (simp [*, errW_none, errW_some] <;> rfl), by repeat (first | (with_reducible first | exact HB.out | apply below_alloc | apply pw_below_drewN | apply below_drew1 | refine below_set ?_ GE181.out) | exact HB.out)⟩
                  ·
                   rw [if_neg c94] at H
                   exact absurd H (by simp)
                 ·
                  rw [if_neg c93] at H
                  exact absurd H (by simp)
                ·
                 rw [if_neg c92] at H
                 exact absurd H (by simp)
               ·
                rw [if_neg c91] at H
                exact absurd H (by simp)
              ·
               rw [if_neg c90] at H
               exact absurd H (by simp)
             ·
              rw [if_neg c89] at H
              exact absurd H (by simp)
            ·
             rw [if_neg c88] at H
             exact absurd H (by simp)
           ·
            rw [if_neg c87] at H
            exact absurd H (by simp)
          ·
           rw [if_neg c86] at H
           have c86b0 : (a0_0 == 7) = false := beq_eq_false_iff_ne.mpr c86
           have c86b1 : (a0_0 != 7) = true := bne_iff_ne.mpr c86
           by_cases c98 : a0_0 = 8
           ·
            rw [if_pos c98] at H
            have c98b0 : (a0_0 == 8) = true := beq_iff_eq.mpr c98
            have c98b1 : (a0_0 != 8) = false := bne_eq_false_iff_eq.mpr c98
            clear c98
            by_cases c99 : 0 < (x3_1.length : Int)
            ·
             rw [if_pos c99] at H
             have c99b0 : decide (0 < (x3_1.length : Int)) = true := decide_eq_true c99
             have c99b1 : decide (0 < x3_1.length) = true := decide_eq_true (by omega)
             clear c99
             by_cases c100 : 3 + (rdOf ByteArray.empty x3_1 0).size ≤ 9223372036854775807
             ·
              rw [if_pos c100] at H
              have c100b0 := eq_true c100
              have c100b1 : decide (3 + (rdOf ByteArray.empty x3_1 0).size ≤ 9223372036854775807) = true := decide_eq_true c100
              try have c100b2 : (9223372036854775807 < 3 + (rdOf ByteArray.empty x3_1 0).size) = False := eq_false (Nat.not_lt.2 c100)
              by_cases c101 : ((⟨#[97, 116, 32]⟩ : ByteArray) ++ (rdOf ByteArray.empty x3_1 0)).size + 5 ≤ 9223372036854775807
              ·
               rw [if_pos c101] at H
               have c101b9 : (9223372036854775807 < 3 + (rdOf ByteArray.empty x3_1 0).size + 5) = False := eq_false (Nat.not_lt.2 (by have h_ := c101; simp only [ByteArray.size_append] at h_; exact h_))
               clear c101
               by_cases c102 : 1 < (x3_1.length : Int)
               ·
                rw [if_pos c102] at H
                have c102b0 : decide (1 < (x3_1.length : Int)) = true := decide_eq_true c102
                have c102b1 : decide (1 < x3_1.length) = true := decide_eq_true (by omega)
                clear c102
                by_cases c103 : (((⟨#[97, 116, 32]⟩ : ByteArray) ++ (rdOf ByteArray.empty x3_1 0)) ++ (⟨#[32, 106, 97, 109, 32]⟩ : ByteArray)).size + (rdOf ByteArray.empty x3_1 1).size ≤ 9223372036854775807
                ·
                 rw [if_pos c103] at H
                 have c103b9 : (9223372036854775807 < 3 + (rdOf ByteArray.empty x3_1 0).size + 5 + (rdOf ByteArray.empty x3_1 1).size) = False := eq_false (Nat.not_lt.2 (by have h_ := c103; simp only [ByteArray.size_append] at h_; exact h_))
                 clear c103
                 by_cases c104 : ((((⟨#[97, 116, 32]⟩ : ByteArray) ++ (rdOf ByteArray.empty x3_1 0)) ++ (⟨#[32, 106, 97, 109, 32]⟩ : ByteArray)) ++ (rdOf ByteArray.empty x3_1 1)).size + 1 ≤ 9223372036854775807
                 ·
                  rw [if_pos c104] at H
                  have c104b9 : (9223372036854775807 < 3 + (rdOf ByteArray.empty x3_1 0).size + 5 + (rdOf ByteArray.empty x3_1 1).size + 1) = False := eq_false (Nat.not_lt.2 (by have h_ := c104; simp only [ByteArray.size_append] at h_; exact h_))
                  clear c104
                  by_cases c105 : 2 < (x3_1.length : Int)
                  ·
                   rw [if_pos c105] at H
                   have c105b0 : decide (2 < (x3_1.length : Int)) = true := decide_eq_true c105
                   have c105b1 : decide (2 < x3_1.length) = true := decide_eq_true (by omega)
                   clear c105
                   by_cases c106 : (((((⟨#[97, 116, 32]⟩ : ByteArray) ++ (rdOf ByteArray.empty x3_1 0)) ++ (⟨#[32, 106, 97, 109, 32]⟩ : ByteArray)) ++ (rdOf ByteArray.empty x3_1 1)) ++ (⟨#[32]⟩ : ByteArray)).size + (rdOf ByteArray.empty x3_1 2).size ≤ 9223372036854775807
                   ·
                    rw [if_pos c106] at H
                    have c106b9 : (9223372036854775807 < 3 + (rdOf ByteArray.empty x3_1 0).size + 5 + (rdOf ByteArray.empty x3_1 1).size + 1 + (rdOf ByteArray.empty x3_1 2).size) = False := eq_false (Nat.not_lt.2 (by have h_ := c106; simp only [ByteArray.size_append] at h_; exact h_))
                    clear c106
                    by_cases c107 : ((((((⟨#[97, 116, 32]⟩ : ByteArray) ++ (rdOf ByteArray.empty x3_1 0)) ++ (⟨#[32, 106, 97, 109, 32]⟩ : ByteArray)) ++ (rdOf ByteArray.empty x3_1 1)) ++ (⟨#[32]⟩ : ByteArray)) ++ (rdOf ByteArray.empty x3_1 2)).size + 8 ≤ 9223372036854775807
                    ·
                     rw [if_pos c107] at H
                     have c107b9 : (9223372036854775807 < 3 + (rdOf ByteArray.empty x3_1 0).size + 5 + (rdOf ByteArray.empty x3_1 1).size + 1 + (rdOf ByteArray.empty x3_1 2).size + 8) = False := eq_false (Nat.not_lt.2 (by have h_ := c107; simp only [ByteArray.size_append] at h_; exact h_))
                     clear c107
                     by_cases c108 : 3 < (x3_1.length : Int)
                     ·
                      rw [if_pos c108] at H
                      have c108b0 : decide (3 < (x3_1.length : Int)) = true := decide_eq_true c108
                      have c108b1 : decide (3 < x3_1.length) = true := decide_eq_true (by omega)
                      clear c108
                      by_cases c109 : (((((((⟨#[97, 116, 32]⟩ : ByteArray) ++ (rdOf ByteArray.empty x3_1 0)) ++ (⟨#[32, 106, 97, 109, 32]⟩ : ByteArray)) ++ (rdOf ByteArray.empty x3_1 1)) ++ (⟨#[32]⟩ : ByteArray)) ++ (rdOf ByteArray.empty x3_1 2)) ++ (⟨#[32, 114, 97, 100, 105, 117, 115, 32]⟩ : ByteArray)).size + (rdOf ByteArray.empty x3_1 3).size ≤ 9223372036854775807
                      ·
                       rw [if_pos c109] at H
                       have c109b9 : (9223372036854775807 < 3 + (rdOf ByteArray.empty x3_1 0).size + 5 + (rdOf ByteArray.empty x3_1 1).size + 1 + (rdOf ByteArray.empty x3_1 2).size + 8 + (rdOf ByteArray.empty x3_1 3).size) = False := eq_false (Nat.not_lt.2 (by have h_ := c109; simp only [ByteArray.size_append] at h_; exact h_))
                       clear c109
                       by_cases c110 : ((((((((⟨#[97, 116, 32]⟩ : ByteArray) ++ (rdOf ByteArray.empty x3_1 0)) ++ (⟨#[32, 106, 97, 109, 32]⟩ : ByteArray)) ++ (rdOf ByteArray.empty x3_1 1)) ++ (⟨#[32]⟩ : ByteArray)) ++ (rdOf ByteArray.empty x3_1 2)) ++ (⟨#[32, 114, 97, 100, 105, 117, 115, 32]⟩ : ByteArray)) ++ (rdOf ByteArray.empty x3_1 3)).size + 9 ≤ 9223372036854775807
                       ·
                        rw [if_pos c110] at H
                        have c110b9 : (9223372036854775807 < 3 + (rdOf ByteArray.empty x3_1 0).size + 5 + (rdOf ByteArray.empty x3_1 1).size + 1 + (rdOf ByteArray.empty x3_1 2).size + 8 + (rdOf ByteArray.empty x3_1 3).size + 9) = False := eq_false (Nat.not_lt.2 (by have h_ := c110; simp only [ByteArray.size_append] at h_; exact h_))
                        clear c110
                        by_cases c111 : 4 < (x3_1.length : Int)
                        ·
                         rw [if_pos c111] at H
                         have c111b0 : decide (4 < (x3_1.length : Int)) = true := decide_eq_true c111
                         have c111b1 : decide (4 < x3_1.length) = true := decide_eq_true (by omega)
                         clear c111
                         by_cases c112 : (((((((((⟨#[97, 116, 32]⟩ : ByteArray) ++ (rdOf ByteArray.empty x3_1 0)) ++ (⟨#[32, 106, 97, 109, 32]⟩ : ByteArray)) ++ (rdOf ByteArray.empty x3_1 1)) ++ (⟨#[32]⟩ : ByteArray)) ++ (rdOf ByteArray.empty x3_1 2)) ++ (⟨#[32, 114, 97, 100, 105, 117, 115, 32]⟩ : ByteArray)) ++ (rdOf ByteArray.empty x3_1 3)) ++ (⟨#[32, 99, 104, 97, 110, 110, 101, 108, 32]⟩ : ByteArray)).size + (rdOf ByteArray.empty x3_1 4).size ≤ 9223372036854775807
                         ·
                          rw [if_pos c112] at H
                          have c112b9 : (9223372036854775807 < 3 + (rdOf ByteArray.empty x3_1 0).size + 5 + (rdOf ByteArray.empty x3_1 1).size + 1 + (rdOf ByteArray.empty x3_1 2).size + 8 + (rdOf ByteArray.empty x3_1 3).size + 9 + (rdOf ByteArray.empty x3_1 4).size) = False := eq_false (Nat.not_lt.2 (by have h_ := c112; simp only [ByteArray.size_append] at h_; exact h_))
                          clear c112
                          by_cases c113 : ((((((((((⟨#[97, 116, 32]⟩ : ByteArray) ++ (rdOf ByteArray.empty x3_1 0)) ++ (⟨#[32, 106, 97, 109, 32]⟩ : ByteArray)) ++ (rdOf ByteArray.empty x3_1 1)) ++ (⟨#[32]⟩ : ByteArray)) ++ (rdOf ByteArray.empty x3_1 2)) ++ (⟨#[32, 114, 97, 100, 105, 117, 115, 32]⟩ : ByteArray)) ++ (rdOf ByteArray.empty x3_1 3)) ++ (⟨#[32, 99, 104, 97, 110, 110, 101, 108, 32]⟩ : ByteArray)) ++ (rdOf ByteArray.empty x3_1 4)).size + 5 ≤ 9223372036854775807
                          ·
                           rw [if_pos c113] at H
                           have c113b9 : (9223372036854775807 < 3 + (rdOf ByteArray.empty x3_1 0).size + 5 + (rdOf ByteArray.empty x3_1 1).size + 1 + (rdOf ByteArray.empty x3_1 2).size + 8 + (rdOf ByteArray.empty x3_1 3).size + 9 + (rdOf ByteArray.empty x3_1 4).size + 5) = False := eq_false (Nat.not_lt.2 (by have h_ := c113; simp only [ByteArray.size_append] at h_; exact h_))
                           clear c113
                           by_cases c114 : 5 < (x3_1.length : Int)
                           ·
                            rw [if_pos c114] at H
                            have c114b0 : decide (5 < (x3_1.length : Int)) = true := decide_eq_true c114
                            have c114b1 : decide (5 < x3_1.length) = true := decide_eq_true (by omega)
                            clear c114
                            by_cases c115 : (((((((((((⟨#[97, 116, 32]⟩ : ByteArray) ++ (rdOf ByteArray.empty x3_1 0)) ++ (⟨#[32, 106, 97, 109, 32]⟩ : ByteArray)) ++ (rdOf ByteArray.empty x3_1 1)) ++ (⟨#[32]⟩ : ByteArray)) ++ (rdOf ByteArray.empty x3_1 2)) ++ (⟨#[32, 114, 97, 100, 105, 117, 115, 32]⟩ : ByteArray)) ++ (rdOf ByteArray.empty x3_1 3)) ++ (⟨#[32, 99, 104, 97, 110, 110, 101, 108, 32]⟩ : ByteArray)) ++ (rdOf ByteArray.empty x3_1 4)) ++ (⟨#[32, 102, 111, 114, 32]⟩ : ByteArray)).size + (rdOf ByteArray.empty x3_1 5).size ≤ 9223372036854775807
                            ·
                             rw [if_pos c115] at H
                             have c115b9 : (9223372036854775807 < 3 + (rdOf ByteArray.empty x3_1 0).size + 5 + (rdOf ByteArray.empty x3_1 1).size + 1 + (rdOf ByteArray.empty x3_1 2).size + 8 + (rdOf ByteArray.empty x3_1 3).size + 9 + (rdOf ByteArray.empty x3_1 4).size + 5 + (rdOf ByteArray.empty x3_1 5).size) = False := eq_false (Nat.not_lt.2 (by have h_ := c115; simp only [ByteArray.size_append] at h_; exact h_))
                             clear c115
                             by_cases c116 : ((((((((((((⟨#[97, 116, 32]⟩ : ByteArray) ++ (rdOf ByteArray.empty x3_1 0)) ++ (⟨#[32, 106, 97, 109, 32]⟩ : ByteArray)) ++ (rdOf ByteArray.empty x3_1 1)) ++ (⟨#[32]⟩ : ByteArray)) ++ (rdOf ByteArray.empty x3_1 2)) ++ (⟨#[32, 114, 97, 100, 105, 117, 115, 32]⟩ : ByteArray)) ++ (rdOf ByteArray.empty x3_1 3)) ++ (⟨#[32, 99, 104, 97, 110, 110, 101, 108, 32]⟩ : ByteArray)) ++ (rdOf ByteArray.empty x3_1 4)) ++ (⟨#[32, 102, 111, 114, 32]⟩ : ByteArray)) ++ (rdOf ByteArray.empty x3_1 5)).size + 1 ≤ 9223372036854775807
                             ·
                              rw [if_pos c116] at H
                              have c116b9 : (9223372036854775807 < 3 + (rdOf ByteArray.empty x3_1 0).size + 5 + (rdOf ByteArray.empty x3_1 1).size + 1 + (rdOf ByteArray.empty x3_1 2).size + 8 + (rdOf ByteArray.empty x3_1 3).size + 9 + (rdOf ByteArray.empty x3_1 4).size + 5 + (rdOf ByteArray.empty x3_1 5).size + 1) = False := eq_false (Nat.not_lt.2 (by have h_ := c116; simp only [ByteArray.size_append] at h_; exact h_))
                              clear c116
                              obtain rfl := Option.some.inj H
                              have hcz117_0 : wr.cell? ⟨gb181, 0, none⟩ = some (.int .i64 a0_0) := (blk_cell BK181.out 0).trans rfl
                              have hcz117_1 : wr.cell? ⟨gb181, 1, none⟩ = some (.string a0_1) := (blk_cell BK181.out 1).trans rfl
                              have hcz117_2 : wr.cell? ⟨gb181, 2, none⟩ = some (.slice A0_2 l0_2.length c0_2) := (blk_cell BK181.out 2).trans rfl
                              have hcz117_3 : wr.cell? ⟨gb181, 3, none⟩ = some (.int .i64 a0_3) := (blk_cell BK181.out 3).trans rfl
                              have hfz117_0 := blk_frozen BK181.out 0
                              have hfz117_1 := blk_frozen BK181.out 1
                              have hfz117_2 := blk_frozen BK181.out 2
                              have hfz117_3 := blk_frozen BK181.out 3
                              try go_wp2
                              have n0_ := Aside0.mk (Kd.R_drew HO_3.out)
                              have n1_ := Aside0.mk (blk_drew BK181.out)
                              have n2_ := Aside0.mk (below_drew1 HB.out)
                              clear HO_3
                              clear BK181
                              clear HB
                              have HO_3 := n0_
                              have BK181 := n1_
                              have HB := n2_
                              clear n0_ n1_ n2_
                              obtain ⟨Ao119, co119, eo119⟩ := Kd.R_slice HO_3.out
                              (first | subst eo119 | (injection eo119 with f1_ f2_ f3_; have f4_ := f1_.symm; have f5_ := f3_.symm; clear f1_ f2_ f3_; subst f4_; subst f5_))
                              have p203 : 0 ≤ (0 : Int) := (by omega)
                              have q203 : 0 < (x3_1.length : Int) := of_decide_eq_true (by first | (with_reducible assumption) | assumption)
                              obtain ⟨ad203, e203, hx203_0⟩ := Kd.at_string (Kd.R_reads' HO_3.out).2.2 0 p203 q203
                              cases e203
                              have qi203 : (0 < x3_1.length) = True := eq_true (by omega)
                              (try rw [show ((0 : Int)).toNat = 0 from rfl] at hx203_0)
                              (try rw [Addr.add_zero'] at hx203_0)
                              replace p203 := eq_true p203
                              replace q203 := eq_true q203
                              have p204 : 0 ≤ (1 : Int) := (by omega)
                              have q204 : 1 < (x3_1.length : Int) := of_decide_eq_true (by first | (with_reducible assumption) | assumption)
                              obtain ⟨ad204, e204, hx204_0⟩ := Kd.at_string (Kd.R_reads' HO_3.out).2.2 1 p204 q204
                              obtain rfl : ad203 = ad204 := (by injection e204)
                              (try simp only [show (1 : Int).toNat = 1 from rfl, Nat.reduceEqDiff, Go.Addr.add, ↓reduceIte] at hx204_0)
                              have qi204 : (1 < x3_1.length) = True := eq_true (by omega)
                              (try rw [show ((1 : Int)).toNat = 1 from rfl] at hx204_0)
                              replace p204 := eq_true p204
                              replace q204 := eq_true q204
                              have p205 : 0 ≤ (2 : Int) := (by omega)
                              have q205 : 2 < (x3_1.length : Int) := of_decide_eq_true (by first | (with_reducible assumption) | assumption)
                              obtain ⟨ad205, e205, hx205_0⟩ := Kd.at_string (Kd.R_reads' HO_3.out).2.2 2 p205 q205
                              obtain rfl : ad203 = ad205 := (by injection e205)
                              (try simp only [show (2 : Int).toNat = 2 from rfl, Nat.reduceEqDiff, Go.Addr.add, ↓reduceIte] at hx205_0)
                              have qi205 : (2 < x3_1.length) = True := eq_true (by omega)
                              (try rw [show ((2 : Int)).toNat = 2 from rfl] at hx205_0)
                              replace p205 := eq_true p205
                              replace q205 := eq_true q205
                              have p206 : 0 ≤ (3 : Int) := (by omega)
                              have q206 : 3 < (x3_1.length : Int) := of_decide_eq_true (by first | (with_reducible assumption) | assumption)
                              obtain ⟨ad206, e206, hx206_0⟩ := Kd.at_string (Kd.R_reads' HO_3.out).2.2 3 p206 q206
                              obtain rfl : ad203 = ad206 := (by injection e206)
                              (try simp only [show (3 : Int).toNat = 3 from rfl, Nat.reduceEqDiff, Go.Addr.add, ↓reduceIte] at hx206_0)
                              have qi206 : (3 < x3_1.length) = True := eq_true (by omega)
                              (try rw [show ((3 : Int)).toNat = 3 from rfl] at hx206_0)
                              replace p206 := eq_true p206
                              replace q206 := eq_true q206
                              have p207 : 0 ≤ (4 : Int) := (by omega)
                              have q207 : 4 < (x3_1.length : Int) := of_decide_eq_true (by first | (with_reducible assumption) | assumption)
                              obtain ⟨ad207, e207, hx207_0⟩ := Kd.at_string (Kd.R_reads' HO_3.out).2.2 4 p207 q207
                              obtain rfl : ad203 = ad207 := (by injection e207)
                              (try simp only [show (4 : Int).toNat = 4 from rfl, Nat.reduceEqDiff, Go.Addr.add, ↓reduceIte] at hx207_0)
                              have qi207 : (4 < x3_1.length) = True := eq_true (by omega)
                              (try rw [show ((4 : Int)).toNat = 4 from rfl] at hx207_0)
                              replace p207 := eq_true p207
                              replace q207 := eq_true q207
                              have p208 : 0 ≤ (5 : Int) := (by omega)
                              have q208 : 5 < (x3_1.length : Int) := of_decide_eq_true (by first | (with_reducible assumption) | assumption)
                              obtain ⟨ad208, e208, hx208_0⟩ := Kd.at_string (Kd.R_reads' HO_3.out).2.2 5 p208 q208
                              obtain rfl : ad203 = ad208 := (by injection e208)
                              (try simp only [show (5 : Int).toNat = 5 from rfl, Nat.reduceEqDiff, Go.Addr.add, ↓reduceIte] at hx208_0)
                              have qi208 : (5 < x3_1.length) = True := eq_true (by omega)
                              (try rw [show ((5 : Int)).toNat = 5 from rfl] at hx208_0)
                              replace p208 := eq_true p208
                              replace q208 := eq_true q208
                              refine start_ (n := 31) (S := fun w' => w'.cell? ad203 = some (.string (rdOf ByteArray.empty x3_1 0)) ∧ w'.cell? ⟨ad203.block, ad203.off + 1, none⟩ = some (.string (rdOf ByteArray.empty x3_1 1)) ∧ w'.cell? ⟨ad203.block, ad203.off + 2, none⟩ = some (.string (rdOf ByteArray.empty x3_1 2)) ∧ w'.cell? ⟨ad203.block, ad203.off + 3, none⟩ = some (.string (rdOf ByteArray.empty x3_1 3)) ∧ w'.cell? ⟨ad203.block, ad203.off + 4, none⟩ = some (.string (rdOf ByteArray.empty x3_1 4)) ∧ w'.cell? ⟨ad203.block, ad203.off + 5, none⟩ = some (.string (rdOf ByteArray.empty x3_1 5))) (ds := []) #[false, false, false, false, false, false, false, false, false, false, false, false, false, false, false, false, false, false, false, false, false, false, false, false, false, false, false, false, false, false, false] (by kernel_rfl) rfl rfl ⟨hx203_0, hx204_0, hx205_0, hx206_0, hx207_0, hx208_0⟩ (fun hHeld => ?_); refine with_tabW slotmeshref03_Line.tab22 slotmeshref03_Line.bits22 (fun HT_ HW_ => ?_)
                              generalize wr.drew = w118 at HO_3 BK181 HB hx203_0 hx204_0 hx205_0 hx206_0 hx207_0 hx208_0 hHeld ⊢
                              refine pure_ (i := 0) (N := some 141) (v := ?_) (a' := ?_) #[true, false, false, false, false, false, false, false, false, false, false, false, false, false, false, false, false, false, false, false, false, false, false, false, false, false, false, false, false, false, false] rfl rfl (any_of HT_.out (by kernel_rfl)) (fun _ _ _ h => h) (Or.inl ⟨by rfl, ?_⟩) ?_ ?_
                              rotate_left
                              ·
                               intro w'
                               go_simp
                               with_reducible rfl
                              rotate_left
                              ·
                               simp only [Act.put, List.setIfInBounds_toArray, List.set_cons_zero, List.set_cons_succ]
                               rfl
                              refine pure_ (i := 1) (N := some 142) (v := ?_) (a' := ?_) #[true, true, false, false, false, false, false, false, false, false, false, false, false, false, false, false, false, false, false, false, false, false, false, false, false, false, false, false, false, false, false] rfl rfl (any_of HT_.out (by kernel_rfl)) (fun _ _ _ h => h) (Or.inl ⟨by rfl, ?_⟩) ?_ ?_
                              rotate_left
                              ·
                               intro w'
                               go_simp
                               with_reducible rfl
                              rotate_left
                              ·
                               simp only [Act.put, List.setIfInBounds_toArray, List.set_cons_zero, List.set_cons_succ]
                               rfl
                              refine pure_ (i := 5) (N := some 146) (v := ?_) (a' := ?_) #[true, true, false, false, false, true, false, false, false, false, false, false, false, false, false, false, false, false, false, false, false, false, false, false, false, false, false, false, false, false, false] rfl rfl (any_of HT_.out (by kernel_rfl)) (fun _ _ _ h => h) (Or.inl ⟨by rfl, ?_⟩) ?_ ?_
                              rotate_left
                              ·
                               intro w'
                               go_simp
                               with_reducible rfl
                              rotate_left
                              ·
                               simp only [Act.put, List.setIfInBounds_toArray, List.set_cons_zero, List.set_cons_succ]
                               rfl
                              refine pure_ (i := 6) (N := some 147) (v := ?_) (a' := ?_) #[true, true, false, false, false, true, true, false, false, false, false, false, false, false, false, false, false, false, false, false, false, false, false, false, false, false, false, false, false, false, false] rfl rfl (any_of HT_.out (by kernel_rfl)) (fun _ _ _ h => h) (Or.inl ⟨by rfl, ?_⟩) ?_ ?_
                              rotate_left
                              ·
                               intro w'
                               go_simp
                               with_reducible rfl
                              rotate_left
                              ·
                               simp only [Act.put, List.setIfInBounds_toArray, List.set_cons_zero, List.set_cons_succ]
                               rfl
                              refine pure_ (i := 10) (N := some 151) (v := ?_) (a' := ?_) #[true, true, false, false, false, true, true, false, false, false, true, false, false, false, false, false, false, false, false, false, false, false, false, false, false, false, false, false, false, false, false] rfl rfl (any_of HT_.out (by kernel_rfl)) (fun _ _ _ h => h) (Or.inl ⟨by rfl, ?_⟩) ?_ ?_
                              rotate_left
                              ·
                               intro w'
                               go_simp
                               with_reducible rfl
                              rotate_left
                              ·
                               simp only [Act.put, List.setIfInBounds_toArray, List.set_cons_zero, List.set_cons_succ]
                               rfl
                              refine pure_ (i := 11) (N := some 152) (v := ?_) (a' := ?_) #[true, true, false, false, false, true, true, false, false, false, true, true, false, false, false, false, false, false, false, false, false, false, false, false, false, false, false, false, false, false, false] rfl rfl (any_of HT_.out (by kernel_rfl)) (fun _ _ _ h => h) (Or.inl ⟨by rfl, ?_⟩) ?_ ?_
                              rotate_left
                              ·
                               intro w'
                               go_simp
                               with_reducible rfl
                              rotate_left
                              ·
                               simp only [Act.put, List.setIfInBounds_toArray, List.set_cons_zero, List.set_cons_succ]
                               rfl
                              refine pure_ (i := 15) (N := some 156) (v := ?_) (a' := ?_) #[true, true, false, false, false, true, true, false, false, false, true, true, false, false, false, true, false, false, false, false, false, false, false, false, false, false, false, false, false, false, false] rfl rfl (any_of HT_.out (by kernel_rfl)) (fun _ _ _ h => h) (Or.inl ⟨by rfl, ?_⟩) ?_ ?_
                              rotate_left
                              ·
                               intro w'
                               go_simp
                               with_reducible rfl
                              rotate_left
                              ·
                               simp only [Act.put, List.setIfInBounds_toArray, List.set_cons_zero, List.set_cons_succ]
                               rfl
                              refine pure_ (i := 16) (N := some 157) (v := ?_) (a' := ?_) #[true, true, false, false, false, true, true, false, false, false, true, true, false, false, false, true, true, false, false, false, false, false, false, false, false, false, false, false, false, false, false] rfl rfl (any_of HT_.out (by kernel_rfl)) (fun _ _ _ h => h) (Or.inl ⟨by rfl, ?_⟩) ?_ ?_
                              rotate_left
                              ·
                               intro w'
                               go_simp
                               with_reducible rfl
                              rotate_left
                              ·
                               simp only [Act.put, List.setIfInBounds_toArray, List.set_cons_zero, List.set_cons_succ]
                               rfl
                              refine pure_ (i := 20) (N := some 161) (v := ?_) (a' := ?_) #[true, true, false, false, false, true, true, false, false, false, true, true, false, false, false, true, true, false, false, false, true, false, false, false, false, false, false, false, false, false, false] rfl rfl (any_of HT_.out (by kernel_rfl)) (fun _ _ _ h => h) (Or.inl ⟨by rfl, ?_⟩) ?_ ?_
                              rotate_left
                              ·
                               intro w'
                               go_simp
                               with_reducible rfl
                              rotate_left
                              ·
                               simp only [Act.put, List.setIfInBounds_toArray, List.set_cons_zero, List.set_cons_succ]
                               rfl
                              refine pure_ (i := 21) (N := some 162) (v := ?_) (a' := ?_) #[true, true, false, false, false, true, true, false, false, false, true, true, false, false, false, true, true, false, false, false, true, true, false, false, false, false, false, false, false, false, false] rfl rfl (any_of HT_.out (by kernel_rfl)) (fun _ _ _ h => h) (Or.inl ⟨by rfl, ?_⟩) ?_ ?_
                              rotate_left
                              ·
                               intro w'
                               go_simp
                               with_reducible rfl
                              rotate_left
                              ·
                               simp only [Act.put, List.setIfInBounds_toArray, List.set_cons_zero, List.set_cons_succ]
                               rfl
                              refine pure_ (i := 25) (N := some 166) (v := ?_) (a' := ?_) #[true, true, false, false, false, true, true, false, false, false, true, true, false, false, false, true, true, false, false, false, true, true, false, false, false, true, false, false, false, false, false] rfl rfl (any_of HT_.out (by kernel_rfl)) (fun _ _ _ h => h) (Or.inl ⟨by rfl, ?_⟩) ?_ ?_
                              rotate_left
                              ·
                               intro w'
                               go_simp
                               with_reducible rfl
                              rotate_left
                              ·
                               simp only [Act.put, List.setIfInBounds_toArray, List.set_cons_zero, List.set_cons_succ]
                               rfl
                              refine pure_ (i := 26) (N := some 167) (v := ?_) (a' := ?_) #[true, true, false, false, false, true, true, false, false, false, true, true, false, false, false, true, true, false, false, false, true, true, false, false, false, true, true, false, false, false, false] rfl rfl (any_of HT_.out (by kernel_rfl)) (fun _ _ _ h => h) (Or.inl ⟨by rfl, ?_⟩) ?_ ?_
                              rotate_left
                              ·
                               intro w'
                               go_simp
                               with_reducible rfl
                              rotate_left
                              ·
                               simp only [Act.put, List.setIfInBounds_toArray, List.set_cons_zero, List.set_cons_succ]
                               rfl
                              refine take_ (i := 2) (N := some 143) (v := ?_) (a' := ?_) #[true, true, true, false, false, true, true, false, false, false, true, true, false, false, false, true, true, false, false, false, true, true, false, false, false, true, true, false, false, false, false] rfl rfl (take_ofW HT_.out HW_.out (by kernel_rfl)) (fun _ _ _ h => h) (Or.inl ⟨by rfl, ?_⟩) hHeld ?_ ?_
                              rotate_left
                              ·
                               rintro w' ⟨s0, s1, s2, s3, s4, s5⟩
                               go_simp
                               with_reducible rfl
                              rotate_left
                              ·
                               simp only [Act.put, List.setIfInBounds_toArray, List.set_cons_zero, List.set_cons_succ]
                               rfl
                              refine pure_ (i := 3) (N := some 144) (v := ?_) (a' := ?_) #[true, true, true, true, false, true, true, false, false, false, true, true, false, false, false, true, true, false, false, false, true, true, false, false, false, true, true, false, false, false, false] rfl rfl (any_of HT_.out (by kernel_rfl)) (fun _ _ _ h => h) (Or.inl ⟨by rfl, ?_⟩) ?_ ?_
                              rotate_left
                              ·
                               intro w'
                               go_simp
                               with_reducible rfl
                              rotate_left
                              ·
                               simp only [Act.put, List.setIfInBounds_toArray, List.set_cons_zero, List.set_cons_succ]
                               rfl
                              refine pure_ (i := 4) (N := some 145) (v := ?_) (a' := ?_) #[true, true, true, true, true, true, true, false, false, false, true, true, false, false, false, true, true, false, false, false, true, true, false, false, false, true, true, false, false, false, false] rfl rfl (any_of HT_.out (by kernel_rfl)) (fun _ _ _ h => h) (Or.inl ⟨by rfl, ?_⟩) ?_ ?_
                              rotate_left
                              ·
                               intro w'
                               go_simp
                               with_reducible rfl
                              rotate_left
                              ·
                               simp only [Act.put, List.setIfInBounds_toArray, List.set_cons_zero, List.set_cons_succ]
                               rfl
                              refine take_ (i := 7) (N := some 148) (v := ?_) (a' := ?_) #[true, true, true, true, true, true, true, true, false, false, true, true, false, false, false, true, true, false, false, false, true, true, false, false, false, true, true, false, false, false, false] rfl rfl (take_ofW HT_.out HW_.out (by kernel_rfl)) (fun _ _ _ h => h) (Or.inl ⟨by rfl, ?_⟩) hHeld ?_ ?_
                              rotate_left
                              ·
                               rintro w' ⟨s0, s1, s2, s3, s4, s5⟩
                               go_simp
                               with_reducible rfl
                              rotate_left
                              ·
                               simp only [Act.put, List.setIfInBounds_toArray, List.set_cons_zero, List.set_cons_succ]
                               rfl
                              refine pure_ (i := 8) (N := some 149) (v := ?_) (a' := ?_) #[true, true, true, true, true, true, true, true, true, false, true, true, false, false, false, true, true, false, false, false, true, true, false, false, false, true, true, false, false, false, false] rfl rfl (any_of HT_.out (by kernel_rfl)) (fun _ _ _ h => h) (Or.inl ⟨by rfl, ?_⟩) ?_ ?_
                              rotate_left
                              ·
                               intro w'
                               go_simp
                               with_reducible rfl
                              rotate_left
                              ·
                               simp only [Act.put, List.setIfInBounds_toArray, List.set_cons_zero, List.set_cons_succ]
                               rfl
                              refine pure_ (i := 9) (N := some 150) (v := ?_) (a' := ?_) #[true, true, true, true, true, true, true, true, true, true, true, true, false, false, false, true, true, false, false, false, true, true, false, false, false, true, true, false, false, false, false] rfl rfl (any_of HT_.out (by kernel_rfl)) (fun _ _ _ h => h) (Or.inl ⟨by rfl, ?_⟩) ?_ ?_
                              rotate_left
                              ·
                               intro w'
                               go_simp
                               with_reducible rfl
                              rotate_left
                              ·
                               simp only [Act.put, List.setIfInBounds_toArray, List.set_cons_zero, List.set_cons_succ]
                               rfl
                              refine take_ (i := 12) (N := some 153) (v := ?_) (a' := ?_) #[true, true, true, true, true, true, true, true, true, true, true, true, true, false, false, true, true, false, false, false, true, true, false, false, false, true, true, false, false, false, false] rfl rfl (take_ofW HT_.out HW_.out (by kernel_rfl)) (fun _ _ _ h => h) (Or.inl ⟨by rfl, ?_⟩) hHeld ?_ ?_
                              rotate_left
                              ·
                               rintro w' ⟨s0, s1, s2, s3, s4, s5⟩
                               go_simp
                               with_reducible rfl
                              rotate_left
                              ·
                               simp only [Act.put, List.setIfInBounds_toArray, List.set_cons_zero, List.set_cons_succ]
                               rfl
                              refine pure_ (i := 13) (N := some 154) (v := ?_) (a' := ?_) #[true, true, true, true, true, true, true, true, true, true, true, true, true, true, false, true, true, false, false, false, true, true, false, false, false, true, true, false, false, false, false] rfl rfl (any_of HT_.out (by kernel_rfl)) (fun _ _ _ h => h) (Or.inl ⟨by rfl, ?_⟩) ?_ ?_
                              rotate_left
                              ·
                               intro w'
                               go_simp
                               with_reducible rfl
                              rotate_left
                              ·
                               simp only [Act.put, List.setIfInBounds_toArray, List.set_cons_zero, List.set_cons_succ]
                               rfl
                              refine pure_ (i := 14) (N := some 155) (v := ?_) (a' := ?_) #[true, true, true, true, true, true, true, true, true, true, true, true, true, true, true, true, true, false, false, false, true, true, false, false, false, true, true, false, false, false, false] rfl rfl (any_of HT_.out (by kernel_rfl)) (fun _ _ _ h => h) (Or.inl ⟨by rfl, ?_⟩) ?_ ?_
                              rotate_left
                              ·
                               intro w'
                               go_simp
                               with_reducible rfl
                              rotate_left
                              ·
                               simp only [Act.put, List.setIfInBounds_toArray, List.set_cons_zero, List.set_cons_succ]
                               rfl
                              refine take_ (i := 17) (N := some 158) (v := ?_) (a' := ?_) #[true, true, true, true, true, true, true, true, true, true, true, true, true, true, true, true, true, true, false, false, true, true, false, false, false, true, true, false, false, false, false] rfl rfl (take_ofW HT_.out HW_.out (by kernel_rfl)) (fun _ _ _ h => h) (Or.inl ⟨by rfl, ?_⟩) hHeld ?_ ?_
                              rotate_left
                              ·
                               rintro w' ⟨s0, s1, s2, s3, s4, s5⟩
                               go_simp
                               with_reducible rfl
                              rotate_left
                              ·
                               simp only [Act.put, List.setIfInBounds_toArray, List.set_cons_zero, List.set_cons_succ]
                               rfl
                              refine pure_ (i := 18) (N := some 159) (v := ?_) (a' := ?_) #[true, true, true, true, true, true, true, true, true, true, true, true, true, true, true, true, true, true, true, false, true, true, false, false, false, true, true, false, false, false, false] rfl rfl (any_of HT_.out (by kernel_rfl)) (fun _ _ _ h => h) (Or.inl ⟨by rfl, ?_⟩) ?_ ?_
                              rotate_left
                              ·
                               intro w'
                               go_simp
                               with_reducible rfl
                              rotate_left
                              ·
                               simp only [Act.put, List.setIfInBounds_toArray, List.set_cons_zero, List.set_cons_succ]
                               rfl
                              refine pure_ (i := 19) (N := some 160) (v := ?_) (a' := ?_) #[true, true, true, true, true, true, true, true, true, true, true, true, true, true, true, true, true, true, true, true, true, true, false, false, false, true, true, false, false, false, false] rfl rfl (any_of HT_.out (by kernel_rfl)) (fun _ _ _ h => h) (Or.inl ⟨by rfl, ?_⟩) ?_ ?_
                              rotate_left
                              ·
                               intro w'
                               go_simp
                               with_reducible rfl
                              rotate_left
                              ·
                               simp only [Act.put, List.setIfInBounds_toArray, List.set_cons_zero, List.set_cons_succ]
                               rfl
                              refine take_ (i := 22) (N := some 163) (v := ?_) (a' := ?_) #[true, true, true, true, true, true, true, true, true, true, true, true, true, true, true, true, true, true, true, true, true, true, true, false, false, true, true, false, false, false, false] rfl rfl (take_ofW HT_.out HW_.out (by kernel_rfl)) (fun _ _ _ h => h) (Or.inl ⟨by rfl, ?_⟩) hHeld ?_ ?_
                              rotate_left
                              ·
                               rintro w' ⟨s0, s1, s2, s3, s4, s5⟩
                               go_simp
                               with_reducible rfl
                              rotate_left
                              ·
                               simp only [Act.put, List.setIfInBounds_toArray, List.set_cons_zero, List.set_cons_succ]
                               rfl
                              refine pure_ (i := 23) (N := some 164) (v := ?_) (a' := ?_) #[true, true, true, true, true, true, true, true, true, true, true, true, true, true, true, true, true, true, true, true, true, true, true, true, false, true, true, false, false, false, false] rfl rfl (any_of HT_.out (by kernel_rfl)) (fun _ _ _ h => h) (Or.inl ⟨by rfl, ?_⟩) ?_ ?_
                              rotate_left
                              ·
                               intro w'
                               go_simp
                               with_reducible rfl
                              rotate_left
                              ·
                               simp only [Act.put, List.setIfInBounds_toArray, List.set_cons_zero, List.set_cons_succ]
                               rfl
                              refine pure_ (i := 24) (N := some 165) (v := ?_) (a' := ?_) #[true, true, true, true, true, true, true, true, true, true, true, true, true, true, true, true, true, true, true, true, true, true, true, true, true, true, true, false, false, false, false] rfl rfl (any_of HT_.out (by kernel_rfl)) (fun _ _ _ h => h) (Or.inl ⟨by rfl, ?_⟩) ?_ ?_
                              rotate_left
                              ·
                               intro w'
                               go_simp
                               with_reducible rfl
                              rotate_left
                              ·
                               simp only [Act.put, List.setIfInBounds_toArray, List.set_cons_zero, List.set_cons_succ]
                               rfl
                              refine take_ (i := 27) (N := some 168) (v := ?_) (a' := ?_) #[true, true, true, true, true, true, true, true, true, true, true, true, true, true, true, true, true, true, true, true, true, true, true, true, true, true, true, true, false, false, false] rfl rfl (take_ofW HT_.out HW_.out (by kernel_rfl)) (fun _ _ _ h => h) (Or.inl ⟨by rfl, ?_⟩) hHeld ?_ ?_
                              rotate_left
                              ·
                               rintro w' ⟨s0, s1, s2, s3, s4, s5⟩
                               go_simp
                               with_reducible rfl
                              rotate_left
                              ·
                               simp only [Act.put, List.setIfInBounds_toArray, List.set_cons_zero, List.set_cons_succ]
                               rfl
                              refine pure_ (i := 28) (N := some 169) (v := ?_) (a' := ?_) #[true, true, true, true, true, true, true, true, true, true, true, true, true, true, true, true, true, true, true, true, true, true, true, true, true, true, true, true, true, false, false] rfl rfl (any_of HT_.out (by kernel_rfl)) (fun _ _ _ h => h) (Or.inl ⟨by rfl, ?_⟩) ?_ ?_
                              rotate_left
                              ·
                               intro w'
                               go_simp
                               with_reducible rfl
                              rotate_left
                              ·
                               simp only [Act.put, List.setIfInBounds_toArray, List.set_cons_zero, List.set_cons_succ]
                               rfl
                              refine pure_ (i := 29) (N := some 170) (v := ?_) (a' := ?_) #[true, true, true, true, true, true, true, true, true, true, true, true, true, true, true, true, true, true, true, true, true, true, true, true, true, true, true, true, true, true, false] rfl rfl (any_of HT_.out (by kernel_rfl)) (fun _ _ _ h => h) (Or.inl ⟨by rfl, ?_⟩) ?_ ?_
                              rotate_left
                              ·
                               intro w'
                               go_simp
                               with_reducible rfl
                              rotate_left
                              ·
                               simp only [Act.put, List.setIfInBounds_toArray, List.set_cons_zero, List.set_cons_succ]
                               rfl
                              refine pure_ (i := 30) (N := some 2) (v := ?_) (a' := ?_) #[true, true, true, true, true, true, true, true, true, true, true, true, true, true, true, true, true, true, true, true, true, true, true, true, true, true, true, true, true, true, true] rfl rfl (any_of HT_.out (by kernel_rfl)) (fun _ _ _ h => h) (Or.inl ⟨by rfl, ?_⟩) ?_ ?_
                              rotate_left
                              ·
                               intro w'
                               go_simp
                               with_reducible rfl
                              rotate_left
                              ·
                               simp only [Act.put, List.setIfInBounds_toArray, List.set_cons_zero, List.set_cons_succ]
                               rfl
                              refine done_ (done_of HT_.out (by kernel_rfl)) ?_
                              try go_wp2
                              go_ret
                              exact ⟨by first | rfl | (simp [errW_none, errW_some] <;> rfl) | (simp [*, errW_none, errW_some] <;> rfl), by repeat (first | (with_reducible first | exact HB.out | apply below_alloc | apply pw_below_drewN | apply below_drew1 | refine below_set ?_ GE181.out) | exact HB.out)⟩
                             ·
                              rw [if_neg c116] at H
                              exact absurd H (by simp)
                            ·
                             rw [if_neg c115] at H
                             exact absurd H (by simp)
                           ·
                            rw [if_neg c114] at H
                            exact absurd H (by simp)
                          ·
                           rw [if_neg c113] at H
                           exact absurd H (by simp)
                         ·
                          rw [if_neg c112] at H
                          exact absurd H (by simp)
                        ·
                         rw [if_neg c111] at H
                         exact absurd H (by simp)
                       ·
                        rw [if_neg c110] at H
                        exact absurd H (by simp)
                      ·
                       rw [if_neg c109] at H
                       exact absurd H (by simp)
                     ·
                      rw [if_neg c108] at H
                      exact absurd H (by simp)
                    ·
                     rw [if_neg c107] at H
                     exact absurd H (by simp)
                   ·
                    rw [if_neg c106] at H
                    exact absurd H (by simp)
                  ·
                   rw [if_neg c105] at H
                   exact absurd H (by simp)
                 ·
                  rw [if_neg c104] at H
                  exact absurd H (by simp)
                ·
                 rw [if_neg c103] at H
                 exact absurd H (by simp)
               ·
                rw [if_neg c102] at H
                exact absurd H (by simp)
              ·
               rw [if_neg c101] at H
               exact absurd H (by simp)
             ·
              rw [if_neg c100] at H
              exact absurd H (by simp)
            ·
             rw [if_neg c99] at H
             exact absurd H (by simp)
           ·
            rw [if_neg c98] at H
            have c98b0 : (a0_0 == 8) = false := beq_eq_false_iff_ne.mpr c98
            have c98b1 : (a0_0 != 8) = true := bne_iff_ne.mpr c98
            by_cases c120 : a0_0 = 9
            ·
             rw [if_pos c120] at H
             have c120b0 : (a0_0 == 9) = true := beq_iff_eq.mpr c120
             have c120b1 : (a0_0 != 9) = false := bne_eq_false_iff_eq.mpr c120
             clear c120
             by_cases c121 : 0 < (x3_1.length : Int)
             ·
              rw [if_pos c121] at H
              have c121b0 : decide (0 < (x3_1.length : Int)) = true := decide_eq_true c121
              have c121b1 : decide (0 < x3_1.length) = true := decide_eq_true (by omega)
              clear c121
              by_cases c122 : 3 + (rdOf ByteArray.empty x3_1 0).size ≤ 9223372036854775807
              ·
               rw [if_pos c122] at H
               have c122b0 := eq_true c122
               have c122b1 : decide (3 + (rdOf ByteArray.empty x3_1 0).size ≤ 9223372036854775807) = true := decide_eq_true c122
               try have c122b2 : (9223372036854775807 < 3 + (rdOf ByteArray.empty x3_1 0).size) = False := eq_false (Nat.not_lt.2 c122)
               by_cases c123 : ((⟨#[97, 116, 32]⟩ : ByteArray) ++ (rdOf ByteArray.empty x3_1 0)).size + 8 ≤ 9223372036854775807
               ·
                rw [if_pos c123] at H
                have c123b9 : (9223372036854775807 < 3 + (rdOf ByteArray.empty x3_1 0).size + 8) = False := eq_false (Nat.not_lt.2 (by have h_ := c123; simp only [ByteArray.size_append] at h_; exact h_))
                clear c123
                by_cases c124 : 1 < (x3_1.length : Int)
                ·
                 rw [if_pos c124] at H
                 have c124b0 : decide (1 < (x3_1.length : Int)) = true := decide_eq_true c124
                 have c124b1 : decide (1 < x3_1.length) = true := decide_eq_true (by omega)
                 clear c124
                 by_cases c125 : (((⟨#[97, 116, 32]⟩ : ByteArray) ++ (rdOf ByteArray.empty x3_1 0)) ++ (⟨#[32, 114, 101, 112, 108, 97, 121, 32]⟩ : ByteArray)).size + (rdOf ByteArray.empty x3_1 1).size ≤ 9223372036854775807
                 ·
                  rw [if_pos c125] at H
                  have c125b9 : (9223372036854775807 < 3 + (rdOf ByteArray.empty x3_1 0).size + 8 + (rdOf ByteArray.empty x3_1 1).size) = False := eq_false (Nat.not_lt.2 (by have h_ := c125; simp only [ByteArray.size_append] at h_; exact h_))
                  clear c125
                  by_cases c126 : ((((⟨#[97, 116, 32]⟩ : ByteArray) ++ (rdOf ByteArray.empty x3_1 0)) ++ (⟨#[32, 114, 101, 112, 108, 97, 121, 32]⟩ : ByteArray)) ++ (rdOf ByteArray.empty x3_1 1)).size + 4 ≤ 9223372036854775807
                  ·
                   rw [if_pos c126] at H
                   have c126b9 : (9223372036854775807 < 3 + (rdOf ByteArray.empty x3_1 0).size + 8 + (rdOf ByteArray.empty x3_1 1).size + 4) = False := eq_false (Nat.not_lt.2 (by have h_ := c126; simp only [ByteArray.size_append] at h_; exact h_))
                   clear c126
                   by_cases c127 : 2 < (x3_1.length : Int)
                   ·
                    rw [if_pos c127] at H
                    have c127b0 : decide (2 < (x3_1.length : Int)) = true := decide_eq_true c127
                    have c127b1 : decide (2 < x3_1.length) = true := decide_eq_true (by omega)
                    clear c127
                    by_cases c128 : (((((⟨#[97, 116, 32]⟩ : ByteArray) ++ (rdOf ByteArray.empty x3_1 0)) ++ (⟨#[32, 114, 101, 112, 108, 97, 121, 32]⟩ : ByteArray)) ++ (rdOf ByteArray.empty x3_1 1)) ++ (⟨#[32, 97, 116, 32]⟩ : ByteArray)).size + (rdOf ByteArray.empty x3_1 2).size ≤ 9223372036854775807
                    ·
                     rw [if_pos c128] at H
                     have c128b9 : (9223372036854775807 < 3 + (rdOf ByteArray.empty x3_1 0).size + 8 + (rdOf ByteArray.empty x3_1 1).size + 4 + (rdOf ByteArray.empty x3_1 2).size) = False := eq_false (Nat.not_lt.2 (by have h_ := c128; simp only [ByteArray.size_append] at h_; exact h_))
                     clear c128
                     by_cases c129 : ((((((⟨#[97, 116, 32]⟩ : ByteArray) ++ (rdOf ByteArray.empty x3_1 0)) ++ (⟨#[32, 114, 101, 112, 108, 97, 121, 32]⟩ : ByteArray)) ++ (rdOf ByteArray.empty x3_1 1)) ++ (⟨#[32, 97, 116, 32]⟩ : ByteArray)) ++ (rdOf ByteArray.empty x3_1 2)).size + 1 ≤ 9223372036854775807
                     ·
                      rw [if_pos c129] at H
                      have c129b9 : (9223372036854775807 < 3 + (rdOf ByteArray.empty x3_1 0).size + 8 + (rdOf ByteArray.empty x3_1 1).size + 4 + (rdOf ByteArray.empty x3_1 2).size + 1) = False := eq_false (Nat.not_lt.2 (by have h_ := c129; simp only [ByteArray.size_append] at h_; exact h_))
                      clear c129
                      by_cases c130 : 3 < (x3_1.length : Int)
                      ·
                       rw [if_pos c130] at H
                       have c130b0 : decide (3 < (x3_1.length : Int)) = true := decide_eq_true c130
                       have c130b1 : decide (3 < x3_1.length) = true := decide_eq_true (by omega)
                       clear c130
                       by_cases c131 : (((((((⟨#[97, 116, 32]⟩ : ByteArray) ++ (rdOf ByteArray.empty x3_1 0)) ++ (⟨#[32, 114, 101, 112, 108, 97, 121, 32]⟩ : ByteArray)) ++ (rdOf ByteArray.empty x3_1 1)) ++ (⟨#[32, 97, 116, 32]⟩ : ByteArray)) ++ (rdOf ByteArray.empty x3_1 2)) ++ (⟨#[32]⟩ : ByteArray)).size + (rdOf ByteArray.empty x3_1 3).size ≤ 9223372036854775807
                       ·
                        rw [if_pos c131] at H
                        have c131b9 : (9223372036854775807 < 3 + (rdOf ByteArray.empty x3_1 0).size + 8 + (rdOf ByteArray.empty x3_1 1).size + 4 + (rdOf ByteArray.empty x3_1 2).size + 1 + (rdOf ByteArray.empty x3_1 3).size) = False := eq_false (Nat.not_lt.2 (by have h_ := c131; simp only [ByteArray.size_append] at h_; exact h_))
                        clear c131
                        by_cases c132 : ((((((((⟨#[97, 116, 32]⟩ : ByteArray) ++ (rdOf ByteArray.empty x3_1 0)) ++ (⟨#[32, 114, 101, 112, 108, 97, 121, 32]⟩ : ByteArray)) ++ (rdOf ByteArray.empty x3_1 1)) ++ (⟨#[32, 97, 116, 32]⟩ : ByteArray)) ++ (rdOf ByteArray.empty x3_1 2)) ++ (⟨#[32]⟩ : ByteArray)) ++ (rdOf ByteArray.empty x3_1 3)).size + 1 ≤ 9223372036854775807
                        ·
                         rw [if_pos c132] at H
                         have c132b9 : (9223372036854775807 < 3 + (rdOf ByteArray.empty x3_1 0).size + 8 + (rdOf ByteArray.empty x3_1 1).size + 4 + (rdOf ByteArray.empty x3_1 2).size + 1 + (rdOf ByteArray.empty x3_1 3).size + 1) = False := eq_false (Nat.not_lt.2 (by have h_ := c132; simp only [ByteArray.size_append] at h_; exact h_))
                         clear c132
                         obtain rfl := Option.some.inj H
                         have hcz133_0 : wr.cell? ⟨gb181, 0, none⟩ = some (.int .i64 a0_0) := (blk_cell BK181.out 0).trans rfl
                         have hcz133_1 : wr.cell? ⟨gb181, 1, none⟩ = some (.string a0_1) := (blk_cell BK181.out 1).trans rfl
                         have hcz133_2 : wr.cell? ⟨gb181, 2, none⟩ = some (.slice A0_2 l0_2.length c0_2) := (blk_cell BK181.out 2).trans rfl
                         have hcz133_3 : wr.cell? ⟨gb181, 3, none⟩ = some (.int .i64 a0_3) := (blk_cell BK181.out 3).trans rfl
                         have hfz133_0 := blk_frozen BK181.out 0
                         have hfz133_1 := blk_frozen BK181.out 1
                         have hfz133_2 := blk_frozen BK181.out 2
                         have hfz133_3 := blk_frozen BK181.out 3
                         try go_wp2
                         have n0_ := Aside0.mk (Kd.R_drew HO_3.out)
                         have n1_ := Aside0.mk (blk_drew BK181.out)
                         have n2_ := Aside0.mk (below_drew1 HB.out)
                         clear HO_3
                         clear BK181
                         clear HB
                         have HO_3 := n0_
                         have BK181 := n1_
                         have HB := n2_
                         clear n0_ n1_ n2_
                         obtain ⟨Ao135, co135, eo135⟩ := Kd.R_slice HO_3.out
                         (first | subst eo135 | (injection eo135 with f1_ f2_ f3_; have f4_ := f1_.symm; have f5_ := f3_.symm; clear f1_ f2_ f3_; subst f4_; subst f5_))
                         have p209 : 0 ≤ (0 : Int) := (by omega)
                         have q209 : 0 < (x3_1.length : Int) := of_decide_eq_true (by first | (with_reducible assumption) | assumption)
                         obtain ⟨ad209, e209, hx209_0⟩ := Kd.at_string (Kd.R_reads' HO_3.out).2.2 0 p209 q209
                         cases e209
                         have qi209 : (0 < x3_1.length) = True := eq_true (by omega)
                         (try rw [show ((0 : Int)).toNat = 0 from rfl] at hx209_0)
                         (try rw [Addr.add_zero'] at hx209_0)
                         replace p209 := eq_true p209
                         replace q209 := eq_true q209
                         have p210 : 0 ≤ (1 : Int) := (by omega)
                         have q210 : 1 < (x3_1.length : Int) := of_decide_eq_true (by first | (with_reducible assumption) | assumption)
                         obtain ⟨ad210, e210, hx210_0⟩ := Kd.at_string (Kd.R_reads' HO_3.out).2.2 1 p210 q210
                         obtain rfl : ad209 = ad210 := (by injection e210)
                         (try simp only [show (1 : Int).toNat = 1 from rfl, Nat.reduceEqDiff, Go.Addr.add, ↓reduceIte] at hx210_0)
                         have qi210 : (1 < x3_1.length) = True := eq_true (by omega)
                         (try rw [show ((1 : Int)).toNat = 1 from rfl] at hx210_0)
                         replace p210 := eq_true p210
                         replace q210 := eq_true q210
                         have p211 : 0 ≤ (2 : Int) := (by omega)
                         have q211 : 2 < (x3_1.length : Int) := of_decide_eq_true (by first | (with_reducible assumption) | assumption)
                         obtain ⟨ad211, e211, hx211_0⟩ := Kd.at_string (Kd.R_reads' HO_3.out).2.2 2 p211 q211
                         obtain rfl : ad209 = ad211 := (by injection e211)
                         (try simp only [show (2 : Int).toNat = 2 from rfl, Nat.reduceEqDiff, Go.Addr.add, ↓reduceIte] at hx211_0)
                         have qi211 : (2 < x3_1.length) = True := eq_true (by omega)
                         (try rw [show ((2 : Int)).toNat = 2 from rfl] at hx211_0)
                         replace p211 := eq_true p211
                         replace q211 := eq_true q211
                         have p212 : 0 ≤ (3 : Int) := (by omega)
                         have q212 : 3 < (x3_1.length : Int) := of_decide_eq_true (by first | (with_reducible assumption) | assumption)
                         obtain ⟨ad212, e212, hx212_0⟩ := Kd.at_string (Kd.R_reads' HO_3.out).2.2 3 p212 q212
                         obtain rfl : ad209 = ad212 := (by injection e212)
                         (try simp only [show (3 : Int).toNat = 3 from rfl, Nat.reduceEqDiff, Go.Addr.add, ↓reduceIte] at hx212_0)
                         have qi212 : (3 < x3_1.length) = True := eq_true (by omega)
                         (try rw [show ((3 : Int)).toNat = 3 from rfl] at hx212_0)
                         replace p212 := eq_true p212
                         replace q212 := eq_true q212
                         refine start_ (n := 21) (S := fun w' => w'.cell? ad209 = some (.string (rdOf ByteArray.empty x3_1 0)) ∧ w'.cell? ⟨ad209.block, ad209.off + 1, none⟩ = some (.string (rdOf ByteArray.empty x3_1 1)) ∧ w'.cell? ⟨ad209.block, ad209.off + 2, none⟩ = some (.string (rdOf ByteArray.empty x3_1 2)) ∧ w'.cell? ⟨ad209.block, ad209.off + 3, none⟩ = some (.string (rdOf ByteArray.empty x3_1 3))) (ds := []) #[false, false, false, false, false, false, false, false, false, false, false, false, false, false, false, false, false, false, false, false, false] (by kernel_rfl) rfl rfl ⟨hx209_0, hx210_0, hx211_0, hx212_0⟩ (fun hHeld => ?_); refine with_tabW slotmeshref03_Line.tab24 slotmeshref03_Line.bits24 (fun HT_ HW_ => ?_)
                         generalize wr.drew = w134 at HO_3 BK181 HB hx209_0 hx210_0 hx211_0 hx212_0 hHeld ⊢
                         refine pure_ (i := 0) (N := some 173) (v := ?_) (a' := ?_) #[true, false, false, false, false, false, false, false, false, false, false, false, false, false, false, false, false, false, false, false, false] rfl rfl (any_of HT_.out (by kernel_rfl)) (fun _ _ _ h => h) (Or.inl ⟨by rfl, ?_⟩) ?_ ?_
                         rotate_left
                         ·
                          intro w'
                          go_simp
                          with_reducible rfl
                         rotate_left
                         ·
                          simp only [Act.put, List.setIfInBounds_toArray, List.set_cons_zero, List.set_cons_succ]
                          rfl
                         refine pure_ (i := 1) (N := some 174) (v := ?_) (a' := ?_) #[true, true, false, false, false, false, false, false, false, false, false, false, false, false, false, false, false, false, false, false, false] rfl rfl (any_of HT_.out (by kernel_rfl)) (fun _ _ _ h => h) (Or.inl ⟨by rfl, ?_⟩) ?_ ?_
                         rotate_left
                         ·
                          intro w'
                          go_simp
                          with_reducible rfl
                         rotate_left
                         ·
                          simp only [Act.put, List.setIfInBounds_toArray, List.set_cons_zero, List.set_cons_succ]
                          rfl
                         refine pure_ (i := 5) (N := some 178) (v := ?_) (a' := ?_) #[true, true, false, false, false, true, false, false, false, false, false, false, false, false, false, false, false, false, false, false, false] rfl rfl (any_of HT_.out (by kernel_rfl)) (fun _ _ _ h => h) (Or.inl ⟨by rfl, ?_⟩) ?_ ?_
                         rotate_left
                         ·
                          intro w'
                          go_simp
                          with_reducible rfl
                         rotate_left
                         ·
                          simp only [Act.put, List.setIfInBounds_toArray, List.set_cons_zero, List.set_cons_succ]
                          rfl
                         refine pure_ (i := 6) (N := some 179) (v := ?_) (a' := ?_) #[true, true, false, false, false, true, true, false, false, false, false, false, false, false, false, false, false, false, false, false, false] rfl rfl (any_of HT_.out (by kernel_rfl)) (fun _ _ _ h => h) (Or.inl ⟨by rfl, ?_⟩) ?_ ?_
                         rotate_left
                         ·
                          intro w'
                          go_simp
                          with_reducible rfl
                         rotate_left
                         ·
                          simp only [Act.put, List.setIfInBounds_toArray, List.set_cons_zero, List.set_cons_succ]
                          rfl
                         refine pure_ (i := 10) (N := some 183) (v := ?_) (a' := ?_) #[true, true, false, false, false, true, true, false, false, false, true, false, false, false, false, false, false, false, false, false, false] rfl rfl (any_of HT_.out (by kernel_rfl)) (fun _ _ _ h => h) (Or.inl ⟨by rfl, ?_⟩) ?_ ?_
                         rotate_left
                         ·
                          intro w'
                          go_simp
                          with_reducible rfl
                         rotate_left
                         ·
                          simp only [Act.put, List.setIfInBounds_toArray, List.set_cons_zero, List.set_cons_succ]
                          rfl
                         refine pure_ (i := 11) (N := some 184) (v := ?_) (a' := ?_) #[true, true, false, false, false, true, true, false, false, false, true, true, false, false, false, false, false, false, false, false, false] rfl rfl (any_of HT_.out (by kernel_rfl)) (fun _ _ _ h => h) (Or.inl ⟨by rfl, ?_⟩) ?_ ?_
                         rotate_left
                         ·
                          intro w'
                          go_simp
                          with_reducible rfl
                         rotate_left
                         ·
                          simp only [Act.put, List.setIfInBounds_toArray, List.set_cons_zero, List.set_cons_succ]
                          rfl
                         refine pure_ (i := 15) (N := some 188) (v := ?_) (a' := ?_) #[true, true, false, false, false, true, true, false, false, false, true, true, false, false, false, true, false, false, false, false, false] rfl rfl (any_of HT_.out (by kernel_rfl)) (fun _ _ _ h => h) (Or.inl ⟨by rfl, ?_⟩) ?_ ?_
                         rotate_left
                         ·
                          intro w'
                          go_simp
                          with_reducible rfl
                         rotate_left
                         ·
                          simp only [Act.put, List.setIfInBounds_toArray, List.set_cons_zero, List.set_cons_succ]
                          rfl
                         refine pure_ (i := 16) (N := some 189) (v := ?_) (a' := ?_) #[true, true, false, false, false, true, true, false, false, false, true, true, false, false, false, true, true, false, false, false, false] rfl rfl (any_of HT_.out (by kernel_rfl)) (fun _ _ _ h => h) (Or.inl ⟨by rfl, ?_⟩) ?_ ?_
                         rotate_left
                         ·
                          intro w'
                          go_simp
                          with_reducible rfl
                         rotate_left
                         ·
                          simp only [Act.put, List.setIfInBounds_toArray, List.set_cons_zero, List.set_cons_succ]
                          rfl
                         refine take_ (i := 2) (N := some 175) (v := ?_) (a' := ?_) #[true, true, true, false, false, true, true, false, false, false, true, true, false, false, false, true, true, false, false, false, false] rfl rfl (take_ofW HT_.out HW_.out (by kernel_rfl)) (fun _ _ _ h => h) (Or.inl ⟨by rfl, ?_⟩) hHeld ?_ ?_
                         rotate_left
                         ·
                          rintro w' ⟨s0, s1, s2, s3⟩
                          go_simp
                          with_reducible rfl
                         rotate_left
                         ·
                          simp only [Act.put, List.setIfInBounds_toArray, List.set_cons_zero, List.set_cons_succ]
                          rfl
                         refine pure_ (i := 3) (N := some 176) (v := ?_) (a' := ?_) #[true, true, true, true, false, true, true, false, false, false, true, true, false, false, false, true, true, false, false, false, false] rfl rfl (any_of HT_.out (by kernel_rfl)) (fun _ _ _ h => h) (Or.inl ⟨by rfl, ?_⟩) ?_ ?_
                         rotate_left
                         ·
                          intro w'
                          go_simp
                          with_reducible rfl
                         rotate_left
                         ·
                          simp only [Act.put, List.setIfInBounds_toArray, List.set_cons_zero, List.set_cons_succ]
                          rfl
                         refine pure_ (i := 4) (N := some 177) (v := ?_) (a' := ?_) #[true, true, true, true, true, true, true, false, false, false, true, true, false, false, false, true, true, false, false, false, false] rfl rfl (any_of HT_.out (by kernel_rfl)) (fun _ _ _ h => h) (Or.inl ⟨by rfl, ?_⟩) ?_ ?_
                         rotate_left
                         ·
                          intro w'
                          go_simp
                          with_reducible rfl
                         rotate_left
                         ·
                          simp only [Act.put, List.setIfInBounds_toArray, List.set_cons_zero, List.set_cons_succ]
                          rfl
                         refine take_ (i := 7) (N := some 180) (v := ?_) (a' := ?_) #[true, true, true, true, true, true, true, true, false, false, true, true, false, false, false, true, true, false, false, false, false] rfl rfl (take_ofW HT_.out HW_.out (by kernel_rfl)) (fun _ _ _ h => h) (Or.inl ⟨by rfl, ?_⟩) hHeld ?_ ?_
                         rotate_left
                         ·
                          rintro w' ⟨s0, s1, s2, s3⟩
                          go_simp
                          with_reducible rfl
                         rotate_left
                         ·
                          simp only [Act.put, List.setIfInBounds_toArray, List.set_cons_zero, List.set_cons_succ]
                          rfl
                         refine pure_ (i := 8) (N := some 181) (v := ?_) (a' := ?_) #[true, true, true, true, true, true, true, true, true, false, true, true, false, false, false, true, true, false, false, false, false] rfl rfl (any_of HT_.out (by kernel_rfl)) (fun _ _ _ h => h) (Or.inl ⟨by rfl, ?_⟩) ?_ ?_
                         rotate_left
                         ·
                          intro w'
                          go_simp
                          with_reducible rfl
                         rotate_left
                         ·
                          simp only [Act.put, List.setIfInBounds_toArray, List.set_cons_zero, List.set_cons_succ]
                          rfl
                         refine pure_ (i := 9) (N := some 182) (v := ?_) (a' := ?_) #[true, true, true, true, true, true, true, true, true, true, true, true, false, false, false, true, true, false, false, false, false] rfl rfl (any_of HT_.out (by kernel_rfl)) (fun _ _ _ h => h) (Or.inl ⟨by rfl, ?_⟩) ?_ ?_
                         rotate_left
                         ·
                          intro w'
                          go_simp
                          with_reducible rfl
                         rotate_left
                         ·
                          simp only [Act.put, List.setIfInBounds_toArray, List.set_cons_zero, List.set_cons_succ]
                          rfl
                         refine take_ (i := 12) (N := some 185) (v := ?_) (a' := ?_) #[true, true, true, true, true, true, true, true, true, true, true, true, true, false, false, true, true, false, false, false, false] rfl rfl (take_ofW HT_.out HW_.out (by kernel_rfl)) (fun _ _ _ h => h) (Or.inl ⟨by rfl, ?_⟩) hHeld ?_ ?_
                         rotate_left
                         ·
                          rintro w' ⟨s0, s1, s2, s3⟩
                          go_simp
                          with_reducible rfl
                         rotate_left
                         ·
                          simp only [Act.put, List.setIfInBounds_toArray, List.set_cons_zero, List.set_cons_succ]
                          rfl
                         refine pure_ (i := 13) (N := some 186) (v := ?_) (a' := ?_) #[true, true, true, true, true, true, true, true, true, true, true, true, true, true, false, true, true, false, false, false, false] rfl rfl (any_of HT_.out (by kernel_rfl)) (fun _ _ _ h => h) (Or.inl ⟨by rfl, ?_⟩) ?_ ?_
                         rotate_left
                         ·
                          intro w'
                          go_simp
                          with_reducible rfl
                         rotate_left
                         ·
                          simp only [Act.put, List.setIfInBounds_toArray, List.set_cons_zero, List.set_cons_succ]
                          rfl
                         refine pure_ (i := 14) (N := some 187) (v := ?_) (a' := ?_) #[true, true, true, true, true, true, true, true, true, true, true, true, true, true, true, true, true, false, false, false, false] rfl rfl (any_of HT_.out (by kernel_rfl)) (fun _ _ _ h => h) (Or.inl ⟨by rfl, ?_⟩) ?_ ?_
                         rotate_left
                         ·
                          intro w'
                          go_simp
                          with_reducible rfl
                         rotate_left
                         ·
                          simp only [Act.put, List.setIfInBounds_toArray, List.set_cons_zero, List.set_cons_succ]
                          rfl
                         refine take_ (i := 17) (N := some 190) (v := ?_) (a' := ?_) #[true, true, true, true, true, true, true, true, true, true, true, true, true, true, true, true, true, true, false, false, false] rfl rfl (take_ofW HT_.out HW_.out (by kernel_rfl)) (fun _ _ _ h => h) (Or.inl ⟨by rfl, ?_⟩) hHeld ?_ ?_
                         rotate_left
                         ·
                          rintro w' ⟨s0, s1, s2, s3⟩
                          go_simp
                          with_reducible rfl
                         rotate_left
                         ·
                          simp only [Act.put, List.setIfInBounds_toArray, List.set_cons_zero, List.set_cons_succ]
                          rfl
                         refine pure_ (i := 18) (N := some 191) (v := ?_) (a' := ?_) #[true, true, true, true, true, true, true, true, true, true, true, true, true, true, true, true, true, true, true, false, false] rfl rfl (any_of HT_.out (by kernel_rfl)) (fun _ _ _ h => h) (Or.inl ⟨by rfl, ?_⟩) ?_ ?_
                         rotate_left
                         ·
                          intro w'
                          go_simp
                          with_reducible rfl
                         rotate_left
                         ·
                          simp only [Act.put, List.setIfInBounds_toArray, List.set_cons_zero, List.set_cons_succ]
                          rfl
                         refine pure_ (i := 19) (N := some 192) (v := ?_) (a' := ?_) #[true, true, true, true, true, true, true, true, true, true, true, true, true, true, true, true, true, true, true, true, false] rfl rfl (any_of HT_.out (by kernel_rfl)) (fun _ _ _ h => h) (Or.inl ⟨by rfl, ?_⟩) ?_ ?_
                         rotate_left
                         ·
                          intro w'
                          go_simp
                          with_reducible rfl
                         rotate_left
                         ·
                          simp only [Act.put, List.setIfInBounds_toArray, List.set_cons_zero, List.set_cons_succ]
                          rfl
                         refine pure_ (i := 20) (N := some 2) (v := ?_) (a' := ?_) #[true, true, true, true, true, true, true, true, true, true, true, true, true, true, true, true, true, true, true, true, true] rfl rfl (any_of HT_.out (by kernel_rfl)) (fun _ _ _ h => h) (Or.inl ⟨by rfl, ?_⟩) ?_ ?_
                         rotate_left
                         ·
                          intro w'
                          go_simp
                          with_reducible rfl
                         rotate_left
                         ·
                          simp only [Act.put, List.setIfInBounds_toArray, List.set_cons_zero, List.set_cons_succ]
                          rfl
                         refine done_ (done_of HT_.out (by kernel_rfl)) ?_
                         try go_wp2
                         go_ret
                         exact ⟨by first | rfl | (simp [errW_none, errW_some] <;> rfl) | (simp [*, errW_none, errW_some] <;> rfl), by repeat (first | (with_reducible first | exact HB.out | apply below_alloc | apply pw_below_drewN | apply below_drew1 | refine below_set ?_ GE181.out) | exact HB.out)⟩
                        ·
                         rw [if_neg c132] at H
                         exact absurd H (by simp)
                       ·
                        rw [if_neg c131] at H
                        exact absurd H (by simp)
                      ·
                       rw [if_neg c130] at H
                       exact absurd H (by simp)
                     ·
                      rw [if_neg c129] at H
                      exact absurd H (by simp)
                    ·
                     rw [if_neg c128] at H
                     exact absurd H (by simp)
                   ·
                    rw [if_neg c127] at H
                    exact absurd H (by simp)
                  ·
                   rw [if_neg c126] at H
                   exact absurd H (by simp)
                 ·
                  rw [if_neg c125] at H
                  exact absurd H (by simp)
                ·
                 rw [if_neg c124] at H
                 exact absurd H (by simp)
               ·
                rw [if_neg c123] at H
                exact absurd H (by simp)
              ·
               rw [if_neg c122] at H
               exact absurd H (by simp)
             ·
              rw [if_neg c121] at H
              exact absurd H (by simp)
            ·
             rw [if_neg c120] at H
             have c120b0 : (a0_0 == 9) = false := beq_eq_false_iff_ne.mpr c120
             have c120b1 : (a0_0 != 9) = true := bne_iff_ne.mpr c120
             by_cases c136 : a0_0 = 10
             ·
              rw [if_pos c136] at H
              have c136b0 : (a0_0 == 10) = true := beq_iff_eq.mpr c136
              have c136b1 : (a0_0 != 10) = false := bne_eq_false_iff_eq.mpr c136
              clear c136
              by_cases c137 : 0 < (x3_1.length : Int)
              ·
               rw [if_pos c137] at H
               have c137b0 : decide (0 < (x3_1.length : Int)) = true := decide_eq_true c137
               have c137b1 : decide (0 < x3_1.length) = true := decide_eq_true (by omega)
               clear c137
               by_cases c138 : 3 + (rdOf ByteArray.empty x3_1 0).size ≤ 9223372036854775807
               ·
                rw [if_pos c138] at H
                have c138b0 := eq_true c138
                have c138b1 : decide (3 + (rdOf ByteArray.empty x3_1 0).size ≤ 9223372036854775807) = true := decide_eq_true c138
                try have c138b2 : (9223372036854775807 < 3 + (rdOf ByteArray.empty x3_1 0).size) = False := eq_false (Nat.not_lt.2 c138)
                by_cases c139 : ((⟨#[97, 116, 32]⟩ : ByteArray) ++ (rdOf ByteArray.empty x3_1 0)).size + 9 ≤ 9223372036854775807
                ·
                 rw [if_pos c139] at H
                 have c139b9 : (9223372036854775807 < 3 + (rdOf ByteArray.empty x3_1 0).size + 9) = False := eq_false (Nat.not_lt.2 (by have h_ := c139; simp only [ByteArray.size_append] at h_; exact h_))
                 clear c139
                 by_cases c140 : 1 < (x3_1.length : Int)
                 ·
                  rw [if_pos c140] at H
                  have c140b0 : decide (1 < (x3_1.length : Int)) = true := decide_eq_true c140
                  have c140b1 : decide (1 < x3_1.length) = true := decide_eq_true (by omega)
                  clear c140
                  by_cases c141 : (((⟨#[97, 116, 32]⟩ : ByteArray) ++ (rdOf ByteArray.empty x3_1 0)) ++ (⟨#[32, 112, 114, 111, 103, 114, 97, 109, 32]⟩ : ByteArray)).size + (rdOf ByteArray.empty x3_1 1).size ≤ 9223372036854775807
                  ·
                   rw [if_pos c141] at H
                   have c141b9 : (9223372036854775807 < 3 + (rdOf ByteArray.empty x3_1 0).size + 9 + (rdOf ByteArray.empty x3_1 1).size) = False := eq_false (Nat.not_lt.2 (by have h_ := c141; simp only [ByteArray.size_append] at h_; exact h_))
                   clear c141
                   by_cases c142 : ((((⟨#[97, 116, 32]⟩ : ByteArray) ++ (rdOf ByteArray.empty x3_1 0)) ++ (⟨#[32, 112, 114, 111, 103, 114, 97, 109, 32]⟩ : ByteArray)) ++ (rdOf ByteArray.empty x3_1 1)).size + 6 ≤ 9223372036854775807
                   ·
                    rw [if_pos c142] at H
                    have c142b9 : (9223372036854775807 < 3 + (rdOf ByteArray.empty x3_1 0).size + 9 + (rdOf ByteArray.empty x3_1 1).size + 6) = False := eq_false (Nat.not_lt.2 (by have h_ := c142; simp only [ByteArray.size_append] at h_; exact h_))
                    clear c142
                    by_cases c143 : 2 < (x3_1.length : Int)
                    ·
                     rw [if_pos c143] at H
                     have c143b0 : decide (2 < (x3_1.length : Int)) = true := decide_eq_true c143
                     have c143b1 : decide (2 < x3_1.length) = true := decide_eq_true (by omega)
                     clear c143
                     by_cases c144 : (((((⟨#[97, 116, 32]⟩ : ByteArray) ++ (rdOf ByteArray.empty x3_1 0)) ++ (⟨#[32, 112, 114, 111, 103, 114, 97, 109, 32]⟩ : ByteArray)) ++ (rdOf ByteArray.empty x3_1 1)) ++ (⟨#[32, 115, 105, 122, 101, 32]⟩ : ByteArray)).size + (rdOf ByteArray.empty x3_1 2).size ≤ 9223372036854775807
                     ·
                      rw [if_pos c144] at H
                      have c144b9 : (9223372036854775807 < 3 + (rdOf ByteArray.empty x3_1 0).size + 9 + (rdOf ByteArray.empty x3_1 1).size + 6 + (rdOf ByteArray.empty x3_1 2).size) = False := eq_false (Nat.not_lt.2 (by have h_ := c144; simp only [ByteArray.size_append] at h_; exact h_))
                      clear c144
                      by_cases c145 : ((((((⟨#[97, 116, 32]⟩ : ByteArray) ++ (rdOf ByteArray.empty x3_1 0)) ++ (⟨#[32, 112, 114, 111, 103, 114, 97, 109, 32]⟩ : ByteArray)) ++ (rdOf ByteArray.empty x3_1 1)) ++ (⟨#[32, 115, 105, 122, 101, 32]⟩ : ByteArray)) ++ (rdOf ByteArray.empty x3_1 2)).size + 1 ≤ 9223372036854775807
                      ·
                       rw [if_pos c145] at H
                       have c145b9 : (9223372036854775807 < 3 + (rdOf ByteArray.empty x3_1 0).size + 9 + (rdOf ByteArray.empty x3_1 1).size + 6 + (rdOf ByteArray.empty x3_1 2).size + 1) = False := eq_false (Nat.not_lt.2 (by have h_ := c145; simp only [ByteArray.size_append] at h_; exact h_))
                       clear c145
                       obtain rfl := Option.some.inj H
                       have hcz146_0 : wr.cell? ⟨gb181, 0, none⟩ = some (.int .i64 a0_0) := (blk_cell BK181.out 0).trans rfl
                       have hcz146_1 : wr.cell? ⟨gb181, 1, none⟩ = some (.string a0_1) := (blk_cell BK181.out 1).trans rfl
                       have hcz146_2 : wr.cell? ⟨gb181, 2, none⟩ = some (.slice A0_2 l0_2.length c0_2) := (blk_cell BK181.out 2).trans rfl
                       have hcz146_3 : wr.cell? ⟨gb181, 3, none⟩ = some (.int .i64 a0_3) := (blk_cell BK181.out 3).trans rfl
                       have hfz146_0 := blk_frozen BK181.out 0
                       have hfz146_1 := blk_frozen BK181.out 1
                       have hfz146_2 := blk_frozen BK181.out 2
                       have hfz146_3 := blk_frozen BK181.out 3
                       try go_wp2
                       have n0_ := Aside0.mk (Kd.R_drew HO_3.out)
                       have n1_ := Aside0.mk (blk_drew BK181.out)
                       have n2_ := Aside0.mk (below_drew1 HB.out)
                       clear HO_3
                       clear BK181
                       clear HB
                       have HO_3 := n0_
                       have BK181 := n1_
                       have HB := n2_
                       clear n0_ n1_ n2_
                       obtain ⟨Ao148, co148, eo148⟩ := Kd.R_slice HO_3.out
                       (first | subst eo148 | (injection eo148 with f1_ f2_ f3_; have f4_ := f1_.symm; have f5_ := f3_.symm; clear f1_ f2_ f3_; subst f4_; subst f5_))
                       have p213 : 0 ≤ (0 : Int) := (by omega)
                       have q213 : 0 < (x3_1.length : Int) := of_decide_eq_true (by first | (with_reducible assumption) | assumption)
                       obtain ⟨ad213, e213, hx213_0⟩ := Kd.at_string (Kd.R_reads' HO_3.out).2.2 0 p213 q213
                       cases e213
                       have qi213 : (0 < x3_1.length) = True := eq_true (by omega)
                       (try rw [show ((0 : Int)).toNat = 0 from rfl] at hx213_0)
                       (try rw [Addr.add_zero'] at hx213_0)
                       replace p213 := eq_true p213
                       replace q213 := eq_true q213
                       have p214 : 0 ≤ (1 : Int) := (by omega)
                       have q214 : 1 < (x3_1.length : Int) := of_decide_eq_true (by first | (with_reducible assumption) | assumption)
                       obtain ⟨ad214, e214, hx214_0⟩ := Kd.at_string (Kd.R_reads' HO_3.out).2.2 1 p214 q214
                       obtain rfl : ad213 = ad214 := (by injection e214)
                       (try simp only [show (1 : Int).toNat = 1 from rfl, Nat.reduceEqDiff, Go.Addr.add, ↓reduceIte] at hx214_0)
                       have qi214 : (1 < x3_1.length) = True := eq_true (by omega)
                       (try rw [show ((1 : Int)).toNat = 1 from rfl] at hx214_0)
                       replace p214 := eq_true p214
                       replace q214 := eq_true q214
                       have p215 : 0 ≤ (2 : Int) := (by omega)
                       have q215 : 2 < (x3_1.length : Int) := of_decide_eq_true (by first | (with_reducible assumption) | assumption)
                       obtain ⟨ad215, e215, hx215_0⟩ := Kd.at_string (Kd.R_reads' HO_3.out).2.2 2 p215 q215
                       obtain rfl : ad213 = ad215 := (by injection e215)
                       (try simp only [show (2 : Int).toNat = 2 from rfl, Nat.reduceEqDiff, Go.Addr.add, ↓reduceIte] at hx215_0)
                       have qi215 : (2 < x3_1.length) = True := eq_true (by omega)
                       (try rw [show ((2 : Int)).toNat = 2 from rfl] at hx215_0)
                       replace p215 := eq_true p215
                       replace q215 := eq_true q215
                       refine start_ (n := 16) (S := fun w' => w'.cell? ad213 = some (.string (rdOf ByteArray.empty x3_1 0)) ∧ w'.cell? ⟨ad213.block, ad213.off + 1, none⟩ = some (.string (rdOf ByteArray.empty x3_1 1)) ∧ w'.cell? ⟨ad213.block, ad213.off + 2, none⟩ = some (.string (rdOf ByteArray.empty x3_1 2))) (ds := []) #[false, false, false, false, false, false, false, false, false, false, false, false, false, false, false, false] (by kernel_rfl) rfl rfl ⟨hx213_0, hx214_0, hx215_0⟩ (fun hHeld => ?_); refine with_tabW slotmeshref03_Line.tab26 slotmeshref03_Line.bits26 (fun HT_ HW_ => ?_)
                       generalize wr.drew = w147 at HO_3 BK181 HB hx213_0 hx214_0 hx215_0 hHeld ⊢
                       refine pure_ (i := 0) (N := some 195) (v := ?_) (a' := ?_) #[true, false, false, false, false, false, false, false, false, false, false, false, false, false, false, false] rfl rfl (any_of HT_.out (by kernel_rfl)) (fun _ _ _ h => h) (Or.inl ⟨by rfl, ?_⟩) ?_ ?_
                       rotate_left
                       ·
                        intro w'
                        go_simp
                        with_reducible rfl
                       rotate_left
                       ·
                        simp only [Act.put, List.setIfInBounds_toArray, List.set_cons_zero, List.set_cons_succ]
                        rfl
                       refine pure_ (i := 1) (N := some 196) (v := ?_) (a' := ?_) #[true, true, false, false, false, false, false, false, false, false, false, false, false, false, false, false] rfl rfl (any_of HT_.out (by kernel_rfl)) (fun _ _ _ h => h) (Or.inl ⟨by rfl, ?_⟩) ?_ ?_
                       rotate_left
                       ·
                        intro w'
                        go_simp
                        with_reducible rfl
                       rotate_left
                       ·
                        simp only [Act.put, List.setIfInBounds_toArray, List.set_cons_zero, List.set_cons_succ]
                        rfl
                       refine pure_ (i := 5) (N := some 200) (v := ?_) (a' := ?_) #[true, true, false, false, false, true, false, false, false, false, false, false, false, false, false, false] rfl rfl (any_of HT_.out (by kernel_rfl)) (fun _ _ _ h => h) (Or.inl ⟨by rfl, ?_⟩) ?_ ?_
                       rotate_left
                       ·
                        intro w'
                        go_simp
                        with_reducible rfl
                       rotate_left
                       ·
                        simp only [Act.put, List.setIfInBounds_toArray, List.set_cons_zero, List.set_cons_succ]
                        rfl
                       refine pure_ (i := 6) (N := some 201) (v := ?_) (a' := ?_) #[true, true, false, false, false, true, true, false, false, false, false, false, false, false, false, false] rfl rfl (any_of HT_.out (by kernel_rfl)) (fun _ _ _ h => h) (Or.inl ⟨by rfl, ?_⟩) ?_ ?_
                       rotate_left
                       ·
                        intro w'
                        go_simp
                        with_reducible rfl
                       rotate_left
                       ·
                        simp only [Act.put, List.setIfInBounds_toArray, List.set_cons_zero, List.set_cons_succ]
                        rfl
                       refine pure_ (i := 10) (N := some 205) (v := ?_) (a' := ?_) #[true, true, false, false, false, true, true, false, false, false, true, false, false, false, false, false] rfl rfl (any_of HT_.out (by kernel_rfl)) (fun _ _ _ h => h) (Or.inl ⟨by rfl, ?_⟩) ?_ ?_
                       rotate_left
                       ·
                        intro w'
                        go_simp
                        with_reducible rfl
                       rotate_left
                       ·
                        simp only [Act.put, List.setIfInBounds_toArray, List.set_cons_zero, List.set_cons_succ]
                        rfl
                       refine pure_ (i := 11) (N := some 206) (v := ?_) (a' := ?_) #[true, true, false, false, false, true, true, false, false, false, true, true, false, false, false, false] rfl rfl (any_of HT_.out (by kernel_rfl)) (fun _ _ _ h => h) (Or.inl ⟨by rfl, ?_⟩) ?_ ?_
                       rotate_left
                       ·
                        intro w'
                        go_simp
                        with_reducible rfl
                       rotate_left
                       ·
                        simp only [Act.put, List.setIfInBounds_toArray, List.set_cons_zero, List.set_cons_succ]
                        rfl
                       refine take_ (i := 2) (N := some 197) (v := ?_) (a' := ?_) #[true, true, true, false, false, true, true, false, false, false, true, true, false, false, false, false] rfl rfl (take_ofW HT_.out HW_.out (by kernel_rfl)) (fun _ _ _ h => h) (Or.inl ⟨by rfl, ?_⟩) hHeld ?_ ?_
                       rotate_left
                       ·
                        rintro w' ⟨s0, s1, s2⟩
                        go_simp
                        with_reducible rfl
                       rotate_left
                       ·
                        simp only [Act.put, List.setIfInBounds_toArray, List.set_cons_zero, List.set_cons_succ]
                        rfl
                       refine pure_ (i := 3) (N := some 198) (v := ?_) (a' := ?_) #[true, true, true, true, false, true, true, false, false, false, true, true, false, false, false, false] rfl rfl (any_of HT_.out (by kernel_rfl)) (fun _ _ _ h => h) (Or.inl ⟨by rfl, ?_⟩) ?_ ?_
                       rotate_left
                       ·
                        intro w'
                        go_simp
                        with_reducible rfl
                       rotate_left
                       ·
                        simp only [Act.put, List.setIfInBounds_toArray, List.set_cons_zero, List.set_cons_succ]
                        rfl
                       refine pure_ (i := 4) (N := some 199) (v := ?_) (a' := ?_) #[true, true, true, true, true, true, true, false, false, false, true, true, false, false, false, false] rfl rfl (any_of HT_.out (by kernel_rfl)) (fun _ _ _ h => h) (Or.inl ⟨by rfl, ?_⟩) ?_ ?_
                       rotate_left
                       ·
                        intro w'
                        go_simp
                        with_reducible rfl
                       rotate_left
                       ·
                        simp only [Act.put, List.setIfInBounds_toArray, List.set_cons_zero, List.set_cons_succ]
                        rfl
                       refine take_ (i := 7) (N := some 202) (v := ?_) (a' := ?_) #[true, true, true, true, true, true, true, true, false, false, true, true, false, false, false, false] rfl rfl (take_ofW HT_.out HW_.out (by kernel_rfl)) (fun _ _ _ h => h) (Or.inl ⟨by rfl, ?_⟩) hHeld ?_ ?_
                       rotate_left
                       ·
                        rintro w' ⟨s0, s1, s2⟩
                        go_simp
                        with_reducible rfl
                       rotate_left
                       ·
                        simp only [Act.put, List.setIfInBounds_toArray, List.set_cons_zero, List.set_cons_succ]
                        rfl
                       refine pure_ (i := 8) (N := some 203) (v := ?_) (a' := ?_) #[true, true, true, true, true, true, true, true, true, false, true, true, false, false, false, false] rfl rfl (any_of HT_.out (by kernel_rfl)) (fun _ _ _ h => h) (Or.inl ⟨by rfl, ?_⟩) ?_ ?_
                       rotate_left
                       ·
                        intro w'
                        go_simp
                        with_reducible rfl
                       rotate_left
                       ·
                        simp only [Act.put, List.setIfInBounds_toArray, List.set_cons_zero, List.set_cons_succ]
                        rfl
                       refine pure_ (i := 9) (N := some 204) (v := ?_) (a' := ?_) #[true, true, true, true, true, true, true, true, true, true, true, true, false, false, false, false] rfl rfl (any_of HT_.out (by kernel_rfl)) (fun _ _ _ h => h) (Or.inl ⟨by rfl, ?_⟩) ?_ ?_
                       rotate_left
                       ·
                        intro w'
                        go_simp
                        with_reducible rfl
                       rotate_left
                       ·
                        simp only [Act.put, List.setIfInBounds_toArray, List.set_cons_zero, List.set_cons_succ]
                        rfl
                       refine take_ (i := 12) (N := some 207) (v := ?_) (a' := ?_) #[true, true, true, true, true, true, true, true, true, true, true, true, true, false, false, false] rfl rfl (take_ofW HT_.out HW_.out (by kernel_rfl)) (fun _ _ _ h => h) (Or.inl ⟨by rfl, ?_⟩) hHeld ?_ ?_
                       rotate_left
                       ·
                        rintro w' ⟨s0, s1, s2⟩
                        go_simp
                        with_reducible rfl
                       rotate_left
                       ·
                        simp only [Act.put, List.setIfInBounds_toArray, List.set_cons_zero, List.set_cons_succ]
                        rfl
                       refine pure_ (i := 13) (N := some 208) (v := ?_) (a' := ?_) #[true, true, true, true, true, true, true, true, true, true, true, true, true, true, false, false] rfl rfl (any_of HT_.out (by kernel_rfl)) (fun _ _ _ h => h) (Or.inl ⟨by rfl, ?_⟩) ?_ ?_
                       rotate_left
                       ·
                        intro w'
                        go_simp
                        with_reducible rfl
                       rotate_left
                       ·
                        simp only [Act.put, List.setIfInBounds_toArray, List.set_cons_zero, List.set_cons_succ]
                        rfl
                       refine pure_ (i := 14) (N := some 209) (v := ?_) (a' := ?_) #[true, true, true, true, true, true, true, true, true, true, true, true, true, true, true, false] rfl rfl (any_of HT_.out (by kernel_rfl)) (fun _ _ _ h => h) (Or.inl ⟨by rfl, ?_⟩) ?_ ?_
                       rotate_left
                       ·
                        intro w'
                        go_simp
                        with_reducible rfl
                       rotate_left
                       ·
                        simp only [Act.put, List.setIfInBounds_toArray, List.set_cons_zero, List.set_cons_succ]
                        rfl
                       refine pure_ (i := 15) (N := some 2) (v := ?_) (a' := ?_) #[true, true, true, true, true, true, true, true, true, true, true, true, true, true, true, true] rfl rfl (any_of HT_.out (by kernel_rfl)) (fun _ _ _ h => h) (Or.inl ⟨by rfl, ?_⟩) ?_ ?_
                       rotate_left
                       ·
                        intro w'
                        go_simp
                        with_reducible rfl
                       rotate_left
                       ·
                        simp only [Act.put, List.setIfInBounds_toArray, List.set_cons_zero, List.set_cons_succ]
                        rfl
                       refine done_ (done_of HT_.out (by kernel_rfl)) ?_
                       try go_wp2
                       go_ret
                       exact ⟨by first | rfl | (simp [errW_none, errW_some] <;> rfl) | (simp [*, errW_none, errW_some] <;> rfl), by repeat (first | (with_reducible first | exact HB.out | apply below_alloc | apply pw_below_drewN | apply below_drew1 | refine below_set ?_ GE181.out) | exact HB.out)⟩
                      ·
                       rw [if_neg c145] at H
                       exact absurd H (by simp)
                     ·
                      rw [if_neg c144] at H
                      exact absurd H (by simp)
                    ·
                     rw [if_neg c143] at H
                     exact absurd H (by simp)
                   ·
                    rw [if_neg c142] at H
                    exact absurd H (by simp)
                  ·
                   rw [if_neg c141] at H
                   exact absurd H (by simp)
                 ·
                  rw [if_neg c140] at H
                  exact absurd H (by simp)
                ·
                 rw [if_neg c139] at H
                 exact absurd H (by simp)
               ·
                rw [if_neg c138] at H
                exact absurd H (by simp)
              ·
               rw [if_neg c137] at H
               exact absurd H (by simp)
             ·
              rw [if_neg c136] at H
              have c136b0 : (a0_0 == 10) = false := beq_eq_false_iff_ne.mpr c136
              have c136b1 : (a0_0 != 10) = true := bne_iff_ne.mpr c136
              by_cases c149 : 0 < (x3_1.length : Int)
              ·
               rw [if_pos c149] at H
               have c149b0 : decide (0 < (x3_1.length : Int)) = true := decide_eq_true c149
               have c149b1 : decide (0 < x3_1.length) = true := decide_eq_true (by omega)
               clear c149
               by_cases c150 : 4 + (rdOf ByteArray.empty x3_1 0).size ≤ 9223372036854775807
               ·
                rw [if_pos c150] at H
                have c150b0 := eq_true c150
                have c150b1 : decide (4 + (rdOf ByteArray.empty x3_1 0).size ≤ 9223372036854775807) = true := decide_eq_true c150
                try have c150b2 : (9223372036854775807 < 4 + (rdOf ByteArray.empty x3_1 0).size) = False := eq_false (Nat.not_lt.2 c150)
                by_cases c151 : ((⟨#[114, 117, 110, 32]⟩ : ByteArray) ++ (rdOf ByteArray.empty x3_1 0)).size + 1 ≤ 9223372036854775807
                ·
                 rw [if_pos c151] at H
                 have c151b9 : (9223372036854775807 < 4 + (rdOf ByteArray.empty x3_1 0).size + 1) = False := eq_false (Nat.not_lt.2 (by have h_ := c151; simp only [ByteArray.size_append] at h_; exact h_))
                 clear c151
                 obtain rfl := Option.some.inj H
                 have hcz152_0 : wr.cell? ⟨gb181, 0, none⟩ = some (.int .i64 a0_0) := (blk_cell BK181.out 0).trans rfl
                 have hcz152_1 : wr.cell? ⟨gb181, 1, none⟩ = some (.string a0_1) := (blk_cell BK181.out 1).trans rfl
                 have hcz152_2 : wr.cell? ⟨gb181, 2, none⟩ = some (.slice A0_2 l0_2.length c0_2) := (blk_cell BK181.out 2).trans rfl
                 have hcz152_3 : wr.cell? ⟨gb181, 3, none⟩ = some (.int .i64 a0_3) := (blk_cell BK181.out 3).trans rfl
                 have hfz152_0 := blk_frozen BK181.out 0
                 have hfz152_1 := blk_frozen BK181.out 1
                 have hfz152_2 := blk_frozen BK181.out 2
                 have hfz152_3 := blk_frozen BK181.out 3
                 obtain ⟨Ao153, co153, eo153⟩ := Kd.R_slice HO_3.out
                 subst eo153
                 have p216 : 0 ≤ (0 : Int) := (by omega)
                 have q216 : 0 < (x3_1.length : Int) := of_decide_eq_true (by first | (with_reducible assumption) | assumption)
                 obtain ⟨ad216, e216, hx216_0⟩ := Kd.at_string (Kd.R_reads' HO_3.out).2.2 0 p216 q216
                 cases e216
                 have qi216 : (0 < x3_1.length) = True := eq_true (by omega)
                 (try rw [show ((0 : Int)).toNat = 0 from rfl] at hx216_0)
                 (try rw [Addr.add_zero'] at hx216_0)
                 replace p216 := eq_true p216
                 replace q216 := eq_true q216
                 go_wp2
                 go_ret
                 exact ⟨by first | rfl | (simp [errW_none, errW_some] <;> rfl) | (simp [*, errW_none, errW_some] <;> rfl), by repeat (first | (with_reducible first | exact HB.out | apply below_alloc | apply pw_below_drewN | apply below_drew1 | refine below_set ?_ GE181.out) | exact HB.out)⟩
                ·
                 rw [if_neg c151] at H
                 exact absurd H (by simp)
               ·
                rw [if_neg c150] at H
                exact absurd H (by simp)
              ·
               rw [if_neg c149] at H
               exact absurd H (by simp)
end Go.Proofs.YtdedlchpjboceaaDoor.PE
end

section
namespace Go.Proofs.YtdedlchpjboceaaDoor.Qy
open Go.RowKit Go.Proofs.YtdedlchpjboceaaDoorW.PrintWords Go.Proofs.YtdedlchpjboceaaDoorW.PrintLast Go.Proofs.YtdedlchpjboceaaDoor.Lx Go.Proofs.YtdedlchpjboceaaDoor.Px Go.Proofs.YtdedlchpjboceaaDoor.Tx Go.Proofs.YtdedlchpjboceaaDoor.Qz Go.Proofs.YtdedlchpjboceaaDoor.PE
def few1 (x : S40) : Bool := decide (x.f2.length ≤ 20) && decide (x.f1.size ≤ 50)
def fewB (l : List S40) : Bool := l.all few1 && decide (l.length ≤ 310)
theorem few_loop (l : List S40) (hl : l.length ≤ 9223372036854775807) (d : Nat) : ∀ j : Nat, j ≤ l.length → l.length - j = d →
    Ev (fun k => slotmeshref02_Few.l0 k l (j : Int)) ((l.drop j).all few1 && decide (l.length ≤ 310)) := by
  induction d with
  | zero =>
    intro j hj hd
    refine Ev.step (f := _) (fun k => by rw [slotmeshref02_Few.l0]) ?_
    refine evNeg (by omega) ?_
    rw [List.drop_of_length_le (by omega)]
    refine evEq (Ev.now _) ?_
    simp only [List.all_nil, Bool.true_and]
    congr 1
    exact propext (by omega)
  | succ d ih =>
    intro j hj hd
    have hlt : j < l.length := by omega
    have hih := ih (j + 1) (by omega) (by omega)
    have hw : wrap64 ((j : Int) + 1) = ((j + 1 : Nat) : Int) := by rw [w64 (by omega) (by omega)]; omega
    refine Ev.step (f := _) (fun k => by rw [slotmeshref02_Few.l0]) ?_
    refine evPos (by omega) (evPos (by omega) ?_)
    rw [rd_at l j hlt, List.drop_eq_getElem_cons hlt, List.all_cons]
    by_cases h1 : l[j].f2.length ≤ 20
    · refine evNeg (by omega) ?_
      by_cases h2 : l[j].f1.size ≤ 50
      · refine evNeg (by omega) ?_
        rw [hw]
        have e : few1 l[j] = true := by unfold few1; simp [h1, h2]
        rw [e, Bool.true_and]
        exact hih
      · refine evPos (by omega) ?_
        have e : few1 l[j] = false := by unfold few1; simp [h2]
        rw [e]; exact Ev.now _
    · refine evPos (by omega) ?_
      have e : few1 l[j] = false := by unfold few1; simp [h1]
      rw [e]; exact Ev.now _
theorem few_ev (l : List S40) (hl : l.length ≤ 9223372036854775807) : Ev (fun k => slotmeshref02_Few.f k l) (fewB l) := few_loop l hl l.length 0 (Nat.zero_le _) rfl
theorem few_some {l : List S40} (h : fewB l = true) : l.length ≤ 310 ∧ ∀ x ∈ l, x.f2.length ≤ 20 ∧ x.f1.size ≤ 50 := by
  unfold fewB at h
  rw [Bool.and_eq_true, decide_eq_true_eq, List.all_eq_true] at h
  refine ⟨h.2, fun x hx => ?_⟩
  have := h.1 x hx
  unfold few1 at this
  simpa using this
end Go.Proofs.YtdedlchpjboceaaDoor.Qy
end
