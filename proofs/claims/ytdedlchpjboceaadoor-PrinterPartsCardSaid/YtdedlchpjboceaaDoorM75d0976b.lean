/- Texts of proofs: plain words, and walks through the program's functions. -/
import Derived.DataShut
import Derived.Test.YtdedlchpjboceaaDoorM42f36c79
import Derived.Test.YtdedlchpjboceaaDoorM4975789b
import Derived.Test.YtdedlchpjboceaaDoorM640aa9dd
import Derived.Test.YtdedlchpjboceaaDoorMc8415936
import Derived.Test.YtdedlchpjboceaaDoorMee12ea8d

section
namespace Go.Proofs.YtdedlchpjboceaaDoor.Qy
open Go.RowKit Go.Proofs.YtdedlchpjboceaaDoorW.PrintWords Go.Proofs.YtdedlchpjboceaaDoorW.PrintLast Go.Proofs.YtdedlchpjboceaaDoor.Lx Go.Proofs.YtdedlchpjboceaaDoor.Px Go.Proofs.YtdedlchpjboceaaDoor.Tx Go.Proofs.YtdedlchpjboceaaDoor.Qz Go.Proofs.YtdedlchpjboceaaDoor.PE
theorem print_f (l : List S40) : printer_Print.f l = some (printR (l.map toCmd)) := rfl
theorem u16_bd {a : Int} (h : (Lit.int .u16 a).wf = true) : 0 ≤ a ∧ a ≤ 65535 := by
  have := (Lit.wf_int_iff .u16 a).1 h
  simpa [IntKind.min, IntKind.max, IntKind.signed, IntKind.bits] using this
end Go.Proofs.YtdedlchpjboceaaDoor.Qy
end
