/- Texts of proofs: plain words, and walks through the program's functions. -/
import Derived.DataShut
import Derived.Test.YtdedlchpjboceaaDoorM7c8612c7
import Derived.Test.YtdedlchpjboceaaDoorM8845ac94
import Derived.Test.YtdedlchpjboceaaDoorMb7727cfe
import Derived.Test.YtdedlchpjboceaaDoorM9994a8ef
import Derived.Test.YtdedlchpjboceaaDoorMe7327668
import Derived.Test.YtdedlchpjboceaaDoorM91ebfbc9

section
namespace Go.Proofs.YtdedlchpjboceaaDoor.Qy
open Go.RowKit Go.Proofs.YtdedlchpjboceaaDoorW.PrintWords Go.Proofs.YtdedlchpjboceaaDoorW.PrintLast Go.Proofs.YtdedlchpjboceaaDoor.Lx Go.Proofs.YtdedlchpjboceaaDoor.Px Go.Proofs.YtdedlchpjboceaaDoor.Tx Go.Proofs.YtdedlchpjboceaaDoor.Qz Go.Proofs.YtdedlchpjboceaaDoor.PE
theorem print_f (l : List S40) : printer_Print.f l = some (printR (l.map toCmd)) := rfl
end Go.Proofs.YtdedlchpjboceaaDoor.Qy
end
