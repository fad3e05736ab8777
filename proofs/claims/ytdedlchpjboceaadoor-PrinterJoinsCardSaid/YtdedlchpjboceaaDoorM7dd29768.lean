/- Texts of proofs: plain words, and walks through the program's functions. -/
import Derived.DataShut
import Derived.Test.YtdedlchpjboceaaDoorM2ba93cc3
import Derived.Test.YtdedlchpjboceaaDoorM267b421a
import Derived.Test.YtdedlchpjboceaaDoorMe0d5f348
import Derived.Test.YtdedlchpjboceaaDoorM109746e8
import Derived.Test.YtdedlchpjboceaaDoorMaffe31fb
import Derived.Test.YtdedlchpjboceaaDoorMfe4173a0

section
namespace Go.Proofs.YtdedlchpjboceaaDoor.Qy
open Go.RowKit Go.Proofs.YtdedlchpjboceaaDoorW.PrintWords Go.Proofs.YtdedlchpjboceaaDoorW.PrintLast Go.Proofs.YtdedlchpjboceaaDoor.Lx Go.Proofs.YtdedlchpjboceaaDoor.Px Go.Proofs.YtdedlchpjboceaaDoor.Tx Go.Proofs.YtdedlchpjboceaaDoor.Qz Go.Proofs.YtdedlchpjboceaaDoor.PE
theorem print_f (l : List S40) : printer_Print.f l = some (printR (l.map toCmd)) := rfl
end Go.Proofs.YtdedlchpjboceaaDoor.Qy
end
