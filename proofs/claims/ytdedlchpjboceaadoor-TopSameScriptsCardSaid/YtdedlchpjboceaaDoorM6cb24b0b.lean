/- Texts of proofs: plain words, and walks through the program's functions. -/
import Derived.Test.YtdedlchpjboceaaDoorM27d5afb7
import Derived.Test.YtdedlchpjboceaaDoorM6f205a62
import Derived.Test.YtdedlchpjboceaaDoorM31fbf171

section
namespace Go.Proofs.YtdedlchpjboceaaDoor.Lr
open Go.RowKit Go.Proofs.YtdedlchpjboceaaDoor.PE Go.Proofs.YtdedlchpjboceaaDoorW.PrintWords Go.Proofs.YtdedlchpjboceaaDoorW.PrintLast Go.Proofs.YtdedlchpjboceaaDoor.Lx Go.Proofs.YtdedlchpjboceaaDoor.Qy
theorem val_snoc (l : List UInt8) (c : UInt8) : val (l ++ [c]) = 10 * val l + (c.toNat - 48) := by simp [val]
end Go.Proofs.YtdedlchpjboceaaDoor.Lr
end
