/- Texts of proofs: plain words, and walks through the program's functions. -/
import Derived.Test.YtdedlchpjboceaaDoorMb7727cfe
import Derived.Test.YtdedlchpjboceaaDoorMb0f35550

section
namespace Go.Proofs.YtdedlchpjboceaaDoor.Qy
open Go.RowKit Go.Proofs.YtdedlchpjboceaaDoorW.PrintWords Go.Proofs.YtdedlchpjboceaaDoorW.PrintLast Go.Proofs.YtdedlchpjboceaaDoor.Lx Go.Proofs.YtdedlchpjboceaaDoor.Px Go.Proofs.YtdedlchpjboceaaDoor.Tx Go.Proofs.YtdedlchpjboceaaDoor.Qz Go.Proofs.YtdedlchpjboceaaDoor.PE
set_option maxRecDepth 100000 in
theorem head3 : slotmeshlaw03_head.f = some true := by
  unfold slotmeshlaw03_head.f printer_Print.f
  simp only [printRF_eq]
  kernel_rfl
end Go.Proofs.YtdedlchpjboceaaDoor.Qy
end
