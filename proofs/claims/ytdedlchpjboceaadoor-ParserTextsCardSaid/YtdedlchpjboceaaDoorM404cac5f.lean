/- Texts of proofs: plain words, and walks through the program's functions. -/
import Derived.Test.YtdedlchpjboceaaDoorM98079a77
import Derived.Test.YtdedlchpjboceaaDoorM9a4a6bc5
import Derived.Lib.LaidTab
import Derived.Test.YtdedlchpjboceaaDoorMda52abbe

section
namespace Go.Proofs.YtdedlchpjboceaaDoor.Tx
open Go.RowKit Go.Proofs.YtdedlchpjboceaaDoor.Lx
theorem Tryd.gPow : Tryd.prog.globalNamed "internal/strconv.uint64pow10" = some 1 := by kernel_rfl
theorem Tryd.gPowType : (Tryd.prog.globals[1]?).map (·.type) = some 144 := by kernel_rfl
theorem tab_laid {L : List (String × DataW Unit)} {W : World} (h : laidMetH Tryd.prog L W) (e : L.filter (fun x => x.1 == "internal/strconv.uint64pow10") = [("internal/strconv.uint64pow10", Rows.laid_internal_strconv_uint64pow10)]) :
    Lib.TabIs Tryd.prog W "internal/strconv.uint64pow10" .u64 Lib.pow10Tab := by
  have h1 := h.filter (fun x => x.1 == "internal/strconv.uint64pow10")
  rw [e, MakeChecks.laidMetH_plain _ _ _ (by kernel_rfl)] at h1
  exact Lib.tabIs_of_head (rest := []) Tryd.gPow Tryd.gPowType Tryd.underlying144 Tryd.underlying120 (by kernel_rfl) (by kernel_rfl) h1
end Go.Proofs.YtdedlchpjboceaaDoor.Tx
end

section
namespace Go.Proofs.YtdedlchpjboceaaDoor.Tx
open Go.RowKit Go.Proofs.YtdedlchpjboceaaDoor.Lx
theorem gq {L : List (String × DataW Unit)} {W : World} (h : laidMetH Tryd.prog L W) (e1 : L.filter (fun x => x.1 == "strconv.ErrRange") = [("strconv.ErrRange", Rows.laid_strconv_ErrRange)])
    (e3 : L.filter (fun x => x.1 == "internal/strconv.uint64pow10") = [("internal/strconv.uint64pow10", Rows.laid_internal_strconv_uint64pow10)]) : GQ W :=
  ⟨gok h e1, tab_laid h e3⟩
end Go.Proofs.YtdedlchpjboceaaDoor.Tx
end
