/- Texts of proofs: plain words, and walks through the program's functions. -/
import Derived.Test.YtdedlchpjboceaaDoorRows
import Derived.Test.YtdedlchpjboceaaDoorM76ebdfc0
import Derived.Stop.LaidErr
import Derived.LaidSub
import Derived.MakeChecks
import Derived.Lay

section
namespace Go.Proofs.YtdedlchpjboceaaDoor.Lx
open Go.RowKit
theorem gES : Tryd.prog.globalNamed "strconv.ErrRange" = some 3 := by kernel_rfl
theorem gESType : (Tryd.prog.globals[3]?).map (·.type) = some 109 := by kernel_rfl
theorem cellsES : Tryd.prog.cellsOf 158 = 1 := by kernel_rfl
theorem cellsStr : Tryd.prog.cellsOf 9 = 1 := by kernel_rfl
theorem starES : "*" ++ "errors.errorString" = "*errors.errorString" := by decide
theorem rowES (u : TypeId) (h : Tryd.prog.typeName? 3 u = some "*errors.errorString") : u = 156 :=
  typeName_ptr_named (nm := "errors.errorString") (by rw [starES]; kernel_rfl) (by kernel_rfl) (by decide) u (by rw [starES]; exact h)
theorem gok {L : List (String × DataW Unit)} {W : World} (h : laidMetH Tryd.prog L W) (e : L.filter (fun x => x.1 == "strconv.ErrRange") = [("strconv.ErrRange", Rows.laid_strconv_ErrRange)]) : GOK W := by
  have h1 := h.filter (fun x => x.1 == "strconv.ErrRange")
  rw [e, MakeChecks.laidMetH_plain _ _ _ (by kernel_rfl)] at h1
  obtain ⟨a0, s0, hv0, -, -, -⟩ := laid_sentinel (r := []) h1 gES gESType Tryd.underlying109 rowES Tryd.underlying156 Tryd.underlying158 rfl rfl Tryd.underlying9 cellsES cellsStr
  exact ⟨_, _, by have h0 := World.var?_cell gES hv0 0; simpa using h0⟩
end Go.Proofs.YtdedlchpjboceaaDoor.Lx
end
