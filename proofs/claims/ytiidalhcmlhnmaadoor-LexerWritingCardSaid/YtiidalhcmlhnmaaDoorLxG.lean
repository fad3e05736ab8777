/-
  What a row's list of laid variables gives: the library's variable ErrRange holds an error.
-/
import Derived.Test.YtiidalhcmlhnmaaDoorRows
import Derived.Test.YtiidalhcmlhnmaaDoorLxL
import Derived.Stop.LaidErr
import Derived.LaidSub
import Derived.MakeChecks
import Derived.Lay
namespace Go.Proofs.YtiidalhcmlhnmaaDoor.Lx
open Go.RowKit

theorem gES : Tryd.prog.globalNamed "strconv.ErrRange" = some 1 := by kernel_rfl
theorem gESType : (Tryd.prog.globals[1]?).map (·.type) = some 56 := by kernel_rfl
theorem cellsES : Tryd.prog.cellsOf 80 = 1 := by kernel_rfl
theorem cellsStr : Tryd.prog.cellsOf 9 = 1 := by kernel_rfl
theorem starES : "*" ++ "errors.errorString" = "*errors.errorString" := by decide
theorem rowES (u : TypeId) (h : Tryd.prog.typeName? 3 u = some "*errors.errorString") : u = 78 :=
  typeName_ptr_named (nm := "errors.errorString") (by rw [starES]; kernel_rfl) (by kernel_rfl) (by decide) u (by rw [starES]; exact h)
theorem gok {L : List (String × DataW Unit)} {W : World} (h : laidMetH Tryd.prog L W) (e : L.filter (fun x => x.1 == "strconv.ErrRange") = [("strconv.ErrRange", Rows.laid_strconv_ErrRange)]) : GOK W := by
  have h1 := h.filter (fun x => x.1 == "strconv.ErrRange")
  rw [e, MakeChecks.laidMetH_plain _ _ _ (by kernel_rfl)] at h1
  obtain ⟨a0, s0, hv0, -, -, -⟩ := laid_sentinel (r := []) h1 gES gESType Tryd.underlying56 rowES Tryd.underlying78 Tryd.underlying80 rfl rfl Tryd.underlying9 cellsES cellsStr
  exact ⟨_, _, by have h0 := World.var?_cell gES hv0 0; simpa using h0⟩

end Go.Proofs.YtiidalhcmlhnmaaDoor.Lx
