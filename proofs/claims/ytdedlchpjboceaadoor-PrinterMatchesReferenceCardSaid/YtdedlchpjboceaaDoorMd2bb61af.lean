/- Texts of proofs: plain words, and walks through the program's functions. -/
import Derived.Test.YtdedlchpjboceaaDoorM76818b67
import Derived.Test.YtdedlchpjboceaaDoorM9994a8ef
import Derived.Test.YtdedlchpjboceaaDoorM5f72d8ed

section
namespace Go.Proofs.YtdedlchpjboceaaDoor.Qr
open Go.ChangeShapes Go.WideShapes Go.RowKit Go.Deep Go.Proofs.YtdedlchpjboceaaDoor.Px Go.Proofs.YtdedlchpjboceaaDoorW.PrintWords Go.Proofs.YtdedlchpjboceaaDoorW.PrintLast Go.Proofs.YtdedlchpjboceaaDoorW.PrintMore Go.Proofs.YtdedlchpjboceaaDoor.PE
def ofS (x : Px.Cmd) : S40 := ⟨x.f0, x.f1, x.f2, x.f3⟩
theorem cmds_readS {H : Type} {enc : TypeId × Value → H} {w : World} {base : Nat} {held : Bool} {a : Option Addr} {len cap : Nat} {d : DataW H} {p : List MemPlace} (h : DataW.Trod enc Tryd.prog w base (fun _ => true) held 25 (.slice a len cap) d p) :
    ∃ l : List S40, len = l.length ∧ l.length ≤ cap ∧ Kd.C k40 w a l.length l ∧ l.length ≤ 9223372036854775807 := by
  obtain ⟨m, hm⟩ := h
  obtain ⟨l, rfl, h1, h2⟩ := cmds_read (x := (d, p)) (by simpa [Value.cells] using hm)
  have h3 : Kd.C k40 w a l.length (l.map ofS) := Tx.C_iso2 (h := ofS) (fun _ => rfl) h2
  refine ⟨l.map ofS, by rw [List.length_map], by rw [List.length_map]; exact h1, by rw [List.length_map]; exact h3, ?_⟩
  rw [List.length_map]; exact h2.2.1
end Go.Proofs.YtdedlchpjboceaaDoor.Qr
end
