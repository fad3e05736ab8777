/- Texts of proofs: plain words, and walks through the program's functions. -/
import Derived.Test.YtdedlchpjboceaaDoorM56943db2
import Derived.Deep.Slices
import Derived.Deep.Fields
import Derived.ChangeSame
import Derived.ChangeSlices

section
namespace Go.Proofs.YtdedlchpjboceaaDoor.Qr
open Go.ChangeShapes Go.WideShapes Go.RowKit Go.Deep Go.Proofs.YtdedlchpjboceaaDoor.Px Go.Proofs.YtdedlchpjboceaaDoorW.PrintWords Go.Proofs.YtdedlchpjboceaaDoorW.PrintLast Go.Proofs.YtdedlchpjboceaaDoorW.PrintMore
theorem bytes_read {H : Type} {enc : TypeId × Value → H} {w : World} {base : Nat} {held : Bool} {a : Option Addr} {len cap : Nat} {d : DataW H} {p : List MemPlace} (h : DataW.Trod enc Tryd.prog w base (fun _ => true) held 58 (.slice a len cap) d p) :
    ∃ l : List Int, len = l.length ∧ l.length ≤ cap ∧ (Kd.int .u8).C w a l.length l ∧ ∀ n ∈ l, (Lit.int .u8 n).wf = true := by
  obtain ⟨m, hm⟩ := h
  have hm' : DataW.trod enc Tryd.prog w base (fun _ => true) held m 58 [.slice a len cap] = some (d, p) := by simpa [Value.cells] using hm
  rcases open_ints Tryd.underlying58 Tryd.underlying5 (by kernel_rfl) hm' with ⟨hcs, _⟩ | ⟨a', len', cap', zs, hcs, _, hl, hmx, hz, _, hcell, hwf⟩
  · have hcs' : Value.slice a len cap = .slice none 0 0 := by simpa using hcs
    injection hcs' with e1 e2 e3
    subst e1; subst e2; subst e3
    exact ⟨[], rfl, Nat.le_refl _, Kd.C_nil _ _, fun n hn => by cases hn⟩
  · have hcs' : Value.slice a len cap = .slice (some a') len' cap' := by simpa using hcs
    injection hcs' with e1 e2 e3
    subst e1; subst e2; subst e3
    obtain ⟨l, rfl, hr, _, hw, hc⟩ := ReadsInt.ofRowC (w := w) (k := .u8) (a := some a') (len := len) (cap := cap) (zs := zs) (.inr ⟨a', rfl, hl, hmx, by simpa using hz, hcell, hwf⟩)
    exact ⟨l, rfl, hc, Kd.C_of_reads (d := (0 : Int)) (h1 := fun _ => rfl) hr, hw⟩
end Go.Proofs.YtdedlchpjboceaaDoor.Qr
end
