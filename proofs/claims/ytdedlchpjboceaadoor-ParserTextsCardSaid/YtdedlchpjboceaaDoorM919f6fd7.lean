/- Texts of proofs: plain words, and walks through the program's functions. -/
import Derived.Test.YtdedlchpjboceaaDoorM26dd341a
import Derived.Test.YtdedlchpjboceaaDoorM6ce7cd3e
import Derived.Test.YtdedlchpjboceaaDoorM76be1854

section
namespace Go.Proofs.YtdedlchpjboceaaDoor.Qy
open Go.RowKit Go.Proofs.YtdedlchpjboceaaDoorW.PrintWords Go.Proofs.YtdedlchpjboceaaDoorW.PrintLast Go.Proofs.YtdedlchpjboceaaDoor.Lx Go.Proofs.YtdedlchpjboceaaDoor.Px Go.Proofs.YtdedlchpjboceaaDoor.Tx Go.Proofs.YtdedlchpjboceaaDoor.Qz Go.Proofs.YtdedlchpjboceaaDoor.PE
set_option maxRecDepth 100000 in
theorem head2_ev : Ev (fun k => slotmeshlaw02_head.f k) true := by
  refine evK slotmeshlaw02_head.mono 60 ?_
  unfold slotmeshlaw02_head.f parser_Parse.f
  simp only [parseRF_eq]
  kernel_rfl
theorem head2_only {k : Nat} {r : Bool} (h : slotmeshlaw02_head.f k = some r) : r = true := by
  obtain ⟨K, hK⟩ := head2_ev
  have h1 : ∀ n, slotmeshlaw02_head.f (k + n) = some r := by
    intro n
    induction n with
    | zero => exact h
    | succ n ih => exact slotmeshlaw02_head.mono (k + n) r ih
  have h2 : slotmeshlaw02_head.f (k + K) = some true := hK (k + K) (by omega)
  rw [h1] at h2
  exact Option.some.inj h2
end Go.Proofs.YtdedlchpjboceaaDoor.Qy
end
