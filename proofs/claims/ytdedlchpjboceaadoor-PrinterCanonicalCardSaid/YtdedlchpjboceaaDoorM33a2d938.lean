/- Texts of proofs: plain words, and walks through the program's functions. -/
import Derived.Test.YtdedlchpjboceaaDoorM872cf52b
import Derived.Test.YtdedlchpjboceaaDoorMa7a62bad
import Derived.Test.YtdedlchpjboceaaDoorM20bdcbe4

section
namespace Go.Proofs.YtdedlchpjboceaaDoor.Qy
open Go.RowKit Go.Proofs.YtdedlchpjboceaaDoorW.PrintWords Go.Proofs.YtdedlchpjboceaaDoorW.PrintLast Go.Proofs.YtdedlchpjboceaaDoor.Lx Go.Proofs.YtdedlchpjboceaaDoor.Px Go.Proofs.YtdedlchpjboceaaDoor.Tx Go.Proofs.YtdedlchpjboceaaDoor.Qz Go.Proofs.YtdedlchpjboceaaDoor.PE
theorem parseF (s : ByteArray) : parser_Parse.f s = some ((parseR s).1.map ofCmd, (parseR s).2.map ofDg) := rfl
theorem parseF_of {s : ByteArray} {x : List Cmd} {d : List Dg} (h : parseR s = (x, d)) : parser_Parse.f s = some (x.map ofCmd, d.map ofDg) := by rw [parseF, h]
/-- Commands that were parsed without diagnostics. -/
theorem parse_valid {s : ByteArray} {x : List Cmd} (h : parseR s = (x, [])) : validB x = true ∧ x.length ≤ 300 ∧ (∀ c ∈ x, cB c = true) := by
  obtain ⟨ts, hl, hS, hx⟩ := parse_clean h
  have hv := segs_valid hS (lex_allV hl)
  have hc : ∀ c ∈ x, cB c = true := fun c hc => (hv c hc).1
  refine ⟨?_, hx, hc⟩
  unfold validB
  rw [decide_eq_true (show (x.length : Int) ≤ 300 by omega), Bool.true_and, List.all_eq_true]
  exact hc
end Go.Proofs.YtdedlchpjboceaaDoor.Qy
end
