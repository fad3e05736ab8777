/- Texts of proofs: plain words, and walks through the program's functions. -/
import Derived.DataShut
import Derived.Test.YtdedlchpjboceaaDoorMbd7a5faf
import Derived.Test.YtdedlchpjboceaaDoorMf73a332c
import Derived.Test.YtdedlchpjboceaaDoorMfb496182
import Derived.Test.YtdedlchpjboceaaDoorM778d90ba
import Derived.Test.YtdedlchpjboceaaDoorM5900f009

section
/-
  Plain laws: few commands; the fixed examples of the statements on the printer; small numbers.
-/
namespace Go.Proofs.YtdedlchpjboceaaDoor.Qy
open Go.RowKit Go.Proofs.YtdedlchpjboceaaDoorW.PrintWords Go.Proofs.YtdedlchpjboceaaDoorW.PrintLast Go.Proofs.YtdedlchpjboceaaDoor.Lx Go.Proofs.YtdedlchpjboceaaDoor.Px Go.Proofs.YtdedlchpjboceaaDoor.Tx Go.Proofs.YtdedlchpjboceaaDoor.Qz Go.Proofs.YtdedlchpjboceaaDoor.PE

theorem print_f (l : List S40) : printer_Print.f l = some (printR (l.map toCmd)) := rfl
theorem u16_bd {a : Int} (h : (Lit.int .u16 a).wf = true) : 0 ≤ a ∧ a ≤ 65535 := by
  have := (Lit.wf_int_iff .u16 a).1 h
  simpa [IntKind.min, IntKind.max, IntKind.signed, IntKind.bits] using this

/-! ### Few -/
def few1 (x : S40) : Bool := decide (x.f2.length ≤ 20) && decide (x.f1.size ≤ 50)
def fewB (l : List S40) : Bool := l.all few1 && decide (l.length ≤ 310)
theorem few_loop (l : List S40) (hl : l.length ≤ 9223372036854775807) (d : Nat) : ∀ j : Nat, j ≤ l.length → l.length - j = d →
    Ev (fun k => slotmeshref02_Few.l0 k l (j : Int)) ((l.drop j).all few1 && decide (l.length ≤ 310)) := by
  induction d with
  | zero =>
    intro j hj hd
    refine Ev.step (f := _) (fun k => by rw [slotmeshref02_Few.l0]) ?_
    refine evNeg (by omega) ?_
    rw [List.drop_of_length_le (by omega)]
    refine evEq (Ev.now _) ?_
    simp only [List.all_nil, Bool.true_and]
    congr 1
    exact propext (by omega)
  | succ d ih =>
    intro j hj hd
    have hlt : j < l.length := by omega
    have hih := ih (j + 1) (by omega) (by omega)
    have hw : wrap64 ((j : Int) + 1) = ((j + 1 : Nat) : Int) := by rw [w64 (by omega) (by omega)]; omega
    refine Ev.step (f := _) (fun k => by rw [slotmeshref02_Few.l0]) ?_
    refine evPos (by omega) (evPos (by omega) ?_)
    rw [rd_at l j hlt, List.drop_eq_getElem_cons hlt, List.all_cons]
    by_cases h1 : l[j].f2.length ≤ 20
    · refine evNeg (by omega) ?_
      by_cases h2 : l[j].f1.size ≤ 50
      · refine evNeg (by omega) ?_
        rw [hw]
        have e : few1 l[j] = true := by unfold few1; simp [h1, h2]
        rw [e, Bool.true_and]
        exact hih
      · refine evPos (by omega) ?_
        have e : few1 l[j] = false := by unfold few1; simp [h2]
        rw [e]; exact Ev.now _
    · refine evPos (by omega) ?_
      have e : few1 l[j] = false := by unfold few1; simp [h1]
      rw [e]; exact Ev.now _
theorem few_ev (l : List S40) (hl : l.length ≤ 9223372036854775807) : Ev (fun k => slotmeshref02_Few.f k l) (fewB l) := few_loop l hl l.length 0 (Nat.zero_le _) rfl
theorem few_some {l : List S40} (h : fewB l = true) : l.length ≤ 310 ∧ ∀ x ∈ l, x.f2.length ≤ 20 ∧ x.f1.size ≤ 50 := by
  unfold fewB at h
  rw [Bool.and_eq_true, decide_eq_true_eq, List.all_eq_true] at h
  refine ⟨h.2, fun x hx => ?_⟩
  have := h.1 x hx
  unfold few1 at this
  simpa using this


/-! ### commands under their two names -/
def ofC (x : Px.Cmd) : S40 := ⟨x.f0, x.f1, x.f2, x.f3⟩
theorem of_to (x : S40) : ofC (toCmd x) = x := rfl
theorem toCmd_inj {a b : List S40} (h : a.map toCmd = b.map toCmd) : a = b := by
  have := congrArg (List.map ofC) h
  simpa [List.map_map, Function.comp_def, of_to] using this

end Go.Proofs.YtdedlchpjboceaaDoor.Qy
end

section
/-
  Plain laws on the reference's small functions, put together: few commands, equal commands, the fixed examples; Strip.
-/
namespace Go.Proofs.YtdedlchpjboceaaDoor.Qy
open Go.RowKit Go.Proofs.YtdedlchpjboceaaDoorW.PrintWords Go.Proofs.YtdedlchpjboceaaDoorW.PrintLast Go.Proofs.YtdedlchpjboceaaDoor.Lx Go.Proofs.YtdedlchpjboceaaDoor.Px Go.Proofs.YtdedlchpjboceaaDoor.Tx Go.Proofs.YtdedlchpjboceaaDoor.Qz Go.Proofs.YtdedlchpjboceaaDoor.PE

theorem strip_map (l : List S40) : (l.map stripS).map toCmd = (l.map toCmd).map strip0 := by simp [List.map_map]; intro x _; rfl

end Go.Proofs.YtdedlchpjboceaaDoor.Qy
end
