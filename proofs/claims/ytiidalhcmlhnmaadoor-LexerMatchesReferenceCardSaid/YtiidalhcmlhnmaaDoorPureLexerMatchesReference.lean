/-
  For every script Lex answers what the reference answers: the pure statement of the law LexerMatchesReference.
-/
import Derived.Test.YtiidalhcmlhnmaaDoorLxH
namespace Go.Proofs.YtiidalhcmlhnmaaDoor.Pure
open Go.RowKit Go.Proofs.YtiidalhcmlhnmaaDoor.PA Go.Proofs.YtiidalhcmlhnmaaDoorW.PrintWords Go.Proofs.YtiidalhcmlhnmaaDoorW.PrintLast Go.Proofs.YtiidalhcmlhnmaaDoor.Lx Go.Proofs.YtiidalhcmlhnmaaDoor.LR

theorem LexerMatchesReference : slotmeshlaw01_LexerMatchesReference.Pure := by
  intro s hs
  refine Ev.rounds ?_
  unfold slotmeshlaw01_LexerMatchesReference.f
  refine Ev.bind head_ev ?_
  by_cases hl : (s.size : Int) > 10000
  · exact evPos hl (Ev.now _)
  · refine evNeg hl (evBind (lexer_f s) (Ev.bind (ref_lex s) (evPos rfl ?_)))
    cases h : lex s.data.toList with
    | error e =>
      refine Ev.bind (same_self [] (by simp) (by simp)) (evPos rfl (evPos rfl (evNow ?_)))
      simp
    | ok ts =>
      obtain ⟨h1, rfl, h3, h4, h5⟩ := lex_bound h
      refine Ev.bind (same_self _ (fun x hx => by have := h4 x hx; omega) (by omega)) (evPos rfl (evPos rfl (evNow ?_)))
      simp

end Go.Proofs.YtiidalhcmlhnmaaDoor.Pure
