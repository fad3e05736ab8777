/-
  A script with an error: the part before has none, and the error stays where it is: the pure statement of the law LexerErrors.
-/
import Derived.Test.YtiidalhcmlhnmaaDoorLxJ
import Derived.Test.YtiidalhcmlhnmaaDoorPAx7
namespace Go.Proofs.YtiidalhcmlhnmaaDoor.Pure
open Go.RowKit Go.Proofs.YtiidalhcmlhnmaaDoor.PA Go.Proofs.YtiidalhcmlhnmaaDoorW.PrintWords Go.Proofs.YtiidalhcmlhnmaaDoorW.PrintLast Go.Proofs.YtiidalhcmlhnmaaDoor.Lx Go.Proofs.YtiidalhcmlhnmaaDoor.LR

theorem err_main (s u : ByteArray) (hs : s.size ≤ 8000) (hu : u.size ≤ 8000) (e : Int × Nat) (h : lex s.data.toList = .error e) :
    Ev (fun k => slotmeshlaw01_LexerErrors.j1 k s u true e.1 (e.2 : Int) false) true := by
  obtain ⟨p, c, a, b, hsp, ho, hp, hc, ha, hb, hcut, n1, n2, hst, hgood⟩ := lex_error_inv (by rw [list_size]; exact hs) h
  have hlen : s.size = p.length + (1 + a.length + b.length) := by rw [← list_size, hsp]; simp; omega
  obtain ⟨e1, e2, e3⟩ := err_pos hst
  have hk : e.2 < s.size := by omega
  have hcl : cls s[e.2] = cls c := by
    have hd := drop_at s e.2 hk
    have hd2 : s.data.toList.drop e.2 = c :: (a ++ b) := by rw [hsp, ho, List.drop_left]
    rw [hd2] at hd
    exact congrArg cls (List.cons.inj hd).1.symm
  have hsl : slen (s.data.toList.drop e.2) = 1 + a.length := by
    rw [hsp, ho, List.drop_left, slen_head ha hb]
  refine Ev.step (f := _) (fun k => by rw [slotmeshlaw01_LexerErrors.j1]) ?_
  refine evNeg (by decide) (evPos (by omega) (evPos (by omega) (evBind (lexer_f _) ?_)))
  rw [Int.toNat_natCast, extract_list, hsp, ho, List.take_left, hp]
  rw [← ho]
  refine Ev.bind (end_ev s (by omega) e.2 hk (by rw [hcl]; exact n2)) ?_
  rw [hsl, Int.toNat_natCast]
  have hx1 : (s.extract 0 (e.2 + (1 + a.length))).data.toList = p ++ (c :: a) := by
    rw [extract_list, hsp, show p ++ c :: (a ++ b) = (p ++ (c :: a)) ++ b by simp, show e.2 + (1 + a.length) = (p ++ (c :: a)).length by simp; omega, List.take_left]
  have hz1 : (s.extract 0 (e.2 + (1 + a.length))).size = e.2 + (1 + a.length) := by rw [← list_size, hx1]; simp; omega
  have hz2 : ((s.extract 0 (e.2 + (1 + a.length))) ++ (⟨#[32]⟩ : ByteArray)).size = e.2 + (1 + a.length) + 1 := by rw [ByteArray.size_append, hz1]; rfl
  have hz3 : (((s.extract 0 (e.2 + (1 + a.length))) ++ (⟨#[32]⟩ : ByteArray)) ++ u).size = e.2 + (1 + a.length) + 1 + u.size := by rw [ByteArray.size_append, hz2]
  have hx3 : (((s.extract 0 (e.2 + (1 + a.length))) ++ (⟨#[32]⟩ : ByteArray)) ++ u).data.toList = p ++ (c :: (a ++ (32 :: u.data.toList))) := by
    rw [data_append, data_append, hx1]; simp
  refine evPos (by omega) (evPos (by omega) (evPos (by rw [hz1]; omega) (evPos (by rw [hz2]; omega) ?_)))
  by_cases hl : ((((s.extract 0 (e.2 + (1 + a.length))) ++ (⟨#[32]⟩ : ByteArray)) ++ u).size : Int) > 8000
  · exact evPos hl (evPos rfl (evNow rfl))
  · refine evNeg hl (evBind (lexer_f _) ?_)
    rw [hx3]
    have hcut2 : CutOk (cls c) (32 :: u.data.toList) := cut_low n2 (by decide) _
    have hlex : lex (p ++ (c :: (a ++ (32 :: u.data.toList)))) = .error e := by
      have hl' : ¬ 8000 < (p ++ (c :: (a ++ (32 :: u.data.toList)))).length := by rw [← hx3, list_size]; omega
      unfold lex; rw [if_neg hl']
      unfold procF
      rw [spans_append p _ 0 (fun y hy => hcut y (by simpa using hy)), Nat.zero_add, spans_head c a _ p.length ha hcut2, List.foldl_append, List.foldl_cons]
      have : (spans p 0).foldl pstep (.ok []) = .ok (toks (spans p 0)) := by have := fold_ok (spans p 0) [] hgood (by simpa using hc); simpa using this
      rw [this, hst, foldl_error]
    rw [hlex]
    refine evPos rfl (evPos rfl (evPos rfl (evPos rfl ?_)))
    by_cases h2 : e.1 = 2
    · refine evPos h2 (evNow ?_)
      have := e3 h2
      simp [ans, this]
    · exact evNeg h2 (evNow rfl)

theorem LexerErrors : slotmeshlaw01_LexerErrors.Pure := by
  intro s u hs hu
  refine Ev.rounds ?_
  unfold slotmeshlaw01_LexerErrors.f
  refine Ev.bind head_ev ?_
  have hj : ∀ b : Bool, (b = false → s.size ≤ 8000 ∧ u.size ≤ 8000) → Ev (fun k => slotmeshlaw01_LexerErrors.j0 k s u true b) true := by
    intro b hb
    refine Ev.step (f := _) (fun k => by rw [slotmeshlaw01_LexerErrors.j0]) ?_
    cases b with
    | true => exact evPos rfl (Ev.now _)
    | false =>
      obtain ⟨h1, h2⟩ := hb rfl
      refine evNeg (by decide) (evBind (lexer_f s) ?_)
      cases e1 : lex s.data.toList with
      | error e =>
        obtain ⟨p, c, a, b, hsp, ho, _, _, _, _, _, _, _, hst, _⟩ := lex_error_inv (by rw [list_size]; exact h1) e1
        obtain ⟨g1, _, _⟩ := err_pos hst
        have hlen : s.size = p.length + (1 + a.length + b.length) := by rw [← list_size, hsp]; simp; omega
        refine evNeg (by show ¬ e.1 = 0; omega) (evNeg (by show ¬ ((e.2 : Nat) : Int) < 0; omega) ?_)
        have : decide ((ans (.error e)).2.2 ≥ (s.size : Int)) = false := decide_eq_false (by simp only [ans]; omega)
        rw [this]
        exact err_main s u h1 h2 e e1
      | ok ts => exact evPos rfl (evPos rfl (evNow rfl))
  by_cases h1 : (s.size : Int) > 8000
  · exact evPos h1 (hj true (fun h => by cases h))
  · exact evNeg h1 (hj _ (fun h => by have := of_decide_eq_false h; omega))

end Go.Proofs.YtiidalhcmlhnmaaDoor.Pure
