/-
  The tokens of two scripts, joined by a line feed, are those of both: the pure statement of the law LexerTwoScripts.
-/
import Derived.Test.YtiidalhcmlhnmaaDoorLxJ
import Derived.Test.YtiidalhcmlhnmaaDoorPAx6
namespace Go.Proofs.YtiidalhcmlhnmaaDoor.Pure
open Go.RowKit Go.Proofs.YtiidalhcmlhnmaaDoor.PA Go.Proofs.YtiidalhcmlhnmaaDoorW.PrintWords Go.Proofs.YtiidalhcmlhnmaaDoorW.PrintLast Go.Proofs.YtiidalhcmlhnmaaDoor.Lx Go.Proofs.YtiidalhcmlhnmaaDoor.LR

theorem two_j1 (s u : ByteArray) (hs : s.size ≤ 8000) (hu : u.size ≤ 8000) (ts us : List Tk) (h1 : lex s.data.toList = .ok ts) (h2 : lex u.data.toList = .ok us) :
    Ev (fun k => slotmeshlaw01_LexerTwoScripts.j1 k s u true (ts.map toTok) (us.map toTok) false) true := by
  refine Ev.step (f := _) (fun k => by rw [slotmeshlaw01_LexerTwoScripts.j1]) ?_
  have hz : (s ++ (⟨#[10]⟩ : ByteArray)).size = s.size + 1 := by rw [ByteArray.size_append]; rfl
  refine evNeg (by decide) (evPos (by omega) (evPos (by rw [hz]; omega) ?_))
  refine evBind (lexer_f _) ?_
  have hd : ((s ++ (⟨#[10]⟩ : ByteArray)) ++ u).data.toList = s.data.toList ++ 10 :: u.data.toList := by
    rw [data_append, data_append, List.append_assoc]; rfl
  rw [hd]
  obtain ⟨_, _, _, b1, c1⟩ := lex_bound h1
  obtain ⟨_, _, _, b2, c2⟩ := lex_bound h2
  have hls : s.data.toList.length = s.size := rfl
  have hlu : u.data.toList.length = u.size := rfl
  rw [hls] at b1; rw [hlu] at b2
  have q1 : ∀ x ∈ ts, x.o ≤ 1000000 := fun x hx => Nat.le_trans (Nat.le_of_lt (b1 x hx)) (Nat.le_trans hs (by decide))
  have q2 : ∀ x ∈ us, x.o ≤ 1000000 := fun x hx => Nat.le_trans (Nat.le_of_lt (b2 x hx)) (Nat.le_trans hu (by decide))
  have r1 : ts.length ≤ 1000000 := Nat.le_trans c1 (by decide)
  have r2 : us.length ≤ 1000000 := Nat.le_trans c2 (by decide)
  have r3 : s.size + 1 ≤ 1000000 := by omega
  have hlen : (s.data.toList ++ 10 :: u.data.toList).length = s.size + u.size + 1 := by rw [List.length_append, List.length_cons, hls, hlu]; omega
  have hw1 : wrap64 (wrap64 ((s.size : Int) + (u.size : Int)) + 1) = (s.size : Int) + u.size + 1 := by rw [w64 (x := (s.size : Int) + u.size) (by omega) (by omega), w64 (by omega) (by omega)]
  have hw2 : wrap64 (((ts.map toTok).length : Int) + ((us.map toTok).length : Int)) = (ts.length : Int) + us.length := by
    rw [List.length_map, List.length_map]; exact w64 (by omega) (by omega)
  have hw3 : wrap64 ((s.size : Int) + 1) = ((s.size + 1 : Nat) : Int) := by rw [w64 (by omega) (by omega)]; omega
  rw [hw1, hw2, hw3]
  by_cases hl : (s.size : Int) + u.size + 1 > 8000
  · refine evPos hl (evPos rfl ?_)
    have : lex (s.data.toList ++ 10 :: u.data.toList) = .error (2, 0) := by unfold lex; rw [if_pos (by omega)]
    rw [this]
    exact evPos rfl (evNow rfl)
  · refine evNeg hl ?_
    by_cases hc : (ts.length : Int) + us.length > 2000
    · refine evPos hc (evPos rfl ?_)
      obtain ⟨o, ho, he⟩ := join_many h1 h2 (by rw [hls, hlu]; omega) (by omega)
      rw [hls] at ho
      rw [he]
      refine evPos rfl (evNow ?_)
      simp [ans, ho]
    · refine evNeg hc (evPos rfl ?_)
      have hj := join_ok h1 h2 (by rw [hls, hlu]; omega) (by omega)
      rw [hj, hls]
      have hans : (ans (.ok (ts ++ us.map (shiftT (s.size + 1))))).1 = ts.map toTok ++ (us.map (shiftT (s.size + 1))).map toTok := by simp [ans]
      rw [hans]
      refine evPos rfl (evPos (by simp) (evPos (by omega) (evPos (by simp; omega) ?_)))
      rw [Int.toNat_natCast, List.take_left, List.drop_left]
      refine Ev.bind (same_self ts q1 r1) (evPos rfl ?_)
      refine Ev.bind (same_ev us (s.size + 1) r3 q2 r2) (Ev.now _)
theorem two_j1t (s u : ByteArray) (l m : List S31) : Ev (fun k => slotmeshlaw01_LexerTwoScripts.j1 k s u true l m true) true := by
  refine Ev.step (f := _) (fun k => by rw [slotmeshlaw01_LexerTwoScripts.j1]) ?_
  exact evPos rfl (Ev.now _)

theorem LexerTwoScripts : slotmeshlaw01_LexerTwoScripts.Pure := by
  intro s u hs hu
  refine Ev.rounds ?_
  unfold slotmeshlaw01_LexerTwoScripts.f
  refine Ev.bind head_ev ?_
  have hj : ∀ b : Bool, (b = false → s.size ≤ 8000 ∧ u.size ≤ 8000) → Ev (fun k => slotmeshlaw01_LexerTwoScripts.j0 k s u true b) true := by
    intro b hb
    refine Ev.step (f := _) (fun k => by rw [slotmeshlaw01_LexerTwoScripts.j0]) ?_
    cases b with
    | true => exact evPos rfl (Ev.now _)
    | false =>
      obtain ⟨h1, h2⟩ := hb rfl
      refine evNeg (by decide) (evBind (lexer_f s) (evBind (lexer_f u) ?_))
      cases e1 : lex s.data.toList with
      | error e =>
        by_cases h0 : e.1 = 0
        · refine evPos h0 ?_
          cases e2 : lex u.data.toList with
          | error f =>
            by_cases h0' : f.1 = 0
            · exfalso
              obtain ⟨_, _, _, _, _, _, _, _, _, _, _, _, _, hp, _⟩ := lex_error_inv (by rw [list_size]; exact h2) e2
              have := (err_pos hp).1
              omega
            · have : ((ans (.error f)).2.1 != 0) = true := by simpa [ans] using h0'
              rw [this]; exact two_j1t _ _ _ _
          | ok us =>
            exfalso
            obtain ⟨_, _, _, _, _, _, _, _, _, _, _, _, _, hp, _⟩ := lex_error_inv (by rw [list_size]; exact h1) e1
            have := (err_pos hp).1
            omega
        · exact evNeg h0 (two_j1t _ _ _ _)
      | ok ts =>
        refine evPos rfl ?_
        cases e2 : lex u.data.toList with
        | error f =>
          by_cases h0' : f.1 = 0
          · exfalso
            obtain ⟨_, _, _, _, _, _, _, _, _, _, _, _, _, hp, _⟩ := lex_error_inv (by rw [list_size]; exact h2) e2
            have := (err_pos hp).1
            omega
          · have : ((ans (.error f)).2.1 != 0) = true := by simpa [ans] using h0'
            rw [this]; exact two_j1t _ _ _ _
        | ok us => exact two_j1 s u h1 h2 ts us e1 e2
  by_cases h1 : (s.size : Int) > 8000
  · exact evPos h1 (hj true (fun h => by cases h))
  · exact evNeg h1 (hj _ (fun h => by have := of_decide_eq_false h; omega))

end Go.Proofs.YtiidalhcmlhnmaaDoor.Pure
