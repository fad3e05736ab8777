/-
  A gap that is put in at a token or at the end changes nothing but the offsets behind it: the pure statement of the law LexerGaps.
-/
import Derived.Test.YtiidalhcmlhnmaaDoorLxK
import Derived.Test.YtiidalhcmlhnmaaDoorPAx5
namespace Go.Proofs.YtiidalhcmlhnmaaDoor.Pure
open Go.RowKit Go.Proofs.YtiidalhcmlhnmaaDoor.PA Go.Proofs.YtiidalhcmlhnmaaDoorW.PrintWords Go.Proofs.YtiidalhcmlhnmaaDoorW.PrintLast Go.Proofs.YtiidalhcmlhnmaaDoor.Lx Go.Proofs.YtiidalhcmlhnmaaDoor.LR

theorem pick_ok (a : Int) (m : Nat) (hm : 0 < m) (h : (Lit.int .i64 a).wf = true) : ∃ r : Nat, slotmeshlaw01_pick.f a (m : Int) = some (r : Int) ∧ r < m := by
  have hw : -9223372036854775808 ≤ a ∧ a ≤ 9223372036854775807 := by
    have := h
    simp only [Lit.wf, Bool.and_eq_true, decide_eq_true_eq] at this
    exact this
  have key : ∀ b : Int, 0 ≤ b → ∃ r : Nat, some (Int.tmod b (m : Int)) = some (r : Int) ∧ r < m := by
    intro b hb
    refine ⟨(Int.tmod b m).toNat, ?_, ?_⟩
    · rw [Int.toNat_of_nonneg (Int.tmod_nonneg _ hb)]
    · have := Int.tmod_lt_of_pos b (b := (m : Int)) (by omega)
      have := Int.tmod_nonneg (m : Int) hb
      omega
  unfold slotmeshlaw01_pick.f
  by_cases hn : a < 0
  · rw [if_pos hn, if_neg (by omega), w64 (x := a + 1) (by omega) (by omega), w64 (by omega) (by omega)]
    exact key _ (by omega)
  · rw [if_neg hn, if_neg (by omega)]
    exact key _ (by omega)

theorem cast_gt {a b : Nat} : ((a : Int) + (b : Int) > 8000) ↔ 8000 < a + b := by omega
theorem cut_len (s g : List UInt8) (P : Nat) (h : P ≤ s.length) : (s.take P ++ g ++ s.drop P).length = s.length + g.length := by
  rw [List.length_append, List.length_append, List.length_take, List.length_drop, Nat.min_eq_left h]; omega
theorem lex_long {s : List UInt8} (h : 8000 < s.length) : lex s = .error (2, 0) := by unfold lex; rw [if_pos h]
theorem gaps_main (s : ByteArray) (hs : s.size ≤ 8000) (ts : List Tk) (h : lex s.data.toList = .ok ts) (a1 a2 : Int) (w1 : (Lit.int .i64 a1).wf = true) (w2 : (Lit.int .i64 a2).wf = true) :
    Ev (fun k => slotmeshlaw01_LexerGaps.j0 k s a1 a2 true (ts.map toTok) false) true := by
  obtain ⟨_, _, _, hoff, hcnt⟩ := lex_bound h
  have hls : s.data.toList.length = s.size := rfl
  rw [hls] at hoff
  have ho : ∀ x ∈ ts, x.o ≤ 1000000 := fun x hx => Nat.le_trans (Nat.le_of_lt (hoff x hx)) (Nat.le_trans hs (by decide))
  have r1 : ts.length ≤ 1000000 := Nat.le_trans hcnt (by decide)
  refine Ev.step (f := _) (fun k => by rw [slotmeshlaw01_LexerGaps.j0]) ?_
  refine evNeg (by decide) (evBind rfl ?_)
  obtain ⟨r, hr, hr5⟩ := pick_ok a2 5 (by decide) w2
  refine evBind hr (evPos (by omega) (evPos (by show (r : Int) < ((5 : Nat) : Int); omega) ?_))
  have hlen : wrap64 ((((ts.map toTok).length : Nat) : Int) + 1) = ((ts.length + 1 : Nat) : Int) := by
    rw [List.length_map, w64 (by omega) (by omega)]; omega
  rw [hlen]
  obtain ⟨k, hk, hkl⟩ := pick_ok a1 (ts.length + 1) (by omega) w1
  refine evBind hk ?_
  obtain ⟨g, hg, hgok⟩ : ∃ g : ByteArray, rdOf ByteArray.empty ([(⟨#[32]⟩ : ByteArray), (⟨#[9]⟩ : ByteArray), (⟨#[10]⟩ : ByteArray), (⟨#[35, 32, 97, 59, 32, 98, 32, 55, 10]⟩ : ByteArray), (⟨#[10, 35, 10]⟩ : ByteArray)] : List ByteArray) (r : Int) = g ∧ GapOk g.data.toList := by
    refine ⟨_, rfl, gap_ok ?_⟩
    have : r = 0 ∨ r = 1 ∨ r = 2 ∨ r = 3 ∨ r = 4 := by omega
    rcases this with rfl | rfl | rfl | rfl | rfl <;> simp [rdOf, gapL]
  rw [hg]
  have hgs : g.size ≤ 9 := hgok.size
  have hgl : g.data.toList.length = g.size := rfl
  obtain ⟨P, hP, p1, p2, hm⟩ := gap_lex h hgok k (by omega)
  rw [hls] at hP p2
  rw [hls, hgl] at hm
  have main : Ev (fun n => slotmeshlaw01_LexerGaps.j1 n s true (ts.map toTok) g (k : Int) ((P : Nat) : Int)) true := by
    refine Ev.step (f := _) (fun k => by rw [slotmeshlaw01_LexerGaps.j1]) ?_
    refine evNeg (by omega) ?_
    rw [decide_eq_false (show ¬ (((P : Nat) : Int) > (s.size : Int)) by omega)]
    refine Ev.step (f := _) (fun k => by rw [slotmeshlaw01_LexerGaps.j2]) ?_
    have z1 : (s.extract 0 P).size = P := by rw [ByteArray.size_extract]; omega
    have z2 : (s.extract P s.size).size = s.size - P := by rw [ByteArray.size_extract]; omega
    have hd : ((s.extract 0 P ++ g) ++ s.extract P s.size).data.toList = s.data.toList.take P ++ g.data.toList ++ s.data.toList.drop P := by
      rw [data_append, data_append, extract_list, ext_list]
      congr 1
      show (s.data.toList.drop _).take _ = _
      exact List.take_of_length_le (by rw [List.length_drop, hls]; exact Nat.le_refl _)
    refine evNeg (by decide) (evPos (by omega) (evPos (by omega) ?_))
    rw [Int.toNat_natCast]
    refine evPos (by rw [z1]; omega) (evPos (by rw [ByteArray.size_append, z1, z2]; omega) (evBind (lexer_f _) ?_))
    rw [hd]
    have hw : wrap64 ((s.size : Int) + (g.size : Int)) = (s.size : Int) + g.size := w64 (by omega) (by omega)
    rw [hw]
    by_cases hl : (s.size : Int) + g.size > 8000
    · refine evPos hl (evPos rfl ?_)
      have : lex (s.data.toList.take P ++ g.data.toList ++ s.data.toList.drop P) = .error (2, 0) := lex_long (by rw [cut_len _ _ _ hP]; exact cast_gt.1 hl)
      rw [this]
      exact evPos rfl (evNow rfl)
    · refine evNeg hl ?_
      have hm' := hm (Nat.le_of_not_lt fun h => hl (cast_gt.2 h))
      clear hm
      rw [hm']
      have hb : ((((ans (.ok (ts.take k ++ (ts.drop k).map (shiftT g.size)))).1.length : Nat) : Int) != (((ts.map toTok).length : Nat) : Int)) = false := by
        have : (ans (.ok (ts.take k ++ (ts.drop k).map (shiftT g.size)))).1.length = (ts.map toTok).length := by
          simp only [ans, List.length_map, List.length_append, List.length_take, List.length_drop]; omega
        rw [this]; simp
      refine evPos rfl ?_
      rw [hb]
      refine Ev.step (f := _) (fun k => by rw [slotmeshlaw01_LexerGaps.j3]) ?_
      have hans : (ans (.ok (ts.take k ++ (ts.drop k).map (shiftT g.size)))).1 = (ts.take k).map toTok ++ ((ts.drop k).map (shiftT g.size)).map toTok := by simp [ans]
      rw [hans]
      have hkl' : ((ts.take k).map toTok).length = k := by rw [List.length_map, List.length_take]; omega
      refine evNeg (by decide) (evPos rfl (evPos (by omega) (evPos (by rw [List.length_map]; omega) (evPos (by rw [List.length_append, hkl']; omega) ?_))))
      rw [Int.toNat_natCast]
      have t1 : ((ts.take k).map toTok ++ ((ts.drop k).map (shiftT g.size)).map toTok).take k = (ts.take k).map toTok := List.take_left' hkl'
      have t2 : ((ts.take k).map toTok ++ ((ts.drop k).map (shiftT g.size)).map toTok).drop k = ((ts.drop k).map (shiftT g.size)).map toTok := List.drop_left' hkl'
      rw [t1, t2, ← List.map_take, ← List.map_drop]
      refine Ev.bind (same_self (ts.take k) (fun x hx => ho x (List.mem_of_mem_take hx)) (by rw [List.length_take]; exact Nat.le_trans (Nat.min_le_right _ _) r1)) (evPos rfl ?_)
      refine Ev.bind (same_ev (ts.drop k) g.size (Nat.le_trans hgs (by decide)) (fun x hx => ho x (List.mem_of_mem_drop hx)) (by rw [List.length_drop]; exact Nat.le_trans (Nat.sub_le _ _) r1)) (Ev.now _)
  by_cases hlt : k < ts.length
  · refine evPos (by rw [List.length_map]; omega) (evPos (by omega) ?_)
    have : (rd_T31 (ts.map toTok) (k : Int)).f3 = ((P : Nat) : Int) := by
      rw [rd_at _ k (by rw [List.length_map]; exact hlt), List.getElem_map, ← p1 hlt]
      rfl
    rw [this]; exact main
  · refine evNeg (by rw [List.length_map]; omega) ?_
    rw [p2 hlt] at main; exact main
theorem gaps_t (s : ByteArray) (a1 a2 : Int) (l : List S31) : Ev (fun k => slotmeshlaw01_LexerGaps.j0 k s a1 a2 true l true) true := by
  refine Ev.step (f := _) (fun k => by rw [slotmeshlaw01_LexerGaps.j0]) ?_
  exact evPos rfl (Ev.now _)

theorem LexerGaps : slotmeshlaw01_LexerGaps.Pure := by
  intro s a1 a2 hs w1 w2
  refine Ev.rounds ?_
  unfold slotmeshlaw01_LexerGaps.f
  refine Ev.bind head_ev ?_
  have hmn : 0 ≤ mn (s.size : Int) 10000 ∧ mn (s.size : Int) 10000 ≤ (s.size : Int) := by unfold mn; split <;> omega
  refine evPos hmn.1 (evPos hmn.2 (evBind (lexer_f _) ?_))
  by_cases h1 : (s.size : Int) > 8000
  · exact evPos h1 (gaps_t _ _ _ _)
  · refine evNeg h1 ?_
    have hm : mn (s.size : Int) 10000 = (s.size : Int) := by unfold mn; rw [if_neg (by omega)]
    rw [hm, Int.toNat_natCast, extract_list, ← list_size s, List.take_length]
    cases e1 : lex s.data.toList with
    | error e =>
      obtain ⟨_, _, _, _, _, _, _, _, _, _, _, _, _, hp, _⟩ := lex_error_inv (by rw [list_size]; omega) e1
      have := (err_pos hp).1
      have : ((ans (.error e)).2.1 != 0) = true := by simp [ans]; omega
      rw [this]; exact gaps_t _ _ _ _
    | ok ts => exact gaps_main s (by omega) ts e1 a1 a2 w1 w2

end Go.Proofs.YtiidalhcmlhnmaaDoor.Pure
