/-
  Plain laws for a gap that is put into a script.
-/
import Derived.Test.YtiidalhcmlhnmaaDoorLxJ
namespace Go.Proofs.YtiidalhcmlhnmaaDoor.LR
open Go.RowKit Go.Proofs.YtiidalhcmlhnmaaDoor.PA Go.Proofs.YtiidalhcmlhnmaaDoorW.PrintWords Go.Proofs.YtiidalhcmlhnmaaDoorW.PrintLast Go.Proofs.YtiidalhcmlhnmaaDoor.Lx

/-- The five gaps. -/
def gapL : List (List UInt8) := [[32], [9], [10], [35, 32, 97, 59, 32, 98, 32, 55, 10], [10, 35, 10]]
structure GapOk (g : List UInt8) : Prop where
  head : ∃ c r, g = c :: r ∧ cls c ≠ 3 ∧ cls c ≠ 4 ∧ c ≠ 95
  all : ∀ o, ∀ x ∈ spans g o, gapB x = true
  last : ∀ o, lastK (spans g o) = 1
  rest : ∀ o, ∀ x ∈ spans (g.dropWhile (cont 2)) o, gapB x = true
  size : g.length ≤ 9
theorem gapB_shift (d : Nat) (x : Sp) : gapB (shiftS d x) = gapB x := rfl
theorem lastK_shift (d : Nat) (xs : List Sp) : lastK (xs.map (shiftS d)) = lastK xs := by
  unfold lastK
  rw [List.getLast?_map]
  cases xs.getLast? <;> rfl
theorem gap_mk {g : List UInt8} (h : ∃ c r, g = c :: r ∧ cls c ≠ 3 ∧ cls c ≠ 4 ∧ c ≠ 95) (ha : (spansF g.length g 0).all gapB = true) (hl : lastK (spansF g.length g 0) = 1)
    (hr : (spansF (g.dropWhile (cont 2)).length (g.dropWhile (cont 2)) 0).all gapB = true) (hs : g.length ≤ 9) : GapOk g := by
  refine ⟨h, fun o x hx => ?_, fun o => ?_, fun o x hx => ?_, hs⟩
  · rw [show o = 0 + o by omega, spans_shift] at hx
    obtain ⟨y, hy, rfl⟩ := List.mem_map.1 hx
    rw [← spansF_eq _ _ _ (Nat.le_refl _)] at hy
    exact List.all_eq_true.1 ha y hy
  · rw [show o = 0 + o by omega, spans_shift, lastK_shift, ← spansF_eq _ _ _ (Nat.le_refl _)]; exact hl
  · rw [show o = 0 + o by omega, spans_shift] at hx
    obtain ⟨y, hy, rfl⟩ := List.mem_map.1 hx
    rw [← spansF_eq _ _ _ (Nat.le_refl _)] at hy
    exact List.all_eq_true.1 hr y hy
theorem gap_ok {g : List UInt8} (h : g ∈ gapL) : GapOk g := by
  unfold gapL at h
  simp only [List.mem_cons, List.not_mem_nil, or_false] at h
  rcases h with rfl | rfl | rfl | rfl | rfl
  · exact gap_mk ⟨_, _, rfl, by decide, by decide, by decide⟩ (by decide) (by decide) (by decide) (by decide)
  · exact gap_mk ⟨_, _, rfl, by decide, by decide, by decide⟩ (by decide) (by decide) (by decide) (by decide)
  · exact gap_mk ⟨_, _, rfl, by decide, by decide, by decide⟩ (by decide) (by decide) (by decide) (by decide)
  · exact gap_mk ⟨_, _, rfl, by decide, by decide, by decide⟩ (by decide) (by decide) (by decide) (by decide)
  · exact gap_mk ⟨_, _, rfl, by decide, by decide, by decide⟩ (by decide) (by decide) (by decide) (by decide)

theorem toks_gaps {xs : List Sp} (h : ∀ x ∈ xs, gapB x = true) : toks xs = [] := by
  induction xs with
  | nil => rfl
  | cons x xs ih => rw [toks_cons, toks_gap (h x List.mem_cons_self), ih (fun y hy => h y (List.mem_cons_of_mem _ hy))]; rfl
theorem cont_two_no {c : UInt8} (h : cont 2 c = false) : cls c = 1 := by
  rw [cont_two] at h
  have h10 : c = 10 := by
    unfold pHash at h
    exact UInt8.toNat_inj.1 (by change c.toNat = 10; simp at h; omega)
  subst h10; decide

/-- Where a token stands among the spans. -/
theorem toks_split (xs : List Sp) : ∀ k (h : k < (toks xs).length), ∃ A x B, xs = A ++ x :: B ∧ toks A = (toks xs).take k ∧ toks (x :: B) = (toks xs).drop k ∧ gapB x = false ∧ ((toks xs)[k]).o = x.o := by
  induction xs with
  | nil => intro k h; simp [toks] at h
  | cons x xs ih =>
    intro k h
    have e := toks_cons x xs
    cases hb : tokB x with
    | none =>
      have e1 : toks [x] = [] := by simp [toks, hb]
      rw [e1, List.nil_append] at e
      obtain ⟨A, y, B, h1, h2, h3, h4, h5⟩ := ih k (by rw [← e]; exact h)
      refine ⟨x :: A, y, B, by rw [h1]; rfl, ?_, ?_, h4, ?_⟩
      · rw [toks_cons, e1, List.nil_append, h2, e]
      · rw [h3, e]
      · simp only [e]; exact h5
    | some t =>
      have e1 : toks [x] = [t] := by simp [toks, hb]
      rw [e1, List.singleton_append] at e
      have hg : gapB x = false ∧ t.o = x.o := by
        unfold tokB at hb
        split at hb
        · cases hb
        · rename_i hg
          split at hb
          · rename_i y hy; injection hb with hb; subst hb; exact ⟨by simpa using hg, tokOf_o hy⟩
          · cases hb
      cases k with
      | zero => exact ⟨[], x, xs, rfl, rfl, rfl, hg.1, by simp only [e]; exact hg.2⟩
      | succ k =>
        obtain ⟨A, y, B, h1, h2, h3, h4, h5⟩ := ih k (by rw [e] at h; simpa using h)
        refine ⟨x :: A, y, B, by rw [h1]; rfl, ?_, ?_, h4, ?_⟩
        · rw [toks_cons, e1, h2, e]; rfl
        · rw [h3, e]; rfl
        · simp only [e, List.getElem_cons_succ]; exact h5

/-- Where the k-th token begins; the end, where there is none. -/
def posOf (s : List UInt8) (k : Nat) : Nat := match (toks (spans s 0))[k]? with | some t => t.o | none => s.length

theorem gap_main {s g : List UInt8} (hg : GapOk g) (hs : ∀ x ∈ spans s 0, goodB x) (hc : (toks (spans s 0)).length ≤ 2000) (hl : s.length + g.length ≤ 8000) (k : Nat) (hk : k ≤ (toks (spans s 0)).length) :
    posOf s k ≤ s.length ∧ lex (s.take (posOf s k) ++ g ++ s.drop (posOf s k)) = .ok ((toks (spans s 0)).take k ++ ((toks (spans s 0)).drop k).map (shiftT g.length)) := by
  obtain ⟨gc, gr, hgc, n3, n4, n95⟩ := hg.head
  by_cases hlt : k < (toks (spans s 0)).length
  · obtain ⟨A, x, B, h1, h2, h3, h4, h5⟩ := toks_split _ k hlt
    obtain ⟨p, q, rfl, e1, e2, e3⟩ := spans_split A s 0 (x :: B) h1
    rw [Nat.zero_add] at e2
    obtain ⟨hxo, c, a, b, hq, hk', _, _, _, _⟩ := spans_first e2
    have hpos : posOf (p ++ q) k = p.length := by
      unfold posOf; rw [List.getElem?_eq_getElem hlt]; show ((toks (spans (p ++ q) 0))[k]).o = _; rw [h5, hxo]
    rw [hpos, List.take_left, List.drop_left]
    refine ⟨by simp, ?_⟩
    have hn2 : lastK (spans p 0) ≠ 2 := by
      intro h2'
      rw [e1] at h2'
      rw [h2'] at e3
      have := cont_two_no (e3 c (by rw [hq]; rfl))
      simp [gapB, hk', this] at h4
    have hsp : spans (p ++ g ++ q) 0 = A ++ (spans g p.length ++ (x :: B).map (shiftS g.length)) := by
      rw [List.append_assoc, spans_append p (g ++ q) 0 (by rw [hgc, List.cons_append]; exact cut_low hn2 ⟨n3, n4, n95⟩ _), e1, Nat.zero_add,
        spans_append g q p.length (by rw [hg.last]; exact fun c _ => cont_other (by decide) (by decide) (by decide) c), spans_shift, e2]
    have hgood : ∀ y ∈ spans (p ++ g ++ q) 0, goodB y := by
      intro y hy
      rw [hsp] at hy
      rcases List.mem_append.1 hy with hy | hy
      · exact hs y (by rw [h1]; exact List.mem_append_left _ hy)
      · rcases List.mem_append.1 hy with hy | hy
        · exact .inl (hg.all _ y hy)
        · obtain ⟨z, hz, rfl⟩ := List.mem_map.1 hy
          exact (goodB_shift _ _).2 (hs z (by rw [h1]; exact List.mem_append_right _ hz))
    have ht : toks (spans (p ++ g ++ q) 0) = (toks (spans (p ++ q) 0)).take k ++ ((toks (spans (p ++ q) 0)).drop k).map (shiftT g.length) := by
      rw [hsp, toks_append, toks_append, toks_gaps (hg.all _), List.nil_append, toks_shift, h2, h3]
    rw [← ht]
    refine lex_ok_of ?_ hgood ?_
    · simp only [List.length_append] at hl ⊢; omega
    · rw [ht, List.length_append, List.length_map, ← List.length_append, List.take_append_drop]; exact hc
  · have hke : k = (toks (spans s 0)).length := by omega
    have hpos : posOf s k = s.length := by unfold posOf; rw [List.getElem?_eq_none (by omega)]
    rw [hpos, List.take_length, List.drop_length, List.append_nil, hke, List.take_length, List.drop_length, List.map_nil, List.append_nil]
    refine ⟨Nat.le_refl _, ?_⟩
    have main : (∀ y ∈ spans (s ++ g) 0, goodB y) ∧ toks (spans (s ++ g) 0) = toks (spans s 0) := by
      by_cases h2 : lastK (spans s 0) = 2
      · rcases List.eq_nil_or_concat (spans s 0) with h0 | ⟨A, x, h0⟩
        · rw [h0] at h2; cases h2
        · have hx : x.k = 2 := by rw [h0, List.concat_eq_append, lastK_append] at h2; exact h2
          rw [List.concat_eq_append] at h0
          obtain ⟨p, q, rfl, e1, e2, e3⟩ := spans_split A s 0 [x] h0
          rw [Nat.zero_add] at e2
          obtain ⟨hxo, c, a, b, hq, hk', _, ha, hb, e5⟩ := spans_first e2
          have hb0 : b = [] := by
            cases b with
            | nil => rfl
            | cons d b => rw [spans_cons] at e5; cases e5
          subst hb0; subst hq
          rw [List.append_nil] at *
          have hc2 : cls c = 2 := by rw [← hk', hx]
          have hgs : g = g.takeWhile (cont 2) ++ g.dropWhile (cont 2) := List.takeWhile_append_dropWhile.symm
          have hcutG : CutOk 2 (g.dropWhile (cont 2)) := by
            obtain ⟨a', b', e, h1, h2', _, hb'⟩ := tw_split (cont 2) g
            rw [h2']; exact hb'
          have hsp : spans (p ++ c :: a ++ g) 0 = A ++ (⟨p.length, cls c, c :: (a ++ g.takeWhile (cont 2))⟩ :: spans (g.dropWhile (cont 2)) (p.length + 1 + (a ++ g.takeWhile (cont 2)).length)) := by
            conv => lhs; rw [hgs]
            rw [show p ++ c :: a ++ (g.takeWhile (cont 2) ++ g.dropWhile (cont 2)) = p ++ (c :: ((a ++ g.takeWhile (cont 2)) ++ g.dropWhile (cont 2))) by simp]
            rw [spans_append p _ 0 (fun y hy => by rw [e1]; exact e3 y (by simpa using hy)), e1, Nat.zero_add]
            rw [spans_head c (a ++ g.takeWhile (cont 2)) _ p.length (fun y hy => ?_) (by rw [hc2]; exact hcutG)]
            rcases List.mem_append.1 hy with hy | hy
            · exact ha y hy
            · rw [hc2]; exact mem_tw g y hy
          have hgx : gapB ⟨p.length, cls c, c :: (a ++ g.takeWhile (cont 2))⟩ = true := by simp [gapB, hc2]
          have hgx' : gapB x = true := by simp [gapB, hx]
          constructor
          · intro y hy
            rw [hsp] at hy
            rcases List.mem_append.1 hy with hy | hy
            · exact hs y (by rw [h0]; exact List.mem_append_left _ hy)
            · rcases List.mem_cons.1 hy with rfl | hy
              · exact .inl hgx
              · exact .inl (hg.rest _ y hy)
          · rw [hsp, h0, toks_append, toks_append, toks_cons, toks_gap hgx, toks_gap hgx', toks_gaps (hg.rest _)]; rfl
      · have hsp : spans (s ++ g) 0 = spans s 0 ++ spans g s.length := by
          rw [spans_append s g 0 (by rw [hgc]; exact cut_low h2 ⟨n3, n4, n95⟩ _), Nat.zero_add]
        constructor
        · intro y hy
          rw [hsp] at hy
          rcases List.mem_append.1 hy with hy | hy
          · exact hs y hy
          · exact .inl (hg.all _ y hy)
        · rw [hsp, toks_append, toks_gaps (hg.all _), List.append_nil]
    rw [← main.2]
    exact lex_ok_of (by simp; omega) main.1 (by rw [main.2]; exact hc)

/-- The same, with nothing to reckon. -/
theorem gap_lex {s g : List UInt8} {ts : List Tk} (h : lex s = .ok ts) (hg : GapOk g) (k : Nat) (hk : k ≤ ts.length) :
    ∃ P, P ≤ s.length ∧ (∀ h : k < ts.length, ts[k].o = P) ∧ (¬ k < ts.length → P = s.length) ∧
      (s.length + g.length ≤ 8000 → lex (s.take P ++ g ++ s.drop P) = .ok (ts.take k ++ (ts.drop k).map (shiftT g.length))) := by
  obtain ⟨_, e, hgood, hoff, hcnt⟩ := lex_bound h
  refine ⟨posOf s k, ?_, fun h => ?_, fun h => ?_, fun hl => ?_⟩
  · unfold posOf
    rw [← e]
    split
    · rename_i t ht; exact Nat.le_of_lt (hoff t (List.mem_of_getElem? ht))
    · exact Nat.le_refl _
  · unfold posOf
    rw [← e, List.getElem?_eq_getElem h]
  · unfold posOf
    rw [← e, List.getElem?_eq_none (Nat.le_of_not_lt h)]
  · subst e
    exact (gap_main hg hgood hcnt hl k hk).2

end Go.Proofs.YtiidalhcmlhnmaaDoor.LR
