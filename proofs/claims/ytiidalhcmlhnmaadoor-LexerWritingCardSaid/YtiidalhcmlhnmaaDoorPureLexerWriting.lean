/-
  The texts of the tokens, each followed by a blank, have the same tokens: the pure statement of the law LexerWriting.
-/
import Derived.Test.YtiidalhcmlhnmaaDoorLxD
import Derived.Test.YtiidalhcmlhnmaaDoorPAx7
namespace Go.Proofs.YtiidalhcmlhnmaaDoor.Pure
open Go.RowKit Go.Proofs.YtiidalhcmlhnmaaDoor.PA Go.Proofs.YtiidalhcmlhnmaaDoorW.PrintWords Go.Proofs.YtiidalhcmlhnmaaDoorW.PrintLast Go.Proofs.YtiidalhcmlhnmaaDoor.Lx Go.Proofs.YtiidalhcmlhnmaaDoor.LR

/-- A span's shape. -/
def Shape (x : Sp) : Prop := ∃ c a, x.t = c :: a ∧ x.k = cls c ∧ ∀ y ∈ a, cont (cls c) y = true
theorem spans_shape (l : List UInt8) : ∀ o, ∀ x ∈ spans l o, Shape x := by
  induction hn : l.length using Nat.strongRecOn generalizing l with
  | _ n ih =>
    intro o x hx
    cases l with
    | nil => rw [spans_nil] at hx; simp at hx
    | cons c t =>
      obtain ⟨a, b, rfl, h1, h2, ha, hb⟩ := tw_split (cont (cls c)) t
      rw [spans_head c a b o ha hb] at hx
      rcases List.mem_cons.1 hx with rfl | hx
      · exact ⟨c, a, rfl, rfl, ha⟩
      · exact ih b.length (by simp only [List.length_cons, List.length_append] at hn; omega) b rfl _ x hx
/-- The written text. -/
def writ (X : List Sp) : List UInt8 := X.flatMap (fun x => x.t ++ [32])
theorem writ_cons (x : Sp) (X : List Sp) : writ (x :: X) = x.t ++ (32 :: writ X) := by simp [writ]
def bare (t : Tk) : Int × List UInt8 × Int := (t.kind, t.t, t.n)
theorem tokOf_any {k : Int} {t : List UInt8} {o : Nat} {x : Tk} (o' : Nat) (h : tokOf k t o = .ok x) : ∃ y, tokOf k t o' = .ok y ∧ bare y = bare x := by
  unfold tokOf at *
  by_cases h3 : k = 3
  · rw [if_pos h3] at *
    split at h
    · cases h
    · rename_i hz; injection h with h; subst h; rw [if_neg hz]; exact ⟨_, rfl, rfl⟩
  · rw [if_neg h3] at *
    by_cases h4 : k = 4
    · rw [if_pos h4] at *
      split at h
      · cases h
      · rename_i hz
        rw [if_neg hz]
        split at h
        · cases h
        · rename_i hz2; injection h with h; subst h; rw [if_neg hz2]; exact ⟨_, rfl, rfl⟩
    · rw [if_neg h4] at *
      injection h with h; subst h; exact ⟨_, rfl, rfl⟩
/-- A token's span: of a shape, no gap, good. -/
def Fine (x : Sp) : Prop := Shape x ∧ gapB x = false ∧ goodB x
theorem fine_tok {x : Sp} (h : Fine x) : x.k ≠ 0 ∧ ∃ t, tokOf x.k x.t x.o = .ok t := by
  rcases h.2.2 with h' | h'
  · rw [h.2.1] at h'; cases h'
  · exact h'
theorem writ_spans (X : List Sp) : ∀ o, (∀ x ∈ X, Fine x) → (∀ y ∈ spans (writ X) o, goodB y) ∧ (toks (spans (writ X) o)).map bare = (toks X).map bare := by
  induction X with
  | nil => intro o _; simp [writ, spans_nil, toks]
  | cons x X ih =>
    intro o h
    have hx := h x List.mem_cons_self
    obtain ⟨h0, t, ht⟩ := fine_tok hx
    obtain ⟨⟨c, a, e1, e2, ha⟩, hg, _⟩ := hx
    obtain ⟨i1, i2⟩ := ih (o + 1 + a.length + 1) (fun y hy => h y (List.mem_cons_of_mem _ hy))
    have hn2 : cls c ≠ 2 := by
      intro e
      rw [e] at e2
      simp [gapB, e2] at hg
    have hsp : spans (writ (x :: X)) o = ⟨o, x.k, x.t⟩ :: ⟨o + 1 + a.length, 1, [32]⟩ :: spans (writ X) (o + 1 + a.length + 1) := by
      rw [writ_cons, e1, List.cons_append, spans_head c a _ o ha (cut_low hn2 (by decide) _), e2]
      have h := spans_head 32 [] (writ X) (o + 1 + a.length) (fun x hx => by simp at hx) (fun c _ => cont_other (by decide) (by decide) (by decide) c)
      rw [List.nil_append] at h
      rw [h]
      rfl
    obtain ⟨u, hu, hb⟩ := tokOf_any o ht
    have hgap : gapB ⟨o + 1 + a.length, 1, [32]⟩ = true := rfl
    have hg' : gapB ⟨o, x.k, x.t⟩ = false := hg
    constructor
    · intro y hy
      rw [hsp] at hy
      rcases List.mem_cons.1 hy with rfl | hy
      · exact .inr ⟨h0, u, hu⟩
      · rcases List.mem_cons.1 hy with rfl | hy
        · exact .inl hgap
        · exact i1 y hy
    · rw [hsp, toks_cons, toks_cons (⟨o + 1 + a.length, 1, [32]⟩ : Sp), toks_gap hgap, toks_tok hg' hu, toks_cons x, toks_tok hg ht]
      simp [hb, i2]
theorem writ_le (X : List Sp) (h : ∀ x ∈ X, x.t.length ≤ 8000) : (writ X).length ≤ X.length * 8001 := by
  induction X with
  | nil => simp [writ]
  | cons x X ih =>
    have h1 := ih (fun y hy => h y (List.mem_cons_of_mem _ hy))
    have h2 := h x List.mem_cons_self
    rw [writ_cons, List.length_append, List.length_cons, List.length_cons]
    omega

/-! ### Alike -/
theorem alike_loop (ts us : List Tk) (h : us.map bare = ts.map bare) (hl : ts.length ≤ 2000) (d : Nat) : ∀ j : Nat, j ≤ ts.length → ts.length - j = d →
    Ev (fun k => slotmeshref01_Alike.l0 k (ts.map toTok) (us.map toTok) (j : Int)) true := by
  have hlen : us.length = ts.length := by simpa using congrArg List.length h
  induction d with
  | zero =>
    intro j hj hd
    refine Ev.step (f := _) (fun k => by rw [slotmeshref01_Alike.l0]) ?_
    exact evNeg (by rw [List.length_map]; omega) (Ev.now _)
  | succ d ih =>
    intro j hj hd
    have hlt : j < ts.length := by omega
    have hlt' : j < us.length := by omega
    have hb : bare us[j] = bare ts[j] := by
      have e1 : (us.map bare)[j]'(by simpa using hlt') = (ts.map bare)[j]'(by simpa using hlt) := by simp only [h]
      simpa using e1
    have hb1 : us[j].kind = ts[j].kind := congrArg (·.1) hb
    have hb2 : us[j].t = ts[j].t := congrArg (·.2.1) hb
    have hb3 : us[j].n = ts[j].n := congrArg (·.2.2) hb
    refine Ev.step (f := _) (fun k => by rw [slotmeshref01_Alike.l0]) ?_
    refine evPos (by rw [List.length_map]; omega) (evPos (by omega) (evPos (by rw [List.length_map]; omega) ?_))
    rw [rd_at _ j (by rw [List.length_map]; exact hlt), rd_at _ j (by rw [List.length_map]; exact hlt'), List.getElem_map, List.getElem_map]
    refine evPos hb1.symm (evPos (by simp only [toTok, hb2]) (evPos hb3.symm ?_))
    rw [show wrap64 ((j : Int) + 1) = ((j + 1 : Nat) : Int) by rw [w64 (by omega) (by omega)]; omega]
    exact ih (j + 1) (by omega) (by omega)
theorem alike_ev (ts us : List Tk) (h : us.map bare = ts.map bare) (hl : ts.length ≤ 2000) : Ev (fun k => slotmeshref01_Alike.f k (ts.map toTok) (us.map toTok)) true := by
  have hlen : us.length = ts.length := by simpa using congrArg List.length h
  unfold slotmeshref01_Alike.f
  exact evPos (by rw [List.length_map, List.length_map, hlen]) (alike_loop ts us h hl _ 0 (Nat.zero_le _) rfl)

/-! ### The loop that writes -/
theorem writ_end (ts : List Tk) (X : List Sp) (hX : ∀ x ∈ X, Fine x) (hts : toks X = ts) (hl : ts.length ≤ 2000) (hn : ¬ ((ts.length : Int) < (ts.length : Int))) :
    Ev (fun k => slotmeshlaw01_LexerWriting.l0 k true (ts.map toTok) ⟨(writ X).toArray⟩ ((ts.length : Nat) : Int)) true := by
  refine Ev.step (f := _) (fun k => by rw [slotmeshlaw01_LexerWriting.l0]) ?_
  refine evNeg (by rw [List.length_map]; exact hn) (evBind (lexer_f _) (evPos rfl ?_))
  show Ev (fun k => if (((writ X).length : Nat) : Int) > 8000 then _ else _) true
  show Ev (fun k => if (((writ X).length : Nat) : Int) > 8000 then (if (ans (lex (writ X))).2.1 = 2 then _ else _) else (if (ans (lex (writ X))).2.1 = 0 then (slotmeshref01_Alike.f k (ts.map toTok) (ans (lex (writ X))).1).bind _ else _)) true
  by_cases hw : 8000 < (writ X).length
  · refine evPos (by omega) ?_
    have : lex (writ X) = .error (2, 0) := by unfold lex; rw [if_pos hw]
    rw [this]
    exact evPos rfl (Ev.now _)
  · refine evNeg (by omega) ?_
    obtain ⟨w1, w2⟩ := writ_spans X 0 hX
    have hlen : (toks (spans (writ X) 0)).length = ts.length := by rw [← hts]; simpa using congrArg List.length w2
    have : lex (writ X) = .ok (toks (spans (writ X) 0)) := lex_ok_of (Nat.le_of_not_lt hw) w1 (by rw [hlen]; exact hl)
    rw [this]
    refine evPos rfl (Ev.bind (alike_ev ts _ (by rw [w2, hts]) hl) (Ev.now _))
theorem size_ok {a b : Nat} (h : a + b ≤ 100000000) : a + b ≤ 9223372036854775807 := Nat.le_trans h (by decide)
theorem writ_loop (ts : List Tk) (Y : List Sp) (hY : ∀ x ∈ Y, Fine x) (hts : toks Y = ts) (hl : ts.length ≤ 2000) (h4 : ∀ x ∈ Y, x.k = 4 → ∀ c ∈ x.t, digitB c) (h8 : ∀ x ∈ Y, x.t.length ≤ 8000) (X : List Sp) :
    ∀ (P : List Sp) (j : Nat), Y = P ++ X → j = (toks P).length → (writ P).length + X.length * 8001 ≤ 100000000 →
      Ev (fun k => slotmeshlaw01_LexerWriting.l0 k true (ts.map toTok) ⟨(writ P).toArray⟩ (j : Int)) true := by
  induction X with
  | nil =>
    intro P j hP hj _
    rw [List.append_nil] at hP
    subst hP
    rw [hts] at hj
    subst hj
    exact writ_end ts _ hY hts hl (Int.lt_irrefl _)
  | cons x X ih =>
    intro P j hP hj hb
    have hx := hY x (by rw [hP]; simp)
    obtain ⟨h0, t, ht⟩ := fine_tok hx
    have hts' : ts = toks P ++ t :: toks X := by
      rw [← hts, hP, toks_append, toks_cons, toks_tok hx.2.1 ht]; rfl
    have hlt : j < ts.length := by rw [hts', hj, List.length_append, List.length_cons]; exact Nat.lt_add_of_pos_right (Nat.succ_pos _)
    have hget : ts[j] = t := by
      simp only [hts', hj]
      rw [List.getElem_append_right (Nat.le_refl _)]
      simp
    have hx8 := h8 x (by rw [hP]; simp)
    have hne : x.t ≠ [] := by obtain ⟨⟨c, a, e, _⟩, _⟩ := hx; rw [e]; simp
    have htext := text_ev ht hne (h4 x (by rw [hP]; simp)) (Nat.le_trans hx8 (by decide))
    have hwr : writ (P ++ [x]) = writ P ++ (x.t ++ [32]) := by simp [writ]
    have hbl : (writ P).length + (x.t.length + 1) + X.length * 8001 ≤ 100000000 := by
      simp only [List.length_cons] at hb
      generalize (writ P).length = w at *
      generalize x.t.length = y at *
      omega
    have hnext := ih (P ++ [x]) (j + 1) (by rw [hP]; simp) (by rw [toks_append, toks_tok hx.2.1 ht, List.length_append, hj]; rfl)
      (by rw [hwr, List.length_append, List.length_append]; exact hbl)
    have hj1 : wrap64 ((j : Int) + 1) = ((j + 1 : Nat) : Int) := by
      have : j ≤ 2000 := Nat.le_trans (Nat.le_of_lt hlt) hl
      generalize j = i at *
      rw [w64 (by omega) (by omega)]; omega
    have hcat : ((⟨(writ P).toArray⟩ : ByteArray) ++ ((⟨x.t.toArray⟩ : ByteArray) ++ (⟨#[32]⟩ : ByteArray))) = ⟨(writ (P ++ [x])).toArray⟩ := by
      rw [hwr]; apply ByteArray.ext; simp
    refine Ev.step (f := _) (fun k => by rw [slotmeshlaw01_LexerWriting.l0]) ?_
    refine evPos (by rw [List.length_map]; exact Int.ofNat_lt.2 hlt) (evPos (Int.natCast_nonneg _) ?_)
    rw [rd_at _ j (by rw [List.length_map]; exact hlt), List.getElem_map, hget]
    refine Ev.bind htext ?_
    rw [hj1, hcat]
    refine evPos ?_ (evPos ?_ hnext)
    · show x.t.length + 1 ≤ 9223372036854775807
      exact Nat.le_trans (Nat.succ_le_succ hx8) (by decide)
    · rw [ByteArray.size_append]
      show (writ P).length + (x.t.length + 1) ≤ 9223372036854775807
      exact size_ok (Nat.le_trans (Nat.le_add_right _ _) hbl)

theorem toks_filter (xs : List Sp) : toks (xs.filter fun x => !gapB x) = toks xs := by
  induction xs with
  | nil => rfl
  | cons x xs ih =>
    cases h : gapB x with
    | true => rw [List.filter_cons_of_neg (by simp [h]), ih, toks_cons, toks_gap h]; rfl
    | false => rw [List.filter_cons_of_pos (by simp [h]), toks_cons, toks_cons x xs, ih]
theorem toks_fine_length (X : List Sp) (h : ∀ x ∈ X, Fine x) : (toks X).length = X.length := by
  induction X with
  | nil => rfl
  | cons x X ih =>
    have hx := h x List.mem_cons_self
    obtain ⟨_, t, ht⟩ := fine_tok hx
    rw [toks_cons, toks_tok hx.2.1 ht, List.length_append, ih (fun y hy => h y (List.mem_cons_of_mem _ hy))]; simp only [List.length_cons, List.length_nil]; omega
theorem LexerWriting : slotmeshlaw01_LexerWriting.Pure := by
  intro s hs
  refine Ev.rounds ?_
  unfold slotmeshlaw01_LexerWriting.f
  refine Ev.bind head_ev ?_
  by_cases h1 : (s.size : Int) > 8000
  · exact evPos h1 (Ev.now _)
  · refine evNeg h1 (evBind (lexer_f s) ?_)
    cases e1 : lex s.data.toList with
    | error e =>
      obtain ⟨_, _, _, _, _, _, _, _, _, _, _, _, _, hp, _⟩ := lex_error_inv (by rw [list_size]; omega) e1
      have := (err_pos hp).1
      exact evNeg (by show ¬ e.1 = 0; omega) (Ev.now _)
    | ok ts =>
      refine evPos rfl ?_
      obtain ⟨hl, e, hg, _, hc⟩ := lex_bound e1
      have hF : ∀ x ∈ (spans s.data.toList 0).filter (fun x => !gapB x), Fine x := by
        intro x hx
        obtain ⟨hx1, hx2⟩ := List.mem_filter.1 hx
        exact ⟨spans_shape _ _ x hx1, by simpa using hx2, hg x hx1⟩
      have hT : toks ((spans s.data.toList 0).filter (fun x => !gapB x)) = ts := by rw [toks_filter, e]
      have hn := toks_fine_length _ hF
      rw [hT] at hn
      refine writ_loop ts _ hF hT hc (fun x hx => ?_) (fun x hx => ?_) _ [] 0 rfl rfl ?_
      · exact (spans_good _ _ x (List.mem_filter.1 hx).1).2.1
      · exact Nat.le_trans (spans_good _ _ x (List.mem_filter.1 hx).1).2.2.2.2.1 hl
      · rw [← hn]
        show 0 + ts.length * 8001 ≤ 100000000
        rw [Nat.zero_add]
        exact Nat.le_trans (Nat.mul_le_mul_right _ hc) (by decide)

end Go.Proofs.YtiidalhcmlhnmaaDoor.Pure
