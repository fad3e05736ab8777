/-
  Plain laws for scripts that are put together: joins, gaps put in, errors.
-/
import Derived.Test.YtiidalhcmlhnmaaDoorLxH
namespace Go.Proofs.YtiidalhcmlhnmaaDoor.LR
open Go.RowKit Go.Proofs.YtiidalhcmlhnmaaDoor.PA Go.Proofs.YtiidalhcmlhnmaaDoorW.PrintWords Go.Proofs.YtiidalhcmlhnmaaDoorW.PrintLast Go.Proofs.YtiidalhcmlhnmaaDoor.Lx

theorem cont_ten (k : Int) : cont k 10 = false := by unfold cont; split <;> (try split) <;> (try split) <;> decide
theorem cut_ten (k : Int) (q : List UInt8) : CutOk k (10 :: q) := fun c h => by simp at h; subst h; exact cont_ten k
theorem cut_low {k : Int} (h : k ≠ 2) {c : UInt8} (hc : cls c ≠ 3 ∧ cls c ≠ 4 ∧ c ≠ 95) (q : List UInt8) : CutOk k (c :: q) := by
  intro d hd; simp at hd; subst hd
  unfold cls at hc
  by_cases h3 : k = 3
  · subst h3; rw [cont_three]; unfold pName; simp only [decide_eq_false_iff_not]
    have : ¬ (c.toNat : Int) = 95 := fun e => hc.2.2 (UInt8.toNat_inj.1 (by change c.toNat = 95; omega))
    omega
  · by_cases h4 : k = 4
    · subst h4; rw [cont_four]; unfold pDigit; simp only [decide_eq_false_iff_not]; omega
    · exact cont_other h h3 h4 c
theorem data_append (a b : ByteArray) : (a ++ b).data.toList = a.data.toList ++ b.data.toList := by simp [ByteArray.data_append]
theorem toks_map_le (ts : List Tk) (d : Nat) : (ts.map (shiftT d)).length = ts.length := by simp

/-- The spans of two scripts, joined by a line feed. -/
theorem spans_join (a b : List UInt8) : spans (a ++ 10 :: b) 0 = spans a 0 ++ ⟨a.length, 1, [10]⟩ :: (spans b 0).map (shiftS (a.length + 1)) := by
  rw [spans_append a (10 :: b) 0 (cut_ten _ _), Nat.zero_add]
  congr 1
  have h := spans_head 10 [] b a.length (fun x hx => by simp at hx) (fun c _ => cont_other (by decide) (by decide) (by decide) c)
  rw [List.nil_append] at h
  rw [h, List.length_nil, Nat.add_zero, show a.length + 1 = 0 + (a.length + 1) by omega, spans_shift]
  rw [Nat.zero_add]
  rfl
theorem join_good {a b : List UInt8} (ha : ∀ x ∈ spans a 0, goodB x) (hb : ∀ x ∈ spans b 0, goodB x) : ∀ x ∈ spans (a ++ 10 :: b) 0, goodB x := by
  intro x hx
  rw [spans_join] at hx
  rcases List.mem_append.1 hx with h | h
  · exact ha x h
  · rcases List.mem_cons.1 h with rfl | h
    · exact .inl (by simp [gapB])
    · obtain ⟨y, hy, rfl⟩ := List.mem_map.1 h
      exact (goodB_shift _ _).2 (hb y hy)
theorem join_toks (a b : List UInt8) : toks (spans (a ++ 10 :: b) 0) = toks (spans a 0) ++ (toks (spans b 0)).map (shiftT (a.length + 1)) := by
  rw [spans_join, toks_append, toks_cons, toks_gap (by simp [gapB]), List.nil_append, toks_shift]

/-- Where all is good and yet there is an error, it is the limit, at a token behind two thousand others. -/
theorem limit_of {xs : List Sp} (hg : ∀ x ∈ xs, goodB x) (hc : 2000 < (toks xs).length) : ∃ A x B, xs = A ++ x :: B ∧ procF xs = .error (2, x.o) ∧ (toks A).length = 2000 ∧ gapB x = false := by
  cases h : procF xs with
  | ok us => obtain ⟨_, _, c⟩ := (procF_ok_iff _ _).1 h; omega
  | error e =>
    obtain ⟨A, x, B, rfl, a, b, c, d⟩ := fold_err_inv _ [] e (by simp) h
    have hx := hg x (by simp)
    rcases hx with hx | ⟨h0, t, ht⟩
    · rw [hx] at c; cases c
    · have c' := c
      simp only [gapB, decide_eq_false_iff_not] at c'
      simp only [pstep, List.nil_append] at d
      rw [if_neg c', if_neg h0] at d
      split at d
      · rename_i hl
        injection d with d; subst d
        exact ⟨A, x, B, rfl, rfl, hl, c⟩
      · rw [ht] at d; cases d

/-- The first span begins where the bytes begin. -/
theorem spans_first {q : List UInt8} {o : Nat} {x : Sp} {B : List Sp} (h : spans q o = x :: B) : x.o = o ∧ ∃ c a b, q = c :: (a ++ b) ∧ x.k = cls c ∧ x.t = c :: a ∧ (∀ y ∈ a, cont (cls c) y = true) ∧ CutOk (cls c) b ∧ B = spans b (o + 1 + a.length) := by
  cases q with
  | nil => rw [spans_nil] at h; cases h
  | cons c t =>
    obtain ⟨a, b, rfl, h1, h2, ha, hb⟩ := tw_split (cont (cls c)) t
    rw [spans_head c a b o ha hb] at h
    obtain ⟨rfl, rfl⟩ := List.cons.inj h
    exact ⟨rfl, c, a, b, rfl, rfl, rfl, ha, hb, rfl⟩
theorem slen_head {c : UInt8} {a b : List UInt8} (ha : ∀ y ∈ a, cont (cls c) y = true) (hb : CutOk (cls c) b) : slen (c :: (a ++ b)) = 1 + a.length := by
  simp only [slen]; rw [(tw_all ha hb).1]

/-- The first error of a script, and what lies before it. -/
theorem lex_error_inv {s : List UInt8} {e : Int × Nat} (hl : s.length ≤ 8000) (h : lex s = .error e) :
    ∃ p c a b, s = p ++ c :: (a ++ b) ∧ e.2 = p.length ∧ lex p = .ok (toks (spans p 0)) ∧ (toks (spans p 0)).length ≤ 2000 ∧ (∀ y ∈ a, cont (cls c) y = true) ∧ CutOk (cls c) b ∧ CutOk (lastK (spans p 0)) (c :: (a ++ b)) ∧ cls c ≠ 1 ∧ cls c ≠ 2 ∧
      pstep (.ok (toks (spans p 0))) ⟨p.length, cls c, c :: a⟩ = .error e ∧ (∀ x ∈ spans p 0, goodB x) := by
  unfold lex at h
  rw [if_neg (by omega)] at h
  obtain ⟨A, x, B, hs, ha, hc, hg, hp⟩ := fold_err_inv _ [] e (by simp) h
  obtain ⟨p, q, rfl, e1, e2, e3⟩ := spans_split A s 0 (x :: B) hs
  rw [Nat.zero_add] at e2
  obtain ⟨hxo, c, a, b, rfl, hk, ht, h1, h2, _⟩ := spans_first e2
  rw [List.nil_append] at hp
  subst e1
  simp only [List.length_nil, Nat.zero_add] at hc
  obtain ⟨xo, xk, xt⟩ := x
  dsimp only at hxo hk ht
  subst hxo hk ht
  have hg' := hg
  simp only [gapB, decide_eq_false_iff_not] at hg'
  refine ⟨p, c, a, b, rfl, ?_, lex_ok_of (by simp at hl; omega) ha hc, hc, h1, h2, e3, fun e => hg' (.inl e), fun e => hg' (.inr e), hp, ha⟩
  simp only [pstep] at hp
  rw [if_neg hg'] at hp
  repeat' split at hp
  all_goals first | (injection hp with hp; subst hp; rfl) | cases hp

theorem err_pos {ts : List Tk} {x : Sp} {e : Int × Nat} (h : pstep (.ok ts) x = .error e) : 0 < e.1 ∧ e.2 = x.o ∧ (e.1 = 2 → ts.length = 2000) := by
  simp only [pstep] at h
  split at h
  · cases h
  · split at h
    · injection h with h; subst h; exact ⟨by show (0:Int) < 7; decide, rfl, fun h => by cases h⟩
    · split at h
      · rename_i hl; injection h with h; subst h; exact ⟨by show (0:Int) < 2; decide, rfl, fun _ => hl⟩
      · split at h
        · rename_i er hT
          injection h with h; subst h
          have he := tokOf_err hT
          refine ⟨he, rfl, fun h2 => ?_⟩
          simp only at h2; subst h2
          exfalso
          unfold tokOf at hT
          repeat' split at hT
          all_goals first | cases hT | (injection hT with hT; cases hT)
        · cases h

theorem extract_list (s : ByteArray) (n : Nat) : (s.extract 0 n).data.toList = s.data.toList.take n := by
  rw [ext_list]; simp

/-- Two scripts, joined: their tokens, or too many of them. -/
theorem join_ok {a b : List UInt8} {ts us : List Tk} (h1 : lex a = .ok ts) (h2 : lex b = .ok us) (hl : a.length + b.length + 1 ≤ 8000) (hc : ts.length + us.length ≤ 2000) :
    lex (a ++ 10 :: b) = .ok (ts ++ us.map (shiftT (a.length + 1))) := by
  obtain ⟨_, rfl, a1, _, _⟩ := lex_bound h1
  obtain ⟨_, rfl, a2, _, _⟩ := lex_bound h2
  rw [← join_toks]
  refine lex_ok_of ?_ (join_good a1 a2) ?_
  · rw [List.length_append, List.length_cons]; exact hl
  · rw [join_toks, List.length_append, List.length_map]; exact hc
theorem join_many {a b : List UInt8} {ts us : List Tk} (h1 : lex a = .ok ts) (h2 : lex b = .ok us) (hl : a.length + b.length + 1 ≤ 8000) (hc : 2000 < ts.length + us.length) :
    ∃ o, a.length < o ∧ lex (a ++ 10 :: b) = .error (2, o) := by
  obtain ⟨_, rfl, a1, _, c1⟩ := lex_bound h1
  obtain ⟨_, rfl, a2, _, _⟩ := lex_bound h2
  have hgood := join_good a1 a2
  obtain ⟨A, x, B, e1, e2, e3, e4⟩ := limit_of hgood (by rw [join_toks, List.length_append, List.length_map]; exact hc)
  refine ⟨x.o, ?_, ?_⟩
  · rw [spans_join] at e1
    rcases List.append_eq_append_iff.1 e1 with ⟨A', rfl, e5⟩ | ⟨C, e5, e6⟩
    · cases A' with
      | nil =>
        rw [List.nil_append] at e5
        obtain ⟨e6, _⟩ := List.cons.inj e5
        rw [← e6] at e4; simp [gapB] at e4
      | cons z A' =>
        obtain ⟨_, e6⟩ := List.cons.inj e5
        have hx : x ∈ (spans b 0).map (shiftS (a.length + 1)) := by rw [e6]; simp
        obtain ⟨y, _, rfl⟩ := List.mem_map.1 hx
        show a.length < y.o + (a.length + 1)
        generalize a.length = n
        omega
    · exfalso
      have hx : (toks (spans a 0)).length = (toks A).length + (toks C).length := by rw [e5, toks_append, List.length_append]
      cases C with
      | nil =>
        rw [List.nil_append] at e6
        obtain ⟨e6, _⟩ := List.cons.inj e6
        rw [e6] at e4; simp [gapB] at e4
      | cons z C =>
        obtain ⟨e7, _⟩ := List.cons.inj e6
        subst e7
        have hz := hgood x (by rw [spans_join, e5]; simp)
        rcases hz with hz | ⟨h0, t, ht⟩
        · rw [hz] at e4; cases e4
        · rw [toks_cons, toks_tok e4 ht] at hx; simp only [List.length_append, List.length_cons, List.length_nil] at hx
          generalize (toks (spans a 0)).length = n1 at *
          generalize (toks A).length = n2 at *
          generalize (toks C).length = n3 at *
          omega
  · unfold lex; rw [if_neg (by rw [List.length_append, List.length_cons]; omega)]; exact e2

end Go.Proofs.YtiidalhcmlhnmaaDoor.LR
