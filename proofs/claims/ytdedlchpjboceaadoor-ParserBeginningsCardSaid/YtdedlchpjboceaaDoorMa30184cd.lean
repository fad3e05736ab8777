/- Texts of proofs: plain words, and walks through the program's functions. -/
import Derived.Test.YtdedlchpjboceaaDoorM5d8b2e32
import Derived.Test.YtdedlchpjboceaaDoorM2c67fcd4

section
namespace Go.Proofs.YtdedlchpjboceaaDoor.Lr
open Go.Proofs.YtdedlchpjboceaaDoor.Lx
/-- A token's offset is its span's. -/
theorem toks_mem {xs : List Sp} {t : Tk} (h : t ∈ toks xs) : ∃ x ∈ xs, t.o = x.o ∧ gapB x = false ∧ tokOf x.k x.t x.o = .ok t := by
  unfold toks at h
  obtain ⟨x, hx, he⟩ := List.mem_filterMap.1 h
  refine ⟨x, hx, ?_⟩
  unfold tokB at he
  split at he
  · cases he
  · rename_i hg
    split at he
    · rename_i y hy
      injection he with he; subst he
      exact ⟨tokOf_o hy, by simpa using hg, hy⟩
    · cases he
theorem lex_bound {s : List UInt8} {ts : List Tk} (h : lex s = .ok ts) : s.length ≤ 8000 ∧ ts = toks (spans s 0) ∧ (∀ x ∈ spans s 0, goodB x) ∧ (∀ t ∈ ts, t.o < s.length) ∧ ts.length ≤ 2000 := by
  unfold lex at h
  split at h
  · cases h
  · rename_i hl
    obtain ⟨a, rfl, c⟩ := (procF_ok_iff _ _).1 h
    refine ⟨by omega, rfl, a, fun t ht => ?_, c⟩
    obtain ⟨x, hx, e, _, _⟩ := toks_mem ht
    obtain ⟨g1, _, _, _, _, _, g7⟩ := spans_good s 0 x hx
    have := List.length_pos_iff.2 g1
    omega
theorem lex_ok_of {s : List UInt8} (hl : s.length ≤ 8000) (h : ∀ x ∈ spans s 0, goodB x) (hc : (toks (spans s 0)).length ≤ 2000) : lex s = .ok (toks (spans s 0)) := by
  unfold lex; rw [if_neg (by omega)]; exact (procF_ok_iff _ _).2 ⟨h, rfl, hc⟩
theorem cont_ten (k : Int) : cont k 10 = false := by unfold cont; split <;> (try split) <;> (try split) <;> decide
theorem cut_ten (k : Int) (q : List UInt8) : CutOk k (10 :: q) := fun c h => by simp at h; subst h; exact cont_ten k
theorem data_append (a b : ByteArray) : (a ++ b).data.toList = a.data.toList ++ b.data.toList := by simp [ByteArray.data_append]
/-- The spans of two scripts, joined by a line feed. -/
theorem spans_join (a b : List UInt8) : spans (a ++ 10 :: b) 0 = spans a 0 ++ ⟨a.length, 1, [10]⟩ :: (spans b 0).map (shiftS (a.length + 1)) := by
  rw [spans_append a (10 :: b) 0 (cut_ten _ _), Nat.zero_add]
  congr 1
  have h := spans_head 10 [] b a.length (fun x hx => by simp at hx) (fun c _ => cont_other (by decide) (by decide) (by decide) c)
  rw [List.nil_append] at h
  rw [h, List.length_nil, Nat.add_zero, show a.length + 1 = 0 + (a.length + 1) by omega, spans_shift]
  rw [Nat.zero_add]
  rfl
theorem join_toks (a b : List UInt8) : toks (spans (a ++ 10 :: b) 0) = toks (spans a 0) ++ (toks (spans b 0)).map (shiftT (a.length + 1)) := by
  rw [spans_join, toks_append, toks_cons, toks_gap (by simp [gapB]), List.nil_append, toks_shift]
/-- The first span begins where the bytes begin. -/
theorem spans_first {q : List UInt8} {o : Nat} {x : Sp} {B : List Sp} (h : spans q o = x :: B) : x.o = o ∧ ∃ c a b, q = c :: (a ++ b) ∧ x.k = cls c ∧ x.t = c :: a ∧ (∀ y ∈ a, cont (cls c) y = true) ∧ CutOk (cls c) b ∧ B = spans b (o + 1 + a.length) := by
  cases q with
  | nil => rw [spans_nil] at h; cases h
  | cons c t =>
    obtain ⟨a, b, rfl, h1, h2, ha, hb⟩ := tw_split (cont (cls c)) t
    rw [spans_head c a b o ha hb] at h
    obtain ⟨rfl, rfl⟩ := List.cons.inj h
    exact ⟨rfl, c, a, b, rfl, rfl, rfl, ha, hb, rfl⟩
/-- The first error of a script, and what lies before it. -/
theorem lex_error_inv {s : List UInt8} {e : Int × Nat} (hl : s.length ≤ 8000) (h : lex s = .error e) :
    ∃ p c a b, s = p ++ c :: (a ++ b) ∧ e.2 = p.length ∧ lex p = .ok (toks (spans p 0)) ∧ (toks (spans p 0)).length ≤ 2000 ∧ (∀ y ∈ a, cont (cls c) y = true) ∧ CutOk (cls c) b ∧ CutOk (lastK (spans p 0)) (c :: (a ++ b)) ∧ cls c ≠ 1 ∧ cls c ≠ 2 ∧
      pstep (.ok (toks (spans p 0))) ⟨p.length, cls c, c :: a⟩ = .error e ∧ (∀ x ∈ spans p 0, goodB x) := by
  unfold lex at h
  rw [if_neg (by omega)] at h
  obtain ⟨A, x, B, hs, ha, hc, hg, hp⟩ := fold_err_inv _ [] e (by simp) h
  obtain ⟨p, q, rfl, e1, e2, e3⟩ := spans_split A s 0 (x :: B) hs
  rw [Nat.zero_add] at e2
  obtain ⟨hxo, c, a, b, rfl, hk, ht, h1, h2, _⟩ := spans_first e2
  rw [List.nil_append] at hp
  subst e1
  simp only [List.length_nil, Nat.zero_add] at hc
  obtain ⟨xo, xk, xt⟩ := x
  dsimp only at hxo hk ht
  subst hxo hk ht
  have hg' := hg
  simp only [gapB, decide_eq_false_iff_not] at hg'
  refine ⟨p, c, a, b, rfl, ?_, lex_ok_of (by simp at hl; omega) ha hc, hc, h1, h2, e3, fun e => hg' (.inl e), fun e => hg' (.inr e), hp, ha⟩
  simp only [pstep] at hp
  rw [if_neg hg'] at hp
  repeat' split at hp
  all_goals first | (injection hp with hp; subst hp; rfl) | cases hp
theorem err_pos {ts : List Tk} {x : Sp} {e : Int × Nat} (h : pstep (.ok ts) x = .error e) : 0 < e.1 ∧ e.2 = x.o ∧ (e.1 = 2 → ts.length = 2000) := by
  simp only [pstep] at h
  split at h
  · cases h
  · split at h
    · injection h with h; subst h; exact ⟨by show (0:Int) < 7; decide, rfl, fun h => by cases h⟩
    · split at h
      · rename_i hl; injection h with h; subst h; exact ⟨by show (0:Int) < 2; decide, rfl, fun _ => hl⟩
      · split at h
        · rename_i er hT
          injection h with h; subst h
          have he := tokOf_err hT
          refine ⟨he, rfl, fun h2 => ?_⟩
          simp only at h2; subst h2
          exfalso
          unfold tokOf at hT
          repeat' split at hT
          all_goals first | cases hT | (injection hT with hT; cases hT)
        · cases h
theorem extract_list (s : ByteArray) (n : Nat) : (s.extract 0 n).data.toList = s.data.toList.take n := by
  rw [ext_list]; simp
/-- Where a token stands among the spans. -/
theorem toks_split (xs : List Sp) : ∀ k (h : k < (toks xs).length), ∃ A x B, xs = A ++ x :: B ∧ toks A = (toks xs).take k ∧ toks (x :: B) = (toks xs).drop k ∧ gapB x = false ∧ ((toks xs)[k]).o = x.o := by
  induction xs with
  | nil => intro k h; simp [toks] at h
  | cons x xs ih =>
    intro k h
    have e := toks_cons x xs
    cases hb : tokB x with
    | none =>
      have e1 : toks [x] = [] := by simp [toks, hb]
      rw [e1, List.nil_append] at e
      obtain ⟨A, y, B, h1, h2, h3, h4, h5⟩ := ih k (by rw [← e]; exact h)
      refine ⟨x :: A, y, B, by rw [h1]; rfl, ?_, ?_, h4, ?_⟩
      · rw [toks_cons, e1, List.nil_append, h2, e]
      · rw [h3, e]
      · simp only [e]; exact h5
    | some t =>
      have e1 : toks [x] = [t] := by simp [toks, hb]
      rw [e1, List.singleton_append] at e
      have hg : gapB x = false ∧ t.o = x.o := by
        unfold tokB at hb
        split at hb
        · cases hb
        · rename_i hg
          split at hb
          · rename_i y hy; injection hb with hb; subst hb; exact ⟨by simpa using hg, tokOf_o hy⟩
          · cases hb
      cases k with
      | zero => exact ⟨[], x, xs, rfl, rfl, rfl, hg.1, by simp only [e]; exact hg.2⟩
      | succ k =>
        obtain ⟨A, y, B, h1, h2, h3, h4, h5⟩ := ih k (by rw [e] at h; simpa using h)
        refine ⟨x :: A, y, B, by rw [h1]; rfl, ?_, ?_, h4, ?_⟩
        · rw [toks_cons, e1, h2, e]; rfl
        · rw [h3, e]; rfl
        · simp only [e, List.getElem_cons_succ]; exact h5
end Go.Proofs.YtdedlchpjboceaaDoor.Lr
end
