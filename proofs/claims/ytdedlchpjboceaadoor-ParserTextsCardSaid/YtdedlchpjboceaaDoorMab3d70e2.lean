/- Texts of proofs: plain words, and walks through the program's functions. -/
import Derived.Test.YtdedlchpjboceaaDoorMdac27f05
import Derived.Test.YtdedlchpjboceaaDoorM1464dd80

section
namespace Go.Proofs.YtdedlchpjboceaaDoor.Lr
open Go.Proofs.YtdedlchpjboceaaDoor.Lx
theorem lex_ok_of {s : List UInt8} (hl : s.length ≤ 8000) (h : ∀ x ∈ spans s 0, goodB x) (hc : (toks (spans s 0)).length ≤ 2000) : lex s = .ok (toks (spans s 0)) := by
  unfold lex; rw [if_neg (by omega)]; exact (procF_ok_iff _ _).2 ⟨h, rfl, hc⟩
theorem data_append (a b : ByteArray) : (a ++ b).data.toList = a.data.toList ++ b.data.toList := by simp [ByteArray.data_append]
/-- The first span begins where the bytes begin. -/
theorem spans_first {q : List UInt8} {o : Nat} {x : Sp} {B : List Sp} (h : spans q o = x :: B) : x.o = o ∧ ∃ c a b, q = c :: (a ++ b) ∧ x.k = cls c ∧ x.t = c :: a ∧ (∀ y ∈ a, cont (cls c) y = true) ∧ CutOk (cls c) b ∧ B = spans b (o + 1 + a.length) := by
  cases q with
  | nil => rw [spans_nil] at h; cases h
  | cons c t =>
    obtain ⟨a, b, rfl, h1, h2, ha, hb⟩ := tw_split (cont (cls c)) t
    rw [spans_head c a b o ha hb] at h
    obtain ⟨rfl, rfl⟩ := List.cons.inj h
    exact ⟨rfl, c, a, b, rfl, rfl, rfl, ha, hb, rfl⟩
/-- The first error of a script, and what lies before it. -/
theorem lex_error_inv {s : List UInt8} {e : Int × Nat} (hl : s.length ≤ 8000) (h : lex s = .error e) :
    ∃ p c a b, s = p ++ c :: (a ++ b) ∧ e.2 = p.length ∧ lex p = .ok (toks (spans p 0)) ∧ (toks (spans p 0)).length ≤ 2000 ∧ (∀ y ∈ a, cont (cls c) y = true) ∧ CutOk (cls c) b ∧ CutOk (lastK (spans p 0)) (c :: (a ++ b)) ∧ cls c ≠ 1 ∧ cls c ≠ 2 ∧
      pstep (.ok (toks (spans p 0))) ⟨p.length, cls c, c :: a⟩ = .error e ∧ (∀ x ∈ spans p 0, goodB x) := by
  unfold lex at h
  rw [if_neg (by omega)] at h
  obtain ⟨A, x, B, hs, ha, hc, hg, hp⟩ := fold_err_inv _ [] e (by simp) h
  obtain ⟨p, q, rfl, e1, e2, e3⟩ := spans_split A s 0 (x :: B) hs
  rw [Nat.zero_add] at e2
  obtain ⟨hxo, c, a, b, rfl, hk, ht, h1, h2, _⟩ := spans_first e2
  rw [List.nil_append] at hp
  subst e1
  simp only [List.length_nil, Nat.zero_add] at hc
  obtain ⟨xo, xk, xt⟩ := x
  dsimp only at hxo hk ht
  subst hxo hk ht
  have hg' := hg
  simp only [gapB, decide_eq_false_iff_not] at hg'
  refine ⟨p, c, a, b, rfl, ?_, lex_ok_of (by simp at hl; omega) ha hc, hc, h1, h2, e3, fun e => hg' (.inl e), fun e => hg' (.inr e), hp, ha⟩
  simp only [pstep] at hp
  rw [if_neg hg'] at hp
  repeat' split at hp
  all_goals first | (injection hp with hp; subst hp; rfl) | cases hp
theorem err_pos {ts : List Tk} {x : Sp} {e : Int × Nat} (h : pstep (.ok ts) x = .error e) : 0 < e.1 ∧ e.2 = x.o ∧ (e.1 = 2 → ts.length = 2000) := by
  simp only [pstep] at h
  split at h
  · cases h
  · split at h
    · injection h with h; subst h; exact ⟨by show (0:Int) < 7; decide, rfl, fun h => by cases h⟩
    · split at h
      · rename_i hl; injection h with h; subst h; exact ⟨by show (0:Int) < 2; decide, rfl, fun _ => hl⟩
      · split at h
        · rename_i er hT
          injection h with h; subst h
          have he := tokOf_err hT
          refine ⟨he, rfl, fun h2 => ?_⟩
          simp only at h2; subst h2
          exfalso
          unfold tokOf at hT
          repeat' split at hT
          all_goals first | cases hT | (injection hT with hT; cases hT)
        · cases h
end Go.Proofs.YtdedlchpjboceaaDoor.Lr
end
