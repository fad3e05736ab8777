/- Texts of proofs: plain words, and walks through the program's functions. -/
import Derived.Test.YtdedlchpjboceaaDoorM93193e37
import Derived.Test.YtdedlchpjboceaaDoorM7de53582

section
namespace Go.Proofs.YtdedlchpjboceaaDoor.Lr
open Go.Proofs.YtdedlchpjboceaaDoor.Lx
/-- A token's offset is its span's. -/
theorem toks_mem {xs : List Sp} {t : Tk} (h : t ∈ toks xs) : ∃ x ∈ xs, t.o = x.o ∧ gapB x = false ∧ tokOf x.k x.t x.o = .ok t := by
  unfold toks at h
  obtain ⟨x, hx, he⟩ := List.mem_filterMap.1 h
  refine ⟨x, hx, ?_⟩
  unfold tokB at he
  split at he
  · cases he
  · rename_i hg
    split at he
    · rename_i y hy
      injection he with he; subst he
      exact ⟨tokOf_o hy, by simpa using hg, hy⟩
    · cases he
theorem lex_bound {s : List UInt8} {ts : List Tk} (h : lex s = .ok ts) : s.length ≤ 8000 ∧ ts = toks (spans s 0) ∧ (∀ x ∈ spans s 0, goodB x) ∧ (∀ t ∈ ts, t.o < s.length) ∧ ts.length ≤ 2000 := by
  unfold lex at h
  split at h
  · cases h
  · rename_i hl
    obtain ⟨a, rfl, c⟩ := (procF_ok_iff _ _).1 h
    refine ⟨by omega, rfl, a, fun t ht => ?_, c⟩
    obtain ⟨x, hx, e, _, _⟩ := toks_mem ht
    obtain ⟨g1, _, _, _, _, _, g7⟩ := spans_good s 0 x hx
    have := List.length_pos_iff.2 g1
    omega
/-- The first span begins where the bytes begin. -/
theorem spans_first {q : List UInt8} {o : Nat} {x : Sp} {B : List Sp} (h : spans q o = x :: B) : x.o = o ∧ ∃ c a b, q = c :: (a ++ b) ∧ x.k = cls c ∧ x.t = c :: a ∧ (∀ y ∈ a, cont (cls c) y = true) ∧ CutOk (cls c) b ∧ B = spans b (o + 1 + a.length) := by
  cases q with
  | nil => rw [spans_nil] at h; cases h
  | cons c t =>
    obtain ⟨a, b, rfl, h1, h2, ha, hb⟩ := tw_split (cont (cls c)) t
    rw [spans_head c a b o ha hb] at h
    obtain ⟨rfl, rfl⟩ := List.cons.inj h
    exact ⟨rfl, c, a, b, rfl, rfl, rfl, ha, hb, rfl⟩
end Go.Proofs.YtdedlchpjboceaaDoor.Lr
end
