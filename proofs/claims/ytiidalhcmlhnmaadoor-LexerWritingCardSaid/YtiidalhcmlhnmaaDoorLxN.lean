/-
  Plain words: what strconv.Atoi says of digits.
-/
import Derived.Lib.AtoiAll
import Derived.Test.YtiidalhcmlhnmaaDoorLxA
namespace Go.Proofs.YtiidalhcmlhnmaaDoor.Lx

def digitB (c : UInt8) : Prop := 48 ≤ c.toNat ∧ c.toNat ≤ 57

theorem fold_ge (l : List UInt8) : ∀ a : Nat, a ≤ l.foldl (fun a c => 10 * a + (c.toNat - 48)) a := by
  induction l with
  | nil => intro a; exact Nat.le_refl _
  | cons c l ih => intro a; rw [List.foldl_cons]; have := ih (10 * a + (c.toNat - 48)); omega

theorem parseUint10_digits (l : List UInt8) : ∀ a : Nat, (∀ c ∈ l, digitB c) →
    (Lib.parseUint10 a l = .ok (l.foldl (fun a c => 10 * a + (c.toNat - 48)) a)) ∨ (Lib.parseUint10 a l = .range ∧ 18446744073709551616 ≤ l.foldl (fun a c => 10 * a + (c.toNat - 48)) a) := by
  induction l with
  | nil => intro a _; exact .inl rfl
  | cons c l ih =>
    intro a h
    have hc := h c List.mem_cons_self
    unfold digitB at hc
    rw [List.foldl_cons]
    simp only [Lib.parseUint10]
    rw [if_pos hc]
    have hg := fold_ge l (10 * a + (c.toNat - 48))
    by_cases h1 : 1844674407370955162 ≤ a
    · rw [if_pos h1]; exact .inr ⟨rfl, by omega⟩
    · rw [if_neg h1]
      by_cases h2 : 18446744073709551616 ≤ a * 10 + (c.toNat - 48)
      · rw [if_pos h2]; exact .inr ⟨rfl, by omega⟩
      · rw [if_neg h2, Nat.mul_comm a 10]
        exact ih _ (fun x hx => h x (List.mem_cons_of_mem _ hx))

theorem atoi_digits (l : List UInt8) (h0 : l ≠ []) (h : ∀ c ∈ l, digitB c) :
    (Lib.atoiAll l = .ok (val l : Int)) ∨ (Lib.atoiAll l = .range ∧ 1000000000 < val l) := by
  cases l with
  | nil => exact absurd rfl h0
  | cons c r =>
    have hc := h c List.mem_cons_self
    unfold digitB at hc
    have h1 : ¬ (c.toNat = 43 ∨ c.toNat = 45) := by omega
    have h2 : ¬ c.toNat = 45 := by omega
    unfold Lib.atoiAll
    dsimp only
    rw [if_neg h1]
    unfold Lib.parseMag
    rw [if_neg (by simp)]
    simp only [h2, if_false, false_and, not_false_eq_true, true_and]
    unfold val
    rcases parseUint10_digits (c :: r) 0 h with e | ⟨e, hg⟩
    · rw [e]
      dsimp only
      split
      · right; exact ⟨rfl, by omega⟩
      · left; rfl
    · rw [e]; right; exact ⟨rfl, by omega⟩

theorem mem_tw {p : UInt8 → Bool} (l : List UInt8) : ∀ c ∈ l.takeWhile p, p c = true := by
  induction l with
  | nil => intro c h; simp at h
  | cons a l ih =>
    intro c h
    by_cases ha : p a = true
    · rw [List.takeWhile_cons_of_pos ha] at h
      rcases List.mem_cons.1 h with rfl | h
      · exact ha
      · exact ih c h
    · rw [List.takeWhile_cons_of_neg ha] at h; simp at h
theorem takeWhile_digits (t : List UInt8) : ∀ c ∈ t.takeWhile (cont 4), digitB c := by
  intro c hc
  have := mem_tw _ c hc
  rw [cont_four] at this
  simp only [pDigit, decide_eq_true_eq] at this
  unfold clsI at this
  unfold digitB
  repeat' split at this
  all_goals omega
theorem cls_digit {c : UInt8} (h : cls c = 4) : digitB c := by
  unfold cls clsI at h; unfold digitB; repeat' split at h
  all_goals omega
/-- Every span's text begins with a byte of its class; digits' spans are digits. -/
theorem spans_good (l : List UInt8) (o : Nat) : ∀ x ∈ spans l o, x.t ≠ [] ∧ (x.k = 4 → ∀ c ∈ x.t, digitB c) ∧ 0 ≤ x.k ∧ x.k ≤ 5 ∧ x.t.length ≤ l.length ∧ o ≤ x.o ∧ x.o + x.t.length ≤ o + l.length := by
  induction hn : l.length using Nat.strongRecOn generalizing l o with
  | _ n ih =>
    cases l with
    | nil => simp [spans_nil]
    | cons c t =>
      intro x hx
      rw [spans_cons] at hx
      have h1 := tw_dw (cont (cls c)) t
      simp only [List.length_cons] at hn
      rcases List.mem_cons.1 hx with rfl | hx
      · refine ⟨by simp, fun h4 => ?_, (cls_range c).1, (cls_range c).2, by simp only [List.length_cons]; omega, Nat.le_refl _, by simp only [List.length_cons]; omega⟩
        intro d hd
        rcases List.mem_cons.1 hd with rfl | hd
        · exact cls_digit h4
        · simp only at h4; rw [h4] at hd; exact takeWhile_digits _ d hd
      · obtain ⟨a1, a2, a3, a4, a5, a6, a7⟩ := ih _ (by omega) (t.dropWhile (cont (cls c))) _ rfl x hx
        exact ⟨a1, a2, a3, a4, by omega, by omega, by omega⟩

end Go.Proofs.YtiidalhcmlhnmaaDoor.Lx
