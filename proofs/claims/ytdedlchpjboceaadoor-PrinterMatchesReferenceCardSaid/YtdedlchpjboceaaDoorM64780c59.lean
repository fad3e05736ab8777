/- Texts of proofs: plain words, and walks through the program's functions. -/
import Derived.Lib.AtoiAll
import Derived.Test.YtdedlchpjboceaaDoorMfc4bd90d

section
namespace Go.Proofs.YtdedlchpjboceaaDoor.Lx
def digitB (c : UInt8) : Prop := 48 ≤ c.toNat ∧ c.toNat ≤ 57
theorem fold_ge (l : List UInt8) : ∀ a : Nat, a ≤ l.foldl (fun a c => 10 * a + (c.toNat - 48)) a := by
  induction l with
  | nil => intro a; exact Nat.le_refl _
  | cons c l ih => intro a; rw [List.foldl_cons]; have := ih (10 * a + (c.toNat - 48)); omega
theorem parseUint10_digits (l : List UInt8) : ∀ a : Nat, (∀ c ∈ l, digitB c) →
    (Lib.parseUint10 a l = .ok (l.foldl (fun a c => 10 * a + (c.toNat - 48)) a)) ∨ (Lib.parseUint10 a l = .range ∧ 18446744073709551616 ≤ l.foldl (fun a c => 10 * a + (c.toNat - 48)) a) := by
  induction l with
  | nil => intro a _; exact .inl rfl
  | cons c l ih =>
    intro a h
    have hc := h c List.mem_cons_self
    unfold digitB at hc
    rw [List.foldl_cons]
    simp only [Lib.parseUint10]
    rw [if_pos hc]
    have hg := fold_ge l (10 * a + (c.toNat - 48))
    by_cases h1 : 1844674407370955162 ≤ a
    · rw [if_pos h1]; exact .inr ⟨rfl, by omega⟩
    · rw [if_neg h1]
      by_cases h2 : 18446744073709551616 ≤ a * 10 + (c.toNat - 48)
      · rw [if_pos h2]; exact .inr ⟨rfl, by omega⟩
      · rw [if_neg h2, Nat.mul_comm a 10]
        exact ih _ (fun x hx => h x (List.mem_cons_of_mem _ hx))
theorem atoi_digits (l : List UInt8) (h0 : l ≠ []) (h : ∀ c ∈ l, digitB c) :
    (Lib.atoiAll l = .ok (val l : Int)) ∨ (Lib.atoiAll l = .range ∧ 1000000000 < val l) := by
  cases l with
  | nil => exact absurd rfl h0
  | cons c r =>
    have hc := h c List.mem_cons_self
    unfold digitB at hc
    have h1 : ¬ (c.toNat = 43 ∨ c.toNat = 45) := by omega
    have h2 : ¬ c.toNat = 45 := by omega
    unfold Lib.atoiAll
    dsimp only
    rw [if_neg h1]
    unfold Lib.parseMag
    rw [if_neg (by simp)]
    simp only [h2, if_false, false_and, not_false_eq_true, true_and]
    unfold val
    rcases parseUint10_digits (c :: r) 0 h with e | ⟨e, hg⟩
    · rw [e]
      dsimp only
      split
      · right; exact ⟨rfl, by omega⟩
      · left; rfl
    · rw [e]; right; exact ⟨rfl, by omega⟩
theorem mem_tw {p : UInt8 → Bool} (l : List UInt8) : ∀ c ∈ l.takeWhile p, p c = true := by
  induction l with
  | nil => intro c h; simp at h
  | cons a l ih =>
    intro c h
    by_cases ha : p a = true
    · rw [List.takeWhile_cons_of_pos ha] at h
      rcases List.mem_cons.1 h with rfl | h
      · exact ha
      · exact ih c h
    · rw [List.takeWhile_cons_of_neg ha] at h; simp at h
theorem takeWhile_digits (t : List UInt8) : ∀ c ∈ t.takeWhile (cont 4), digitB c := by
  intro c hc
  have := mem_tw _ c hc
  rw [cont_four] at this
  simp only [pDigit, decide_eq_true_eq] at this
  unfold clsI at this
  unfold digitB
  repeat' split at this
  all_goals omega
theorem cls_digit {c : UInt8} (h : cls c = 4) : digitB c := by
  unfold cls clsI at h; unfold digitB; repeat' split at h
  all_goals omega
/-- Every span's text begins with a byte of its class; digits' spans are digits. -/
theorem spans_good (l : List UInt8) (o : Nat) : ∀ x ∈ spans l o, x.t ≠ [] ∧ (x.k = 4 → ∀ c ∈ x.t, digitB c) ∧ 0 ≤ x.k ∧ x.k ≤ 5 ∧ x.t.length ≤ l.length ∧ o ≤ x.o ∧ x.o + x.t.length ≤ o + l.length := by
  induction hn : l.length using Nat.strongRecOn generalizing l o with
  | _ n ih =>
    cases l with
    | nil => simp [spans_nil]
    | cons c t =>
      intro x hx
      rw [spans_cons] at hx
      have h1 := tw_dw (cont (cls c)) t
      simp only [List.length_cons] at hn
      rcases List.mem_cons.1 hx with rfl | hx
      · refine ⟨by simp, fun h4 => ?_, (cls_range c).1, (cls_range c).2, by simp only [List.length_cons]; omega, Nat.le_refl _, by simp only [List.length_cons]; omega⟩
        intro d hd
        rcases List.mem_cons.1 hd with rfl | hd
        · exact cls_digit h4
        · simp only at h4; rw [h4] at hd; exact takeWhile_digits _ d hd
      · obtain ⟨a1, a2, a3, a4, a5, a6, a7⟩ := ih _ (by omega) (t.dropWhile (cont (cls c))) _ rfl x hx
        exact ⟨a1, a2, a3, a4, by omega, by omega, by omega⟩
end Go.Proofs.YtdedlchpjboceaaDoor.Lx
end

section
namespace Go.Proofs.YtdedlchpjboceaaDoor.Lx
/-- The class of the last span; 0 where there is none. -/
def lastK (xs : List Sp) : Int := match xs.getLast? with | some x => x.k | none => 0
theorem lastK_nil : lastK [] = 0 := rfl
theorem lastK_one (x : Sp) : lastK [x] = x.k := rfl
theorem lastK_cons (x y : Sp) (xs : List Sp) : lastK (x :: y :: xs) = lastK (y :: xs) := by simp [lastK, List.getLast?_cons_cons]
/-- Where q may stand behind p: its first byte does not go on with p's last span. -/
def CutOk (k : Int) (q : List UInt8) : Prop := ∀ c, q.head? = some c → cont k c = false
theorem tw_all {P : UInt8 → Bool} {a q : List UInt8} (ha : ∀ x ∈ a, P x = true) (hq : ∀ c, q.head? = some c → P c = false) : (a ++ q).takeWhile P = a ∧ (a ++ q).dropWhile P = q := by
  induction a with
  | nil =>
    cases q with
    | nil => simp
    | cons c q => have := hq c rfl; simp [this]
  | cons x a ih =>
    have h1 := ih (fun y hy => ha y (List.mem_cons_of_mem _ hy))
    have h2 := ha x List.mem_cons_self
    simp [h2, h1.1, h1.2]
theorem tw_split (P : UInt8 → Bool) (t : List UInt8) : ∃ a b, t = a ++ b ∧ t.takeWhile P = a ∧ t.dropWhile P = b ∧ (∀ x ∈ a, P x = true) ∧ (∀ c, b.head? = some c → P c = false) := by
  refine ⟨t.takeWhile P, t.dropWhile P, List.takeWhile_append_dropWhile.symm, rfl, rfl, mem_tw t, ?_⟩
  induction t with
  | nil => intro c h; simp at h
  | cons x t ih =>
    intro c h
    by_cases hx : P x = true
    · rw [List.dropWhile_cons_of_pos hx] at h; exact ih c h
    · rw [List.dropWhile_cons_of_neg hx] at h; simp at h; subst h; simpa using hx
theorem spans_one (c : UInt8) (a : List UInt8) (o : Nat) (ha : ∀ x ∈ a, cont (cls c) x = true) : spans (c :: a) o = [⟨o, cls c, c :: a⟩] := by
  have h := tw_all (q := []) ha (fun c h => by simp at h)
  rw [List.append_nil] at h
  rw [spans_cons, h.1, h.2, spans_nil]
theorem spans_head (c : UInt8) (a b : List UInt8) (o : Nat) (ha : ∀ x ∈ a, cont (cls c) x = true) (hb : CutOk (cls c) b) : spans (c :: (a ++ b)) o = ⟨o, cls c, c :: a⟩ :: spans b (o + 1 + a.length) := by
  have h := tw_all ha hb
  rw [spans_cons, h.1, h.2]
theorem spans_append (p : List UInt8) : ∀ (q : List UInt8) (o : Nat), CutOk (lastK (spans p o)) q → spans (p ++ q) o = spans p o ++ spans q (o + p.length) := by
  induction hn : p.length using Nat.strongRecOn generalizing p with
  | _ n ih =>
    intro q o h
    cases p with
    | nil => simp [spans_nil]; simp at hn; subst hn; rfl
    | cons c t =>
      obtain ⟨a, b, rfl, h1, h2, ha, hb⟩ := tw_split (cont (cls c)) t
      cases b with
      | nil =>
        rw [List.append_nil] at h ⊢
        rw [spans_one c a o ha] at h ⊢
        rw [lastK_one] at h
        rw [List.cons_append, spans_head c a q o ha h]
        simp only [List.length_cons, List.length_append, List.length_nil] at hn
        subst hn
        simp only [List.singleton_append]
        rw [show o + 1 + a.length = o + (a.length + 0 + 1) by omega]
      | cons d b =>
        have e1 : spans (c :: (a ++ d :: b)) o = ⟨o, cls c, c :: a⟩ :: spans (d :: b) (o + 1 + a.length) := spans_head c a (d :: b) o ha hb
        have e2 : spans (d :: b) (o + 1 + a.length) = ⟨o + 1 + a.length, cls d, d :: b.takeWhile (cont (cls d))⟩ :: spans (b.dropWhile (cont (cls d))) (o + 1 + a.length + 1 + (b.takeWhile (cont (cls d))).length) := spans_cons _ _ _
        have e3 : lastK (spans (c :: (a ++ d :: b)) o) = lastK (spans (d :: b) (o + 1 + a.length)) := by rw [e1, e2, lastK_cons]
        rw [e3] at h
        simp only [List.length_cons, List.length_append] at hn
        have := ih (d :: b).length (by simp only [List.length_cons]; omega) (d :: b) rfl q (o + 1 + a.length) h
        rw [e1, List.cons_append, List.append_assoc, spans_head c a (d :: b ++ q) o ha (fun x hx => hb x (by simpa using hx)), this, List.cons_append]
        simp only [List.length_cons]
        rw [show o + 1 + a.length + (b.length + 1) = o + n by omega]
def gapB (x : Sp) : Bool := decide (x.k = 1 ∨ x.k = 2)
def tokB (x : Sp) : Option Tk := if gapB x then none else match tokOf x.k x.t x.o with | .ok t => some t | .error _ => none
def goodB (x : Sp) : Prop := gapB x = true ∨ (x.k ≠ 0 ∧ ∃ t, tokOf x.k x.t x.o = .ok t)
def toks (xs : List Sp) : List Tk := xs.filterMap tokB
theorem toks_append (A B : List Sp) : toks (A ++ B) = toks A ++ toks B := by simp [toks]
theorem toks_cons (x : Sp) (B : List Sp) : toks (x :: B) = toks [x] ++ toks B := by rw [← toks_append]; rfl
theorem toks_gap {x : Sp} (h : gapB x = true) : toks [x] = [] := by simp [toks, tokB, h]
theorem toks_tok {x : Sp} {t : Tk} (h : gapB x = false) (ht : tokOf x.k x.t x.o = .ok t) : toks [x] = [t] := by simp [toks, tokB, h, ht]
theorem pstep_gap {x : Sp} (h : gapB x = true) (ts : List Tk) : pstep (.ok ts) x = .ok ts := by
  simp only [gapB, decide_eq_true_eq] at h; simp [pstep, h]
theorem pstep_tok {x : Sp} {t : Tk} (h : gapB x = false) (h0 : x.k ≠ 0) (ht : tokOf x.k x.t x.o = .ok t) (ts : List Tk) (hl : ts.length ≠ 2000) : pstep (.ok ts) x = .ok (ts ++ [t]) := by
  simp only [gapB, decide_eq_false_iff_not] at h; simp only [pstep]; rw [if_neg h, if_neg h0, if_neg hl, ht]
theorem fold_ok (xs : List Sp) : ∀ ts, (∀ x ∈ xs, goodB x) → ts.length + (toks xs).length ≤ 2000 → xs.foldl pstep (.ok ts) = .ok (ts ++ toks xs) := by
  induction xs with
  | nil => intro ts _ _; simp [toks]
  | cons x xs ih =>
    intro ts hg hl
    rw [toks_cons, List.length_append] at hl
    rw [List.foldl_cons, toks_cons]
    rcases hg x List.mem_cons_self with h | ⟨h0, t, ht⟩
    · rw [pstep_gap h, ih ts (fun y hy => hg y (List.mem_cons_of_mem _ hy)) (by omega), toks_gap h, List.nil_append]
    · by_cases h : gapB x = true
      · rw [pstep_gap h, ih ts (fun y hy => hg y (List.mem_cons_of_mem _ hy)) (by omega), toks_gap h, List.nil_append]
      · have h' : gapB x = false := by simpa using h
        rw [toks_tok h' ht] at hl ⊢
        simp only [List.length_cons, List.length_nil] at hl
        rw [pstep_tok h' h0 ht ts (by omega), ih (ts ++ [t]) (fun y hy => hg y (List.mem_cons_of_mem _ hy)) (by simp only [List.length_append, List.length_cons, List.length_nil]; omega), List.append_assoc]
theorem fold_ok_inv (xs : List Sp) : ∀ ts us, ts.length ≤ 2000 → xs.foldl pstep (.ok ts) = .ok us → (∀ x ∈ xs, goodB x) ∧ us = ts ++ toks xs ∧ us.length ≤ 2000 := by
  induction xs with
  | nil => intro ts us hl h; simp at h; subst h; exact ⟨fun x hx => by simp at hx, by simp [toks], hl⟩
  | cons x xs ih =>
    intro ts us hl h
    rw [List.foldl_cons] at h
    by_cases hg : gapB x = true
    · rw [pstep_gap hg] at h
      obtain ⟨a, b, c⟩ := ih ts us hl h
      exact ⟨fun y hy => by rcases List.mem_cons.1 hy with rfl | hy; exact .inl hg; exact a y hy, by rw [toks_cons, toks_gap hg]; exact b, c⟩
    · have h' : gapB x = false := by simpa using hg
      have h'' := h'
      simp only [gapB, decide_eq_false_iff_not] at h''
      simp only [pstep] at h
      rw [if_neg h''] at h
      split at h
      · rw [foldl_error] at h; cases h
      · rename_i h0
        split at h
        · rw [foldl_error] at h; cases h
        · rename_i h2
          split at h
          · rw [foldl_error] at h; cases h
          · rename_i t ht
            obtain ⟨a, b, c⟩ := ih (ts ++ [t]) us (by simp only [List.length_append, List.length_cons, List.length_nil]; omega) h
            refine ⟨fun y hy => ?_, ?_, c⟩
            · rcases List.mem_cons.1 hy with rfl | hy
              · exact .inr ⟨h0, t, ht⟩
              · exact a y hy
            · rw [toks_cons, toks_tok h' ht, b, List.append_assoc]
/-- A script lexes to its tokens: just where all is good and there are not too many. -/
theorem procF_ok_iff (xs : List Sp) (us : List Tk) : procF xs = .ok us ↔ (∀ x ∈ xs, goodB x) ∧ us = toks xs ∧ (toks xs).length ≤ 2000 := by
  constructor
  · intro h
    obtain ⟨a, b, c⟩ := fold_ok_inv xs [] us (by simp) h
    rw [List.nil_append] at b
    subst b
    exact ⟨a, rfl, c⟩
  · rintro ⟨a, rfl, c⟩
    exact fold_ok xs [] a (by simpa using c)
end Go.Proofs.YtdedlchpjboceaaDoor.Lx
end
