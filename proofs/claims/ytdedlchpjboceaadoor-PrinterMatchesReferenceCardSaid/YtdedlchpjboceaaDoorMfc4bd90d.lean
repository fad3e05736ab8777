/- Texts of proofs: plain words, and walks through the program's functions. -/

section
namespace Go.Proofs.YtdedlchpjboceaaDoor.Lx
/-- The class of a byte, by its number: 1 blank, 2 hash, 3 letter, 4 digit, 5 semicolon, 0 other. -/
def clsI (c : Int) : Int :=
  if c = 32 ∨ c = 9 ∨ c = 10 then 1 else if c = 35 then 2 else if 97 ≤ c ∧ c ≤ 122 then 3
  else if 48 ≤ c ∧ c ≤ 57 then 4 else if c = 59 then 5 else 0
def pHash (x : Int) : Bool := decide (x ≠ 10)
def pName (x : Int) : Bool := decide (clsI x = 3 ∨ clsI x = 4 ∨ x = 95)
def pDigit (x : Int) : Bool := decide (clsI x = 4)
def cls (c : UInt8) : Int := clsI c.toNat
/-- Does a byte go on with a span of class k? -/
def cont (k : Int) (c : UInt8) : Bool :=
  if k = 2 then pHash c.toNat else if k = 3 then pName c.toNat else if k = 4 then pDigit c.toNat else false
theorem clsI_range (c : Int) : 0 ≤ clsI c ∧ clsI c ≤ 5 := by unfold clsI; repeat' split <;> omega
theorem cls_range (c : UInt8) : 0 ≤ cls c ∧ cls c ≤ 5 := clsI_range _
theorem cls_cases (c : UInt8) : cls c = 0 ∨ cls c = 1 ∨ cls c = 2 ∨ cls c = 3 ∨ cls c = 4 ∨ cls c = 5 := by
  have := cls_range c; omega
theorem cont_other {k : Int} (h2 : k ≠ 2) (h3 : k ≠ 3) (h4 : k ≠ 4) (c : UInt8) : cont k c = false := by
  simp [cont, h2, h3, h4]
theorem cont_two (c : UInt8) : cont 2 c = pHash c.toNat := by simp [cont]
theorem cont_three (c : UInt8) : cont 3 c = pName c.toNat := by simp [cont]
theorem cont_four (c : UInt8) : cont 4 c = pDigit c.toNat := by simp [cont]
/-- A span's own first byte goes on with it. -/
theorem cont_self (c : UInt8) (h : cls c = 2 ∨ cls c = 3 ∨ cls c = 4) : cont (cls c) c = true := by
  rcases h with h | h | h
  · rw [h, cont_two]; unfold pHash; unfold cls at h; simp only [decide_eq_true_eq]; intro e; rw [e] at h; simp [clsI] at h
  · rw [h, cont_three]; unfold pName; unfold cls at h; simp [h]
  · rw [h, cont_four]; unfold pDigit; unfold cls at h; simp [h]
/-- A span: its offset, its class, its bytes. -/
structure Sp where
  o : Nat
  k : Int
  t : List UInt8
deriving DecidableEq
theorem tw_dw (p : UInt8 → Bool) (l : List UInt8) : (l.takeWhile p).length + (l.dropWhile p).length = l.length := by
  rw [← List.length_append, List.takeWhile_append_dropWhile]
theorem dw_le (p : UInt8 → Bool) (l : List UInt8) : (l.dropWhile p).length ≤ l.length := by have := tw_dw p l; omega
theorem tw_le (p : UInt8 → Bool) (l : List UInt8) : (l.takeWhile p).length ≤ l.length := by have := tw_dw p l; omega
theorem drop_of {a b l : List UInt8} (h : a ++ b = l) : b = l.drop a.length := by subst h; simp
theorem take_of {a b l : List UInt8} (h : a ++ b = l) : a = l.take a.length := by subst h; simp
theorem dw_drop (p : UInt8 → Bool) (l : List UInt8) : l.dropWhile p = l.drop (l.takeWhile p).length := drop_of List.takeWhile_append_dropWhile
theorem tw_take (p : UInt8 → Bool) (l : List UInt8) : l.takeWhile p = l.take (l.takeWhile p).length := take_of List.takeWhile_append_dropWhile
/-- The spans of bytes, the first of them at offset o. -/
def spans : List UInt8 → Nat → List Sp
  | [], _ => []
  | c :: t, o => ⟨o, cls c, c :: t.takeWhile (cont (cls c))⟩ :: spans (t.dropWhile (cont (cls c))) (o + 1 + (t.takeWhile (cont (cls c))).length)
termination_by l => l.length
decreasing_by simp only [List.length_cons]; have := dw_le (cont (cls c)) t; omega
theorem spans_nil (o : Nat) : spans [] o = [] := by rw [spans]
theorem spans_cons (c : UInt8) (t : List UInt8) (o : Nat) : spans (c :: t) o = ⟨o, cls c, c :: t.takeWhile (cont (cls c))⟩ :: spans (t.dropWhile (cont (cls c))) (o + 1 + (t.takeWhile (cont (cls c))).length) := by
  rw [spans]
/-- A span's length, in the bytes from its head on. -/
def slen : List UInt8 → Nat
  | [] => 0
  | c :: t => 1 + (t.takeWhile (cont (cls c))).length
theorem slen_le (l : List UInt8) : slen l ≤ l.length := by
  cases l with
  | nil => simp [slen]
  | cons c t => simp only [slen, List.length_cons]; have := tw_le (cont (cls c)) t; omega
theorem slen_pos {l : List UInt8} (h : l ≠ []) : 1 ≤ slen l := by
  cases l with
  | nil => exact absurd rfl h
  | cons c t => simp only [slen]; omega
theorem spans_step (c : UInt8) (t : List UInt8) (o : Nat) :
    spans (c :: t) o = ⟨o, cls c, (c :: t).take (slen (c :: t))⟩ :: spans ((c :: t).drop (slen (c :: t))) (o + slen (c :: t)) := by
  rw [spans_cons]
  have e1 : (c :: t).take (slen (c :: t)) = c :: t.takeWhile (cont (cls c)) := by
    simp only [slen]; rw [Nat.add_comm, List.take_succ_cons, ← tw_take]
  have e2 : (c :: t).drop (slen (c :: t)) = t.dropWhile (cont (cls c)) := by
    simp only [slen]; rw [Nat.add_comm, List.drop_succ_cons, ← dw_drop]
  rw [e1, e2]; simp only [slen]; rw [Nat.add_assoc]
/-- The value of digits. -/
def val (l : List UInt8) : Nat := l.foldl (fun a c => 10 * a + (c.toNat - 48)) 0
/-- A token: kind, text, number, offset. -/
structure Tk where
  kind : Int
  t : List UInt8
  n : Int
  o : Nat
deriving DecidableEq
/-- The token of a span, or its error. -/
def tokOf (k : Int) (t : List UInt8) (o : Nat) : Except Int Tk :=
  if k = 3 then (if 12 < t.length then .error 3 else .ok ⟨1, t, 0, o⟩)
  else if k = 4 then (if 1 < t.length ∧ t.head? = some 48 then .error 7 else if 1000000000 < val t then .error 3 else .ok ⟨2, [], val t, o⟩)
  else .ok ⟨3, t, 0, o⟩
/-- One span more. -/
def pstep (st : Except (Int × Nat) (List Tk)) (x : Sp) : Except (Int × Nat) (List Tk) :=
  match st with
  | .error e => .error e
  | .ok ts =>
    if x.k = 1 ∨ x.k = 2 then .ok ts
    else if x.k = 0 then .error (7, x.o)
    else if ts.length = 2000 then .error (2, x.o)
    else match tokOf x.k x.t x.o with
      | .error e => .error (e, x.o)
      | .ok t => .ok (ts ++ [t])
def procF (xs : List Sp) : Except (Int × Nat) (List Tk) := xs.foldl pstep (.ok [])
/-- What the lexer answers. -/
def lex (s : List UInt8) : Except (Int × Nat) (List Tk) := if 8000 < s.length then .error (2, 0) else procF (spans s 0)
theorem foldl_error (xs : List Sp) (e : Int × Nat) : xs.foldl pstep (.error e) = .error e := by
  induction xs with
  | nil => rfl
  | cons x xs ih => simp only [List.foldl_cons, pstep]; exact ih
theorem procF_snoc (pre : List Sp) (x : Sp) : procF (pre ++ [x]) = pstep (procF pre) x := by simp [procF]
theorem procF_prefix {pre xs : List Sp} (h : pre <+: xs) {e : Int × Nat} (he : procF pre = .error e) : procF xs = .error e := by
  obtain ⟨r, rfl⟩ := h
  unfold procF at *
  rw [List.foldl_append, he, foldl_error]
theorem snoc_cases (xs : List Sp) : xs = [] ∨ ∃ pre x, xs = pre ++ [x] := by
  rcases List.eq_nil_or_concat xs with h | ⟨pre, x, h⟩
  · exact .inl h
  · exact .inr ⟨pre, x, by rw [h]; simp⟩
theorem toks_length (xs : List Sp) : ∀ ts, procF xs = .ok ts → ts.length ≤ xs.length ∧ ts.length ≤ 2000 := by
  induction hn : xs.length generalizing xs with
  | zero =>
    obtain rfl := List.eq_nil_of_length_eq_zero hn
    intro ts h; simp [procF] at h; subst h; simp
  | succ n ih =>
    rcases snoc_cases xs with rfl | ⟨pre, x, rfl⟩
    · simp at hn
    · intro ts h
      rw [procF_snoc] at h
      simp at hn
      cases hp : procF pre with
      | error e => rw [hp] at h; simp [pstep] at h
      | ok ps =>
        have := ih pre hn ps hp
        rw [hp] at h; simp only [pstep] at h
        split at h
        · injection h with h; subst h; omega
        · split at h
          · cases h
          · split at h
            · cases h
            · split at h
              · cases h
              · injection h with h; subst h; simp only [List.length_append, List.length_cons, List.length_nil]; omega
end Go.Proofs.YtdedlchpjboceaaDoor.Lx
end
