/-
  Plain laws on the texts of tokens, and on the bytes between them.
-/
import Derived.Test.YtiidalhcmlhnmaaDoorLxK
import Derived.Test.YtiidalhcmlhnmaaDoorPAx4
namespace Go.Proofs.YtiidalhcmlhnmaaDoor.LR
open Go.RowKit Go.Proofs.YtiidalhcmlhnmaaDoor.PA Go.Proofs.YtiidalhcmlhnmaaDoorW.PrintWords Go.Proofs.YtiidalhcmlhnmaaDoorW.PrintLast Go.Proofs.YtiidalhcmlhnmaaDoor.Lx

theorem val_pos {c : UInt8} {l : List UInt8} (hd : digitB c) (h : c ≠ 48) : 0 < val (c :: l) := by
  unfold val
  rw [List.foldl_cons]
  have := fold_ge l (10 * 0 + (c.toNat - 48))
  have h48 : c.toNat ≠ 48 := fun e => h (UInt8.toNat_inj.1 (by change c.toNat = 48; exact e))
  unfold digitB at hd
  omega
theorem digit_byte {c : UInt8} (hd : digitB c) : strOfNums ([(((c.toNat : Nat) : Int)) % 256] : List Int) = (⟨#[c]⟩ : ByteArray) := by
  unfold strOfNums
  unfold digitB at hd
  have : ((c.toNat : Int) % 256).toNat = c.toNat := by omega
  simp [this]
theorem dig_arith {v a c : Nat} (hv : v = 10 * a + (c - 48)) (h1 : 48 ≤ c) (h2 : c ≤ 57) (hb : v ≤ 1000000000) :
    wrap64 (48 + Int.tmod (v : Int) 10) = (c : Int) ∧ wrap64 (Int.tdiv (v : Int) 10) = (a : Int) ∧ a ≤ 1000000000 := by
  refine ⟨?_, ?_, by omega⟩
  · rw [Int.tmod_eq_emod_of_nonneg (by omega), w64 (by omega) (by omega)]; omega
  · rw [Int.tdiv_eq_ediv_of_nonneg (by omega), w64 (by omega) (by omega)]; omega
theorem digits_loop (n : Nat) : ∀ (l q : List UInt8), l.length = n → (∀ c ∈ l, digitB c) → (∀ c, l.head? = some c → c ≠ 48) → l ++ q ≠ [] → (l ++ q).length ≤ 1000000 → val l ≤ 1000000000 →
    Ev (fun k => slotmeshref01_digits.l0 k ⟨q.toArray⟩ ((val l : Nat) : Int)) ⟨(l ++ q).toArray⟩ := by
  induction n with
  | zero =>
    intro l q hl hd hh hne hs hv
    obtain rfl := List.eq_nil_of_length_eq_zero hl
    refine Ev.step (f := _) (fun k => by rw [slotmeshref01_digits.l0]) ?_
    refine evNeg (by simp [val]) (evNeg ?_ (Ev.now _))
    rw [ByteArray.toList_eq]
    simpa using hne
  | succ n ih =>
    intro l q hl hd hh hne hs hv
    rcases List.eq_nil_or_concat l with rfl | ⟨l', c, rfl⟩
    · simp at hl
    · rw [List.concat_eq_append] at *
      have hc : digitB c := hd c (by simp)
      have hc' := hc
      unfold digitB at hc'
      have hp : 0 < val (l' ++ [c]) := by
        cases l' with
        | nil => exact val_pos hc (hh c rfl)
        | cons d l'' => exact val_pos (l := l'' ++ [c]) (hd d (by simp)) (hh d rfl)
      have hv' := val_snoc l' c
      have hlen : (l' ++ c :: q).length ≤ 1000000 := by simpa using hs
      have hq : q.length + 1 ≤ 1000000 := by rw [List.length_append, List.length_cons] at hlen; omega
      obtain ⟨e1, e2, hv1⟩ := dig_arith hv' hc'.1 hc'.2 hv
      refine Ev.step (f := _) (fun k => by rw [slotmeshref01_digits.l0]) ?_
      refine evPos (Int.natCast_pos.2 hp) (evBind rfl ?_)
      rw [e1, e2, digit_byte hc]
      have e3 : ((⟨#[c]⟩ : ByteArray) ++ (⟨q.toArray⟩ : ByteArray)) = ⟨(c :: q).toArray⟩ := by apply ByteArray.ext; simp
      refine evPos ?_ ?_
      · show 1 + q.length ≤ 9223372036854775807
        exact Nat.le_trans (Nat.add_comm _ _ ▸ hq) (by decide)
      · rw [e3]
        have := ih l' (c :: q) (by simpa using hl) (fun x hx => hd x (by simp [hx])) (fun x hx => hh x (by cases l' with | nil => simp at hx | cons y l'' => simpa using hx)) (by simp) hlen hv1
        simpa using this
theorem digits_ev (t : List UInt8) (h0 : t ≠ []) (hd : ∀ c ∈ t, digitB c) (hz : ¬ (1 < t.length ∧ t.head? = some 48)) (hs : t.length ≤ 1000000) (hv : val t ≤ 1000000000) :
    Ev (fun k => slotmeshref01_digits.f k ((val t : Nat) : Int)) ⟨t.toArray⟩ := by
  unfold slotmeshref01_digits.f
  by_cases h48 : t.head? = some 48
  · have h1 : t = [48] := by
      cases t with
      | nil => exact absurd rfl h0
      | cons c r =>
        simp at h48; subst h48
        cases r with
        | nil => rfl
        | cons d r => exact absurd ⟨by simp, by simp⟩ hz
    subst h1
    refine Ev.step (f := _) (fun k => by rw [slotmeshref01_digits.l0]) ?_
    have hv0 : ((val [48] : Nat) : Int) = 0 := rfl
    have e1 : wrap64 (48 + Int.tmod (0 : Int) 10) = (((48 : UInt8).toNat : Nat) : Int) := by
      rw [Int.tmod_eq_emod_of_nonneg (by omega), w64 (by omega) (by omega)]; rfl
    have e2 : wrap64 (Int.tdiv (0 : Int) 10) = 0 := by
      rw [Int.tdiv_eq_ediv_of_nonneg (by omega), w64 (by omega) (by omega)]; rfl
    rw [hv0]
    refine evNeg (by decide) (evPos (by rw [ByteArray.toList_eq]) (evBind rfl ?_))
    rw [e1, e2, digit_byte (c := 48) (by unfold digitB; decide)]
    refine evPos (by decide) ?_
    refine Ev.step (f := _) (fun k => by rw [slotmeshref01_digits.l0]) ?_
    exact evNeg (by decide) (evNeg (by rw [ByteArray.toList_eq]; decide) (evNow rfl))
  · have := digits_loop t.length t [] rfl hd (fun c hc e => h48 (by rw [hc, e])) (by simpa using h0) (by simpa using hs) hv
    rw [List.append_nil] at this
    exact this
/-- The text of a token is its span's. -/
theorem text_ev {k : Int} {t : List UInt8} {o : Nat} {x : Tk} (h : tokOf k t o = .ok x) (h0 : t ≠ []) (h4 : k = 4 → ∀ c ∈ t, digitB c) (hs : t.length ≤ 1000000) :
    Ev (fun n => slotmeshref01_Text.f n (toTok x).f0 (toTok x).f1 (toTok x).f2 (toTok x).f3) ⟨t.toArray⟩ := by
  unfold slotmeshref01_Text.f
  unfold tokOf at h
  by_cases h3 : k = 3
  · rw [if_pos h3] at h
    split at h
    · cases h
    · injection h with h; subst h
      exact evNeg (by simp [toTok]) (Ev.now _)
  · rw [if_neg h3] at h
    by_cases hk : k = 4
    · rw [if_pos hk] at h
      split at h
      · cases h
      · rename_i hz
        split at h
        · cases h
        · rename_i hv
          injection h with h; subst h
          refine evPos rfl (Ev.bind (digits_ev t h0 (h4 hk) hz hs (Nat.le_of_not_lt hv)) (Ev.now _))
    · rw [if_neg hk] at h
      injection h with h; subst h
      exact evNeg (by simp [toTok]) (Ev.now _)

/-! ### Gaps -/
def run : Bool → List UInt8 → Option Bool
  | f, [] => some f
  | f, c :: t => if (c.toNat : Int) = 10 then run false t else if (c.toNat : Int) = 35 then run true t else if f = true then run f t else if (c.toNat : Int) = 32 then run f t else if (c.toNat : Int) = 9 then run f t else none
def runAns (fin : Bool) (r : Option Bool) : Bool := match r with | none => false | some f => if fin = true then true else !f
theorem gaps_loop (s : ByteArray) (hs : s.size ≤ 140737488355328) (fin : Bool) (d : Nat) : ∀ (f : Bool) (j : Nat), j ≤ s.size → s.size - j = d →
    Ev (fun k => slotmeshlaw01_gaps.l0 k s fin f (j : Int)) (runAns fin (run f (s.data.toList.drop j))) := by
  induction d with
  | zero =>
    intro f j hj hd
    have : s.data.toList.drop j = [] := List.drop_of_length_le (by rw [list_size]; omega)
    rw [this]
    refine Ev.step (f := _) (fun k => by rw [slotmeshlaw01_gaps.l0]) ?_
    refine evNeg (by omega) ?_
    cases fin with
    | true => exact evPos rfl (Ev.now _)
    | false => exact evNeg (by decide) (Ev.now _)
  | succ d ih =>
    intro f j hj hd
    have hlt : j < s.size := by omega
    have hw : wrap64 ((j : Int) + 1) = ((j + 1 : Nat) : Int) := by rw [w64 (by omega) (by omega)]; omega
    have hih := fun f => ih f (j + 1) (by omega) (by omega)
    rw [drop_at s j hlt]
    refine Ev.step (f := _) (fun k => by rw [slotmeshlaw01_gaps.l0]) ?_
    refine evPos (by omega) (evPos (by omega) ?_)
    rw [bt_nat hlt, hw]
    simp only [run]
    by_cases h10 : (s[j].toNat : Int) = 10
    · rw [if_pos h10]; exact evPos h10 (hih _)
    · rw [if_neg h10]; refine evNeg h10 ?_
      by_cases h35 : (s[j].toNat : Int) = 35
      · rw [if_pos h35]; exact evPos h35 (hih _)
      · rw [if_neg h35]; refine evNeg h35 ?_
        by_cases hf : f = true
        · rw [if_pos hf]; exact evPos hf (hih _)
        · rw [if_neg hf]; refine evNeg hf ?_
          by_cases h32 : (s[j].toNat : Int) = 32
          · rw [if_pos h32]; exact evPos h32 (hih _)
          · rw [if_neg h32]; refine evNeg h32 ?_
            by_cases h9 : (s[j].toNat : Int) = 9
            · rw [if_pos h9]; exact evPos h9 (hih _)
            · rw [if_neg h9]; exact evNeg h9 (Ev.now _)
theorem run_comment (a b : List UInt8) (h : ∀ c ∈ a, cont 2 c = true) : run true (a ++ b) = run true b := by
  induction a with
  | nil => rfl
  | cons c a ih =>
    have hc := h c List.mem_cons_self
    rw [cont_two] at hc
    unfold pHash at hc
    simp only [decide_eq_true_eq] at hc
    rw [List.cons_append]
    simp only [run]
    rw [if_neg hc]
    simp only [if_true, ite_self]
    exact ih (fun x hx => h x (List.mem_cons_of_mem _ hx))
/-- Bytes that are gaps: what they leave open. -/
theorem run_gaps (p : List UInt8) : ∀ o, (∀ x ∈ spans p o, gapB x = true) → run false p = some (decide (lastK (spans p o) = 2)) := by
  induction hn : p.length using Nat.strongRecOn generalizing p with
  | _ n ih =>
    intro o h
    cases p with
    | nil => rw [spans_nil]; rfl
    | cons c t =>
      obtain ⟨a, b, rfl, h1, h2, ha, hb⟩ := tw_split (cont (cls c)) t
      rw [spans_head c a b o ha hb] at h ⊢
      have hx := h _ List.mem_cons_self
      have hbn : b.length < n := by simp only [List.length_cons, List.length_append] at hn; omega
      have hlast : ∀ d b', b = d :: b' → lastK ((⟨o, cls c, c :: a⟩ : Sp) :: spans b (o + 1 + a.length)) = lastK (spans b (o + 1 + a.length)) := by
        intro d b' e; subst e; rw [spans_cons, lastK_cons]
      have hrec := ih b.length hbn b rfl (o + 1 + a.length) (fun x hx => h x (List.mem_cons_of_mem _ hx))
      simp only [gapB, decide_eq_true_eq] at hx
      rcases hx with hx | hx
      · have ha0 : a = [] := by
          cases a with
          | nil => rfl
          | cons d a => have := ha d List.mem_cons_self; rw [hx, cont_other (by decide) (by decide) (by decide)] at this; cases this
        subst ha0
        have hc : (c.toNat : Int) = 32 ∨ (c.toNat : Int) = 9 ∨ (c.toNat : Int) = 10 := by
          unfold cls clsI at hx
          repeat' split at hx
          all_goals first | assumption | omega
        have hr : run false (c :: ([] ++ b)) = run false b := by
          simp only [run, List.nil_append]
          rcases hc with e | e | e <;> rw [e] <;> rfl
        rw [hr, hrec]
        cases b with
        | nil => rw [spans_nil, lastK_one, hx]; rfl
        | cons d b' => rw [hlast d b' rfl]
      · have hc : (c.toNat : Int) = 35 := by
          unfold cls clsI at hx
          repeat' split at hx
          all_goals first | assumption | omega
        have hr : run false (c :: (a ++ b)) = run true b := by
          have : run false (c :: (a ++ b)) = run true (a ++ b) := by simp only [run]; rw [hc]; rfl
          rw [this]; exact run_comment a b (fun x hx' => by have := ha x hx'; rw [hx] at this; exact this)
        rw [hr]
        cases b with
        | nil => rw [spans_nil, lastK_one, hx]; rfl
        | cons d b' =>
          rw [hlast d b' rfl, ← hrec]
          have hd : cont 2 d = false := by have := hb d rfl; rw [hx] at this; exact this
          rw [cont_two] at hd
          unfold pHash at hd
          have h10 : (d.toNat : Int) = 10 := by simpa using hd
          simp only [run]; rw [if_pos h10, if_pos h10]
theorem gaps_ev (s : ByteArray) (hs : s.size ≤ 140737488355328) (fin : Bool) (o : Nat) (h : ∀ x ∈ spans s.data.toList o, gapB x = true) (hf : fin = false → lastK (spans s.data.toList o) ≠ 2) :
    Ev (fun k => slotmeshlaw01_gaps.f k s fin) true := by
  unfold slotmeshlaw01_gaps.f
  refine evEq (gaps_loop s hs fin _ false 0 (Nat.zero_le _) rfl) ?_
  rw [List.drop_zero, run_gaps _ o h]
  cases fin with
  | true => rfl
  | false => simp [runAns, hf rfl]
theorem good_gaps {xs : List Sp} (hg : ∀ x ∈ xs, goodB x) (h : toks xs = []) : ∀ x ∈ xs, gapB x = true := by
  intro x hx
  rcases hg x hx with h' | ⟨h0, t, ht⟩
  · exact h'
  · cases hb : gapB x with
    | true => rfl
    | false =>
      exfalso
      obtain ⟨A, B, rfl⟩ := List.append_of_mem hx
      rw [toks_append, toks_cons, toks_tok hb ht] at h
      simp at h

/-- The next token: the gaps before it, its bytes, what is left. -/
theorem next_tok {q : List UInt8} {o : Nat} {t : Tk} {r : List Tk} (hg : ∀ x ∈ spans q o, goodB x) (h : toks (spans q o) = t :: r) :
    ∃ p x b, q = p ++ (x ++ b) ∧ x ≠ [] ∧ (∀ y ∈ spans p o, gapB y = true) ∧ lastK (spans p o) ≠ 2 ∧ t.o = o + p.length ∧
      (∃ k, tokOf k x (o + p.length) = .ok t ∧ (k = 4 → ∀ c ∈ x, digitB c)) ∧ toks (spans b (o + p.length + x.length)) = r ∧ (∀ y ∈ spans b (o + p.length + x.length), goodB y) := by
  obtain ⟨A, x, B, h1, h2, h3, h4, h5⟩ := toks_split (spans q o) 0 (by rw [h]; simp)
  obtain ⟨p, q', rfl, e1, e2, e3⟩ := spans_split A q o (x :: B) h1
  obtain ⟨hxo, c, a, b, rfl, hk, ht, ha, hb, hB⟩ := spans_first e2
  have hgA : ∀ y ∈ A, goodB y := fun y hy => hg y (by rw [h1]; exact List.mem_append_left _ hy)
  have hgx : goodB x := hg x (by rw [h1]; simp)
  have hto : t.o = o + p.length := by
    have : (toks (spans (p ++ c :: (a ++ b)) o))[0]'(by rw [h]; simp) = t := by simp only [h]; rfl
    rw [← hxo, ← h5, this]
  obtain ⟨xo, xk, xt⟩ := x
  dsimp only at hxo hk ht
  subst hxo hk ht
  have htk : tokOf (cls c) (c :: a) (o + p.length) = .ok t ∧ toks B = r := by
    rcases hgx with hgx | ⟨h0, u, hu⟩
    · rw [hgx] at h4; cases h4
    · rw [toks_cons, toks_tok h4 hu, h] at h3
      simp only [List.drop_zero, List.singleton_append] at h3
      obtain ⟨rfl, rfl⟩ := List.cons.inj h3
      exact ⟨hu, rfl⟩
  have hlen : o + p.length + (c :: a).length = o + p.length + 1 + a.length := by simp only [List.length_cons]; omega
  refine ⟨p, c :: a, b, by simp, by simp, ?_, ?_, hto, ⟨cls c, htk.1, ?_⟩, ?_, ?_⟩
  · rw [e1]; exact good_gaps hgA (by rw [h2]; rfl)
  · rw [e1]
    intro h2'
    rw [h2'] at e3
    have := cont_two_no (e3 c rfl)
    simp [gapB, this] at h4
  · intro h4' y hy
    have := (spans_good (c :: (a ++ b)) (o + p.length) ⟨o + p.length, cls c, c :: a⟩ (by rw [e2]; simp)).2.1 h4'
    exact this y hy
  · rw [hlen, ← hB]; exact htk.2
  · rw [hlen, ← hB]; exact fun y hy => hg y (by rw [h1]; simp [hy])

end Go.Proofs.YtiidalhcmlhnmaaDoor.LR
