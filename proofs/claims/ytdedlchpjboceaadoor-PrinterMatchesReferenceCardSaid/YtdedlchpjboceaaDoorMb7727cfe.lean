/- Texts of proofs: plain words, and walks through the program's functions. -/
import Derived.Test.YtdedlchpjboceaaDoorM29e64b73
import Derived.Test.YtdedlchpjboceaaDoorM64780c59
import Derived.KernelRfl

section
namespace Go.Proofs.YtdedlchpjboceaaDoor.Qz
open Go.RowKit Go.Proofs.YtdedlchpjboceaaDoorW.PrintWords Go.Proofs.YtdedlchpjboceaaDoorW.PrintLast Go.Proofs.YtdedlchpjboceaaDoor.Lx Go.Proofs.YtdedlchpjboceaaDoor.Px Go.Proofs.YtdedlchpjboceaaDoor.Tx
/-- Spans, to be reckoned. -/
def spansF : Nat → List UInt8 → Nat → List Sp
  | 0, _, _ => []
  | _ + 1, [], _ => []
  | n + 1, c :: t, o => ⟨o, cls c, c :: t.takeWhile (cont (cls c))⟩ :: spansF n (t.dropWhile (cont (cls c))) (o + 1 + (t.takeWhile (cont (cls c))).length)
theorem spansF_eq (n : Nat) : ∀ (l : List UInt8) (o : Nat), l.length ≤ n → spansF n l o = spans l o := by
  induction n with
  | zero => intro l o h; obtain rfl := List.eq_nil_of_length_eq_zero (Nat.le_zero.1 h); rw [spans_nil]; rfl
  | succ n ih =>
    intro l o h
    cases l with
    | nil => rw [spans_nil]; rfl
    | cons c t =>
      have := dw_le (cont (cls c)) t
      simp only [List.length_cons] at h
      rw [spans_cons]; simp only [spansF]; rw [ih _ _ (by omega)]
def lexF (s : List UInt8) : Except (Int × Nat) (List Tk) := if 8000 < s.length then .error (2, 0) else procF (spansF s.length s 0)
theorem lex_eq (s : List UInt8) : Lx.lex s = lexF s := by unfold Lx.lex lexF; rw [spansF_eq _ _ _ (Nat.le_refl _)]
/-- Digits, to be reckoned. -/
def decF : Nat → Nat → List UInt8
  | 0, _ => []
  | n + 1, u => if u < 10 then [UInt8.ofNat (48 + u)] else decF n (u / 10) ++ [UInt8.ofNat (48 + u % 10)]
theorem decF_eq : ∀ (n u : Nat), u < 10 ^ n → 1 ≤ n → Lib.decDigits u = decF n u
  | 0, _, _, h => absurd h (by decide)
  | n + 1, u, h, _ => by
    rw [Lib.decDigits]
    unfold decF
    by_cases h10 : u < 10
    · rw [dif_pos h10, if_pos h10]
    · rw [dif_neg h10, if_neg h10]
      have hn : 1 ≤ n := by
        cases n with
        | zero => simp at h; omega
        | succ n => omega
      rw [decF_eq n (u / 10) (by rw [Nat.pow_succ] at h; omega) hn]
theorem itoa_nat (u : Nat) : Lib.itoa (u : Int) = Lib.decDigits u := by unfold Lib.itoa; rw [if_neg (by omega)]; simp
theorem absI_nat (n : Int) : absI n = ((absI n).toNat : Int) := by unfold absI; omega
theorem itoa_abs {n : Int} (h1 : -1000000000 ≤ n) (h2 : n ≤ 1000000000) : Lib.itoa (absI n) = decF 10 (absI n).toNat := by
  have := absI_le h1 h2
  rw [absI_nat n, itoa_nat]
  simp only [Int.toNat_natCast]
  exact decF_eq 10 _ (by have : absI n ≤ 1000000000 := this.2; omega) (by decide)
/-- A form laid in, to be reckoned. -/
def rendF : List UInt8 → List UInt8 → List Int → Option (List UInt8)
  | [], _, _ => some []
  | c :: t, nm, ns =>
    if c = 78 then (rendF t nm ns).map (fun x => nm ++ x)
    else if c = 37 then (if ns = [] then none else (rendF t nm ns.tail).map (fun x => (if ns.headD 0 < 0 then slowW else fastW) ++ (decF 10 (absI (ns.headD 0)).toNat ++ x)))
    else if c = 35 then (if ns = [] then none else (rendF t nm ns.tail).map (fun x => decF 10 (absI (ns.headD 0)).toNat ++ x))
    else (rendF t nm ns).map (fun x => c :: x)
theorem rendF_eq : ∀ (fm nm : List UInt8) (ns : List Int), (∀ n ∈ ns, -1000000000 ≤ n ∧ n ≤ 1000000000) → rend fm nm ns = rendF fm nm ns
  | [], _, _, _ => rfl
  | c :: t, nm, ns, h => by
    unfold rend rendF
    rw [rendF_eq t nm ns h, rendF_eq t nm ns.tail (fun n hn => h n (List.mem_of_mem_tail hn))]
    cases ns with
    | nil => rfl
    | cons n ns =>
      have hn := h n (by simp)
      rw [show (n :: ns).headD 0 = n from rfl, itoa_abs hn.1 hn.2]
def lineF (c : Cmd) : List UInt8 := (rendF (formB c.f0) c.f1.data.toList c.f2).getD []
theorem lineF_eq {c : Cmd} (h : cB c = true) : lineT c = lineF c := by
  unfold lineT lineF
  rw [rendF_eq _ _ _ (valid_kind h).2.2.2.2]
def printF (l : List Cmd) : List UInt8 := l.flatMap (fun c => lineF c ++ [59, 10])
theorem printF_eq : ∀ {l : List Cmd}, (∀ c ∈ l, cB c = true) → printB l = printF l
  | [], _ => rfl
  | c :: l, h => by
    have h1 := lineF_eq (h c (by simp))
    have h2 := printF_eq (l := l) (fun d hd => h d (List.mem_cons_of_mem _ hd))
    show (lineT c ++ [59, 10]) ++ printB l = (lineF c ++ [59, 10]) ++ printF l
    rw [h1, h2]
theorem validB_mem {l : List Cmd} (h : validB l = true) : l.length ≤ 300 ∧ ∀ c ∈ l, cB c = true := by
  unfold validB at h
  rw [Bool.and_eq_true, decide_eq_true_eq] at h
  exact ⟨by omega, fun c hc => List.all_eq_true.1 h.2 c hc⟩
/-- What Print answers, to be reckoned. -/
def printRF (l : List Cmd) : ByteArray × Int :=
  if validB l = true then (match lexF (printF l) with | .ok _ => (⟨(printF l).toArray⟩, 0) | .error _ => (⟨#[]⟩, 2)) else (⟨#[]⟩, 1)
theorem printRF_eq (l : List Cmd) : printR l = printRF l := by
  unfold printR printRF
  by_cases h : validB l = true
  · rw [if_pos h, if_pos h, printF_eq (validB_mem h).2, lex_eq]
    rfl
  · rw [if_neg h, if_neg h]
end Go.Proofs.YtdedlchpjboceaaDoor.Qz
end

section
namespace Go.Proofs.YtdedlchpjboceaaDoor.Qz
open Go.RowKit Go.Proofs.YtdedlchpjboceaaDoorW.PrintWords Go.Proofs.YtdedlchpjboceaaDoorW.PrintLast Go.Proofs.YtdedlchpjboceaaDoor.Lx Go.Proofs.YtdedlchpjboceaaDoor.Px Go.Proofs.YtdedlchpjboceaaDoor.Tx
theorem val_snoc (l : List UInt8) (c : UInt8) : val (l ++ [c]) = 10 * val l + (c.toNat - 48) := by simp [val]
theorem dig_toNat {u : Nat} (h : u < 10) : (UInt8.ofNat (48 + u)).toNat = 48 + u := by
  simp only [UInt8.toNat_ofNat']; omega
theorem cls_digit {c : UInt8} (h : 48 ≤ c.toNat ∧ c.toNat ≤ 57) : cls c = 4 := by
  unfold cls clsI
  rw [if_neg (by omega), if_neg (by omega), if_neg (by omega), if_pos (by omega)]
theorem dec_facts (u : Nat) : Lib.decDigits u ≠ [] ∧ (∀ c ∈ Lib.decDigits u, 48 ≤ c.toNat ∧ c.toNat ≤ 57) ∧ val (Lib.decDigits u) = u ∧ (1 ≤ u → (Lib.decDigits u).head? ≠ some 48) := by
  induction u using Nat.strongRecOn with
  | _ u ih =>
    by_cases h : u < 10
    · rw [Lib.decDigits_one h]
      refine ⟨by simp, ?_, ?_, ?_⟩
      · intro c hc
        obtain rfl := List.mem_singleton.1 hc
        rw [dig_toNat h]; omega
      · show 10 * 0 + ((UInt8.ofNat (48 + u)).toNat - 48) = u
        rw [dig_toNat h]; omega
      · intro hu he
        have : UInt8.ofNat (48 + u) = 48 := by simpa using he
        have := congrArg UInt8.toNat this
        rw [dig_toNat h] at this
        have h48 : (48 : UInt8).toNat = 48 := rfl
        omega
    · rw [Lib.decDigits, dif_neg h]
      obtain ⟨h1, h2, h3, h4⟩ := ih (u / 10) (by omega)
      have hd : u % 10 < 10 := Nat.mod_lt _ (by decide)
      refine ⟨by simp, ?_, ?_, ?_⟩
      · intro c hc
        rcases List.mem_append.1 hc with hc | hc
        · exact h2 c hc
        · obtain rfl := List.mem_singleton.1 hc
          rw [dig_toNat hd]; omega
      · rw [val_snoc, h3, dig_toNat hd]; omega
      · intro _
        rw [List.head?_append]
        cases hl : Lib.decDigits (u / 10) with
        | nil => exact absurd hl h1
        | cons c t =>
          have := h4 (by omega)
          rw [hl] at this
          simpa using this
inductive Wd where
  | nm (t : List UInt8)
  | num (u : Nat)
  | semi
def Wd.txt : Wd → List UInt8
  | .nm t => t
  | .num u => Lib.decDigits u
  | .semi => [59]
def Wd.tk (o : Nat) : Wd → Tk
  | .nm t => ⟨1, t, 0, o⟩
  | .num u => ⟨2, [], (u : Int), o⟩
  | .semi => ⟨3, [59], 0, o⟩
def nameW (t : List UInt8) : Prop := t.length ≤ 12 ∧ ∃ c a, t = c :: a ∧ cls c = 3 ∧ ∀ y ∈ a, cont 3 y = true
def Wd.ok : Wd → Prop
  | .nm t => nameW t
  | .num u => u ≤ 1000000000
  | .semi => True
/-- A word's text is one span; its token. -/
theorem Wd.span {x : Wd} (h : x.ok) : ∃ c a, x.txt = c :: a ∧ (∀ y ∈ a, cont (cls c) y = true) ∧ (cls c = 3 ∨ cls c = 4 ∨ cls c = 5) ∧ ∀ o, tokOf (cls c) x.txt o = .ok (x.tk o) := by
  cases x with
  | nm t =>
    obtain ⟨h1, c, a, rfl, h3, h4⟩ := h
    refine ⟨c, a, rfl, by rw [h3]; exact h4, .inl h3, fun o => ?_⟩
    rw [h3]
    show tokOf 3 (c :: a) o = .ok ⟨1, c :: a, 0, o⟩
    unfold tokOf
    rw [if_pos rfl, if_neg (by omega)]
  | num u =>
    have hu : u ≤ 1000000000 := h
    obtain ⟨h1, h2, h3, h4⟩ := dec_facts u
    cases hl : Lib.decDigits u with
    | nil => exact absurd hl h1
    | cons c a =>
      rw [hl] at h2 h3 h4
      have hc := cls_digit (h2 c (by simp))
      refine ⟨c, a, hl, fun y hy => ?_, .inr (.inl hc), fun o => ?_⟩
      · rw [hc, cont_four]
        unfold pDigit
        have := cls_digit (h2 y (List.mem_cons_of_mem _ hy))
        unfold cls at this
        simp [this]
      · rw [hc]
        show tokOf 4 (Lib.decDigits u) o = .ok ⟨2, [], (u : Int), o⟩
        rw [hl]
        unfold tokOf
        rw [if_neg (by decide), if_pos rfl, if_neg, if_neg (by rw [h3]; omega), h3]
        rintro ⟨g1, g2⟩
        by_cases hu1 : 1 ≤ u
        · exact h4 hu1 g2
        · have hu0 : u = 0 := by omega
          subst hu0
          rw [Lib.decDigits_one (by decide)] at hl
          injection hl with _ hl
          subst hl
          simp at g1
  | semi =>
    refine ⟨59, [], rfl, by simp, .inr (.inr (by decide)), fun o => ?_⟩
    show tokOf (cls 59) [59] o = .ok ⟨3, [59], 0, o⟩
    rfl
abbrev Pcs := List (Wd × List UInt8)
def flat (ps : Pcs) : List UInt8 := ps.flatMap (fun p => p.1.txt ++ p.2)
theorem flat_cons (x : Wd) (g : List UInt8) (ps : Pcs) : flat ((x, g) :: ps) = x.txt ++ (g ++ flat ps) := by simp [flat]
theorem flat_append (a b : Pcs) : flat (a ++ b) = flat a ++ flat b := by simp [flat]
def pTk : Pcs → Nat → List Tk
  | [], _ => []
  | (x, g) :: ps, o => x.tk o :: pTk ps (o + x.txt.length + g.length)
theorem pTk_length : ∀ (ps : Pcs) (o : Nat), (pTk ps o).length = ps.length
  | [], _ => rfl
  | (_, _) :: ps, o => by show (pTk ps _).length + 1 = ps.length + 1; rw [pTk_length ps]
/-- A gap: nothing but gaps, and nothing goes on with its last span. -/
def GapL (g : List UInt8) : Prop := (∀ o, ∀ x ∈ spans g o, gapB x = true) ∧ ∀ o c, cont (lastK (spans g o)) c = false
theorem gapL_nil : GapL [] := ⟨fun o x hx => (by rw [spans_nil] at hx; cases hx), fun o c => by rw [spans_nil, lastK_nil]; exact cont_other (by decide) (by decide) (by decide) c⟩
theorem spans_single (c : UInt8) (o : Nat) : spans [c] o = [⟨o, cls c, [c]⟩] := spans_one c [] o (by simp)
theorem gapL_blank {c : UInt8} (h : cls c = 1) : GapL [c] := by
  refine ⟨fun o x hx => ?_, fun o d => ?_⟩
  · rw [spans_single] at hx
    obtain rfl := List.mem_singleton.1 hx
    simp [gapB, h]
  · rw [spans_single, lastK_one, show (⟨o, cls c, [c]⟩ : Sp).k = 1 from h]
    exact cont_other (by decide) (by decide) (by decide) d
/-- Each word is one, the gaps are gaps, and no word goes on behind. -/
def PsOk : Pcs → Prop
  | [] => True
  | (x, g) :: ps => x.ok ∧ GapL g ∧ (x = .semi ∨ ∀ c, (g ++ flat ps).head? = some c → cls c ≠ 3 ∧ cls c ≠ 4 ∧ c ≠ 95) ∧ PsOk ps
theorem cont_low {k : Int} (h : k = 3 ∨ k = 4) {c : UInt8} (hc : cls c ≠ 3 ∧ cls c ≠ 4 ∧ c ≠ 95) : cont k c = false := by
  rcases h with rfl | rfl
  · rw [cont_three]; unfold pName
    have h1 := hc.1; have h2 := hc.2.1
    unfold cls at h1 h2
    simp only [decide_eq_false_iff_not, not_or]
    refine ⟨h1, h2, fun e => hc.2.2 ?_⟩
    have : c.toNat = 95 := by exact_mod_cast e
    exact UInt8.toNat_inj.1 this
  · rw [cont_four]; unfold pDigit
    have h2 := hc.2.1
    unfold cls at h2
    simpa using h2
theorem flat_spans : ∀ (ps : Pcs) (o : Nat), PsOk ps → (∀ y ∈ spans (flat ps) o, goodB y) ∧ toks (spans (flat ps) o) = pTk ps o
  | [], o, _ => by
    show (∀ y ∈ spans [] o, goodB y) ∧ toks (spans [] o) = []
    rw [spans_nil]; exact ⟨by simp, rfl⟩
  | (x, g) :: ps, o, h => by
    obtain ⟨h1, h2, h3, h4⟩ := h
    obtain ⟨c, a, e1, e2, e3, e4⟩ := Wd.span h1
    have hcut : CutOk (cls c) (g ++ flat ps) := by
      intro d hd
      rcases h3 with h3 | h3
      · subst h3
        have : c = 59 := by have := e1; simp [Wd.txt] at this; exact this.1.symm
        subst this
        exact cont_other (by decide) (by decide) (by decide) d
      · have hd' := h3 d hd
        rcases e3 with e3 | e3 | e3
        · rw [e3]; exact cont_low (.inl rfl) hd'
        · rw [e3]; exact cont_low (.inr rfl) hd'
        · rw [e3]; exact cont_other (by decide) (by decide) (by decide) d
    rw [flat_cons, e1, List.cons_append, spans_head c a (g ++ flat ps) o e2 hcut, spans_append g (flat ps) _ (fun d _ => h2.2 _ d)]
    have hlen : o + 1 + a.length + g.length = o + x.txt.length + g.length := by rw [e1]; simp only [List.length_cons]; omega
    obtain ⟨i1, i2⟩ := flat_spans ps (o + 1 + a.length + g.length) h4
    have hg := h2.1 (o + 1 + a.length)
    have ht : tokOf (cls c) (c :: a) o = .ok (x.tk o) := by rw [← e1]; exact e4 o
    have hgap : gapB ⟨o, cls c, c :: a⟩ = false := by
      unfold gapB
      rcases e3 with e3 | e3 | e3 <;> simp [e3]
    refine ⟨fun y hy => ?_, ?_⟩
    · rcases List.mem_cons.1 hy with rfl | hy
      · exact .inr ⟨by rcases e3 with e3 | e3 | e3 <;> simp [e3], _, ht⟩
      · rcases List.mem_append.1 hy with hy | hy
        · exact .inl (hg y hy)
        · exact i1 y hy
    · rw [toks_cons, toks_append, i2, toks_tok hgap ht]
      have hz : toks (spans g (o + 1 + a.length)) = [] := by
        unfold toks
        rw [List.filterMap_eq_nil_iff]
        intro y hy
        simp [tokB, hg y hy]
      rw [hz, hlen]; rfl
theorem flat_lex {ps : Pcs} (h : PsOk ps) (hl : (flat ps).length ≤ 8000) (hc : ps.length ≤ 2000) : Lx.lex (flat ps) = .ok (pTk ps 0) := by
  obtain ⟨h1, h2⟩ := flat_spans ps 0 h
  unfold Lx.lex
  rw [if_neg (by omega)]
  exact (procF_ok_iff _ _).2 ⟨h1, h2.symm, by rw [h2, pTk_length]; exact hc⟩
theorem flat_lex_ok {ps : Pcs} (h : PsOk ps) {ts : List Tk} (hl : Lx.lex (flat ps) = .ok ts) : (flat ps).length ≤ 8000 ∧ ps.length ≤ 2000 ∧ ts = pTk ps 0 := by
  obtain ⟨h1, h2⟩ := flat_spans ps 0 h
  unfold Lx.lex at hl
  split at hl
  · cases hl
  · rename_i h8
    obtain ⟨a, b, c⟩ := (procF_ok_iff _ _).1 hl
    rw [h2, pTk_length] at c
    exact ⟨by omega, c, by rw [b, h2]⟩
end Go.Proofs.YtdedlchpjboceaaDoor.Qz
end

section
namespace Go.Proofs.YtdedlchpjboceaaDoor.Qz
open Go.RowKit Go.Proofs.YtdedlchpjboceaaDoorW.PrintWords Go.Proofs.YtdedlchpjboceaaDoorW.PrintLast Go.Proofs.YtdedlchpjboceaaDoor.Lx Go.Proofs.YtdedlchpjboceaaDoor.Px Go.Proofs.YtdedlchpjboceaaDoor.Tx
/-- Words of a form: key words, the name, a number, a drift. -/
inductive Fw where
  | K (t : List UInt8)
  | N
  | H
  | D
def formsW : List (List Fw) := [
  [],
  [.K [109, 101, 115, 104], .K [100, 97, 116, 97], .H, .K [114, 97, 110, 103, 101], .H],
  [.K [114, 111, 111, 116], .N, .K [97, 116], .H, .H],
  [.K [110, 111, 100, 101], .N, .K [97, 116], .H, .H, .D, .K [98, 97, 116, 116, 101, 114, 121], .H],
  [.K [97, 116], .H, .K [109, 111, 118, 101], .N, .H, .H],
  [.K [97, 116], .H, .K [102, 97, 105, 108], .N],
  [.K [97, 116], .H, .K [115, 116, 97, 114, 116], .N],
  [.K [97, 116], .H, .K [114, 101, 97, 100], .N, .H],
  [.K [97, 116], .H, .K [106, 97, 109], .H, .H, .K [114, 97, 100, 105, 117, 115], .H, .K [99, 104, 97, 110, 110, 101, 108], .H, .K [102, 111, 114], .H],
  [.K [97, 116], .H, .K [114, 101, 112, 108, 97, 121], .H, .K [97, 116], .H, .H],
  [.K [97, 116], .H, .K [112, 114, 111, 103, 114, 97, 109], .H, .K [115, 105, 122, 101], .H],
  [.K [114, 117, 110], .H]]
def formW (k : Int) : List Fw := formsW.getD k.toNat []
/-- The words of a command, without the semicolon. -/
def wds : List Fw → List UInt8 → List Int → List Wd
  | [], _, _ => []
  | .K t :: r, nm, ns => .nm t :: wds r nm ns
  | .N :: r, nm, ns => .nm nm :: wds r nm ns
  | .H :: r, nm, ns => .num (absI (ns.headD 0)).toNat :: wds r nm ns.tail
  | .D :: r, nm, ns => .nm (if ns.headD 0 < 0 then [115, 108, 111, 119] else [102, 97, 115, 116]) :: .num (absI (ns.headD 0)).toNat :: wds r nm ns.tail
/-- The words with their gaps: a blank between two, a line feed at the end. -/
def gapped : List Wd → Pcs
  | [] => [(.semi, [10])]
  | [x] => [(x, []), (.semi, [10])]
  | x :: y :: r => (x, [32]) :: gapped (y :: r)
def cWds (c : Cmd) : List Wd := wds (formW c.f0) c.f1.data.toList c.f2
def cPs (c : Cmd) : Pcs := gapped (cWds c)
theorem kinds {k : Int} (h1 : 1 ≤ k) (h2 : k ≤ 11) : k = 1 ∨ k = 2 ∨ k = 3 ∨ k = 4 ∨ k = 5 ∨ k = 6 ∨ k = 7 ∨ k = 8 ∨ k = 9 ∨ k = 10 ∨ k = 11 := by omega
theorem len1 {l : List Int} (h : (l.length : Int) = 1) : ∃ a, l = [a] := by
  match l, h with
  | [a], _ => exact ⟨a, rfl⟩
  | [], h => simp at h
  | _ :: _ :: _, h => simp at h; omega
theorem len2 {l : List Int} (h : (l.length : Int) = 2) : ∃ a b, l = [a, b] := by
  match l, h with
  | [a, b], _ => exact ⟨a, b, rfl⟩
  | [], h => simp at h
  | [_], h => simp at h
  | _ :: _ :: _ :: _, h => simp at h; omega
theorem len3 {l : List Int} (h : (l.length : Int) = 3) : ∃ a b c, l = [a, b, c] := by
  match l, h with
  | a :: l, h => obtain ⟨b, c, rfl⟩ := len2 (l := l) (by simp at h; omega); exact ⟨a, b, c, rfl⟩
  | [], h => simp at h
theorem len4 {l : List Int} (h : (l.length : Int) = 4) : ∃ a b c d, l = [a, b, c, d] := by
  match l, h with
  | a :: l, h => obtain ⟨b, c, d, rfl⟩ := len3 (l := l) (by simp at h; omega); exact ⟨a, b, c, d, rfl⟩
  | [], h => simp at h
theorem len6 {l : List Int} (h : (l.length : Int) = 6) : ∃ a b c d e f, l = [a, b, c, d, e, f] := by
  match l, h with
  | a :: b :: l, h => obtain ⟨c, d, e, f, rfl⟩ := len4 (l := l) (by simp at h; omega); exact ⟨a, b, c, d, e, f, rfl⟩
  | [], h => simp at h
  | [_], h => simp at h
theorem itoa_dec {n : Int} : Lib.itoa (absI n) = Lib.decDigits (absI n).toNat := by
  conv => lhs; rw [absI_nat n]
  exact itoa_nat _
/-- A line is the text of its words. -/
theorem line_flat {c : Cmd} (h : cB c = true) : lineT c ++ [59, 10] = flat (cPs c) := by
  obtain ⟨h1, h2, h3, _, _⟩ := valid_kind h
  obtain ⟨k, nm, ns, at_⟩ := c
  simp only at h1 h2 h3
  unfold lineT cPs cWds
  simp only
  generalize nm.data.toList = nm
  clear h
  rcases kinds h1 h2 with rfl | rfl | rfl | rfl | rfl | rfl | rfl | rfl | rfl | rfl | rfl
  · obtain ⟨a, b, rfl⟩ := len2 h3
    simp [formB, formsL, formW, formsW, rend, wds, gapped, flat, Wd.txt, itoa_dec]
  · obtain ⟨a, b, rfl⟩ := len2 h3
    simp [formB, formsL, formW, formsW, rend, wds, gapped, flat, Wd.txt, itoa_dec]
  · obtain ⟨a, b, c, d, rfl⟩ := len4 h3
    by_cases hc : c < 0 <;> simp [formB, formsL, formW, formsW, rend, wds, gapped, flat, Wd.txt, itoa_dec, slowW, fastW, hc]
  · obtain ⟨a, b, c, rfl⟩ := len3 h3
    simp [formB, formsL, formW, formsW, rend, wds, gapped, flat, Wd.txt, itoa_dec]
  · obtain ⟨a, rfl⟩ := len1 h3
    simp [formB, formsL, formW, formsW, rend, wds, gapped, flat, Wd.txt, itoa_dec]
  · obtain ⟨a, rfl⟩ := len1 h3
    simp [formB, formsL, formW, formsW, rend, wds, gapped, flat, Wd.txt, itoa_dec]
  · obtain ⟨a, b, rfl⟩ := len2 h3
    simp [formB, formsL, formW, formsW, rend, wds, gapped, flat, Wd.txt, itoa_dec]
  · obtain ⟨a, b, c, d, e, f, rfl⟩ := len6 h3
    simp [formB, formsL, formW, formsW, rend, wds, gapped, flat, Wd.txt, itoa_dec]
  · obtain ⟨a, b, c, d, rfl⟩ := len4 h3
    simp [formB, formsL, formW, formsW, rend, wds, gapped, flat, Wd.txt, itoa_dec]
  · obtain ⟨a, b, c, rfl⟩ := len3 h3
    simp [formB, formsL, formW, formsW, rend, wds, gapped, flat, Wd.txt, itoa_dec]
  · obtain ⟨a, rfl⟩ := len1 h3
    simp [formB, formsL, formW, formsW, rend, wds, gapped, flat, Wd.txt, itoa_dec]
theorem chk_name : ∀ {f : Bool} {l : List UInt8}, chk f l = true → (∀ c, l.head? = some c → f = true → cls c = 3) ∧ ∀ y ∈ (if f then l.tail else l), cont 3 y = true
  | f, [], _ => ⟨by simp, by cases f <;> simp⟩
  | f, c :: t, h => by
    have h' : (nameC f c.toNat && chk false t) = true := h
    rw [Bool.and_eq_true] at h'
    obtain ⟨h1, h2⟩ := h'
    have ih := (chk_name h2).2
    simp only [Bool.false_eq_true, if_false] at ih
    refine ⟨?_, ?_⟩
    · intro d hd hf
      have : c = d := by simpa using hd
      subst this
      subst hf
      unfold nameC at h1
      simp at h1
      unfold cls clsI
      rw [if_neg (by omega), if_neg (by omega), if_pos (by omega)]
    · cases f with
      | true => simpa using ih
      | false =>
        intro y hy
        simp only [Bool.false_eq_true, if_false] at hy
        rcases List.mem_cons.1 hy with rfl | hy
        · unfold nameC at h1
          rw [cont_three]; unfold pName clsI
          simp at h1
          simp only [decide_eq_true_eq]
          rcases h1 with h1 | h1 | h1
          · left; rw [if_neg (by omega), if_neg (by omega), if_pos (by omega)]
          · right; right; omega
          · right; left; rw [if_neg (by omega), if_neg (by omega), if_neg (by omega), if_pos (by omega)]
        · exact ih y hy
theorem nameW_of {t : List UInt8} (h : nameB t = true) : nameW t := by
  unfold nameB at h
  simp only [Bool.and_eq_true, decide_eq_true_eq] at h
  obtain ⟨⟨⟨h1, h2⟩, _⟩, h4⟩ := h
  refine ⟨h2, ?_⟩
  cases t with
  | nil => simp at h1
  | cons c a =>
    obtain ⟨g1, g2⟩ := chk_name h4
    exact ⟨c, a, rfl, g1 c rfl rfl, by simpa using g2⟩
theorem absI_toNat {n : Int} (h1 : -1000000000 ≤ n) (h2 : n ≤ 1000000000) : (absI n).toNat ≤ 1000000000 := by have := absI_le h1 h2; omega
def fwOk : Fw → Prop
  | .K t => nameW t
  | _ => True
theorem wds_ok : ∀ (fs : List Fw) (nm : List UInt8) (ns : List Int), (∀ f ∈ fs, fwOk f) → (.N ∈ fs → nameW nm) → (∀ n ∈ ns, -1000000000 ≤ n ∧ n ≤ 1000000000) → ∀ x ∈ wds fs nm ns, x.ok
  | [], _, _, _, _, _, x, hx => by cases hx
  | f :: r, nm, ns, h1, h2, h3, x, hx => by
    have ih := fun ns' hns => wds_ok r nm ns' (fun g hg => h1 g (List.mem_cons_of_mem _ hg)) (fun hN => h2 (List.mem_cons_of_mem _ hN)) hns
    have hh : -1000000000 ≤ ns.headD 0 ∧ ns.headD 0 ≤ 1000000000 := by
      cases ns with
      | nil => simp
      | cons n ns => exact h3 n (by simp)
    have ht : ∀ n ∈ ns.tail, -1000000000 ≤ n ∧ n ≤ 1000000000 := fun n hn => h3 n (List.mem_of_mem_tail hn)
    cases f with
    | K t =>
      rcases List.mem_cons.1 hx with rfl | hx
      · exact h1 (.K t) (by simp)
      · exact ih ns h3 x hx
    | N =>
      rcases List.mem_cons.1 hx with rfl | hx
      · exact h2 (by simp)
      · exact ih ns h3 x hx
    | H =>
      rcases List.mem_cons.1 hx with rfl | hx
      · exact absI_toNat hh.1 hh.2
      · exact ih ns.tail ht x hx
    | D =>
      rcases List.mem_cons.1 hx with rfl | hx
      · show nameW _
        split
        · exact ⟨by decide, 115, [108, 111, 119], rfl, by decide, by decide⟩
        · exact ⟨by decide, 102, [97, 115, 116], rfl, by decide, by decide⟩
      · rcases List.mem_cons.1 hx with rfl | hx
        · exact absI_toNat hh.1 hh.2
        · exact ih ns.tail ht x hx
end Go.Proofs.YtdedlchpjboceaaDoor.Qz
end

section
namespace Go.Proofs.YtdedlchpjboceaaDoor.Qz
open Go.RowKit Go.Proofs.YtdedlchpjboceaaDoorW.PrintWords Go.Proofs.YtdedlchpjboceaaDoorW.PrintLast Go.Proofs.YtdedlchpjboceaaDoor.Lx Go.Proofs.YtdedlchpjboceaaDoor.Px Go.Proofs.YtdedlchpjboceaaDoor.Tx
theorem gapped_ok : ∀ (ws : List Wd), (∀ x ∈ ws, x.ok) → ∀ rest, PsOk rest → PsOk (gapped ws ++ rest)
  | [], _, rest, hr => ⟨trivial, gapL_blank (by decide), .inl rfl, hr⟩
  | [x], h, rest, hr => ⟨h x (by simp), gapL_nil, .inr (fun c hc => by
      have : (59 : UInt8) = c := by simpa [flat_cons, Wd.txt] using hc
      subst this; decide), trivial, gapL_blank (by decide), .inl rfl, hr⟩
  | x :: y :: r, h, rest, hr => ⟨h x (by simp), gapL_blank (by decide), .inr (fun c hc => by
      have : (32 : UInt8) = c := by simpa using hc
      subst this; decide), gapped_ok (y :: r) (fun z hz => h z (List.mem_cons_of_mem _ hz)) rest hr⟩
theorem forms_ok {k : Int} (h1 : 1 ≤ k) (h2 : k ≤ 11) : ∀ f ∈ formW k, fwOk f := by
  have hn : ∀ t : List UInt8, (decide (t.length ≤ 12) && (match t with | [] => false | c :: a => decide (cls c = 3) && a.all (cont 3))) = true → nameW t := by
    intro t ht
    rw [Bool.and_eq_true, decide_eq_true_eq] at ht
    refine ⟨ht.1, ?_⟩
    cases t with
    | nil => cases ht.2
    | cons c a =>
      have h3 := ht.2
      rw [Bool.and_eq_true, decide_eq_true_eq, List.all_eq_true] at h3
      exact ⟨c, a, rfl, h3.1, h3.2⟩
  intro f hf
  cases f with
  | K t =>
    refine hn t ?_
    have : ∀ k : Nat, 1 ≤ k → k ≤ 11 → ∀ t, Fw.K t ∈ formsW.getD k [] → (decide (t.length ≤ 12) && (match t with | [] => false | c :: a => decide (cls c = 3) && a.all (cont 3))) = true := by
      intro k h1 h2 t ht
      rcases (by omega : k = 1 ∨ k = 2 ∨ k = 3 ∨ k = 4 ∨ k = 5 ∨ k = 6 ∨ k = 7 ∨ k = 8 ∨ k = 9 ∨ k = 10 ∨ k = 11) with rfl | rfl | rfl | rfl | rfl | rfl | rfl | rfl | rfl | rfl | rfl <;>
        simp [formsW] at ht <;> (repeat' (first | (rcases ht with rfl | ht) | subst ht)) <;> decide
    exact this k.toNat (by omega) (by omega) t hf
  | N => trivial
  | H => trivial
  | D => trivial
theorem forms_name {k : Int} (h1 : 1 ≤ k) (h2 : k ≤ 11) (hN : Fw.N ∈ formW k) : (shp k).1 = true := by
  rcases kinds h1 h2 with rfl | rfl | rfl | rfl | rfl | rfl | rfl | rfl | rfl | rfl | rfl <;> first | rfl | (simp [formW, formsW] at hN)
theorem cmdB_parts {c : Cmd} (h : cB c = true) : ((shp c.f0).1 = decide (c.f1.data.toList ≠ [])) ∧ ((shp c.f0).1 = true → nameB c.f1.data.toList = true) ∧ numsB c.f0 0 c.f2 = true := by
  unfold cB cmdB at h
  simp only [Bool.and_eq_true] at h
  obtain ⟨⟨⟨_, h2⟩, h3⟩, h4⟩ := h
  refine ⟨by simpa using h2, fun hs => ?_, h4⟩
  rw [hs] at h3
  simpa using h3
theorem cWds_ok {c : Cmd} (h : cB c = true) : ∀ x ∈ cWds c, x.ok := by
  obtain ⟨h1, h2, _, _, h5⟩ := valid_kind h
  exact wds_ok _ _ _ (forms_ok h1 h2) (fun hN => nameW_of ((cmdB_parts h).2.1 (forms_name h1 h2 hN))) h5
def lPs (l : List Cmd) : Pcs := l.flatMap cPs
theorem lPs_cons (c : Cmd) (l : List Cmd) : lPs (c :: l) = cPs c ++ lPs l := rfl
theorem lPs_ok : ∀ {l : List Cmd}, (∀ c ∈ l, cB c = true) → PsOk (lPs l)
  | [], _ => trivial
  | c :: l, h => gapped_ok _ (cWds_ok (h c (by simp))) _ (lPs_ok (fun d hd => h d (List.mem_cons_of_mem _ hd)))
theorem printB_flat : ∀ {l : List Cmd}, (∀ c ∈ l, cB c = true) → printB l = flat (lPs l)
  | [], _ => rfl
  | c :: l, h => by
    have h1 := line_flat (h c (by simp))
    have h2 := printB_flat (l := l) (fun d hd => h d (List.mem_cons_of_mem _ hd))
    show (lineT c ++ [59, 10]) ++ printB l = _
    rw [h1, h2, lPs_cons, flat_append]
/-- What Print answers, by the limits. -/
theorem print_cases (l : List Cmd) : (validB l = false ∧ printR l = (⟨#[]⟩, 1)) ∨
    (validB l = true ∧ (printB l).length ≤ 8000 ∧ (lPs l).length ≤ 2000 ∧ printR l = (⟨(printB l).toArray⟩, 0) ∧ Lx.lex (printB l) = .ok (pTk (lPs l) 0)) ∨
    (validB l = true ∧ ¬ ((printB l).length ≤ 8000 ∧ (lPs l).length ≤ 2000) ∧ printR l = (⟨#[]⟩, 2)) := by
  by_cases hv : validB l = true
  · have hva := (validB_mem hv).2
    have hok := lPs_ok hva
    by_cases hl : (printB l).length ≤ 8000 ∧ (lPs l).length ≤ 2000
    · have hlex : Lx.lex (printB l) = .ok (pTk (lPs l) 0) := by
        have h1 := hl.1
        rw [printB_flat hva] at h1 ⊢
        exact flat_lex hok h1 hl.2
      refine .inr (.inl ⟨hv, hl.1, hl.2, ?_, hlex⟩)
      unfold printR
      rw [if_pos hv, hlex]
    · refine .inr (.inr ⟨hv, hl, ?_⟩)
      unfold printR
      rw [if_pos hv]
      cases hlex : Lx.lex (printB l) with
      | error e => rfl
      | ok ts =>
        rw [printB_flat hva] at hlex
        obtain ⟨h1, h2, _⟩ := flat_lex_ok hok hlex
        rw [← printB_flat hva] at h1
        exact absurd ⟨h1, h2⟩ hl
  · exact .inl ⟨by simpa using hv, by unfold printR; rw [if_neg hv]⟩
end Go.Proofs.YtdedlchpjboceaaDoor.Qz
end
