/- Texts of proofs: plain words, and walks through the program's functions. -/
import Derived.Test.YtdedlchpjboceaaDoorM85362d44
import Derived.Test.YtdedlchpjboceaaDoorM5d8b2e32
import Derived.KernelRfl
import Derived.Test.YtdedlchpjboceaaDoorMdb8406fd

section
namespace Go.Proofs.YtdedlchpjboceaaDoor.Qz
open Go.RowKit Go.Proofs.YtdedlchpjboceaaDoorW.PrintWords Go.Proofs.YtdedlchpjboceaaDoorW.PrintLast Go.Proofs.YtdedlchpjboceaaDoor.Lx Go.Proofs.YtdedlchpjboceaaDoor.Px Go.Proofs.YtdedlchpjboceaaDoor.Tx
/-- Spans, to be reckoned. -/
def spansF : Nat → List UInt8 → Nat → List Sp
  | 0, _, _ => []
  | _ + 1, [], _ => []
  | n + 1, c :: t, o => ⟨o, cls c, c :: t.takeWhile (cont (cls c))⟩ :: spansF n (t.dropWhile (cont (cls c))) (o + 1 + (t.takeWhile (cont (cls c))).length)
theorem spansF_eq (n : Nat) : ∀ (l : List UInt8) (o : Nat), l.length ≤ n → spansF n l o = spans l o := by
  induction n with
  | zero => intro l o h; obtain rfl := List.eq_nil_of_length_eq_zero (Nat.le_zero.1 h); rw [spans_nil]; rfl
  | succ n ih =>
    intro l o h
    cases l with
    | nil => rw [spans_nil]; rfl
    | cons c t =>
      have := dw_le (cont (cls c)) t
      simp only [List.length_cons] at h
      rw [spans_cons]; simp only [spansF]; rw [ih _ _ (by omega)]
def lexF (s : List UInt8) : Except (Int × Nat) (List Tk) := if 8000 < s.length then .error (2, 0) else procF (spansF s.length s 0)
theorem lex_eq (s : List UInt8) : Lx.lex s = lexF s := by unfold Lx.lex lexF; rw [spansF_eq _ _ _ (Nat.le_refl _)]
theorem itoa_nat (u : Nat) : Lib.itoa (u : Int) = Lib.decDigits u := by unfold Lib.itoa; rw [if_neg (by omega)]; simp
/-- What Parse answers, to be reckoned. -/
def parseRF (s : ByteArray) : List Cmd × List Dg :=
  match lexF s.data.toList with
  | .error e => ([], [⟨e.1, (e.2 : Nat)⟩])
  | .ok ts => pEnd (pLoop s.size ts.length (ts.map toTk) [] []).1 (pLoop s.size ts.length (ts.map toTk) [] []).2
theorem parseRF_eq (s : ByteArray) : parseR s = parseRF s := by unfold parseR parseRF; rw [lex_eq]; rfl
end Go.Proofs.YtdedlchpjboceaaDoor.Qz
end

section
namespace Go.Proofs.YtdedlchpjboceaaDoor.Qz
open Go.RowKit Go.Proofs.YtdedlchpjboceaaDoorW.PrintWords Go.Proofs.YtdedlchpjboceaaDoorW.PrintLast Go.Proofs.YtdedlchpjboceaaDoor.Lx Go.Proofs.YtdedlchpjboceaaDoor.Px Go.Proofs.YtdedlchpjboceaaDoor.Tx
theorem val_snoc (l : List UInt8) (c : UInt8) : val (l ++ [c]) = 10 * val l + (c.toNat - 48) := by simp [val]
theorem cls_digit {c : UInt8} (h : 48 ≤ c.toNat ∧ c.toNat ≤ 57) : cls c = 4 := by
  unfold cls clsI
  rw [if_neg (by omega), if_neg (by omega), if_neg (by omega), if_pos (by omega)]
inductive Wd where
  | nm (t : List UInt8)
  | num (u : Nat)
  | semi
def Wd.txt : Wd → List UInt8
  | .nm t => t
  | .num u => Lib.decDigits u
  | .semi => [59]
def nameW (t : List UInt8) : Prop := t.length ≤ 12 ∧ ∃ c a, t = c :: a ∧ cls c = 3 ∧ ∀ y ∈ a, cont 3 y = true
def Wd.ok : Wd → Prop
  | .nm t => nameW t
  | .num u => u ≤ 1000000000
  | .semi => True
end Go.Proofs.YtdedlchpjboceaaDoor.Qz
end

section
namespace Go.Proofs.YtdedlchpjboceaaDoor.Qz
open Go.RowKit Go.Proofs.YtdedlchpjboceaaDoorW.PrintWords Go.Proofs.YtdedlchpjboceaaDoorW.PrintLast Go.Proofs.YtdedlchpjboceaaDoor.Lx Go.Proofs.YtdedlchpjboceaaDoor.Px Go.Proofs.YtdedlchpjboceaaDoor.Tx
theorem kinds {k : Int} (h1 : 1 ≤ k) (h2 : k ≤ 11) : k = 1 ∨ k = 2 ∨ k = 3 ∨ k = 4 ∨ k = 5 ∨ k = 6 ∨ k = 7 ∨ k = 8 ∨ k = 9 ∨ k = 10 ∨ k = 11 := by omega
end Go.Proofs.YtdedlchpjboceaaDoor.Qz
end

section
namespace Go.Proofs.YtdedlchpjboceaaDoor.Qz
open Go.RowKit Go.Proofs.YtdedlchpjboceaaDoorW.PrintWords Go.Proofs.YtdedlchpjboceaaDoorW.PrintLast Go.Proofs.YtdedlchpjboceaaDoor.Lx Go.Proofs.YtdedlchpjboceaaDoor.Px Go.Proofs.YtdedlchpjboceaaDoor.Tx
theorem validB_strip (l : List Cmd) : validB (l.map strip0) = validB l := by
  unfold validB
  rw [List.length_map, List.all_map]
  rfl
end Go.Proofs.YtdedlchpjboceaaDoor.Qz
end
