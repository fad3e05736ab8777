/- Texts of proofs: plain words, and walks through the program's functions. -/
import Derived.Test.YtdedlchpjboceaaDoorM9a4a6bc5
import Derived.Test.YtdedlchpjboceaaDoorM26dd341a
import Derived.Test.YtdedlchpjboceaaDoorMab3d70e2

section
namespace Go.Proofs.YtdedlchpjboceaaDoor.Qz
open Go Go.Proofs.YtdedlchpjboceaaDoor.Lx Go.Proofs.YtdedlchpjboceaaDoor.Px
/-- A token without its offset. -/
def bareT (t : Tok) : Int × ByteArray × Int := (t.f0, t.f1, t.f2)
/-- Tokens as the lexer makes them, as far as it matters here: a number has no text. -/
def TokN (t : Tok) : Prop := t.f0 = 2 → t.f1 = ⟨#[]⟩
def AllN (l : List Tok) : Prop := ∀ t ∈ l, TokN t
def SemiFree (p : List Tok) : Prop := ∀ t ∈ p, semiB t = false
theorem SemiFree.append {p q : List Tok} (h : SemiFree p) (k : SemiFree q) : SemiFree (p ++ q) := fun t ht => by
  rcases List.mem_append.1 ht with ht | ht
  · exact h t ht
  · exact k t ht
theorem AllN.tail {l : List Tok} (h : AllN l) : AllN l.tail := fun t ht => h t (List.mem_of_mem_tail ht)
theorem AllN.right {p l : List Tok} (h : AllN (p ++ l)) : AllN l := fun t ht => h t (List.mem_append_right _ ht)
/-- One segment, read. -/
inductive Seg : List Tok → Tok → Except Int Cmd → Prop
  | ok {p : List Tok} {s : Tok} {c : Cmd} : p ≠ [] → c.f3 = (nextT p 0).f3 → (∀ e m, cmdR e (p ++ s :: m) = .ok (m, c)) → Seg p s (.ok c)
  | er {q l : List Tok} {t s : Tok} {p : List Tok} : p ++ [s] = q ++ t :: l → (∀ e m, cmdR e (p ++ s :: m) = .error (t.f3, t :: (l ++ m))) → Seg p s (.error t.f3)
theorem pLoop_ok {e : Int} {n : Nat} {p : List Tok} {s : Tok} {c : Cmd} (h : Seg p s (.ok c)) (r : List Tok) (o : List Cmd) (d : List Dg) (hd : d.length < 20) : pLoop e (n + 1) (p ++ s :: r) o d = pLoop e n r (o ++ [c]) d := by
  cases h with
  | ok a b h =>
    conv => lhs; unfold pLoop
    rw [if_neg (by simp; omega), h e r]
end Go.Proofs.YtdedlchpjboceaaDoor.Qz
end

section
namespace Go.Proofs.YtdedlchpjboceaaDoor.Qz
open Go.RowKit Go.Proofs.YtdedlchpjboceaaDoorW.PrintWords Go.Proofs.YtdedlchpjboceaaDoorW.PrintLast Go.Proofs.YtdedlchpjboceaaDoor.Lx Go.Proofs.YtdedlchpjboceaaDoor.Px Go.Proofs.YtdedlchpjboceaaDoor.Tx
def Sim (l m : List Tok) : Prop := l.map bareT = m.map bareT
theorem Sim.len {l m : List Tok} (h : Sim l m) : l.length = m.length := by simpa using congrArg List.length h
theorem Sim.tail {l m : List Tok} (h : Sim l m) : Sim l.tail m.tail := by
  unfold Sim at *
  rw [List.map_tail, List.map_tail, h]
theorem Sim.drop {l m : List Tok} (h : Sim l m) (n : Nat) : Sim (l.drop n) (m.drop n) := by
  unfold Sim at *
  rw [List.map_drop, List.map_drop, h]
end Go.Proofs.YtdedlchpjboceaaDoor.Qz
end

section
namespace Go.Proofs.YtdedlchpjboceaaDoor.Qz
open Go.RowKit Go.Proofs.YtdedlchpjboceaaDoorW.PrintWords Go.Proofs.YtdedlchpjboceaaDoorW.PrintLast Go.Proofs.YtdedlchpjboceaaDoor.Lx Go.Proofs.YtdedlchpjboceaaDoor.Px Go.Proofs.YtdedlchpjboceaaDoor.Tx Go.Proofs.YtdedlchpjboceaaDoor.Lr
theorem Sim.append {a b c d : List Tok} (h : Sim a b) (k : Sim c d) : Sim (a ++ c) (b ++ d) := by
  unfold Sim at *
  rw [List.map_append, List.map_append, h, k]
/-- Tokens in order, before the end. -/
def Ord (e : Int) (l : List Tok) : Prop := l.Pairwise (fun a b => a.f3 < b.f3) ∧ ∀ t ∈ l, 0 ≤ t.f3 ∧ t.f3 < e
theorem Ord.right {e : Int} {a b : List Tok} (h : Ord e (a ++ b)) : Ord e b := ⟨(List.pairwise_append.1 h.1).2.1, fun t ht => h.2 t (List.mem_append_right _ ht)⟩
end Go.Proofs.YtdedlchpjboceaaDoor.Qz
end

section
namespace Go.Proofs.YtdedlchpjboceaaDoor.Qz
open Go.RowKit Go.Proofs.YtdedlchpjboceaaDoorW.PrintWords Go.Proofs.YtdedlchpjboceaaDoorW.PrintLast Go.Proofs.YtdedlchpjboceaaDoor.Lx Go.Proofs.YtdedlchpjboceaaDoor.Px Go.Proofs.YtdedlchpjboceaaDoor.Tx Go.Proofs.YtdedlchpjboceaaDoor.Lr
def numOk (n : Int) : Prop := 0 ≤ n ∧ n ≤ 1000000000
def TokV (t : Tok) : Prop := t.f0 = 2 → numOk t.f2
def AllV (l : List Tok) : Prop := ∀ t ∈ l, TokV t
theorem AllV.tail {l : List Tok} (h : AllV l) : AllV l.tail := fun t ht => h t (List.mem_of_mem_tail ht)
/-- The first words of the forms. -/
def firstW (k : Int) : ByteArray := if k = 1 then ⟨#[109, 101, 115, 104]⟩ else if k = 2 then ⟨#[114, 111, 111, 116]⟩ else if k = 3 then ⟨#[110, 111, 100, 101]⟩ else if k = 11 then ⟨#[114, 117, 110]⟩ else atT
end Go.Proofs.YtdedlchpjboceaaDoor.Qz
end
