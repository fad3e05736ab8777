/- Texts of proofs: plain words, and walks through the program's functions. -/
import Derived.Test.YtdedlchpjboceaaDoorM1e215e0c
import Derived.Test.YtdedlchpjboceaaDoorM8721c24a

section
namespace Go.Proofs.YtdedlchpjboceaaDoor.Qy
open Go.RowKit Go.Proofs.YtdedlchpjboceaaDoorW.PrintWords Go.Proofs.YtdedlchpjboceaaDoorW.PrintLast
section
variable {α β : Type}
theorem evPos {c : Prop} [Decidable c] {f g : Nat → Option α} {r : α} (h : c) (e : Ev f r) : Ev (fun k => if c then f k else g k) r := Ev.congr (fun _ => if_pos h) e
theorem evNeg {c : Prop} [Decidable c] {f g : Nat → Option α} {r : α} (h : ¬ c) (e : Ev g r) : Ev (fun k => if c then f k else g k) r := Ev.congr (fun _ => if_neg h) e
theorem evBind {o : Option α} {a : α} {f : Nat → α → Option β} {r : β} (h : o = some a) (e : Ev (fun k => f k a) r) : Ev (fun k => o.bind (f k)) r := Ev.congr (fun k => by rw [h]; rfl) e
theorem evEq {f : Nat → Option α} {r r' : α} (e : Ev f r) (h : r = r') : Ev f r' := h ▸ e
end
theorem w64 {x : Int} (h0 : -9223372036854775808 ≤ x) (h1 : x ≤ 9223372036854775807) : wrap64 x = x := by unfold wrap64; omega
theorem rd_int (l : List Int) (j : Nat) (h : j < l.length) : rd l (j : Int) = l[j] := by
  unfold rd
  rw [Int.toNat_natCast, List.getD_eq_getElem?_getD, List.getElem?_eq_getElem h]; rfl
/-- An answer that has come stays. -/
theorem evK {α : Type} {g : Nat → Option α} {r : α} (m : ∀ k, LeO (g k) (g (k + 1))) (k : Nat) (h : g k = some r) : Ev g r := Ev.of m h
end Go.Proofs.YtdedlchpjboceaaDoor.Qy
end
