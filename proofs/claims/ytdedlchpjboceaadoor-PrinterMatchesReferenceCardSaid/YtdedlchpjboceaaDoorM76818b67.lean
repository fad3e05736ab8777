/- Texts of proofs: plain words, and walks through the program's functions. -/
import Derived.Test.YtdedlchpjboceaaDoorM5c4508d8
import Derived.Deep.Slices
import Derived.Deep.Fields
import Derived.ChangeSame
import Derived.ChangeSlices

section
namespace Go.Proofs.YtdedlchpjboceaaDoor.Qr
open Go.ChangeShapes Go.WideShapes Go.RowKit Go.Deep Go.Proofs.YtdedlchpjboceaaDoor.Px Go.Proofs.YtdedlchpjboceaaDoorW.PrintWords Go.Proofs.YtdedlchpjboceaaDoorW.PrintLast Go.Proofs.YtdedlchpjboceaaDoorW.PrintMore
section
variable {H : Type} {enc : TypeId × Value → H} {w : World} {base : Nat} {held : Bool}
theorem ints_read {fuel : Nat} {v : Value} {x : DataW H × List MemPlace} (h : DataW.trod enc Tryd.prog w base (fun _ => true) held fuel 38 [v] = some x) :
    ∃ a l c, v = .slice a l.length c ∧ l.length ≤ c ∧ (Kd.int .i64).C w a l.length l := by
  rcases open_ints Tryd.underlying38 Tryd.underlying3 (by kernel_rfl) h with ⟨hcs, _⟩ | ⟨a, len, cap, zs, hcs, _, hl, hm, hz, _, hcell, hwf⟩
  · obtain rfl : v = .slice none 0 0 := by simpa using hcs
    exact ⟨none, [], 0, rfl, Nat.le_refl _, Kd.C_nil _ _⟩
  · obtain rfl : v = .slice (some a) len cap := by simpa using hcs
    obtain ⟨l, rfl, hr, _, _, hc⟩ := ReadsInt.ofRowC (w := w) (k := .i64) (a := some a) (len := len) (cap := cap) (zs := zs) (.inr ⟨a, rfl, hl, hm, by simpa using hz, hcell, hwf⟩)
    exact ⟨some a, l, cap, rfl, hc, Kd.C_of_reads (d := (0 : Int)) (h1 := fun _ => rfl) hr⟩
set_option maxRecDepth 100000 in
theorem elem_read {n : Nat} {cs : List Value} {x : DataW H × List MemPlace} (h : DataW.trod enc Tryd.prog w base (fun _ => true) held n 40 cs = some x) : ∃ c : Cmd, kC.K w c cs := by
  obtain ⟨xs, n', _, _, hlen, hxl, hf⟩ := DataW.trod_struct Tryd.underlying40 h
  have hl4 : cs.length = 4 := hlen.trans (by kernel_rfl)
  match cs, hl4 with
  | [v0, v1, v2, v3], _ =>
    match xs, hxl with
    | [y0, y1, y2, y3], _ =>
      have h0 : DataW.trod enc Tryd.prog w base (fun _ => true) held n' 3 [v0] = some y0 := (by simpa [show Tryd.prog.cellsOf 3 = 1 by kernel_rfl] using hf 0 _ rfl)
      have h1 : DataW.trod enc Tryd.prog w base (fun _ => true) held n' 9 [v1] = some y1 := (by simpa [show Tryd.prog.cellsOf 9 = 1 by kernel_rfl] using hf 1 _ rfl)
      have h2 : DataW.trod enc Tryd.prog w base (fun _ => true) held n' 38 [v2] = some y2 := (by simpa [show Tryd.prog.cellsOf 38 = 1 by kernel_rfl] using hf 2 _ rfl)
      have h3 : DataW.trod enc Tryd.prog w base (fun _ => true) held n' 3 [v3] = some y3 := (by simpa [show Tryd.prog.cellsOf 3 = 1 by kernel_rfl] using hf 3 _ rfl)
      obtain ⟨k, e0, _⟩ := DataW.trod_int Tryd.underlying3 h0
      obtain ⟨s, e1, _⟩ := DataW.trod_string Tryd.underlying9 h1
      obtain ⟨a, l, c, rfl, hlc, hC⟩ := ints_read h2
      obtain ⟨q, e3, _⟩ := DataW.trod_int Tryd.underlying3 h3
      obtain rfl : v0 = .int .i64 k := by simpa using e0
      obtain rfl : v1 = .string s := by simpa using e1
      obtain rfl : v3 = .int .i64 q := by simpa using e3
      exact ⟨⟨k, s, l, q⟩, kC_mk w ⟨k, s, l, q⟩ hlc hC⟩
theorem list_of {α : Type} [Inhabited α] {P : Nat → α → Prop} : ∀ n : Nat, (∀ i, i < n → ∃ x, P i x) → ∃ l : List α, l.length = n ∧ ∀ i x, l[i]? = some x → P i x
  | 0, _ => ⟨[], rfl, fun i x h => by simp at h⟩
  | n + 1, h => by
    obtain ⟨l, hl, hp⟩ := list_of n (fun i hi => h i (by omega))
    obtain ⟨x, hx⟩ := h n (by omega)
    refine ⟨l ++ [x], by simp [hl], fun i y hy => ?_⟩
    rcases Nat.lt_or_ge i l.length with hi | hi
    · rw [List.getElem?_append_left hi] at hy; exact hp i y hy
    · have hi' : i = l.length := by
        have := (List.getElem?_eq_some_iff.1 hy).1
        rw [List.length_append, List.length_singleton] at this
        omega
      subst hi'
      have : x = y := by simpa using hy
      subst this
      rw [hl]; exact hx
instance : Inhabited Cmd := ⟨zC⟩
set_option maxRecDepth 100000 in
theorem cmds_read {fuel : Nat} {a : Option Addr} {len cap : Nat} {x : DataW H × List MemPlace} (h : DataW.trod enc Tryd.prog w base (fun _ => true) held fuel 25 [.slice a len cap] = some x) :
    ∃ l : List Cmd, len = l.length ∧ l.length ≤ cap ∧ Kd.C kC w a l.length l := by
  rcases open_slice Tryd.underlying25 h with ⟨hcs, _⟩ | ⟨a', len', cap', m, n, D, Pl, hcs, hb, hl, hm, hmm, hx, hi⟩
  · have hcs' : Value.slice a len cap = .slice none 0 0 := by simpa using hcs
    injection hcs' with e1 e2 e3
    subst e1; subst e2; subst e3
    exact ⟨[], rfl, Nat.le_refl _, Kd.C_nil _ _⟩
  · have hcs' : Value.slice a len cap = .slice (some a') len' cap' := by simpa using hcs
    injection hcs' with e1 e2 e3
    subst e1; subst e2; subst e3
    have hcz : Tryd.prog.cellsOf 40 = 4 := by kernel_rfl
    have hm' : m = cap := by simpa using hmm
    obtain ⟨l, hll, hp⟩ := list_of (P := fun i (c : Cmd) => ∃ cs, cs.length = 4 ∧ kC.K w c cs ∧ ∀ j u, cs[j]? = some u → w.cell? (a'.add (i * 4 + j)) = some u) len (fun i hlt => by
      obtain ⟨cs, hc, ht⟩ := hi i (by omega)
      obtain ⟨c, hk⟩ := elem_read ht
      obtain ⟨_, hcl, hat⟩ := World.cells?_some hc
      rw [hcz] at hcl hat
      refine ⟨c, cs, hcl, hk, fun j u hj => ?_⟩
      have hj4 : j < 4 := by have := (List.getElem?_eq_some_iff.1 hj).1; omega
      rw [← Go.Deep.add_add, hat j hj4, hj])
    subst hll
    refine ⟨l, rfl, hl, rfl, by unfold maxLen at hm; omega, fun _ => ⟨a', rfl, fun j p hj => ?_⟩⟩
    obtain ⟨cs, h1, h2, h3⟩ := hp j p hj
    exact ⟨cs, h1, h2, h3⟩
end
end Go.Proofs.YtdedlchpjboceaaDoor.Qr
end
