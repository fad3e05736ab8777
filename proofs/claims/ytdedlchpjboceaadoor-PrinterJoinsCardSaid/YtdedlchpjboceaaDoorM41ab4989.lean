/- Texts of proofs: plain words, and walks through the program's functions. -/
import Derived.Test.YtdedlchpjboceaaDoorM109746e8
import Derived.Test.YtdedlchpjboceaaDoorM77740e46
import Derived.Test.YtdedlchpjboceaaDoorM0ce794f9

section
namespace Go.Proofs.YtdedlchpjboceaaDoor.Qr
open Go.RowKit Go.Proofs.YtdedlchpjboceaaDoorW.PrintWords Go.Proofs.YtdedlchpjboceaaDoorW.PrintLast Go.Proofs.YtdedlchpjboceaaDoorW.PrintMore Go.Proofs.YtdedlchpjboceaaDoor.PE
theorem C_heapS {w W : World} {A : Option Addr} {n : Nat} {xs : List S40} (h : Kd.C k40 w A n xs) (hb : ∀ k, k < w.heap.size → W.heap[k]? = w.heap[k]?) : Kd.C k40 W A n xs := by
  obtain ⟨h1, h2, h3⟩ := h
  refine ⟨h1, h2, fun h0 => ?_⟩
  obtain ⟨ad, e1, h4⟩ := h3 h0
  refine ⟨ad, e1, fun j p hp => ?_⟩
  obtain ⟨c, h5, h6, h7⟩ := h4 j p hp
  obtain ⟨A2, c2, rfl, l2, g2⟩ := k40_open h6
  refine ⟨_, h5, k40_mk W p l2 (Px.C_int_heap g2 hb), fun i u hu => ?_⟩
  have h8 := h7 i u hu
  rw [← h8]
  exact Px.cell_heap (hb _ (World.block_lt_of_cell? w _ h8))
theorem V_of_C {w : World} {A : Option Addr} {c : Nat} {l : List S40} (h : Kd.C k40 w A l.length l) (hc : l.length ≤ c) : Kd.V k40 40 w w.heap.size (fun _ => True) (.slice A l.length c) l :=
  Kd.V_mk hc (fun _ hW => C_heapS h (fun k hk => hW k trivial hk))
end Go.Proofs.YtdedlchpjboceaaDoor.Qr
end
