/- Texts of proofs: plain words, and walks through the program's functions. -/
import Derived.Test.YtdedlchpjboceaaDoorM29e64b73
import Derived.Test.YtdedlchpjboceaaDoorM1e215e0c
import Derived.Maps.AppendAt

section
namespace Go.Proofs.YtdedlchpjboceaaDoor.Px
open Go.RowKit Go.Shelf Go.Proofs.YtdedlchpjboceaaDoor.Lx Go.Proofs.YtdedlchpjboceaaDoorW.PrintWords Go.Proofs.YtdedlchpjboceaaDoorW.PrintLast Go.Proofs.YtdedlchpjboceaaDoorW.PrintMore
attribute [local go_sem] Oper.semAt_some
/-- A command without its offset. -/
def strip0 (c : Cmd) : Cmd := { c with f3 := 0 }
/-- The cells of a row of commands, the first k of which are without their offsets; the numbers are where they were in w. -/
def StripI (w W : World) (g cap : Nat) (l : List Cmd) (k : Nat) : Prop :=
  (∃ cur, W.heap[g]? = some (.cells cur 40 (0, 0)) ∧ cur.size = cap * 4) ∧ ∀ j, (h : j < l.length) → ∃ A2 c2, W.cell? ⟨g, j * 4, none⟩ = some (.int .i64 l[j].f0) ∧ W.cell? ⟨g, j * 4 + 1, none⟩ = some (.string l[j].f1) ∧ W.cell? ⟨g, j * 4 + 2, none⟩ = some (.slice A2 l[j].f2.length c2) ∧
    l[j].f2.length ≤ c2 ∧ (Kd.int .i64).C w A2 l[j].f2.length l[j].f2 ∧ W.cell? ⟨g, j * 4 + 3, none⟩ = some (.int .i64 (if j < k then 0 else l[j].f3))
theorem StripI.step {w W : World} {g cap : Nat} {l : List Cmd} {k : Nat} (h : StripI w W g cap l k) : StripI w (W.setCell ⟨g, k * 4 + 3, none⟩ (.int .i64 0)) g cap l (k + 1) := by
  obtain ⟨⟨cur, hb, hs⟩, hc⟩ := h
  refine ⟨⟨_, blk_set hb _ _, by simpa using hs⟩, fun j hj => ?_⟩
  obtain ⟨A2, c2, h0, h1, h2, h3, h4, h5⟩ := hc j hj
  have hne : ∀ i, i ≠ k * 4 + 3 → (⟨g, k * 4 + 3, none⟩ : Addr) ≠ ⟨g, i, none⟩ := fun i hi e => hi (by injection e with _ e; exact e.symm)
  refine ⟨A2, c2, ?_, ?_, ?_, h3, h4, ?_⟩
  · rw [World.cell?_setCell_other _ _ _ _ (hne _ (by omega))]; exact h0
  · rw [World.cell?_setCell_other _ _ _ _ (hne _ (by omega))]; exact h1
  · rw [World.cell?_setCell_other _ _ _ _ (hne _ (by omega))]; exact h2
  · by_cases hjk : j = k
    · subst hjk
      rw [World.cell?_setCell_same _ _ _ h5, if_pos (by omega)]
    · rw [World.cell?_setCell_other _ _ _ _ (hne _ (by omega)), h5]
      by_cases hlt : j < k
      · rw [if_pos hlt, if_pos (by omega)]
      · rw [if_neg hlt, if_neg (by omega)]
theorem cell_heap {w W : World} {p : Addr} (h : W.heap[p.block]? = w.heap[p.block]?) : W.cell? p = w.cell? p := by simp only [World.cell?, h]
theorem C_int_heap {w W : World} {k : IntKind} {A : Option Addr} {n : Nat} {xs : List Int} (h : (Kd.int k).C w A n xs) (hb : ∀ k, k < w.heap.size → W.heap[k]? = w.heap[k]?) : (Kd.int k).C W A n xs := by
  obtain ⟨h1, h2, h3⟩ := h
  refine ⟨h1, h2, fun h0 => ?_⟩
  obtain ⟨ad, e, h4⟩ := h3 h0
  refine ⟨ad, e, fun j p hp => ?_⟩
  obtain ⟨c, h5, h6, h7⟩ := h4 j p hp
  exact ⟨c, h5, h6, fun i u hu => (cell_heap (hb _ (World.block_lt_of_cell? w _ (h7 i u hu)))).trans (h7 i u hu)⟩
theorem StripI.done {w W : World} {g cap : Nat} {l : List Cmd} (h : StripI w W g cap l l.length) (hb : Below w.heap.size w W) (hg : w.heap.size ≤ g) (hlc : l.length ≤ cap) (hcap : cap ≤ maxLen) : Kd.N kC 40 W w.heap.size (fun _ => True) (.slice (some ⟨g, 0, none⟩) l.length cap) (l.map strip0) := by
  obtain ⟨⟨cur, hblk, hs⟩, hc⟩ := h
  have hcell : ∀ i, W.cell? ⟨g, i, none⟩ = cur[i]? := fun i => blk_cell hblk i
  have hlen : (cur.toList.take (l.length * 4)).length = l.length * 4 := by rw [List.length_take, show cur.toList.length = cap * 4 from (Array.length_toList (xs := cur)).trans hs]; exact Nat.min_eq_left (Nat.mul_le_mul_right _ hlc)
  have hrow : ∀ j, (hjl : j < l.length) → ∀ A2 c2, W.cell? ⟨g, j * 4 + 2, none⟩ = some (.slice A2 l[j].f2.length c2) → ((cur.toList.take (l.length * 4)).drop (j * 4)).take 4 = [.int .i64 (strip0 l[j]).f0, .string (strip0 l[j]).f1, .slice A2 (strip0 l[j]).f2.length c2, .int .i64 (strip0 l[j]).f3] := by
    intro j hjl A2 c2 h2
    obtain ⟨_, _, h0, h1, _, _, _, h5⟩ := hc j hjl
    rw [if_pos hjl] at h5
    apply List.ext_getElem?
    intro i
    by_cases hi : i < 4
    · rw [List.getElem?_take_of_lt hi, List.getElem?_drop, List.getElem?_take_of_lt (by omega), Array.getElem?_toList, ← hcell]
      match i, hi with
      | 0, _ => exact h0
      | 1, _ => exact h1
      | 2, _ => exact h2
      | 3, _ => exact h5
    · rw [List.getElem?_eq_none (by rw [List.length_take]; omega), List.getElem?_eq_none (by show 4 ≤ i; omega)]
  have hK : Reps (kC.K W) 4 (l.map strip0) (cur.toList.take (l.length * 4)) := by
    refine ⟨by rw [hlen, List.length_map], fun j p hj => ?_⟩
    have hjl : j < l.length := by
      have := (List.getElem?_eq_some_iff.1 hj).1; rwa [List.length_map] at this
    have hp : p = strip0 l[j] := by
      rw [List.getElem?_map, List.getElem?_eq_getElem hjl] at hj; injection hj with hj; exact hj.symm
    subst hp
    obtain ⟨A2, c2, h0, h1, h2, h3, h4, h5⟩ := hc j hjl
    rw [hrow j hjl A2 c2 h2]
    exact kC_mk W (strip0 l[j]) h3 (Kd.C_below h4 hb)
  refine ⟨fun _ _ => trivial, Kd.chunks 4 (l.map strip0).length (cur.toList.take (l.length * 4)), Kd.chunks_length _ _ _, ⟨fun k hk => hk.symm, cur.toList.take (l.length * 4), ?_, Kd.reps_raw hK (fun x c hp => ⟨kC.K_len hp, kC.K_one hp⟩)⟩, fun j x c hx hcc => ?_⟩
  · rw [Kd.chunks_length, List.length_map]
    exact ⟨hlen, .inr ⟨g, cap, cur, rfl, hg, hblk, hlc, hcap, hs, rfl⟩⟩
  · rw [Kd.chunks_get hcc]
    have hxl : j < l.length := by
      have := (List.getElem?_eq_some_iff.1 hx).1; rwa [List.length_map] at this
    obtain ⟨A2, c2, _, _, h2, h3, h4, _⟩ := hc j hxl
    have hp : x = strip0 l[j] := by
      rw [List.getElem?_map, List.getElem?_eq_getElem hxl] at hx; injection hx with hx; exact hx.symm
    subst hp
    rw [hrow j hxl A2 c2 h2]
    intro W' hW
    refine kC_mk W' (strip0 l[j]) h3 (C_int_heap h4 (fun k hk => ?_))
    rw [hW k ⟨trivial, fun e => ?_⟩ (Nat.lt_of_lt_of_le hk hb.size)]
    · exact hb.block k hk
    · have e' : k = g := by simpa [Value.ownBlock] using e
      omega
end Go.Proofs.YtdedlchpjboceaaDoor.Px
end

section
namespace Go.Proofs.YtdedlchpjboceaaDoor.Tx
open Go.RowKit Go.Shelf Go.Proofs.YtdedlchpjboceaaDoor.Lx Go.Proofs.YtdedlchpjboceaaDoor.Px Go.Proofs.YtdedlchpjboceaaDoorW.PrintWords Go.Proofs.YtdedlchpjboceaaDoorW.PrintLast Go.Proofs.YtdedlchpjboceaaDoorW.PrintMore
theorem GP.aside {w W : World} (h : Aside0 (GP w)) (hb : Below w.heap.size w W) : Aside0 (GP W) := ⟨h.out.below hb⟩
theorem C_iso2 {α β γ : Type} {d : Kd α} {f : β → α} {g : γ → α} {h : β → γ} (e : ∀ x, g (h x) = f x) {w : World} {A : Option Addr} {n : Nat} {xs : List β} (hc : (Kd.iso d f).C w A n xs) : (Kd.iso d g).C w A n (xs.map h) := by
  obtain ⟨h1, h2, h3⟩ := hc
  refine ⟨by rw [List.length_map]; exact h1, h2, fun h0 => ?_⟩
  obtain ⟨ad, e1, h4⟩ := h3 h0
  refine ⟨ad, e1, fun j p hp => ?_⟩
  rw [List.getElem?_map] at hp
  cases hx : xs[j]? with
  | none => rw [hx] at hp; cases hp
  | some x =>
    rw [hx] at hp
    obtain ⟨c, h5, h6, h7⟩ := h4 j x hx
    refine ⟨c, h5, ?_, h7⟩
    have hp' : h x = p := by simpa using hp
    subst hp'
    show d.K w (g (h x)) c
    rw [e x]; exact h6
end Go.Proofs.YtdedlchpjboceaaDoor.Tx
end
