/- Texts of proofs: plain words, and walks through the program's functions. -/
import Derived.Test.YtdedlchpjboceaaDoorM9a4a6bc5
import Derived.Test.YtdedlchpjboceaaDoorMef13d544
import Derived.Maps.AppendAt

section
namespace Go.Proofs.YtdedlchpjboceaaDoor.Px
open Go.RowKit Go.Shelf Go.Proofs.YtdedlchpjboceaaDoor.Lx Go.Proofs.YtdedlchpjboceaaDoorW.PrintWords Go.Proofs.YtdedlchpjboceaaDoorW.PrintLast Go.Proofs.YtdedlchpjboceaaDoorW.PrintMore
attribute [local go_sem] Oper.semAt_some
set_option maxHeartbeats 4000000 in
set_option maxRecDepth 100000 in
theorem clone_nil (n c : Nat) (w : World) : Calls Tryd.prog 48 #[.slice none n c] w fun x w' => x = .returned (.slice none 0 0) ∧ w = w' := by
  have hq : ∀ W, (binOp .eql 25 (.slice none n c) (.slice none 0 0)).run Tryd.prog W = .ok (.bool true) W := fun W => by kernel_rfl
  go_enter Tryd.func48, Tryd.ntmps48
  go_wp2
  go_ret
  exact ⟨rfl, rfl⟩
set_option maxHeartbeats 4000000 in
set_option maxRecDepth 100000 in
theorem clone_some (ad : Addr) (c : Nat) (l : List Cmd) (w : World) (hC : Kd.C kC w (some ad) l.length l) (hl : l.length ≤ 1000000) :
    Calls Tryd.prog 48 #[.slice (some ad) l.length c] w fun x w' => ∃ v inner, (x = .returned v ∧ w'.ownsRow w.heap.size 40 4 v l.length inner ∧ Reps (kC.K w) 4 l inner) ∧ Below w.heap.size w w' := by
  have hq : ∀ W, (binOp .eql 25 (.slice (some ad) l.length c) (.slice none 0 0)).run Tryd.prog W = .ok (.bool false) W := fun W => by kernel_rfl
  go_enter Tryd.func48, Tryd.ntmps48
  obtain ⟨inner, hR, hcell⟩ := ReadsRow.inner_ (R := kC.K w) (size := 4) hC
  obtain ⟨i0, hi, hz0, hz1, hz2⟩ := info_parts infoCmd
  have hown : (w.alloc (.cells #[] 40)).ownsRow w.heap.size 40 4 (.slice (some ⟨w.heap.size, 0, none⟩) 0 0) 0 [] := ⟨rfl, .inr ⟨w.heap.size, 0, #[], rfl, Nat.le_refl _, blk_new _ _, Nat.le_refl _, by decide, rfl, rfl⟩⟩
  have hone : ∀ u ∈ inner, u.oneCell' = true := fun u hu => by
    obtain ⟨k, hk, rfl⟩ := List.getElem_of_mem hu
    have hlen := hR.1
    have hj : k / 4 < l.length := by omega
    have h2 := hR.2 (k / 4) _ (List.getElem?_eq_getElem hj)
    refine kC.K_one h2 _ ?_
    have : inner[k] = ((inner.drop (k / 4 * 4)).take 4)[k % 4]'(by rw [List.length_take, List.length_drop]; omega) := by
      rw [List.getElem_take, List.getElem_drop]; congr 1; omega
    rw [this]; exact List.getElem_mem _
  have HX := Lib.hid (And.intro hR (And.intro hcell (And.intro hown hone)))
  clear hC hR hcell hown hone
  go_wp2_with (at_builtin; (refine wpList_append_own_at _ rfl (.tmp 5) (.tmp 6) 25 rfl w.heap.size 40 i0 (.agg #[.int .i64 0, .string ⟨#[]⟩, .slice none 0 0, .int .i64 0]) 4 56 Tryd.underlying25 hi hz0 hz1 hz2 rfl (by decide) (.slice (some ⟨w.heap.size, 0, none⟩) 0 0) 0 [] rfl HX.out.2.2.1 ad l.length c inner rfl HX.out.1.1 (fun j u hu => (World.cell?_alloc_lt _ _ _ (World.block_lt_of_cell? w _ (HX.out.2.1 j u hu))).trans (HX.out.2.1 j u hu)) HX.out.2.2.2 (by unfold maxLen; omega) (by omega) (by simp) ?_); (intro v1 w1 ho hg _ _))
  go_ret
  refine ⟨v1, inner, ⟨rfl, by rw [← Nat.zero_add l.length]; exact ho, HX.out.1⟩, ?_⟩
  exact (below_alloc (Below.refl _ _) _).grown hg (by simp) (fun k hk => own_base HX.out.2.2.1 k hk)
/-- A command without its offset. -/
def strip0 (c : Cmd) : Cmd := { c with f3 := 0 }
/-- The cells of a row of commands, the first k of which are without their offsets; the numbers are where they were in w. -/
def StripI (w W : World) (g cap : Nat) (l : List Cmd) (k : Nat) : Prop :=
  (∃ cur, W.heap[g]? = some (.cells cur 40 (0, 0)) ∧ cur.size = cap * 4) ∧ ∀ j, (h : j < l.length) → ∃ A2 c2, W.cell? ⟨g, j * 4, none⟩ = some (.int .i64 l[j].f0) ∧ W.cell? ⟨g, j * 4 + 1, none⟩ = some (.string l[j].f1) ∧ W.cell? ⟨g, j * 4 + 2, none⟩ = some (.slice A2 l[j].f2.length c2) ∧
    l[j].f2.length ≤ c2 ∧ (Kd.int .i64).C w A2 l[j].f2.length l[j].f2 ∧ W.cell? ⟨g, j * 4 + 3, none⟩ = some (.int .i64 (if j < k then 0 else l[j].f3))
theorem StripI.start {w W : World} {g cap : Nat} {l : List Cmd} {inner : List Value} {base : Nat} (ho : W.ownsRow base 40 4 (.slice (some ⟨g, 0, none⟩) l.length cap) l.length inner) (hR : Reps (kC.K w) 4 l inner) : StripI w W g cap l 0 := by
  refine ⟨?_, fun j hj => ?_⟩
  · rcases ho.2 with ⟨he, _⟩ | ⟨g', cap', cur, he, _, hh, _, _, hs, _⟩
    · cases he
    · injection he with ha _ hc; injection ha with ha; injection ha with ha; subst ha; subst hc; exact ⟨cur, hh, hs⟩
  have h2 := hR.2 j _ (List.getElem?_eq_getElem hj)
  obtain ⟨A2, c2, he, hl, hC⟩ := kC_open h2
  have hlen := hR.1
  have hx : ∀ i, i < 4 → ∀ u, ([.int .i64 l[j].f0, .string l[j].f1, .slice A2 l[j].f2.length c2, .int .i64 l[j].f3] : List Value)[i]? = some u → W.cell? ⟨g, j * 4 + i, none⟩ = some u := by
    intro i hi u hu
    rw [← he] at hu
    have hu2 : inner[j * 4 + i]? = some u := by rw [List.getElem?_take_of_lt hi, List.getElem?_drop] at hu; exact hu
    have := ho.cells (g := g) rfl (j * 4 + i) u hu2
    rwa [add_plain] at this
  exact ⟨A2, c2, hx 0 (by decide) _ rfl, hx 1 (by decide) _ rfl, hx 2 (by decide) _ rfl, hl, hC, by rw [if_neg (by omega)]; exact hx 3 (by decide) _ rfl⟩
theorem StripI.step {w W : World} {g cap : Nat} {l : List Cmd} {k : Nat} (h : StripI w W g cap l k) : StripI w (W.setCell ⟨g, k * 4 + 3, none⟩ (.int .i64 0)) g cap l (k + 1) := by
  obtain ⟨⟨cur, hb, hs⟩, hc⟩ := h
  refine ⟨⟨_, blk_set hb _ _, by simpa using hs⟩, fun j hj => ?_⟩
  obtain ⟨A2, c2, h0, h1, h2, h3, h4, h5⟩ := hc j hj
  have hne : ∀ i, i ≠ k * 4 + 3 → (⟨g, k * 4 + 3, none⟩ : Addr) ≠ ⟨g, i, none⟩ := fun i hi e => hi (by injection e with _ e; exact e.symm)
  refine ⟨A2, c2, ?_, ?_, ?_, h3, h4, ?_⟩
  · rw [World.cell?_setCell_other _ _ _ _ (hne _ (by omega))]; exact h0
  · rw [World.cell?_setCell_other _ _ _ _ (hne _ (by omega))]; exact h1
  · rw [World.cell?_setCell_other _ _ _ _ (hne _ (by omega))]; exact h2
  · by_cases hjk : j = k
    · subst hjk
      rw [World.cell?_setCell_same _ _ _ h5, if_pos (by omega)]
    · rw [World.cell?_setCell_other _ _ _ _ (hne _ (by omega)), h5]
      by_cases hlt : j < k
      · rw [if_pos hlt, if_pos (by omega)]
      · rw [if_neg hlt, if_neg (by omega)]
theorem cell_heap {w W : World} {p : Addr} (h : W.heap[p.block]? = w.heap[p.block]?) : W.cell? p = w.cell? p := by simp only [World.cell?, h]
theorem C_int_heap {w W : World} {k : IntKind} {A : Option Addr} {n : Nat} {xs : List Int} (h : (Kd.int k).C w A n xs) (hb : ∀ k, k < w.heap.size → W.heap[k]? = w.heap[k]?) : (Kd.int k).C W A n xs := by
  obtain ⟨h1, h2, h3⟩ := h
  refine ⟨h1, h2, fun h0 => ?_⟩
  obtain ⟨ad, e, h4⟩ := h3 h0
  refine ⟨ad, e, fun j p hp => ?_⟩
  obtain ⟨c, h5, h6, h7⟩ := h4 j p hp
  exact ⟨c, h5, h6, fun i u hu => (cell_heap (hb _ (World.block_lt_of_cell? w _ (h7 i u hu)))).trans (h7 i u hu)⟩
theorem StripI.done {w W : World} {g cap : Nat} {l : List Cmd} (h : StripI w W g cap l l.length) (hb : Below w.heap.size w W) (hg : w.heap.size ≤ g) (hlc : l.length ≤ cap) (hcap : cap ≤ maxLen) : Kd.N kC 40 W w.heap.size (fun _ => True) (.slice (some ⟨g, 0, none⟩) l.length cap) (l.map strip0) := by
  obtain ⟨⟨cur, hblk, hs⟩, hc⟩ := h
  have hcell : ∀ i, W.cell? ⟨g, i, none⟩ = cur[i]? := fun i => blk_cell hblk i
  have hlen : (cur.toList.take (l.length * 4)).length = l.length * 4 := by rw [List.length_take, show cur.toList.length = cap * 4 from (Array.length_toList (xs := cur)).trans hs]; exact Nat.min_eq_left (Nat.mul_le_mul_right _ hlc)
  have hrow : ∀ j, (hjl : j < l.length) → ∀ A2 c2, W.cell? ⟨g, j * 4 + 2, none⟩ = some (.slice A2 l[j].f2.length c2) → ((cur.toList.take (l.length * 4)).drop (j * 4)).take 4 = [.int .i64 (strip0 l[j]).f0, .string (strip0 l[j]).f1, .slice A2 (strip0 l[j]).f2.length c2, .int .i64 (strip0 l[j]).f3] := by
    intro j hjl A2 c2 h2
    obtain ⟨_, _, h0, h1, _, _, _, h5⟩ := hc j hjl
    rw [if_pos hjl] at h5
    apply List.ext_getElem?
    intro i
    by_cases hi : i < 4
    · rw [List.getElem?_take_of_lt hi, List.getElem?_drop, List.getElem?_take_of_lt (by omega), Array.getElem?_toList, ← hcell]
      match i, hi with
      | 0, _ => exact h0
      | 1, _ => exact h1
      | 2, _ => exact h2
      | 3, _ => exact h5
    · rw [List.getElem?_eq_none (by rw [List.length_take]; omega), List.getElem?_eq_none (by show 4 ≤ i; omega)]
  have hK : Reps (kC.K W) 4 (l.map strip0) (cur.toList.take (l.length * 4)) := by
    refine ⟨by rw [hlen, List.length_map], fun j p hj => ?_⟩
    have hjl : j < l.length := by
      have := (List.getElem?_eq_some_iff.1 hj).1; rwa [List.length_map] at this
    have hp : p = strip0 l[j] := by
      rw [List.getElem?_map, List.getElem?_eq_getElem hjl] at hj; injection hj with hj; exact hj.symm
    subst hp
    obtain ⟨A2, c2, h0, h1, h2, h3, h4, h5⟩ := hc j hjl
    rw [hrow j hjl A2 c2 h2]
    exact kC_mk W (strip0 l[j]) h3 (Kd.C_below h4 hb)
  refine ⟨fun _ _ => trivial, Kd.chunks 4 (l.map strip0).length (cur.toList.take (l.length * 4)), Kd.chunks_length _ _ _, ⟨fun k hk => hk.symm, cur.toList.take (l.length * 4), ?_, Kd.reps_raw hK (fun x c hp => ⟨kC.K_len hp, kC.K_one hp⟩)⟩, fun j x c hx hcc => ?_⟩
  · rw [Kd.chunks_length, List.length_map]
    exact ⟨hlen, .inr ⟨g, cap, cur, rfl, hg, hblk, hlc, hcap, hs, rfl⟩⟩
  · rw [Kd.chunks_get hcc]
    have hxl : j < l.length := by
      have := (List.getElem?_eq_some_iff.1 hx).1; rwa [List.length_map] at this
    obtain ⟨A2, c2, _, _, h2, h3, h4, _⟩ := hc j hxl
    have hp : x = strip0 l[j] := by
      rw [List.getElem?_map, List.getElem?_eq_getElem hxl] at hx; injection hx with hx; exact hx.symm
    subst hp
    rw [hrow j hxl A2 c2 h2]
    intro W' hW
    refine kC_mk W' (strip0 l[j]) h3 (C_int_heap h4 (fun k hk => ?_))
    rw [hW k ⟨trivial, fun e => ?_⟩ (Nat.lt_of_lt_of_le hk hb.size)]
    · exact hb.block k hk
    · have e' : k = g := by simpa [Value.ownBlock] using e
      omega
/-- What 'Strip' answers: a row that reads as the commands without their offsets. -/
def StripPost (w : World) (l : List Cmd) (x : Ending) (w' : World) : Prop :=
  Below w.heap.size w w' ∧ ∃ v, x = .returned v ∧ Kd.N kC 40 w' w.heap.size (fun _ => True) v (l.map strip0)
set_option maxHeartbeats 8000000 in
set_option maxRecDepth 100000 in
theorem strip_any (A : Option Addr) (c : Nat) (l : List Cmd) (w : World) (hC : Kd.C kC w A l.length l) (hl : l.length ≤ 1000000) :
    Calls Tryd.prog 23 #[.slice A l.length c] w (StripPost w l) := by
  cases A with
  | none =>
    have h0 : l = [] := by
      cases l with
      | nil => rfl
      | cons x l => obtain ⟨ad, e, _⟩ := hC.2.2 (by simp); cases e
    subst h0
    have hc := clone_nil 0 c
    clear hC hl
    go_enter Tryd.func23, Tryd.ntmps23
    go_wp2_with (go_at_call 48; refine (hc _).mono ?_; rintro x w1 ⟨rfl, rfl⟩)
    go_loopg [9] 0 (fun g v W => v = .int .i64 0 ∧ w = W)
    case atStart => exact ⟨rfl, rfl⟩
    case round =>
      obtain ⟨rfl, rfl⟩ := hrel
      go_wp2
      go_ret
      exact ⟨Below.refl _ _, _, rfl, Kd.N_nil _ _ _ _ _⟩
  | some ad =>
    have hcl := clone_some ad c l w hC hl
    clear hC
    go_enter Tryd.func23, Tryd.ntmps23
    go_wp2_with fail
    refine hcl.mono ?_
    rintro x w1 ⟨v, inner, ⟨rfl, ho, hR⟩, hb⟩
    by_cases hn : l.length = 0
    · have HO0 := ho
      obtain ⟨A', c', rfl⟩ := own_slice ho
      have hl0 : l = [] := List.eq_nil_of_length_eq_zero hn
      subst hl0
      have HB := Lib.hid hb
      have hi0 : inner.length = 0 := by have := ho.1; simpa using this
      have HO := Lib.hid HO0
      clear ho hR hb hcl hn hl HO0
      go_wp2_with fail
      go_loopg [9] 0 (fun g v W => v = .int .i64 0 ∧ w1 = W)
      case atStart => exact ⟨rfl, rfl⟩
      case round =>
        obtain ⟨rfl, rfl⟩ := hrel
        go_wp2
        go_ret
        have hN := Kd.R_N (d := kC) ⟨fun _ _ => trivial, inner, HO.out, ⟨by simpa using hi0, fun j p hj => by simp at hj⟩⟩
        exact ⟨HB.out, _, rfl, hN⟩
    · obtain ⟨g, cap, rfl, hg, _⟩ := ho.form (by omega)
      have hcap : l.length ≤ cap ∧ cap ≤ maxLen := by
        rcases ho.2 with ⟨he, _⟩ | ⟨g', cap', cur, he, _, _, h1, h2, _⟩
        · cases he
        · injection he with _ _ hc; subst hc; exact ⟨h1, h2⟩
      have hI := Lib.hid (StripI.start ho hR)
      have HB := Lib.hid hb
      clear ho hR hb hcl hn
      go_wp2_with fail
      go_loopg [9] l.length (fun gg v W => ∃ k : Nat, k + gg = l.length ∧ v = .int .i64 k ∧ Hid (StripI w W g cap l k) ∧ Hid (Below w.heap.size w W))
      case atStart => exact ⟨0, by omega, rfl, hI, HB⟩
      case round =>
        obtain ⟨k, hk, rfl, HI, HBk⟩ := hrel
        by_cases hlt : k < l.length
        · obtain ⟨gg, rfl⟩ : ∃ gg, gk = gg + 1 := ⟨gk - 1, by omega⟩
          obtain ⟨⟨cur, hblk, _⟩, hcs⟩ := HI.out
          obtain ⟨A2, c2, _, _, _, _, _, h5⟩ := hcs k hlt
          rw [if_neg (by omega)] at h5
          have hf := blk_frozen hblk (k * 4 + 3)
          clear hblk hcs
          go_wp2
          go_roundg gg
          case measure => omega
          case rel => exact ⟨k + 1, by omega, by go_num, Lib.hid HI.out.step, Lib.hid (HBk.out.setCell (p := ⟨g, _, none⟩) hg _)⟩
        · have hkl : k = l.length := by omega
          subst hkl
          go_wp2
          go_ret
          exact ⟨HBk.out, _, rfl, HI.out.done HBk.out hg hcap.1 hcap.2⟩
end Go.Proofs.YtdedlchpjboceaaDoor.Px
end

section
namespace Go.Proofs.YtdedlchpjboceaaDoor.Px
open Go.RowKit Go.Shelf Go.Proofs.YtdedlchpjboceaaDoor.Lx Go.Proofs.YtdedlchpjboceaaDoorW.PrintWords Go.Proofs.YtdedlchpjboceaaDoorW.PrintLast Go.Proofs.YtdedlchpjboceaaDoorW.PrintMore
attribute [local go_sem] Oper.semAt_some
set_option maxHeartbeats 8000000 in
set_option maxRecDepth 100000 in
theorem rstrip_any (A : Option Addr) (c : Nat) (l : List Cmd) (w : World) (hC : Kd.C kC w A l.length l) (hl : l.length ≤ 1000000) :
    Calls Tryd.prog 36 #[.slice A l.length c] w (StripPost w l) := by
  have HC := Lib.hid hC
  have hu := Tryd.underlying40
  clear hC
  go_enter Tryd.func36, Tryd.ntmps36
  go_wp2_with fail
  go_loopg [3, 4] l.length (fun g v3 v4 W => ∃ k : Nat, k + g = l.length ∧ v4 = .int .i64 k ∧ Hid (Kd.N kC 40 W w.heap.size (fun _ => True) v3 ((l.take k).map strip0)) ∧ Hid (Below w.heap.size w W))
  case atStart => exact ⟨0, by omega, rfl, Lib.hid (Kd.N_nil _ _ _ _ _), Lib.hid (Below.refl _ _)⟩
  case round =>
    obtain ⟨k, hk, rfl, HN, HB⟩ := hrel
    by_cases hlt : k < l.length
    · obtain ⟨gg, rfl⟩ : ∃ gg, gk = gg + 1 := ⟨gk - 1, by omega⟩
      obtain ⟨ad, A2, c2, rfl, h0, h1, h2, h3, h4, h5⟩ := at_C HC.out (k : Int) (by omega) (by omega)
      rw [Int.toNat_natCast] at h0 h1 h2 h3
      replace h0 := (HB.out.cell (World.block_lt_of_cell? w _ h0)).trans h0
      replace h1 := (HB.out.cell (World.block_lt_of_cell? w _ h1)).trans h1
      replace h2 := (HB.out.cell (World.block_lt_of_cell? w _ h2)).trans h2
      replace h3 := (HB.out.cell (World.block_lt_of_cell? w _ h3)).trans h3
      have hle : w.heap.size ≤ wr.heap.size := HB.out.size
      obtain ⟨o, ho⟩ : ∃ o, (l.take k).map strip0 = o := ⟨_, rfl⟩
      have hlen : o.length = k := by rw [← ho, List.length_map, List.length_take]; omega
      rw [ho] at HN
      have HO := Lib.hid ho
      clear ho
      obtain ⟨A3, c3, hu3⟩ := Kd.N_slice HN.out
      subst hu3
      obtain ⟨x, hx⟩ : ∃ x, x = rd_C l (k : Int) := ⟨_, rfl⟩
      rw [← hx] at h0 h1 h2 h3 h4 h5
      have hxl : x = l[k] := by rw [hx]; unfold rd_C; rw [Int.toNat_natCast, List.getD_eq_getElem?_getD, List.getElem?_eq_getElem hlt]; rfl
      have HX := Lib.hid hxl
      clear hx hxl
      have HN2 := Lib.hid (Kd.N_alloc HN.out (.cells #[.int .i64 x.f0, .string x.f1, .slice A2 x.f2.length c2, .int .i64 0] 40))
      have HB2 := Lib.hid (below_alloc HB.out (.cells #[.int .i64 x.f0, .string x.f1, .slice A2 x.f2.length c2, .int .i64 0] 40))
      have HK := Lib.hid (show Kd.FK kC (wr.alloc (.cells #[.int .i64 x.f0, .string x.f1, .slice A2 x.f2.length c2, .int .i64 0] 40)) (fun k => k < w.heap.size) (strip0 x) [.int .i64 x.f0, .string x.f1, .slice A2 x.f2.length c2, .int .i64 0] from
        fun W' hW => kC_mk W' (strip0 x) h4 (C_int_heap h5 (fun q hq => (hW q hq (Nat.lt_of_lt_of_le hq HB2.out.size)).trans (HB2.out.block q hq))))
      have hO : ∀ q, q < w.heap.size → True ∧ some q ≠ (Value.slice A3 o.length c3).ownBlock := fun q hq => ⟨trivial, fun e => by have := Kd.N_base HN.out q e.symm; omega⟩
      clear h4 h5
      go_wp2_with (at_builtin; (refine Kd.N_append kC (w0 := w) w.heap.size rfl (.tmp 17) (.tmp 19) 25 40 (.agg #[.int .i64 0, .string ⟨#[]⟩, .slice none 0 0, .int .i64 0]) 56 rfl Tryd.underlying25 infoCmd rfl (by decide) (by decide) (.slice A3 o.length c3) o (strip0 x) [.int .i64 x.f0, .string x.f1, .slice A2 x.f2.length c2, .int .i64 0] (fun _ => True) (fun q => q < w.heap.size) rfl (by rw [World.size_alloc]; rfl) HK.out hO (fun _ _ => trivial) HN2.out HB2.out HB2.out.size (by rw [hlen]; omega) ?_); (intro v1 w3 HO3 hb3 _ _))
      go_roundg gg
      case measure => omega
      case rel =>
        have e : (l.take (k + 1)).map strip0 = o ++ [strip0 x] := by rw [HX.out, ← HO.out, List.take_succ_eq_append_getElem hlt, List.map_append]; rfl
        exact ⟨k + 1, by omega, by go_num, Lib.hid (by rw [e]; exact HO3), Lib.hid hb3⟩
    · have hkl : k = l.length := by omega
      subst hkl
      go_wp2
      go_ret
      exact ⟨HB.out, _, rfl, by have := HN.out; rwa [List.take_length] at this⟩
end Go.Proofs.YtdedlchpjboceaaDoor.Px
end

section
namespace Go.Proofs.YtdedlchpjboceaaDoor.Tx
open Go.RowKit Go.Shelf Go.Proofs.YtdedlchpjboceaaDoor.Lx Go.Proofs.YtdedlchpjboceaaDoor.Px Go.Proofs.YtdedlchpjboceaaDoorW.PrintWords Go.Proofs.YtdedlchpjboceaaDoorW.PrintLast Go.Proofs.YtdedlchpjboceaaDoorW.PrintMore
theorem GP.aside {w W : World} (h : Aside0 (GP w)) (hb : Below w.heap.size w W) : Aside0 (GP W) := ⟨h.out.below hb⟩
theorem C_iso2 {α β γ : Type} {d : Kd α} {f : β → α} {g : γ → α} {h : β → γ} (e : ∀ x, g (h x) = f x) {w : World} {A : Option Addr} {n : Nat} {xs : List β} (hc : (Kd.iso d f).C w A n xs) : (Kd.iso d g).C w A n (xs.map h) := by
  obtain ⟨h1, h2, h3⟩ := hc
  refine ⟨by rw [List.length_map]; exact h1, h2, fun h0 => ?_⟩
  obtain ⟨ad, e1, h4⟩ := h3 h0
  refine ⟨ad, e1, fun j p hp => ?_⟩
  rw [List.getElem?_map] at hp
  cases hx : xs[j]? with
  | none => rw [hx] at hp; cases hp
  | some x =>
    rw [hx] at hp
    obtain ⟨c, h5, h6, h7⟩ := h4 j x hx
    refine ⟨c, h5, ?_, h7⟩
    have hp' : h x = p := by simpa using hp
    subst hp'
    show d.K w (g (h x)) c
    rw [e x]; exact h6
theorem R_iso2 {α β γ : Type} {d : Kd α} {f : β → α} {g : γ → α} {h : β → γ} (e : ∀ x, g (h x) = f x) {t : Nat} {w : World} {base : Nat} {ok : Nat → Prop} {v : Value} {xs : List β} (hc : (Kd.iso d f).R t w base ok v xs) : (Kd.iso d g).R t w base ok v (xs.map h) := by
  obtain ⟨h1, inner, h2, h3, h4⟩ := hc
  refine ⟨h1, inner, by rw [List.length_map]; exact h2, by rw [List.length_map]; exact h3, fun j p hp => ?_⟩
  rw [List.getElem?_map] at hp
  cases hx : xs[j]? with
  | none => rw [hx] at hp; cases hp
  | some x =>
    rw [hx] at hp
    have hp' : h x = p := by simpa using hp
    subst hp'
    have h5 := h4 j x hx
    show d.M w base _ (g (h x)) _
    rw [e x]; exact h5
theorem N_iso2 {α β γ : Type} {d : Kd α} {f : β → α} {g : γ → α} {h : β → γ} (e : ∀ x, g (h x) = f x) {t : Nat} {w : World} {base : Nat} {ok : Nat → Prop} {v : Value} {xs : List β} (hc : (Kd.iso d f).N t w base ok v xs) : (Kd.iso d g).N t w base ok v (xs.map h) := by
  obtain ⟨h1, rows, h2, h3, h4⟩ := hc
  refine ⟨h1, rows, by rw [List.length_map]; exact h2, h3, fun j p c hp hcc => ?_⟩
  rw [List.getElem?_map] at hp
  cases hx : xs[j]? with
  | none => rw [hx] at hp; cases hp
  | some x =>
    rw [hx] at hp
    have hp' : h x = p := by simpa using hp
    subst hp'
    intro W' hW
    have h5 := h4 j x c hx hcc W' hW
    show d.K W' (g (h x)) c
    rw [e x]; exact h5
end Go.Proofs.YtdedlchpjboceaaDoor.Tx
end

section
namespace Go.Proofs.YtdedlchpjboceaaDoor.Tx
open Go.RowKit Go.Shelf Go.Proofs.YtdedlchpjboceaaDoor.Lx Go.Proofs.YtdedlchpjboceaaDoor.Px Go.Proofs.YtdedlchpjboceaaDoorW.PrintWords Go.Proofs.YtdedlchpjboceaaDoorW.PrintLast Go.Proofs.YtdedlchpjboceaaDoorW.PrintMore
structure GQ (w : World) : Prop where
  gok : GOK w
  tab : Lib.TabIs Tryd.prog w "internal/strconv.uint64pow10" .u64 Lib.pow10Tab
theorem GQ.below {w w' : World} (h : GQ w) (hb : Below w.heap.size w w') : GQ w' := ⟨h.gok.below hb, Lib.tabBelow_of_tabIs h.tab w' hb⟩
theorem GQ.aside {w W : World} (h : Aside0 (GQ w)) (hb : Below w.heap.size w W) : Aside0 (GQ W) := ⟨h.out.below hb⟩
end Go.Proofs.YtdedlchpjboceaaDoor.Tx
end
