/-
  The lexer's 'token', walked: the token of a span, or its error.
-/
import Derived.Test.YtiidalhcmlhnmaaDoorLxI
import Derived.Test.YtiidalhcmlhnmaaDoorLxN
import Derived.Test.YtiidalhcmlhnmaaDoorWMore
import Derived.Test.YtiidalhcmlhnmaaDoorSh
namespace Go.Proofs.YtiidalhcmlhnmaaDoor.Lx
open Go.RowKit Go.Shelf Go.Proofs.YtiidalhcmlhnmaaDoorW.PrintWords
attribute [local go_sem] Oper.semAt_some

/-- The library's variable that the code reads holds an error. -/
def GOK (w : World) : Prop := ∃ tp p, w.cell? ⟨1, 0, none⟩ = some (.iface tp p)
theorem GOK.below {w w' : World} (h : GOK w) (hb : Below w.heap.size w w') : GOK w' := by
  obtain ⟨tp, p, hc⟩ := h
  exact ⟨tp, p, (hb.cell (p := ⟨1, 0, none⟩) (World.block_lt_of_cell? w _ hc)).trans hc⟩

set_option maxRecDepth 100000 in
set_option maxHeartbeats 4000000 in
theorem token_name (t : ByteArray) (w : World) (h : t.size ≤ 12) :
    Calls Tryd.prog 20 #[.agg #[.int .i64 3, .string t]] w fun e w' => e = .returned (.tuple #[.agg #[.int .i64 1, .string t, .int .i64 0, .int .i64 0], .int .i64 0]) ∧ Below w.heap.size w w' := by
  go_enter Tryd.func20, Tryd.ntmps20
  go_wp2
  exact bodyPost_ret (v := .tuple #[.agg #[.int .i64 1, .string t, .int .i64 0, .int .i64 0], .int .i64 0]) (by simp [results, Tryd.results20, go_sem]) rfl ⟨rfl, ((Below.refl _ _).alloc (Nat.le_refl _) _).alloc (by simp) _⟩

set_option maxRecDepth 100000 in
set_option maxHeartbeats 4000000 in
theorem token_long (t : ByteArray) (w : World) (h : 12 < t.size) :
    Calls Tryd.prog 20 #[.agg #[.int .i64 3, .string t]] w fun e w' => e = .returned (.tuple #[.agg #[.int .i64 0, .string ⟨#[]⟩, .int .i64 0, .int .i64 0], .int .i64 3]) ∧ Below w.heap.size w w' := by
  go_enter Tryd.func20, Tryd.ntmps20
  go_wp2
  exact bodyPost_ret (v := .tuple #[.agg #[.int .i64 0, .string ⟨#[]⟩, .int .i64 0, .int .i64 0], .int .i64 3]) (by simp [results, Tryd.results20, go_sem]) rfl ⟨rfl, ((Below.refl _ _).alloc (Nat.le_refl _) _).alloc (by simp) _⟩

set_option maxRecDepth 100000 in
set_option maxHeartbeats 4000000 in
theorem token_punct (t : ByteArray) (w : World) :
    Calls Tryd.prog 20 #[.agg #[.int .i64 5, .string t]] w fun e w' => e = .returned (.tuple #[.agg #[.int .i64 3, .string t, .int .i64 0, .int .i64 0], .int .i64 0]) ∧ Below w.heap.size w w' := by
  go_enter Tryd.func20, Tryd.ntmps20
  go_wp2
  exact bodyPost_ret (v := .tuple #[.agg #[.int .i64 3, .string t, .int .i64 0, .int .i64 0], .int .i64 0]) (by simp [results, Tryd.results20, go_sem]) rfl ⟨rfl, ((Below.refl _ _).alloc (Nat.le_refl _) _).alloc (by simp) _⟩

/-- Atoi as 'token' meets it: its number, its error's value, behind any world. -/
def AtoiIs (t : ByteArray) (w : World) (v : Int) (isErr : Bool) : Prop :=
  ∀ W, Below w.heap.size w W → Calls Tryd.prog 33 #[.string t] W fun e w' => ∃ ev, e = .returned (.tuple #[.int .i64 v, ev]) ∧ (isErr = false → ev = .nilIface) ∧ (isErr = true → ∃ N, ev = .iface 65 (.pointer (some ⟨N, 0, none⟩))) ∧ Below W.heap.size W w'

theorem atoi_is_ok (t : ByteArray) (ht : t.size ≤ 140737488351232) (w : World) (v : Int) (h : Lib.atoiAll t.data.toList = .ok v) : AtoiIs t w v false := by
  intro W _
  refine (Tryd.strconv_Atoi_ok t (by omega) v h W).mono ?_
  rintro e w' ⟨rfl, hw⟩
  refine ⟨_, rfl, fun _ => rfl, (fun h => by cases h), ?_⟩
  rcases hw with rfl | ⟨u, rfl⟩
  · exact Below.refl _ _
  · exact Lib.bytesWorld_below _ _ _

theorem atoi_is_range (t : ByteArray) (ht : t.size ≤ 140737488351232) (w : World) (hG : GOK w) (h : Lib.atoiAll t.data.toList = .range) : AtoiIs t w (Lib.atoiSat t.data.toList) true := by
  intro W hb
  obtain ⟨tp, p, hv⟩ := hG.below hb
  refine (Tryd.strconv_Atoi_range t (by omega) h (.iface tp p) W hv (.inr ⟨tp, p, rfl⟩)).mono ?_
  rintro e w' ⟨N, rfl, _, _, hb'⟩
  exact ⟨_, rfl, (fun h => by cases h), fun _ => ⟨N, rfl⟩, hb'⟩

theorem set4 {w : World} {g : Nat} {T : TypeId} {a b c d : Value} (h : w.heap[g]? = some (.cells #[a, b, c, d] T (0, 0))) (x y z u : Value) :
    ((((w.setCell ⟨g, 0, none⟩ x).setCell ⟨g, 1, none⟩ y).setCell ⟨g, 2, none⟩ z).setCell ⟨g, 3, none⟩ u).heap[g]? = some (.cells #[x, y, z, u] T (0, 0)) :=
  blk_set (blk_set (blk_set (blk_set h 0 x) 1 y) 2 z) 3 u
theorem below4 {w w1 : World} (h : Below w.heap.size w w1) (g : Nat) (hg : w.heap.size ≤ g) (x y z u : Value) :
    Below w.heap.size w ((((w1.setCell ⟨g, 0, none⟩ x).setCell ⟨g, 1, none⟩ y).setCell ⟨g, 2, none⟩ z).setCell ⟨g, 3, none⟩ u) :=
  (((h.setCell (p := ⟨g, 0, none⟩) hg _).setCell (p := ⟨g, 1, none⟩) hg _).setCell (p := ⟨g, 2, none⟩) hg _).setCell (p := ⟨g, 3, none⟩) hg _

/-- The two new blocks of 'token', behind Atoi. -/
theorem after_atoi {w w1 : World} {x : Value} (hb : Below ((w.alloc (.cells #[.int .i64 4, x] 45)).alloc (.cells #[.int .i64 0, .string ⟨#[]⟩, .int .i64 0, .int .i64 0] 31)).heap.size ((w.alloc (.cells #[.int .i64 4, x] 45)).alloc (.cells #[.int .i64 0, .string ⟨#[]⟩, .int .i64 0, .int .i64 0] 31)) w1) :
    w1.heap[w.heap.size]? = some (.cells #[.int .i64 4, x] 45 (0, 0)) ∧ w1.heap[w.heap.size + 1]? = some (.cells #[.int .i64 0, .string ⟨#[]⟩, .int .i64 0, .int .i64 0] 31 (0, 0)) ∧ Below w.heap.size w w1 := by
  refine ⟨blk_below (blk_alloc (blk_new w _) _) hb, blk_below ?_ hb, (((Below.refl _ _).alloc (Nat.le_refl _) _).alloc (by simp) _).trans (hb.mono (by simp; omega))⟩
  have := blk_new (w.alloc (.cells #[.int .i64 4, x] 45)) (.cells #[.int .i64 0, .string ⟨#[]⟩, .int .i64 0, .int .i64 0] 31)
  rwa [World.size_alloc] at this

set_option maxRecDepth 100000 in
set_option maxHeartbeats 4000000 in
theorem token_zero_true (t : ByteArray) (w : World) (v : Int) (hA : AtoiIs t w v true) (h1 : 1 < t.size) (h2 : (t[0].toNat : Int) = 48) :
    Calls Tryd.prog 20 #[.agg #[.int .i64 4, .string t]] w fun e w' => e = .returned (.tuple #[.agg #[.int .i64 0, .string ⟨#[]⟩, .int .i64 0, .int .i64 0], .int .i64 7]) ∧ Below w.heap.size w w' := by
  have H := Lib.hid hA
  clear hA
  go_enter Tryd.func20, Tryd.ntmps20
  go_wp2_with fail
  have hb0 : Below w.heap.size w ((w.alloc (.cells #[.int .i64 4, .string t] 45)).alloc (.cells #[.int .i64 0, .string ⟨#[]⟩, .int .i64 0, .int .i64 0] 31)) := ((Below.refl _ _).alloc (Nat.le_refl _) _).alloc (by simp) _
  refine (H.out _ hb0).mono ?_
  rintro e w1 ⟨ev, rfl, hev1, hev2, hb⟩
  clear hb0
  obtain ⟨N, rfl⟩ := hev2 rfl
  clear hev1 hev2
  obtain ⟨k0, k1, hb1⟩ := after_atoi hb
  clear hb
  have c0 := blk_cell k0 0
  have c1 := blk_cell k0 1
  have z0 := blk_cell k1 0
  have z1 := blk_cell k1 1
  have z2 := blk_cell k1 2
  have z3 := blk_cell k1 3
  have g0 := blk_frozen k1 0
  have g1 := blk_frozen k1 1
  have g2 := blk_frozen k1 2
  have g3 := blk_frozen k1 3
  simp at c0 c1 z0 z1 z2 z3
  have K1 := Lib.hid k1
  have HB := Lib.hid hb1
  clear k0 k1 hb1
  go_wp2
  all_goals first
    | (exfalso; omega)
    | (exact bodyPost_ret (results_ct rfl _ _ (w.heap.size + 1) 31 #[.int .i64 0, .string ⟨#[]⟩, .int .i64 0, .int .i64 0] (0, 0) _ rfl (set4 K1.out _ _ _ _) Tryd.underlying31 rfl (by kernel_rfl)) rfl ⟨rfl, below4 HB.out _ (Nat.le_succ _) _ _ _ _⟩)

set_option maxRecDepth 100000 in
set_option maxHeartbeats 4000000 in
theorem token_zero_false (t : ByteArray) (w : World) (v : Int) (hA : AtoiIs t w v false) (h1 : 1 < t.size) (h2 : (t[0].toNat : Int) = 48) :
    Calls Tryd.prog 20 #[.agg #[.int .i64 4, .string t]] w fun e w' => e = .returned (.tuple #[.agg #[.int .i64 0, .string ⟨#[]⟩, .int .i64 0, .int .i64 0], .int .i64 7]) ∧ Below w.heap.size w w' := by
  have H := Lib.hid hA
  clear hA
  go_enter Tryd.func20, Tryd.ntmps20
  go_wp2_with fail
  have hb0 : Below w.heap.size w ((w.alloc (.cells #[.int .i64 4, .string t] 45)).alloc (.cells #[.int .i64 0, .string ⟨#[]⟩, .int .i64 0, .int .i64 0] 31)) := ((Below.refl _ _).alloc (Nat.le_refl _) _).alloc (by simp) _
  refine (H.out _ hb0).mono ?_
  rintro e w1 ⟨ev, rfl, hev1, hev2, hb⟩
  clear hb0
  obtain rfl := hev1 rfl
  clear hev1 hev2
  obtain ⟨k0, k1, hb1⟩ := after_atoi hb
  clear hb
  have c0 := blk_cell k0 0
  have c1 := blk_cell k0 1
  have z0 := blk_cell k1 0
  have z1 := blk_cell k1 1
  have z2 := blk_cell k1 2
  have z3 := blk_cell k1 3
  have g0 := blk_frozen k1 0
  have g1 := blk_frozen k1 1
  have g2 := blk_frozen k1 2
  have g3 := blk_frozen k1 3
  simp at c0 c1 z0 z1 z2 z3
  have K1 := Lib.hid k1
  have HB := Lib.hid hb1
  clear k0 k1 hb1
  go_wp2
  all_goals first
    | (exfalso; omega)
    | (exact bodyPost_ret (results_ct rfl _ _ (w.heap.size + 1) 31 #[.int .i64 0, .string ⟨#[]⟩, .int .i64 0, .int .i64 0] (0, 0) _ rfl (set4 K1.out _ _ _ _) Tryd.underlying31 rfl (by kernel_rfl)) rfl ⟨rfl, below4 HB.out _ (Nat.le_succ _) _ _ _ _⟩)

set_option maxRecDepth 100000 in
set_option maxHeartbeats 4000000 in
theorem token_num_S (t : ByteArray) (w : World) (v : Int) (hA : AtoiIs t w v false) (h1 : t.size ≤ 1) (h3 : v ≤ 1000000000) :
    Calls Tryd.prog 20 #[.agg #[.int .i64 4, .string t]] w fun e w' => e = .returned (.tuple #[.agg #[.int .i64 2, .string ⟨#[]⟩, .int .i64 v, .int .i64 0], .int .i64 0]) ∧ Below w.heap.size w w' := by
  have H := Lib.hid hA
  clear hA
  go_enter Tryd.func20, Tryd.ntmps20
  go_wp2_with fail
  have hb0 : Below w.heap.size w ((w.alloc (.cells #[.int .i64 4, .string t] 45)).alloc (.cells #[.int .i64 0, .string ⟨#[]⟩, .int .i64 0, .int .i64 0] 31)) := ((Below.refl _ _).alloc (Nat.le_refl _) _).alloc (by simp) _
  refine (H.out _ hb0).mono ?_
  rintro e w1 ⟨ev, rfl, hev1, hev2, hb⟩
  clear hb0
  obtain rfl := hev1 rfl
  clear hev1 hev2
  obtain ⟨k0, k1, hb1⟩ := after_atoi hb
  clear hb
  have c0 := blk_cell k0 0
  have c1 := blk_cell k0 1
  have z0 := blk_cell k1 0
  have z1 := blk_cell k1 1
  have z2 := blk_cell k1 2
  have z3 := blk_cell k1 3
  have g0 := blk_frozen k1 0
  have g1 := blk_frozen k1 1
  have g2 := blk_frozen k1 2
  have g3 := blk_frozen k1 3
  simp at c0 c1 z0 z1 z2 z3
  have K1 := Lib.hid k1
  have HB := Lib.hid hb1
  clear k0 k1 hb1
  go_wp2
  all_goals first
    | (exfalso; omega)
    | (exact bodyPost_ret (results_ct rfl _ _ (w.heap.size + 1) 31 #[.int .i64 2, .string ⟨#[]⟩, .int .i64 v, .int .i64 0] (0, 0) _ rfl (set4 K1.out _ _ _ _) Tryd.underlying31 rfl (by kernel_rfl)) rfl ⟨rfl, below4 HB.out _ (Nat.le_succ _) _ _ _ _⟩)

set_option maxRecDepth 100000 in
set_option maxHeartbeats 4000000 in
theorem token_big_S (t : ByteArray) (w : World) (v : Int) (hA : AtoiIs t w v false) (h1 : t.size ≤ 1) (h3 : 1000000000 < v) :
    Calls Tryd.prog 20 #[.agg #[.int .i64 4, .string t]] w fun e w' => e = .returned (.tuple #[.agg #[.int .i64 0, .string ⟨#[]⟩, .int .i64 0, .int .i64 0], .int .i64 3]) ∧ Below w.heap.size w w' := by
  have H := Lib.hid hA
  clear hA
  go_enter Tryd.func20, Tryd.ntmps20
  go_wp2_with fail
  have hb0 : Below w.heap.size w ((w.alloc (.cells #[.int .i64 4, .string t] 45)).alloc (.cells #[.int .i64 0, .string ⟨#[]⟩, .int .i64 0, .int .i64 0] 31)) := ((Below.refl _ _).alloc (Nat.le_refl _) _).alloc (by simp) _
  refine (H.out _ hb0).mono ?_
  rintro e w1 ⟨ev, rfl, hev1, hev2, hb⟩
  clear hb0
  obtain rfl := hev1 rfl
  clear hev1 hev2
  obtain ⟨k0, k1, hb1⟩ := after_atoi hb
  clear hb
  have c0 := blk_cell k0 0
  have c1 := blk_cell k0 1
  have z0 := blk_cell k1 0
  have z1 := blk_cell k1 1
  have z2 := blk_cell k1 2
  have z3 := blk_cell k1 3
  have g0 := blk_frozen k1 0
  have g1 := blk_frozen k1 1
  have g2 := blk_frozen k1 2
  have g3 := blk_frozen k1 3
  simp at c0 c1 z0 z1 z2 z3
  have K1 := Lib.hid k1
  have HB := Lib.hid hb1
  clear k0 k1 hb1
  go_wp2
  all_goals first
    | (exfalso; omega)
    | (exact bodyPost_ret (results_ct rfl _ _ (w.heap.size + 1) 31 #[.int .i64 0, .string ⟨#[]⟩, .int .i64 0, .int .i64 0] (0, 0) _ rfl (set4 K1.out _ _ _ _) Tryd.underlying31 rfl (by kernel_rfl)) rfl ⟨rfl, below4 HB.out _ (Nat.le_succ _) _ _ _ _⟩)

set_option maxRecDepth 100000 in
set_option maxHeartbeats 4000000 in
theorem token_range_S (t : ByteArray) (w : World) (v : Int) (hA : AtoiIs t w v true) (h1 : t.size ≤ 1) :
    Calls Tryd.prog 20 #[.agg #[.int .i64 4, .string t]] w fun e w' => e = .returned (.tuple #[.agg #[.int .i64 0, .string ⟨#[]⟩, .int .i64 0, .int .i64 0], .int .i64 3]) ∧ Below w.heap.size w w' := by
  have H := Lib.hid hA
  clear hA
  go_enter Tryd.func20, Tryd.ntmps20
  go_wp2_with fail
  have hb0 : Below w.heap.size w ((w.alloc (.cells #[.int .i64 4, .string t] 45)).alloc (.cells #[.int .i64 0, .string ⟨#[]⟩, .int .i64 0, .int .i64 0] 31)) := ((Below.refl _ _).alloc (Nat.le_refl _) _).alloc (by simp) _
  refine (H.out _ hb0).mono ?_
  rintro e w1 ⟨ev, rfl, hev1, hev2, hb⟩
  clear hb0
  obtain ⟨N, rfl⟩ := hev2 rfl
  clear hev1 hev2
  obtain ⟨k0, k1, hb1⟩ := after_atoi hb
  clear hb
  have c0 := blk_cell k0 0
  have c1 := blk_cell k0 1
  have z0 := blk_cell k1 0
  have z1 := blk_cell k1 1
  have z2 := blk_cell k1 2
  have z3 := blk_cell k1 3
  have g0 := blk_frozen k1 0
  have g1 := blk_frozen k1 1
  have g2 := blk_frozen k1 2
  have g3 := blk_frozen k1 3
  simp at c0 c1 z0 z1 z2 z3
  have K1 := Lib.hid k1
  have HB := Lib.hid hb1
  clear k0 k1 hb1
  go_wp2
  all_goals first
    | (exfalso; omega)
    | (exact bodyPost_ret (results_ct rfl _ _ (w.heap.size + 1) 31 #[.int .i64 0, .string ⟨#[]⟩, .int .i64 0, .int .i64 0] (0, 0) _ rfl (set4 K1.out _ _ _ _) Tryd.underlying31 rfl (by kernel_rfl)) rfl ⟨rfl, below4 HB.out _ (Nat.le_succ _) _ _ _ _⟩)

set_option maxRecDepth 100000 in
set_option maxHeartbeats 4000000 in
theorem token_num_D (t : ByteArray) (w : World) (v : Int) (hA : AtoiIs t w v false) (h1 : 1 < t.size) (h2 : ¬ (t[0].toNat : Int) = 48) (h3 : v ≤ 1000000000) :
    Calls Tryd.prog 20 #[.agg #[.int .i64 4, .string t]] w fun e w' => e = .returned (.tuple #[.agg #[.int .i64 2, .string ⟨#[]⟩, .int .i64 v, .int .i64 0], .int .i64 0]) ∧ Below w.heap.size w w' := by
  have H := Lib.hid hA
  clear hA
  go_enter Tryd.func20, Tryd.ntmps20
  go_wp2_with fail
  have hb0 : Below w.heap.size w ((w.alloc (.cells #[.int .i64 4, .string t] 45)).alloc (.cells #[.int .i64 0, .string ⟨#[]⟩, .int .i64 0, .int .i64 0] 31)) := ((Below.refl _ _).alloc (Nat.le_refl _) _).alloc (by simp) _
  refine (H.out _ hb0).mono ?_
  rintro e w1 ⟨ev, rfl, hev1, hev2, hb⟩
  clear hb0
  obtain rfl := hev1 rfl
  clear hev1 hev2
  obtain ⟨k0, k1, hb1⟩ := after_atoi hb
  clear hb
  have c0 := blk_cell k0 0
  have c1 := blk_cell k0 1
  have z0 := blk_cell k1 0
  have z1 := blk_cell k1 1
  have z2 := blk_cell k1 2
  have z3 := blk_cell k1 3
  have g0 := blk_frozen k1 0
  have g1 := blk_frozen k1 1
  have g2 := blk_frozen k1 2
  have g3 := blk_frozen k1 3
  simp at c0 c1 z0 z1 z2 z3
  have K1 := Lib.hid k1
  have HB := Lib.hid hb1
  clear k0 k1 hb1
  go_wp2
  all_goals first
    | (exfalso; omega)
    | (exact bodyPost_ret (results_ct rfl _ _ (w.heap.size + 1) 31 #[.int .i64 2, .string ⟨#[]⟩, .int .i64 v, .int .i64 0] (0, 0) _ rfl (set4 K1.out _ _ _ _) Tryd.underlying31 rfl (by kernel_rfl)) rfl ⟨rfl, below4 HB.out _ (Nat.le_succ _) _ _ _ _⟩)

set_option maxRecDepth 100000 in
set_option maxHeartbeats 4000000 in
theorem token_big_D (t : ByteArray) (w : World) (v : Int) (hA : AtoiIs t w v false) (h1 : 1 < t.size) (h2 : ¬ (t[0].toNat : Int) = 48) (h3 : 1000000000 < v) :
    Calls Tryd.prog 20 #[.agg #[.int .i64 4, .string t]] w fun e w' => e = .returned (.tuple #[.agg #[.int .i64 0, .string ⟨#[]⟩, .int .i64 0, .int .i64 0], .int .i64 3]) ∧ Below w.heap.size w w' := by
  have H := Lib.hid hA
  clear hA
  go_enter Tryd.func20, Tryd.ntmps20
  go_wp2_with fail
  have hb0 : Below w.heap.size w ((w.alloc (.cells #[.int .i64 4, .string t] 45)).alloc (.cells #[.int .i64 0, .string ⟨#[]⟩, .int .i64 0, .int .i64 0] 31)) := ((Below.refl _ _).alloc (Nat.le_refl _) _).alloc (by simp) _
  refine (H.out _ hb0).mono ?_
  rintro e w1 ⟨ev, rfl, hev1, hev2, hb⟩
  clear hb0
  obtain rfl := hev1 rfl
  clear hev1 hev2
  obtain ⟨k0, k1, hb1⟩ := after_atoi hb
  clear hb
  have c0 := blk_cell k0 0
  have c1 := blk_cell k0 1
  have z0 := blk_cell k1 0
  have z1 := blk_cell k1 1
  have z2 := blk_cell k1 2
  have z3 := blk_cell k1 3
  have g0 := blk_frozen k1 0
  have g1 := blk_frozen k1 1
  have g2 := blk_frozen k1 2
  have g3 := blk_frozen k1 3
  simp at c0 c1 z0 z1 z2 z3
  have K1 := Lib.hid k1
  have HB := Lib.hid hb1
  clear k0 k1 hb1
  go_wp2
  all_goals first
    | (exfalso; omega)
    | (exact bodyPost_ret (results_ct rfl _ _ (w.heap.size + 1) 31 #[.int .i64 0, .string ⟨#[]⟩, .int .i64 0, .int .i64 0] (0, 0) _ rfl (set4 K1.out _ _ _ _) Tryd.underlying31 rfl (by kernel_rfl)) rfl ⟨rfl, below4 HB.out _ (Nat.le_succ _) _ _ _ _⟩)

set_option maxRecDepth 100000 in
set_option maxHeartbeats 4000000 in
theorem token_range_D (t : ByteArray) (w : World) (v : Int) (hA : AtoiIs t w v true) (h1 : 1 < t.size) (h2 : ¬ (t[0].toNat : Int) = 48) :
    Calls Tryd.prog 20 #[.agg #[.int .i64 4, .string t]] w fun e w' => e = .returned (.tuple #[.agg #[.int .i64 0, .string ⟨#[]⟩, .int .i64 0, .int .i64 0], .int .i64 3]) ∧ Below w.heap.size w w' := by
  have H := Lib.hid hA
  clear hA
  go_enter Tryd.func20, Tryd.ntmps20
  go_wp2_with fail
  have hb0 : Below w.heap.size w ((w.alloc (.cells #[.int .i64 4, .string t] 45)).alloc (.cells #[.int .i64 0, .string ⟨#[]⟩, .int .i64 0, .int .i64 0] 31)) := ((Below.refl _ _).alloc (Nat.le_refl _) _).alloc (by simp) _
  refine (H.out _ hb0).mono ?_
  rintro e w1 ⟨ev, rfl, hev1, hev2, hb⟩
  clear hb0
  obtain ⟨N, rfl⟩ := hev2 rfl
  clear hev1 hev2
  obtain ⟨k0, k1, hb1⟩ := after_atoi hb
  clear hb
  have c0 := blk_cell k0 0
  have c1 := blk_cell k0 1
  have z0 := blk_cell k1 0
  have z1 := blk_cell k1 1
  have z2 := blk_cell k1 2
  have z3 := blk_cell k1 3
  have g0 := blk_frozen k1 0
  have g1 := blk_frozen k1 1
  have g2 := blk_frozen k1 2
  have g3 := blk_frozen k1 3
  simp at c0 c1 z0 z1 z2 z3
  have K1 := Lib.hid k1
  have HB := Lib.hid hb1
  clear k0 k1 hb1
  go_wp2
  all_goals first
    | (exfalso; omega)
    | (exact bodyPost_ret (results_ct rfl _ _ (w.heap.size + 1) 31 #[.int .i64 0, .string ⟨#[]⟩, .int .i64 0, .int .i64 0] (0, 0) _ rfl (set4 K1.out _ _ _ _) Tryd.underlying31 rfl (by kernel_rfl)) rfl ⟨rfl, below4 HB.out _ (Nat.le_succ _) _ _ _ _⟩)

end Go.Proofs.YtiidalhcmlhnmaaDoor.Lx
