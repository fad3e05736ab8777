/- Texts of proofs: plain words, and walks through the program's functions. -/
import Derived.Test.YtdedlchpjboceaaDoorMfa1ea104
import Derived.Test.YtdedlchpjboceaaDoorM64780c59
import Derived.Test.YtdedlchpjboceaaDoorM1e215e0c
import Derived.Test.YtdedlchpjboceaaDoorM8c09361c

section
namespace Go.Proofs.YtdedlchpjboceaaDoor.Lx
open Go.RowKit Go.Shelf Go.Proofs.YtdedlchpjboceaaDoorW.PrintWords
attribute [local go_sem] Oper.semAt_some
/-- The library's variable that the code reads holds an error. -/
def GOK (w : World) : Prop := ∃ tp p, w.cell? ⟨3, 0, none⟩ = some (.iface tp p)
theorem GOK.below {w w' : World} (h : GOK w) (hb : Below w.heap.size w w') : GOK w' := by
  obtain ⟨tp, p, hc⟩ := h
  exact ⟨tp, p, (hb.cell (p := ⟨3, 0, none⟩) (World.block_lt_of_cell? w _ hc)).trans hc⟩
set_option maxRecDepth 100000 in
set_option maxHeartbeats 4000000 in
theorem token_name (t : ByteArray) (w : World) (h : t.size ≤ 12) :
    Calls Tryd.prog 47 #[.agg #[.int .i64 3, .string t]] w fun e w' => e = .returned (.tuple #[.agg #[.int .i64 1, .string t, .int .i64 0, .int .i64 0], .int .i64 0]) ∧ Below w.heap.size w w' := by
  go_enter Tryd.func47, Tryd.ntmps47
  go_wp2
  exact bodyPost_ret (v := .tuple #[.agg #[.int .i64 1, .string t, .int .i64 0, .int .i64 0], .int .i64 0]) (by simp [results, Tryd.results47, go_sem]) rfl ⟨rfl, ((Below.refl _ _).alloc (Nat.le_refl _) _).alloc (by simp) _⟩
set_option maxRecDepth 100000 in
set_option maxHeartbeats 4000000 in
theorem token_long (t : ByteArray) (w : World) (h : 12 < t.size) :
    Calls Tryd.prog 47 #[.agg #[.int .i64 3, .string t]] w fun e w' => e = .returned (.tuple #[.agg #[.int .i64 0, .string ⟨#[]⟩, .int .i64 0, .int .i64 0], .int .i64 3]) ∧ Below w.heap.size w w' := by
  go_enter Tryd.func47, Tryd.ntmps47
  go_wp2
  exact bodyPost_ret (v := .tuple #[.agg #[.int .i64 0, .string ⟨#[]⟩, .int .i64 0, .int .i64 0], .int .i64 3]) (by simp [results, Tryd.results47, go_sem]) rfl ⟨rfl, ((Below.refl _ _).alloc (Nat.le_refl _) _).alloc (by simp) _⟩
set_option maxRecDepth 100000 in
set_option maxHeartbeats 4000000 in
theorem token_punct (t : ByteArray) (w : World) :
    Calls Tryd.prog 47 #[.agg #[.int .i64 5, .string t]] w fun e w' => e = .returned (.tuple #[.agg #[.int .i64 3, .string t, .int .i64 0, .int .i64 0], .int .i64 0]) ∧ Below w.heap.size w w' := by
  go_enter Tryd.func47, Tryd.ntmps47
  go_wp2
  exact bodyPost_ret (v := .tuple #[.agg #[.int .i64 3, .string t, .int .i64 0, .int .i64 0], .int .i64 0]) (by simp [results, Tryd.results47, go_sem]) rfl ⟨rfl, ((Below.refl _ _).alloc (Nat.le_refl _) _).alloc (by simp) _⟩
/-- Atoi as 'token' meets it: its number, its error's value, behind any world. -/
def AtoiIs (t : ByteArray) (w : World) (v : Int) (isErr : Bool) : Prop :=
  ∀ W, Below w.heap.size w W → Calls Tryd.prog 79 #[.string t] W fun e w' => ∃ ev, e = .returned (.tuple #[.int .i64 v, ev]) ∧ (isErr = false → ev = .nilIface) ∧ (isErr = true → ∃ N, ev = .iface 136 (.pointer (some ⟨N, 0, none⟩))) ∧ Below W.heap.size W w'
theorem atoi_is_ok (t : ByteArray) (ht : t.size ≤ 140737488351232) (w : World) (v : Int) (h : Lib.atoiAll t.data.toList = .ok v) : AtoiIs t w v false := by
  intro W _
  refine (Tryd.strconv_Atoi_ok t (by omega) v h W).mono ?_
  rintro e w' ⟨rfl, hw⟩
  refine ⟨_, rfl, fun _ => rfl, (fun h => by cases h), ?_⟩
  rcases hw with rfl | ⟨u, rfl⟩
  · exact Below.refl _ _
  · exact Lib.bytesWorld_below _ _ _
theorem atoi_is_range (t : ByteArray) (ht : t.size ≤ 140737488351232) (w : World) (hG : GOK w) (h : Lib.atoiAll t.data.toList = .range) : AtoiIs t w (Lib.atoiSat t.data.toList) true := by
  intro W hb
  obtain ⟨tp, p, hv⟩ := hG.below hb
  refine (Tryd.strconv_Atoi_range t (by omega) h (.iface tp p) W hv (.inr ⟨tp, p, rfl⟩)).mono ?_
  rintro e w' ⟨N, rfl, _, _, hb'⟩
  exact ⟨_, rfl, (fun h => by cases h), fun _ => ⟨N, rfl⟩, hb'⟩
theorem set4 {w : World} {g : Nat} {T : TypeId} {a b c d : Value} (h : w.heap[g]? = some (.cells #[a, b, c, d] T (0, 0))) (x y z u : Value) :
    ((((w.setCell ⟨g, 0, none⟩ x).setCell ⟨g, 1, none⟩ y).setCell ⟨g, 2, none⟩ z).setCell ⟨g, 3, none⟩ u).heap[g]? = some (.cells #[x, y, z, u] T (0, 0)) :=
  blk_set (blk_set (blk_set (blk_set h 0 x) 1 y) 2 z) 3 u
theorem below4 {w w1 : World} (h : Below w.heap.size w w1) (g : Nat) (hg : w.heap.size ≤ g) (x y z u : Value) :
    Below w.heap.size w ((((w1.setCell ⟨g, 0, none⟩ x).setCell ⟨g, 1, none⟩ y).setCell ⟨g, 2, none⟩ z).setCell ⟨g, 3, none⟩ u) :=
  (((h.setCell (p := ⟨g, 0, none⟩) hg _).setCell (p := ⟨g, 1, none⟩) hg _).setCell (p := ⟨g, 2, none⟩) hg _).setCell (p := ⟨g, 3, none⟩) hg _
/-- The two new blocks of 'token', behind Atoi. -/
theorem after_atoi {w w1 : World} {x : Value} (hb : Below ((w.alloc (.cells #[.int .i64 4, x] 74)).alloc (.cells #[.int .i64 0, .string ⟨#[]⟩, .int .i64 0, .int .i64 0] 45)).heap.size ((w.alloc (.cells #[.int .i64 4, x] 74)).alloc (.cells #[.int .i64 0, .string ⟨#[]⟩, .int .i64 0, .int .i64 0] 45)) w1) :
    w1.heap[w.heap.size]? = some (.cells #[.int .i64 4, x] 74 (0, 0)) ∧ w1.heap[w.heap.size + 1]? = some (.cells #[.int .i64 0, .string ⟨#[]⟩, .int .i64 0, .int .i64 0] 45 (0, 0)) ∧ Below w.heap.size w w1 := by
  refine ⟨blk_below (blk_alloc (blk_new w _) _) hb, blk_below ?_ hb, (((Below.refl _ _).alloc (Nat.le_refl _) _).alloc (by simp) _).trans (hb.mono (by simp; omega))⟩
  have := blk_new (w.alloc (.cells #[.int .i64 4, x] 74)) (.cells #[.int .i64 0, .string ⟨#[]⟩, .int .i64 0, .int .i64 0] 45)
  rwa [World.size_alloc] at this
set_option maxRecDepth 100000 in
set_option maxHeartbeats 4000000 in
theorem token_zero_true (t : ByteArray) (w : World) (v : Int) (hA : AtoiIs t w v true) (h1 : 1 < t.size) (h2 : (t[0].toNat : Int) = 48) :
    Calls Tryd.prog 47 #[.agg #[.int .i64 4, .string t]] w fun e w' => e = .returned (.tuple #[.agg #[.int .i64 0, .string ⟨#[]⟩, .int .i64 0, .int .i64 0], .int .i64 7]) ∧ Below w.heap.size w w' := by
  have H := Lib.hid hA
  clear hA
  go_enter Tryd.func47, Tryd.ntmps47
  go_wp2_with fail
  have hb0 : Below w.heap.size w ((w.alloc (.cells #[.int .i64 4, .string t] 74)).alloc (.cells #[.int .i64 0, .string ⟨#[]⟩, .int .i64 0, .int .i64 0] 45)) := ((Below.refl _ _).alloc (Nat.le_refl _) _).alloc (by simp) _
  refine (H.out _ hb0).mono ?_
  rintro e w1 ⟨ev, rfl, hev1, hev2, hb⟩
  clear hb0
  obtain ⟨N, rfl⟩ := hev2 rfl
  clear hev1 hev2
  obtain ⟨k0, k1, hb1⟩ := after_atoi hb
  clear hb
  have c0 := blk_cell k0 0
  have c1 := blk_cell k0 1
  have z0 := blk_cell k1 0
  have z1 := blk_cell k1 1
  have z2 := blk_cell k1 2
  have z3 := blk_cell k1 3
  have g0 := blk_frozen k1 0
  have g1 := blk_frozen k1 1
  have g2 := blk_frozen k1 2
  have g3 := blk_frozen k1 3
  simp at c0 c1 z0 z1 z2 z3
  have K1 := Lib.hid k1
  have HB := Lib.hid hb1
  clear k0 k1 hb1
  go_wp2
  all_goals first
    | (exfalso; omega)
    | (exact bodyPost_ret (results_ct rfl _ _ (w.heap.size + 1) 45 #[.int .i64 0, .string ⟨#[]⟩, .int .i64 0, .int .i64 0] (0, 0) _ rfl (set4 K1.out _ _ _ _) Tryd.underlying45 rfl (by kernel_rfl)) rfl ⟨rfl, below4 HB.out _ (Nat.le_succ _) _ _ _ _⟩)
set_option maxRecDepth 100000 in
set_option maxHeartbeats 4000000 in
theorem token_zero_false (t : ByteArray) (w : World) (v : Int) (hA : AtoiIs t w v false) (h1 : 1 < t.size) (h2 : (t[0].toNat : Int) = 48) :
    Calls Tryd.prog 47 #[.agg #[.int .i64 4, .string t]] w fun e w' => e = .returned (.tuple #[.agg #[.int .i64 0, .string ⟨#[]⟩, .int .i64 0, .int .i64 0], .int .i64 7]) ∧ Below w.heap.size w w' := by
  have H := Lib.hid hA
  clear hA
  go_enter Tryd.func47, Tryd.ntmps47
  go_wp2_with fail
  have hb0 : Below w.heap.size w ((w.alloc (.cells #[.int .i64 4, .string t] 74)).alloc (.cells #[.int .i64 0, .string ⟨#[]⟩, .int .i64 0, .int .i64 0] 45)) := ((Below.refl _ _).alloc (Nat.le_refl _) _).alloc (by simp) _
  refine (H.out _ hb0).mono ?_
  rintro e w1 ⟨ev, rfl, hev1, hev2, hb⟩
  clear hb0
  obtain rfl := hev1 rfl
  clear hev1 hev2
  obtain ⟨k0, k1, hb1⟩ := after_atoi hb
  clear hb
  have c0 := blk_cell k0 0
  have c1 := blk_cell k0 1
  have z0 := blk_cell k1 0
  have z1 := blk_cell k1 1
  have z2 := blk_cell k1 2
  have z3 := blk_cell k1 3
  have g0 := blk_frozen k1 0
  have g1 := blk_frozen k1 1
  have g2 := blk_frozen k1 2
  have g3 := blk_frozen k1 3
  simp at c0 c1 z0 z1 z2 z3
  have K1 := Lib.hid k1
  have HB := Lib.hid hb1
  clear k0 k1 hb1
  go_wp2
  all_goals first
    | (exfalso; omega)
    | (exact bodyPost_ret (results_ct rfl _ _ (w.heap.size + 1) 45 #[.int .i64 0, .string ⟨#[]⟩, .int .i64 0, .int .i64 0] (0, 0) _ rfl (set4 K1.out _ _ _ _) Tryd.underlying45 rfl (by kernel_rfl)) rfl ⟨rfl, below4 HB.out _ (Nat.le_succ _) _ _ _ _⟩)
set_option maxRecDepth 100000 in
set_option maxHeartbeats 4000000 in
theorem token_num_S (t : ByteArray) (w : World) (v : Int) (hA : AtoiIs t w v false) (h1 : t.size ≤ 1) (h3 : v ≤ 1000000000) :
    Calls Tryd.prog 47 #[.agg #[.int .i64 4, .string t]] w fun e w' => e = .returned (.tuple #[.agg #[.int .i64 2, .string ⟨#[]⟩, .int .i64 v, .int .i64 0], .int .i64 0]) ∧ Below w.heap.size w w' := by
  have H := Lib.hid hA
  clear hA
  go_enter Tryd.func47, Tryd.ntmps47
  go_wp2_with fail
  have hb0 : Below w.heap.size w ((w.alloc (.cells #[.int .i64 4, .string t] 74)).alloc (.cells #[.int .i64 0, .string ⟨#[]⟩, .int .i64 0, .int .i64 0] 45)) := ((Below.refl _ _).alloc (Nat.le_refl _) _).alloc (by simp) _
  refine (H.out _ hb0).mono ?_
  rintro e w1 ⟨ev, rfl, hev1, hev2, hb⟩
  clear hb0
  obtain rfl := hev1 rfl
  clear hev1 hev2
  obtain ⟨k0, k1, hb1⟩ := after_atoi hb
  clear hb
  have c0 := blk_cell k0 0
  have c1 := blk_cell k0 1
  have z0 := blk_cell k1 0
  have z1 := blk_cell k1 1
  have z2 := blk_cell k1 2
  have z3 := blk_cell k1 3
  have g0 := blk_frozen k1 0
  have g1 := blk_frozen k1 1
  have g2 := blk_frozen k1 2
  have g3 := blk_frozen k1 3
  simp at c0 c1 z0 z1 z2 z3
  have K1 := Lib.hid k1
  have HB := Lib.hid hb1
  clear k0 k1 hb1
  go_wp2
  all_goals first
    | (exfalso; omega)
    | (exact bodyPost_ret (results_ct rfl _ _ (w.heap.size + 1) 45 #[.int .i64 2, .string ⟨#[]⟩, .int .i64 v, .int .i64 0] (0, 0) _ rfl (set4 K1.out _ _ _ _) Tryd.underlying45 rfl (by kernel_rfl)) rfl ⟨rfl, below4 HB.out _ (Nat.le_succ _) _ _ _ _⟩)
set_option maxRecDepth 100000 in
set_option maxHeartbeats 4000000 in
theorem token_big_S (t : ByteArray) (w : World) (v : Int) (hA : AtoiIs t w v false) (h1 : t.size ≤ 1) (h3 : 1000000000 < v) :
    Calls Tryd.prog 47 #[.agg #[.int .i64 4, .string t]] w fun e w' => e = .returned (.tuple #[.agg #[.int .i64 0, .string ⟨#[]⟩, .int .i64 0, .int .i64 0], .int .i64 3]) ∧ Below w.heap.size w w' := by
  have H := Lib.hid hA
  clear hA
  go_enter Tryd.func47, Tryd.ntmps47
  go_wp2_with fail
  have hb0 : Below w.heap.size w ((w.alloc (.cells #[.int .i64 4, .string t] 74)).alloc (.cells #[.int .i64 0, .string ⟨#[]⟩, .int .i64 0, .int .i64 0] 45)) := ((Below.refl _ _).alloc (Nat.le_refl _) _).alloc (by simp) _
  refine (H.out _ hb0).mono ?_
  rintro e w1 ⟨ev, rfl, hev1, hev2, hb⟩
  clear hb0
  obtain rfl := hev1 rfl
  clear hev1 hev2
  obtain ⟨k0, k1, hb1⟩ := after_atoi hb
  clear hb
  have c0 := blk_cell k0 0
  have c1 := blk_cell k0 1
  have z0 := blk_cell k1 0
  have z1 := blk_cell k1 1
  have z2 := blk_cell k1 2
  have z3 := blk_cell k1 3
  have g0 := blk_frozen k1 0
  have g1 := blk_frozen k1 1
  have g2 := blk_frozen k1 2
  have g3 := blk_frozen k1 3
  simp at c0 c1 z0 z1 z2 z3
  have K1 := Lib.hid k1
  have HB := Lib.hid hb1
  clear k0 k1 hb1
  go_wp2
  all_goals first
    | (exfalso; omega)
    | (exact bodyPost_ret (results_ct rfl _ _ (w.heap.size + 1) 45 #[.int .i64 0, .string ⟨#[]⟩, .int .i64 0, .int .i64 0] (0, 0) _ rfl (set4 K1.out _ _ _ _) Tryd.underlying45 rfl (by kernel_rfl)) rfl ⟨rfl, below4 HB.out _ (Nat.le_succ _) _ _ _ _⟩)
set_option maxRecDepth 100000 in
set_option maxHeartbeats 4000000 in
theorem token_range_S (t : ByteArray) (w : World) (v : Int) (hA : AtoiIs t w v true) (h1 : t.size ≤ 1) :
    Calls Tryd.prog 47 #[.agg #[.int .i64 4, .string t]] w fun e w' => e = .returned (.tuple #[.agg #[.int .i64 0, .string ⟨#[]⟩, .int .i64 0, .int .i64 0], .int .i64 3]) ∧ Below w.heap.size w w' := by
  have H := Lib.hid hA
  clear hA
  go_enter Tryd.func47, Tryd.ntmps47
  go_wp2_with fail
  have hb0 : Below w.heap.size w ((w.alloc (.cells #[.int .i64 4, .string t] 74)).alloc (.cells #[.int .i64 0, .string ⟨#[]⟩, .int .i64 0, .int .i64 0] 45)) := ((Below.refl _ _).alloc (Nat.le_refl _) _).alloc (by simp) _
  refine (H.out _ hb0).mono ?_
  rintro e w1 ⟨ev, rfl, hev1, hev2, hb⟩
  clear hb0
  obtain ⟨N, rfl⟩ := hev2 rfl
  clear hev1 hev2
  obtain ⟨k0, k1, hb1⟩ := after_atoi hb
  clear hb
  have c0 := blk_cell k0 0
  have c1 := blk_cell k0 1
  have z0 := blk_cell k1 0
  have z1 := blk_cell k1 1
  have z2 := blk_cell k1 2
  have z3 := blk_cell k1 3
  have g0 := blk_frozen k1 0
  have g1 := blk_frozen k1 1
  have g2 := blk_frozen k1 2
  have g3 := blk_frozen k1 3
  simp at c0 c1 z0 z1 z2 z3
  have K1 := Lib.hid k1
  have HB := Lib.hid hb1
  clear k0 k1 hb1
  go_wp2
  all_goals first
    | (exfalso; omega)
    | (exact bodyPost_ret (results_ct rfl _ _ (w.heap.size + 1) 45 #[.int .i64 0, .string ⟨#[]⟩, .int .i64 0, .int .i64 0] (0, 0) _ rfl (set4 K1.out _ _ _ _) Tryd.underlying45 rfl (by kernel_rfl)) rfl ⟨rfl, below4 HB.out _ (Nat.le_succ _) _ _ _ _⟩)
set_option maxRecDepth 100000 in
set_option maxHeartbeats 4000000 in
theorem token_num_D (t : ByteArray) (w : World) (v : Int) (hA : AtoiIs t w v false) (h1 : 1 < t.size) (h2 : ¬ (t[0].toNat : Int) = 48) (h3 : v ≤ 1000000000) :
    Calls Tryd.prog 47 #[.agg #[.int .i64 4, .string t]] w fun e w' => e = .returned (.tuple #[.agg #[.int .i64 2, .string ⟨#[]⟩, .int .i64 v, .int .i64 0], .int .i64 0]) ∧ Below w.heap.size w w' := by
  have H := Lib.hid hA
  clear hA
  go_enter Tryd.func47, Tryd.ntmps47
  go_wp2_with fail
  have hb0 : Below w.heap.size w ((w.alloc (.cells #[.int .i64 4, .string t] 74)).alloc (.cells #[.int .i64 0, .string ⟨#[]⟩, .int .i64 0, .int .i64 0] 45)) := ((Below.refl _ _).alloc (Nat.le_refl _) _).alloc (by simp) _
  refine (H.out _ hb0).mono ?_
  rintro e w1 ⟨ev, rfl, hev1, hev2, hb⟩
  clear hb0
  obtain rfl := hev1 rfl
  clear hev1 hev2
  obtain ⟨k0, k1, hb1⟩ := after_atoi hb
  clear hb
  have c0 := blk_cell k0 0
  have c1 := blk_cell k0 1
  have z0 := blk_cell k1 0
  have z1 := blk_cell k1 1
  have z2 := blk_cell k1 2
  have z3 := blk_cell k1 3
  have g0 := blk_frozen k1 0
  have g1 := blk_frozen k1 1
  have g2 := blk_frozen k1 2
  have g3 := blk_frozen k1 3
  simp at c0 c1 z0 z1 z2 z3
  have K1 := Lib.hid k1
  have HB := Lib.hid hb1
  clear k0 k1 hb1
  go_wp2
  all_goals first
    | (exfalso; omega)
    | (exact bodyPost_ret (results_ct rfl _ _ (w.heap.size + 1) 45 #[.int .i64 2, .string ⟨#[]⟩, .int .i64 v, .int .i64 0] (0, 0) _ rfl (set4 K1.out _ _ _ _) Tryd.underlying45 rfl (by kernel_rfl)) rfl ⟨rfl, below4 HB.out _ (Nat.le_succ _) _ _ _ _⟩)
set_option maxRecDepth 100000 in
set_option maxHeartbeats 4000000 in
theorem token_big_D (t : ByteArray) (w : World) (v : Int) (hA : AtoiIs t w v false) (h1 : 1 < t.size) (h2 : ¬ (t[0].toNat : Int) = 48) (h3 : 1000000000 < v) :
    Calls Tryd.prog 47 #[.agg #[.int .i64 4, .string t]] w fun e w' => e = .returned (.tuple #[.agg #[.int .i64 0, .string ⟨#[]⟩, .int .i64 0, .int .i64 0], .int .i64 3]) ∧ Below w.heap.size w w' := by
  have H := Lib.hid hA
  clear hA
  go_enter Tryd.func47, Tryd.ntmps47
  go_wp2_with fail
  have hb0 : Below w.heap.size w ((w.alloc (.cells #[.int .i64 4, .string t] 74)).alloc (.cells #[.int .i64 0, .string ⟨#[]⟩, .int .i64 0, .int .i64 0] 45)) := ((Below.refl _ _).alloc (Nat.le_refl _) _).alloc (by simp) _
  refine (H.out _ hb0).mono ?_
  rintro e w1 ⟨ev, rfl, hev1, hev2, hb⟩
  clear hb0
  obtain rfl := hev1 rfl
  clear hev1 hev2
  obtain ⟨k0, k1, hb1⟩ := after_atoi hb
  clear hb
  have c0 := blk_cell k0 0
  have c1 := blk_cell k0 1
  have z0 := blk_cell k1 0
  have z1 := blk_cell k1 1
  have z2 := blk_cell k1 2
  have z3 := blk_cell k1 3
  have g0 := blk_frozen k1 0
  have g1 := blk_frozen k1 1
  have g2 := blk_frozen k1 2
  have g3 := blk_frozen k1 3
  simp at c0 c1 z0 z1 z2 z3
  have K1 := Lib.hid k1
  have HB := Lib.hid hb1
  clear k0 k1 hb1
  go_wp2
  all_goals first
    | (exfalso; omega)
    | (exact bodyPost_ret (results_ct rfl _ _ (w.heap.size + 1) 45 #[.int .i64 0, .string ⟨#[]⟩, .int .i64 0, .int .i64 0] (0, 0) _ rfl (set4 K1.out _ _ _ _) Tryd.underlying45 rfl (by kernel_rfl)) rfl ⟨rfl, below4 HB.out _ (Nat.le_succ _) _ _ _ _⟩)
set_option maxRecDepth 100000 in
set_option maxHeartbeats 4000000 in
theorem token_range_D (t : ByteArray) (w : World) (v : Int) (hA : AtoiIs t w v true) (h1 : 1 < t.size) (h2 : ¬ (t[0].toNat : Int) = 48) :
    Calls Tryd.prog 47 #[.agg #[.int .i64 4, .string t]] w fun e w' => e = .returned (.tuple #[.agg #[.int .i64 0, .string ⟨#[]⟩, .int .i64 0, .int .i64 0], .int .i64 3]) ∧ Below w.heap.size w w' := by
  have H := Lib.hid hA
  clear hA
  go_enter Tryd.func47, Tryd.ntmps47
  go_wp2_with fail
  have hb0 : Below w.heap.size w ((w.alloc (.cells #[.int .i64 4, .string t] 74)).alloc (.cells #[.int .i64 0, .string ⟨#[]⟩, .int .i64 0, .int .i64 0] 45)) := ((Below.refl _ _).alloc (Nat.le_refl _) _).alloc (by simp) _
  refine (H.out _ hb0).mono ?_
  rintro e w1 ⟨ev, rfl, hev1, hev2, hb⟩
  clear hb0
  obtain ⟨N, rfl⟩ := hev2 rfl
  clear hev1 hev2
  obtain ⟨k0, k1, hb1⟩ := after_atoi hb
  clear hb
  have c0 := blk_cell k0 0
  have c1 := blk_cell k0 1
  have z0 := blk_cell k1 0
  have z1 := blk_cell k1 1
  have z2 := blk_cell k1 2
  have z3 := blk_cell k1 3
  have g0 := blk_frozen k1 0
  have g1 := blk_frozen k1 1
  have g2 := blk_frozen k1 2
  have g3 := blk_frozen k1 3
  simp at c0 c1 z0 z1 z2 z3
  have K1 := Lib.hid k1
  have HB := Lib.hid hb1
  clear k0 k1 hb1
  go_wp2
  all_goals first
    | (exfalso; omega)
    | (exact bodyPost_ret (results_ct rfl _ _ (w.heap.size + 1) 45 #[.int .i64 0, .string ⟨#[]⟩, .int .i64 0, .int .i64 0] (0, 0) _ rfl (set4 K1.out _ _ _ _) Tryd.underlying45 rfl (by kernel_rfl)) rfl ⟨rfl, below4 HB.out _ (Nat.le_succ _) _ _ _ _⟩)
end Go.Proofs.YtdedlchpjboceaaDoor.Lx
end

section
namespace Go.Proofs.YtdedlchpjboceaaDoor.Lx
open Go.RowKit Go.Shelf Go.Proofs.YtdedlchpjboceaaDoorW.PrintWords
attribute [local go_sem] Oper.semAt_some
theorem head_get (t : ByteArray) (h : 0 < t.size) : t.data.toList.head? = some t[0] := by
  have := drop_at t 0 h
  rw [List.drop_zero] at this
  rw [this]; rfl
theorem byte_48 {c : UInt8} (h : (c.toNat : Int) = 48) : c = 48 := UInt8.toNat_inj.1 (by change c.toNat = 48; omega)
/-- 'token' at a span that has one. -/
theorem token_ok (k : Int) (t : ByteArray) (o : Nat) (x : Tk) (hk : k = 3 ∨ k = 4 ∨ k = 5) (h0 : 0 < t.size) (hd : k = 4 → ∀ c ∈ t.data.toList, digitB c) (ht : t.size ≤ 140737488351232) (w : World) (_ : GOK w) (h : tokOf k t.data.toList o = .ok x) :
    Calls Tryd.prog 47 #[.agg #[.int .i64 k, .string t]] w fun e w' => e = .returned (.tuple #[.agg #[.int .i64 x.kind, .string ⟨x.t.toArray⟩, .int .i64 x.n, .int .i64 0], .int .i64 0]) ∧ Below w.heap.size w w' := by
  unfold tokOf at h
  rw [list_size] at h
  rcases hk with rfl | rfl | rfl
  · simp only [if_true] at h
    split at h
    · cases h
    · injection h with h; subst h; exact token_name t w (by omega)
  · rw [if_neg (by decide)] at h
    simp only [if_true] at h
    split at h
    · cases h
    · rename_i hz
      split at h
      · cases h
      · rename_i hv
        injection h with h; subst h
        have hne : t.data.toList ≠ [] := by intro e; have := list_size t; rw [e] at this; simp at this; omega
        rcases atoi_digits t.data.toList hne (hd rfl) with e | ⟨_, hg⟩
        · have hA := atoi_is_ok t ht w _ e
          by_cases h1 : t.size ≤ 1
          · exact token_num_S t w _ hA h1 (by dsimp only; omega)
          · refine token_num_D t w _ hA (by omega) (fun e2 => hz ⟨by omega, ?_⟩) (by dsimp only; omega)
            rw [head_get t h0]
            exact congrArg some (byte_48 e2)
        · omega
  · rw [if_neg (by decide), if_neg (by decide)] at h
    injection h with h; subst h; exact token_punct t w
/-- 'token' at a span that has none. -/
theorem token_err (k : Int) (t : ByteArray) (o : Nat) (er : Int) (hk : k = 3 ∨ k = 4 ∨ k = 5) (h0 : 0 < t.size) (hd : k = 4 → ∀ c ∈ t.data.toList, digitB c) (ht : t.size ≤ 140737488351232) (w : World) (hG : GOK w) (h : tokOf k t.data.toList o = .error er) :
    Calls Tryd.prog 47 #[.agg #[.int .i64 k, .string t]] w fun e w' => e = .returned (.tuple #[.agg #[.int .i64 0, .string ⟨#[]⟩, .int .i64 0, .int .i64 0], .int .i64 er]) ∧ Below w.heap.size w w' := by
  unfold tokOf at h
  rw [list_size] at h
  rcases hk with rfl | rfl | rfl
  · simp only [if_true] at h
    split at h
    · injection h with h; subst h; exact token_long t w (by omega)
    · cases h
  · rw [if_neg (by decide)] at h
    simp only [if_true] at h
    have hne : t.data.toList ≠ [] := by intro e; have := list_size t; rw [e] at this; simp at this; omega
    split at h
    · rename_i hz
      injection h with h; subst h
      obtain ⟨h1, h2⟩ := hz
      rw [head_get t h0] at h2
      have h3 : (t[0].toNat : Int) = 48 := by rw [Option.some.inj h2]; rfl
      rcases atoi_digits t.data.toList hne (hd rfl) with e | ⟨e, hg⟩
      · exact token_zero_false t w _ (atoi_is_ok t ht w _ e) h1 h3
      · exact token_zero_true t w _ (atoi_is_range t ht w hG e) h1 h3
    · rename_i hz
      split at h
      · rename_i hv
        injection h with h; subst h
        by_cases h1 : t.size ≤ 1
        · rcases atoi_digits t.data.toList hne (hd rfl) with e | ⟨e, hg⟩
          · exact token_big_S t w _ (atoi_is_ok t ht w _ e) h1 (by omega)
          · exact token_range_S t w _ (atoi_is_range t ht w hG e) h1
        · have h2 : ¬ (t[0].toNat : Int) = 48 := fun e2 => hz ⟨by omega, by rw [head_get t h0]; exact congrArg some (byte_48 e2)⟩
          rcases atoi_digits t.data.toList hne (hd rfl) with e | ⟨e, hg⟩
          · exact token_big_D t w _ (atoi_is_ok t ht w _ e) (by omega) h2 (by omega)
          · exact token_range_D t w _ (atoi_is_range t ht w hG e) (by omega) h2
      · cases h
  · rw [if_neg (by decide), if_neg (by decide)] at h
    cases h
end Go.Proofs.YtdedlchpjboceaaDoor.Lx
end

section
namespace Go.Proofs.YtdedlchpjboceaaDoor.Lx
open Go.RowKit Go.Shelf Go.Proofs.YtdedlchpjboceaaDoorW.PrintWords
attribute [local go_sem] Oper.semAt_some
theorem cells_new (w : World) (cs : List Value) (t : TypeId) : ∀ j u, cs[j]? = some u → (w.alloc (.cells cs.toArray t)).cell? ((⟨w.heap.size, 0, none⟩ : Addr).add j) = some u := by
  intro j u hj
  rw [add_plain, blk_cell (blk_new w _)]
  simpa using hj
/-- The cells of tokens. -/
def tkCell (x : Tk) : List Value := [.int .i64 x.kind, .string ⟨x.t.toArray⟩, .int .i64 x.n, .int .i64 x.o]
def tkCells (ts : List Tk) : List Value := ts.flatMap tkCell
theorem tkCells_snoc (ts : List Tk) (x : Tk) : tkCells (ts ++ [x]) = tkCells ts ++ tkCell x := by simp [tkCells]
/-- Between two rounds: what has come, and what lies where. -/
def LI (w : World) (s : ByteArray) (pre : List (SpIn s)) (W : World) : Prop :=
  (∃ v ts, procF (vals pre) = .ok ts ∧ Boxed W (w.heap.size + 1 + 1 + 1) 29 v ∧ W.ownsRow w.heap.size 45 4 v ts.length (tkCells ts)) ∧
  Boxed W w.heap.size 29 (.slice none 0 0) ∧ Boxed W (w.heap.size + 1) 30 (.int .i64 0) ∧ Boxed W (w.heap.size + 1 + 1) 3 (.int .i64 0) ∧ Below w.heap.size w W ∧ Boxed W (w.heap.size + 1 + 1 + 1 + 1) 9 (.string s)
/-- A round has left. -/
def LX (w : World) (s : ByteArray) (c : Code) (pre : List (SpIn s)) (W : World) : Prop :=
  c = .ret ∧ (∃ er o, procF (vals pre) = .error (er, o) ∧ Boxed W w.heap.size 29 (.slice none 0 0) ∧ Boxed W (w.heap.size + 1) 30 (.int .i64 er) ∧ Boxed W (w.heap.size + 1 + 1) 3 (.int .i64 (o : Nat))) ∧ Below w.heap.size w W
theorem boxed_kept {W W' : World} {row : Option Nat} {B : Nat} {t : TypeId} {v : Value} (h : Boxed W B t v) (hg : W.grownBy W' row) (hr : ∀ r, row = some r → ∃ o : Obj, W.heap[r]? = some o ∧ o.isCells = false) : Boxed W' B t v :=
  h.kept hg (fun e' => by obtain ⟨o, ho, hc⟩ := hr B e'.symm; rw [show W.heap[B]? = _ from h] at ho; cases ho; cases hc)
theorem row_kept {W W' : World} {row : Option Nat} {base : Nat} {e : TypeId} {size k : Nat} {v : Value} {xs : List Value} (h : W.ownsRow base e size v k xs) (hg : W.grownBy W' row) (hr : ∀ r, row = some r → ∃ o : Obj, W.heap[r]? = some o ∧ o.isCells = false) : W'.ownsRow base e size v k xs := by
  refine h.kept hg ?_
  rcases h.2 with ⟨rfl, _⟩ | ⟨g, cap, cur, rfl, _, hgb, _⟩
  · exact .inl rfl
  · refine .inr fun e' => ?_
    obtain ⟨o, ho, hc⟩ := hr g (by simpa [Value.ownBlock] using e'.symm)
    rw [hgb] at ho; cases ho; cases hc
theorem LI_own (w : World) (s : ByteArray) (B : Nat) (hB : w.heap.size ≤ B) : OwnFrom B (LI w s) := by
  rintro pre W W' row ⟨⟨v, ts, h1, h2, h3⟩, h4, h5, h6, h7, h8⟩ hg hr
  have hr' : ∀ r, row = some r → ∃ o : Obj, W.heap[r]? = some o ∧ o.isCells = false := fun r e => (hr r e).2
  exact ⟨⟨v, ts, h1, boxed_kept h2 hg hr', row_kept h3 hg hr'⟩, boxed_kept h4 hg hr', boxed_kept h5 hg hr', boxed_kept h6 hg hr', h7.grown hg h7.size (fun k e => Nat.le_trans hB (hr k e).1), boxed_kept h8 hg hr'⟩
theorem LX_own (w : World) (s : ByteArray) (c : Code) (B : Nat) (hB : w.heap.size ≤ B) : OwnFrom B (LX w s c) := by
  rintro pre W W' row ⟨hc, ⟨er, o, h1, h2, h3, h4⟩, h7⟩ hg hr
  have hr' : ∀ r, row = some r → ∃ o : Obj, W.heap[r]? = some o ∧ o.isCells = false := fun r e => (hr r e).2
  exact ⟨hc, ⟨er, o, h1, boxed_kept h2 hg hr', boxed_kept h3 hg hr', boxed_kept h4 hg hr'⟩, h7.grown hg h7.size (fun k e => Nat.le_trans hB (hr k e).1)⟩
/-- The three results stored: a round has left. -/
theorem LX_mk {w W : World} {s : ByteArray} {pre : List (SpIn s)} {er : Int} {o : Nat} (h : procF (vals pre) = .error (er, o)) {v4 v5 v6 : Value}
    (h4 : Boxed W w.heap.size 29 v4) (h5 : Boxed W (w.heap.size + 1) 30 v5) (h6 : Boxed W (w.heap.size + 1 + 1) 3 v6) (h7 : Below w.heap.size w W) :
    LX w s .ret pre (((W.setCell ⟨w.heap.size, 0, none⟩ (.slice none 0 0)).setCell ⟨w.heap.size + 1, 0, none⟩ (.int .i64 er)).setCell ⟨w.heap.size + 1 + 1, 0, none⟩ (.int .i64 (o : Nat))) := by
  refine ⟨rfl, ⟨er, o, h, ?_, ?_, ?_⟩, ?_⟩
  · exact ((h4.set _).other (by omega) _).other (by omega) _
  · exact ((h5.other (by omega) _).set _).other (by omega) _
  · exact (((h6.other (by omega) _).other (by omega) _)).set _
  · exact ((h7.setCell (p := ⟨_, 0, none⟩) (Nat.le_refl _) _).setCell (p := ⟨_, 0, none⟩) (by show w.heap.size ≤ w.heap.size + 1; omega) _).setCell (p := ⟨_, 0, none⟩) (by show w.heap.size ≤ w.heap.size + 1 + 1; omega) _
theorem boxed_below {W W' : World} {B : Nat} {t : TypeId} {v : Value} (h : Boxed W B t v) (hb : Below W.heap.size W W') : Boxed W' B t v := blk_below h hb
theorem row_below {W W' : World} {base : Nat} {e : TypeId} {size k : Nat} {v : Value} {xs : List Value} (h : W.ownsRow base e size v k xs) (hb : Below W.heap.size W W') : W'.ownsRow base e size v k xs := pw_own_below h hb
theorem tokOf_err {k : Int} {t : List UInt8} {o : Nat} {er : Int} (h : tokOf k t o = .error er) : 0 < er := by
  unfold tokOf at h
  repeat' split at h
  all_goals first | (injection h with h; subst h; decide) | cases h
theorem tokOf_o {k : Int} {t : List UInt8} {o : Nat} {x : Tk} (h : tokOf k t o = .ok x) : x.o = o := by
  unfold tokOf at h
  repeat' split at h
  all_goals first | (injection h with h; subst h; rfl) | cases h
theorem Tryd.infoTok : (Tryd.prog.info? 45).map (fun i => (i.zero, i.size, i.bytes)) = some (some (.agg #[.int .i64 0, .string ⟨#[]⟩, .int .i64 0, .int .i64 0]), 4, 40) := by kernel_rfl
theorem keeps_below {W W' : World} (hb : Below W.heap.size W W') : KeepsOthers W W' := ⟨hb.size, fun _ _ hk _ => blk_below hk hb⟩
theorem keeps3 (W : World) (a b c : Addr) (x y z : Value) (B : Nat) : KeepsFrom B W (((W.setCell a x).setCell b y).setCell c z) :=
  (((KeepsOthers.setCell W a x).trans (KeepsOthers.setCell _ b y)).trans (KeepsOthers.setCell _ c z)).from B
/-- The frame of a round behind the assignment to the loop's variables. -/
abbrev LTmps (w : World) (s : ByteArray) (x : Sp) (Bx : Nat) : Array Value :=
  #[.string s, undef, .pointer (some ⟨w.heap.size, 0, none⟩), .pointer (some ⟨w.heap.size + 1, 0, none⟩), .pointer (some ⟨w.heap.size + 1 + 1, 0, none⟩), .pointer (some ⟨w.heap.size + 1 + 1 + 1, 0, none⟩), .int .i64 x.o, .pointer (some ⟨Bx, 0, none⟩), undef, undef, .string s, .int .i64 s.size, .bool (decide (8000 < (s.size : Int))), .string s, .func (.func 73) #[] #[.pointer (some ⟨w.heap.size + 1 + 1 + 1 + 1, 0, none⟩)], .int .i64 x.o, .agg #[.int .i64 x.k, .string ⟨x.t.toArray⟩], undef, undef, undef, undef, undef, undef, undef, undef, undef, undef, undef, undef, undef, undef, undef, undef, undef, undef, undef, undef, undef, undef, undef, undef, undef, undef, undef, undef, undef, undef, undef, undef, undef, undef, undef]
/-- The loop's variable x lies in block Bx. -/
def LA (w : World) (s : ByteArray) (x : SpIn s) (a : Act) (W : World) : Prop :=
  ∃ Bx, w.heap.size + 1 + 1 + 1 + 1 < Bx ∧ W.heap[Bx]? = some (.cells #[.int .i64 x.1.k, .string ⟨x.1.t.toArray⟩] 74 (0, 0)) ∧ a = { tmps := LTmps w s x.1 Bx, defers := [] }
theorem LA_own (w : World) (s : ByteArray) (x : SpIn s) (a : Act) (B : Nat) : OwnFrom B (fun (_ : Unit) W => LA w s x a W) := by
  rintro _ W W' row ⟨Bx, h1, h2, h3⟩ hg hr
  exact ⟨Bx, h1, (hg.block Bx (blk_lt h2) (fun e => by obtain ⟨_, o, ho, hc⟩ := hr Bx e.symm; rw [h2] at ho; cases ho; cases hc)).trans h2, h3⟩
set_option maxRecDepth 100000 in
set_option maxHeartbeats 8000000 in
theorem Lex_main (s : ByteArray) (h : s.size ≤ 8000) (w : World) (hG : GOK w) :
    Calls Tryd.prog 21 #[.string s] w fun e w' => ((∃ v ts, procF (spans s.data.toList 0) = .ok ts ∧ e = .returned (.tuple #[v, .int .i64 0, .int .i64 0]) ∧ w'.ownsRow w.heap.size 45 4 v ts.length (tkCells ts)) ∨
      (∃ er o, procF (spans s.data.toList 0) = .error (er, o) ∧ e = .returned (.tuple #[.slice none 0 0, .int .i64 er, .int .i64 (o : Nat)]))) ∧ Below w.heap.size w w' := by
  have G := Lib.hid hG
  clear hG
  refine (callsIn_wide (n := 5)).1 ?_
  refine callsIn_of_wp_marks Tryd.func21 rfl trivial ?_ rfl
  simp only [Tryd.ntmps21, List.size_toArray, List.length_cons, List.length_nil, Nat.reduceAdd, Nat.reduceSub, Array.replicate_succ, Array.replicate_zero, List.push_toArray, List.append_toArray, List.nil_append, List.cons_append]
  gi_wp2_with (refine ⟨trivial, ?_⟩; gi_at_call 46; refine (callsIn_wide.2 (spans_any _ _)).mono ?_; rintro e w' ⟨rfl, rfl⟩)
  obtain ⟨W0, hW0⟩ : ∃ W0 : World, W0 = (((((w.alloc (.cells #[.slice none 0 0] 29)).alloc (.cells #[.int .i64 0] 30)).alloc (.cells #[.int .i64 0] 3)).alloc (.cells #[.slice none 0 0] 29)).alloc (.cells #[.string s] 9)) := ⟨_, rfl⟩
  rw [← hW0]
  have hsz : W0.heap.size = w.heap.size + 1 + 1 + 1 + 1 + 1 := by rw [hW0]; simp
  have b0 : Boxed W0 w.heap.size 29 (.slice none 0 0) := by rw [hW0]; exact ((((Boxed.new w _ _).alloc _).alloc _).alloc _).alloc _
  have b1 : Boxed W0 (w.heap.size + 1) 30 (.int .i64 0) := by
    rw [hW0]; have := (((Boxed.new (w.alloc (.cells #[.slice none 0 0] 29)) 30 (.int .i64 0)).alloc (.cells #[.int .i64 0] 3)).alloc (.cells #[.slice none 0 0] 29)).alloc (.cells #[.string s] 9); rwa [World.size_alloc] at this
  have b2 : Boxed W0 (w.heap.size + 1 + 1) 3 (.int .i64 0) := by
    rw [hW0]; have := ((Boxed.new ((w.alloc (.cells #[.slice none 0 0] 29)).alloc (.cells #[.int .i64 0] 30)) 3 (.int .i64 0)).alloc (.cells #[.slice none 0 0] 29)).alloc (.cells #[.string s] 9); rwa [World.size_alloc, World.size_alloc] at this
  have b3 : Boxed W0 (w.heap.size + 1 + 1 + 1) 29 (.slice none 0 0) := by
    rw [hW0]; have := (Boxed.new (((w.alloc (.cells #[.slice none 0 0] 29)).alloc (.cells #[.int .i64 0] 30)).alloc (.cells #[.int .i64 0] 3)) 29 (.slice none 0 0)).alloc (.cells #[.string s] 9); rwa [World.size_alloc, World.size_alloc, World.size_alloc] at this
  have b4 : Boxed W0 (w.heap.size + 1 + 1 + 1 + 1) 9 (.string s) := by
    rw [hW0]; have := Boxed.new ((((w.alloc (.cells #[.slice none 0 0] 29)).alloc (.cells #[.int .i64 0] 30)).alloc (.cells #[.int .i64 0] 3)).alloc (.cells #[.slice none 0 0] 29)) 9 (.string s); rwa [World.size_alloc, World.size_alloc, World.size_alloc, World.size_alloc] at this
  have hB : Below w.heap.size w W0 := by
    rw [hW0]; exact (((((Below.refl _ _).alloc (Nat.le_refl _) _).alloc (by simp) _).alloc (by simp; omega) _).alloc (by simp; omega) _).alloc (by simp; omega) _
  clear hW0
  refine wpIn_rangeFunc_ownH rfl (by omega) (gf := 73) (lb := #[.pointer (some ⟨w.heap.size + 1 + 1 + 1 + 1, 0, none⟩)]) rfl trivial (enters_of Tryd.func73 (by kernel_rfl) rfl)
    (spans_stops _ (by omega) (w.heap.size + 1 + 1 + 1 + 1) s (by omega) W0 (by omega) b4.cell) (fun h k => h.trans k) (KeepB.put (by omega)) (Below.refl _ _) (fun _ => rfl)
    (LI w s) (LX w s) (LI_own w s _ (by omega)) (fun c => LX_own w s c _ (by omega)) ⟨⟨_, [], rfl, b3, World.ownsRow_nil _ _ _ _⟩, b0, b1, b2, hB, b4⟩
    (LA w s) (fun x a' => LA_own w s x a' _) ?assign ?body ?done ?stop
  case assign =>
    rintro l pre x W K hI hK
    gi_wp2
    have hI' := LI_own w s (W0.heap.size) (by omega)
    obtain ⟨_, _, _, _, _, h8⟩ := id hI
    exact hK _ _ ((KeepsOthers.alloc _ _).from _) ⟨by simp, Below.heap_alloc _ _ _ h8.lt⟩ (hI'.alloc _ hI) ⟨W.heap.size, h8.lt, blk_new _ _, rfl⟩
  case body =>
    clear b0 b1 b2 b3 b4 hB
    rintro l pre x a' W hl hrec ⟨⟨v, ts, h1, h2, h3⟩, h4, h5, h6, h7, h8⟩ ⟨Bx, hBx, bX, rfl⟩ hlt
    clear hl hrec
    obtain ⟨s1, s2, s3, s4, s5, s6, s7⟩ := spans_good _ _ x.1 x.2
    have HP := Lib.hid (show procF (vals (pre ++ [x])) = pstep (.ok ts) x.1 by rw [← h1, ← procF_snoc]; simp [vals])
    obtain ⟨⟨o, k, t⟩, hm⟩ := x
    dsimp only at s1 s2 s3 s4 s5 s6 s7 bX
    have cx0 := blk_cell bX 0
    have cx1 := blk_cell bX 1
    simp at cx0 cx1
    have BX := Lib.hid bX
    have H1 := Lib.hid h1
    clear bX h1
    have c2 := h2.cell
    have c4 := h4.cell
    have c5 := h5.cell
    have c6 := h6.cell
    have f2 := h2.frozen
    have f4 := h4.frozen
    have f5 := h5.frozen
    have f6 := h6.frozen
    rcases (by omega : k = 0 ∨ k = 1 ∨ k = 2 ∨ (k = 3 ∨ k = 4 ∨ k = 5)) with rfl | rfl | rfl | hk
    · have hp : procF (vals (pre ++ [⟨⟨o, 0, t⟩, hm⟩])) = .error (7, o) := HP.out
      have HP' := Lib.hid hp
      clear hp HP
      gi_wp2
      exact ⟨keeps3 _ _ _ _ _ _ _ _, LX_mk HP'.out h4 h5 h6 h7⟩
    · have hp : procF (vals (pre ++ [⟨⟨o, 1, t⟩, hm⟩])) = .ok ts := HP.out
      have HP' := Lib.hid hp
      clear hp HP
      gi_wp2
      exact ⟨KeepsFrom.refl _ _, ⟨Nat.le_refl _, rfl⟩, ⟨v, ts, HP'.out, h2, h3⟩, h4, h5, h6, h7, h8⟩
    · have hp : procF (vals (pre ++ [⟨⟨o, 2, t⟩, hm⟩])) = .ok ts := HP.out
      have HP' := Lib.hid hp
      clear hp HP
      gi_wp2
      exact ⟨KeepsFrom.refl _ _, ⟨Nat.le_refl _, rfl⟩, ⟨v, ts, HP'.out, h2, h3⟩, h4, h5, h6, h7, h8⟩
    · obtain ⟨A, c, rfl⟩ := own_slice h3
      have hk2 : 2 < k := by omega
      have n0 : (k == 0) = false := by simp; omega
      have n1 : (k == 1) = false := by simp; omega
      have n2 : (k == 2) = false := by simp; omega
      have Hk := Lib.hid hk
      clear hk
      have hts : ts.length ≤ 2000 := (toks_length _ _ H1.out).2
      have hsz0 : (⟨t.toArray⟩ : ByteArray).size = t.length := by simp [ByteArray.size]
      have H0 : Hid (0 < (⟨t.toArray⟩ : ByteArray).size) := Lib.hid (by rw [hsz0]; exact List.length_pos_iff.2 s1)
      have H4 : Hid (k = 4 → ∀ c ∈ (⟨t.toArray⟩ : ByteArray).data.toList, digitB c) := Lib.hid (by simpa using s2)
      have H5 : Hid ((⟨t.toArray⟩ : ByteArray).size ≤ 140737488351232) := Lib.hid (by rw [hsz0]; rw [list_size] at s5; omega)
      clear s1 s2 s3 s4 s5 s6 s7 hsz0
      by_cases hl : ts.length = 2000
      · have hp : procF (vals (pre ++ [⟨⟨o, k, t⟩, hm⟩])) = .error (2, o) := by
          rw [HP.out]; simp only [pstep]; rw [if_neg (by omega), if_neg (by omega), if_pos hl]
        have HP' := Lib.hid hp
        have hlB : ((ts.length : Int) == 2000) = true := by simp; omega
        clear hp HP hl
        gi_wp2
        exact ⟨keeps3 _ _ _ _ _ _ _ _, LX_mk HP'.out h4 h5 h6 h7⟩
      · have hlB : ((ts.length : Int) == 2000) = false := by simp; omega
        cases hT : tokOf k t o with
        | error er =>
          have hp : procF (vals (pre ++ [⟨⟨o, k, t⟩, hm⟩])) = .error (er, o) := by
            rw [HP.out]; simp only [pstep]; rw [if_neg (by omega), if_neg (by omega), if_neg hl, hT]
          have HP' := Lib.hid hp
          have her := tokOf_err hT
          have HT := Lib.hid hT
          clear hp HP hT hl
          gi_wp2_with fail
          refine ⟨trivial, ?_⟩
          refine (CallsIn.inRound l (callsIn_wide.2 (token_err k ⟨t.toArray⟩ o er Hk.out H0.out H4.out H5.out _ (G.out.below h7) HT.out))).mono ?_
          rintro e w1 ⟨rfl, hb⟩
          have j4 := boxed_below h4 hb
          have j5 := boxed_below h5 hb
          have j6 := boxed_below h6 hb
          have i4 := j4.cell
          have i5 := j5.cell
          have i6 := j6.cell
          have e4 := j4.frozen
          have e5 := j5.frozen
          have e6 := j6.frozen
          have hb7 : Below w.heap.size w w1 := h7.trans (hb.mono h7.size)
          have lt4 := j4.lt
          have lt5 := j5.lt
          have lt6 := j6.lt
          have HK := Lib.hid (keeps_below hb)
          clear c2 c4 c5 c6 f2 f4 f5 f6 hb
          gi_wp2
          exact ⟨((HK.out.trans (((KeepsOthers.setCell _ _ _).trans (KeepsOthers.setCell _ _ _)).trans (KeepsOthers.setCell _ _ _))).trans (KeepsOthers.alloc _ _)).from _, (LX_own w s .ret w.heap.size (Nat.le_refl _)).alloc _ (LX_mk HP'.out j4 j5 j6 hb7)⟩
        | ok y =>
          have hp : procF (vals (pre ++ [⟨⟨o, k, t⟩, hm⟩])) = .ok (ts ++ [y]) := by
            rw [HP.out]; simp only [pstep]; rw [if_neg (by omega), if_neg (by omega), if_neg hl, hT]
          have hyo := tokOf_o hT
          have HP' := Lib.hid hp
          have HT := Lib.hid hT
          clear hp HP hT hl
          gi_wp2_with fail
          refine ⟨trivial, ?_⟩
          refine (CallsIn.inRound l (callsIn_wide.2 (token_ok k ⟨t.toArray⟩ o y Hk.out H0.out H4.out H5.out _ (G.out.below h7) HT.out))).mono ?_
          rintro e w1 ⟨rfl, hb⟩
          have j2 := boxed_below h2 hb
          have j3 := row_below h3 hb
          have j4 := boxed_below h4 hb
          have j5 := boxed_below h5 hb
          have j6 := boxed_below h6 hb
          have j8 := boxed_below h8 hb
          have i2 := j2.cell
          have e2 := j2.frozen
          have hb7 : Below w.heap.size w w1 := h7.trans (hb.mono h7.size)
          have lt2 := j2.lt
          have HK := Lib.hid (keeps_below hb)
          have HL := Lib.hid hb.size
          have H8 := Lib.hid h8
          clear c2 c4 c5 c6 f2 f4 f5 f6 hb h2 h3 h4 h5 h6 h8
          obtain ⟨i0, hi, hz0, hz1, hz2⟩ := info_parts Tryd.infoTok
          have J3 := Lib.hid j3
          have Hb7 := Lib.hid hb7
          clear j3 hb7
          gi_wp2_with (gi_at_builtin; (refine wpListIn_append_own _ rfl (.tmp 47) (.tmp 49) 29 rfl w.heap.size 45 i0 (.agg #[.int .i64 0, .string ⟨#[]⟩, .int .i64 0, .int .i64 0]) 4 40 Tryd.underlying29 hi hz0 hz1 hz2 rfl (by decide) _ ts.length (tkCells ts) rfl ((J3.out.alloc _).alloc _) ⟨w1.heap.size + 1, 0, none⟩ 1 1 [.int .i64 y.kind, .string ⟨y.t.toArray⟩, .int .i64 y.n, .int .i64 o] rfl rfl (by have hcn := cells_new (w1.alloc (.cells #[.int .i64 y.kind, .string ⟨y.t.toArray⟩, .int .i64 y.n, .int .i64 o] 45)) [.int .i64 y.kind, .string ⟨y.t.toArray⟩, .int .i64 y.n, .int .i64 o] 45; rw [World.size_alloc] at hcn; exact hcn) (by simp [Value.oneCell']) (by unfold maxLen; omega) (by omega) (by simp; have := HL.out; have := h7.size; omega) ?_); (intro v' w2 hown' hgrow _; obtain ⟨g', cap', rfl⟩ := ownsRow_succ hown'; obtain ⟨hv1, hv2, hr2, hk2, hb2⟩ := (j2.alloc _).appended (by decide) (J3.out.alloc _) (by simp; have := HL.out; have := h7.size; omega) (by omega) hown' hgrow; have i2' := hv1.cell; have e2' := hv1.frozen; have HV := Lib.hid hv2; have HR := Lib.hid hr2; have HK2 := Lib.hid hk2; have HB2 := Lib.hid hb2; have HG := Lib.hid hgrow; clear hv2 hr2 hk2 hb2 hgrow hown' hv1))
          have kept : ∀ {B t : Nat} {u : Value}, Boxed w1 B t u → t ≠ 45 → B ≠ w.heap.size + 1 + 1 + 1 → Boxed (w2.setCell ⟨w.heap.size + 1 + 1 + 1, 0, none⟩ (.slice (some ⟨g', 0, none⟩) (ts.length + 1) cap')) B t u := by
            intro B t u hb ht hne
            have hb' : Boxed ((w1.alloc (.cells #[.int .i64 y.kind, .string ⟨y.t.toArray⟩, .int .i64 y.n, .int .i64 o] 45)).alloc (.cells #[.int .i64 y.kind, .string ⟨y.t.toArray⟩, .int .i64 y.n, .int .i64 o] 45)) B t u := (hb.alloc _).alloc _
            exact (hb'.kept HG.out (hb'.not_row ht ((J3.out.alloc _).alloc _))).other hne _
          have k8 := kept j8 (by decide) (by omega)
          refine ⟨(HK.out.trans ((KeepsOthers.alloc _ _).trans HK2.out)).from _, ⟨?_, ?_⟩, ⟨_, ts ++ [y], HP'.out, HV.out, ?_⟩, kept j4 (by decide) (by omega), kept j5 (by decide) (by omega), kept j6 (by decide) (by omega), (Hb7.out.alloc Hb7.out.size _).trans HB2.out, k8⟩
          · exact (HK.out.trans ((KeepsOthers.alloc _ _).trans HK2.out)).size
          · exact k8.trans H8.out.symm
          · rw [tkCells_snoc, List.length_append]
            unfold tkCell
            rw [hyo]
            exact HR.out
  case done =>
    rintro D xs W hD hxs ⟨⟨v, ts, h1, h2, h3⟩, h4, h5, h6, h7, h8⟩ hK
    rw [hxs] at h1
    obtain ⟨A, c, rfl⟩ := own_slice h3
    have c2 := h2.cell
    have c4 := h4.cell
    have c5 := h5.cell
    have c6 := h6.cell
    have f4 := h4.frozen
    have f5 := h5.frozen
    have f6 := h6.frozen
    have H1 := Lib.hid h1
    have H3 := Lib.hid h3
    clear h1 h3
    gi_wp2
    have hK' := ((((KeepsOthers.setCell W ⟨w.heap.size, 0, none⟩ (.slice A ts.length c)).trans (KeepsOthers.setCell _ ⟨w.heap.size + 1, 0, none⟩ (.int .i64 0))).trans (KeepsOthers.setCell _ ⟨w.heap.size + 1 + 1, 0, none⟩ (.int .i64 0)))).same D _ hK rfl
    refine ⟨by simp, .inl ⟨_, _, rfl, run_takeDeferred hK', ?_⟩⟩
    have hr : ∀ r, some D = some r → ∃ o : Obj, (((W.setCell ⟨w.heap.size, 0, none⟩ (.slice A ts.length c)).setCell ⟨w.heap.size + 1, 0, none⟩ (.int .i64 0)).setCell ⟨w.heap.size + 1 + 1, 0, none⟩ (.int .i64 0)).heap[r]? = some o ∧ o.isCells = false := fun r e => by cases e; exact ⟨_, hK', rfl⟩
    have q4 := boxed_kept (((h4.set (.slice A ts.length c)).other (by omega) (.int .i64 0)).other (B' := w.heap.size + 1 + 1) (by omega) (.int .i64 0)) (grownBy_putObj' _ D (.deferred none)) hr
    have q5 := boxed_kept (((h5.other (B' := w.heap.size) (by omega) (.slice A ts.length c)).set (.int .i64 0)).other (B' := w.heap.size + 1 + 1) (by omega) (.int .i64 0)) (grownBy_putObj' _ D (.deferred none)) hr
    have q6 := boxed_kept (((h6.other (B' := w.heap.size) (by omega) (.slice A ts.length c)).other (B' := w.heap.size + 1) (by omega) (.int .i64 0)).set (.int .i64 0)) (grownBy_putObj' _ D (.deferred none)) hr
    have hB3 : Below w.heap.size w (((W.setCell ⟨w.heap.size, 0, none⟩ (.slice A ts.length c)).setCell ⟨w.heap.size + 1, 0, none⟩ (.int .i64 0)).setCell ⟨w.heap.size + 1 + 1, 0, none⟩ (.int .i64 0)) :=
      ((h7.setCell (p := ⟨_, 0, none⟩) (Nat.le_refl _) _).setCell (p := ⟨_, 0, none⟩) (by show w.heap.size ≤ w.heap.size + 1; omega) _).setCell (p := ⟨_, 0, none⟩) (by show w.heap.size ≤ w.heap.size + 1 + 1; omega) _
    have r4 := q4.cell
    have r5 := q5.cell
    have r6 := q6.cell
    have HB3 := Lib.hid (hB3.trans (belowK_b (w := w) (Nat.le_refl _) _ D _ (.deferred none) (by omega) hK' rfl rfl))
    have HR := Lib.hid (row_kept (((H3.out.kept (grownBy_setCell' W w.heap.size (.slice A ts.length c)) (.inr (h4.not_row (by decide) H3.out).symm)).kept (grownBy_setCell' _ (w.heap.size + 1) (.int .i64 0)) (.inr ((h5.other (B' := w.heap.size) (by omega) (.slice A ts.length c)).not_row (by decide) (H3.out.kept (grownBy_setCell' W w.heap.size (.slice A ts.length c)) (.inr (h4.not_row (by decide) H3.out).symm))).symm)).kept (grownBy_setCell' _ (w.heap.size + 1 + 1) (.int .i64 0)) (.inr (((h6.other (B' := w.heap.size) (by omega) (.slice A ts.length c)).other (B' := w.heap.size + 1) (by omega) (.int .i64 0)).not_row (by decide) ((H3.out.kept (grownBy_setCell' W w.heap.size (.slice A ts.length c)) (.inr (h4.not_row (by decide) H3.out).symm)).kept (grownBy_setCell' _ (w.heap.size + 1) (.int .i64 0)) (.inr ((h5.other (B' := w.heap.size) (by omega) (.slice A ts.length c)).not_row (by decide) (H3.out.kept (grownBy_setCell' W w.heap.size (.slice A ts.length c)) (.inr (h4.not_row (by decide) H3.out).symm))).symm))).symm)) (grownBy_putObj' _ D (.deferred none)) hr)
    refine ⟨.tuple #[.slice A ts.length c, .int .i64 0, .int .i64 0], ?_, .inl ⟨_, ts, H1.out, rfl, HR.out⟩, HB3.out⟩
    simp [results, Tryd.f21, go_sem, r4, r5, r6]
  case stop =>
    rintro D c pre W hD hpre ⟨rfl, ⟨er, o, h1, h4, h5, h6⟩, h7⟩ hK
    have H1 := Lib.hid (procF_prefix hpre h1)
    clear h1 hpre
    gi_wp2
    refine ⟨by simp, .inl ⟨_, _, rfl, run_takeDeferred hK, ?_⟩⟩
    have hr : ∀ r, some D = some r → ∃ o : Obj, W.heap[r]? = some o ∧ o.isCells = false := fun r e => by cases e; exact ⟨_, hK, rfl⟩
    have r4 := (boxed_kept h4 (grownBy_putObj' _ D (.deferred none)) hr).cell
    have r5 := (boxed_kept h5 (grownBy_putObj' _ D (.deferred none)) hr).cell
    have r6 := (boxed_kept h6 (grownBy_putObj' _ D (.deferred none)) hr).cell
    have HB3 := Lib.hid (h7.trans (belowK_b (w := w) (Nat.le_refl _) _ D _ (.deferred none) (by omega) hK rfl rfl))
    refine ⟨.tuple #[.slice none 0 0, .int .i64 er, .int .i64 (o : Nat)], ?_, .inr ⟨er, o, H1.out, rfl⟩, HB3.out⟩
    simp [results, Tryd.f21, go_sem, r4, r5, r6]
set_option maxRecDepth 100000 in
set_option maxHeartbeats 4000000 in
theorem Lex_long (s : ByteArray) (h : 8000 < s.size) (w : World) :
    Calls Tryd.prog 21 #[.string s] w fun e w' => e = .returned (.tuple #[.slice none 0 0, .int .i64 2, .int .i64 0]) ∧ Below w.heap.size w w' := by
  refine (callsIn_wide (n := 5)).1 ?_
  refine callsIn_of_wp_marks Tryd.func21 rfl trivial ?_ rfl
  simp only [Tryd.ntmps21, List.size_toArray, List.length_cons, List.length_nil, Nat.reduceAdd, Nat.reduceSub, Array.replicate_succ, Array.replicate_zero, List.push_toArray, List.append_toArray, List.nil_append, List.cons_append]
  gi_wp2
  refine ⟨.tuple #[.slice none 0 0, .int .i64 2, .int .i64 0], ?_, rfl, ?_⟩
  · simp [results, Tryd.f21, go_sem]
  · exact (((Below.refl _ _).alloc (Nat.le_refl _) _).alloc (by simp) _).alloc (by simp; omega) _
/-- The premise on the world, carried on. -/
theorem GOK.aside {w W : World} (h : Aside0 (GOK w)) (hb : Below w.heap.size w W) : Aside0 (GOK W) := ⟨h.out.below hb⟩
end Go.Proofs.YtdedlchpjboceaaDoor.Lx
end
