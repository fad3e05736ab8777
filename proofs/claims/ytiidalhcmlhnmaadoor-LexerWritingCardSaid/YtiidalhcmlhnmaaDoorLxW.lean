/-
  The lexer's small functions and its iterator, walked once: the class of a byte, the ends of spans, the spans in their order.
-/
import Derived.RangeFuncNested
import Derived.RangeFuncBound
import Derived.RangeFuncBox
import Derived.RangeFuncCalls
import Derived.RangeFuncLeaves
import Derived.Shelf.Abstract
import Derived.Shelf.RegionOpen
import Derived.WalkKit
import Derived.OwnWalkIn
import Derived.TacticsInMore
import Derived.LoopNIn
import Derived.LoopIn
import Derived.LoopTactic
import Derived.BigGuardPart
import Derived.Maps.AppendAt
import Derived.Lib.Hide
import Derived.Test.YtiidalhcmlhnmaaDoorLxA
import Derived.Test.YtiidalhcmlhnmaaDoorProg
namespace Go.Proofs.YtiidalhcmlhnmaaDoor.Lx
open Go.RowKit Go.Shelf
attribute [local go_sem] Oper.semAt_some

theorem ret_int {k : IntKind} {a b : Int} (h : a = b) : Ending.returned (.int k a) = .returned (.int k b) := by rw [h]
theorem ret_bool {a b : Bool} (h : a = b) : Ending.returned (.bool a) = .returned (.bool b) := by rw [h]

set_option maxHeartbeats 1000000 in
theorem of_any (c : Int) (w : World) : Calls Tryd.prog 28 #[.int .i32 c] w fun e w' => e = .returned (.int .i64 (clsI c)) ∧ w = w' := by
  rcases (by omega : c = 32 ∨ c = 9 ∨ c = 10 ∨ c = 35 ∨ c = 59 ∨ (97 ≤ c ∧ c ≤ 122) ∨ (48 ≤ c ∧ c ≤ 57) ∨ (c < 48 ∧ ¬ c = 32 ∧ ¬ c = 9 ∧ ¬ c = 10 ∧ ¬ c = 35) ∨ (57 < c ∧ c < 97 ∧ ¬ c = 59) ∨ 122 < c)
    with rfl | rfl | rfl | rfl | rfl | ⟨h1, h2⟩ | ⟨h1, h2⟩ | ⟨h1, h2, h3, h4, h5⟩ | ⟨h1, h2, h3⟩ | h1
  all_goals
    go_enter Tryd.func28, Tryd.ntmps28
    go_wp2
    all_goals first
      | (exfalso; omega)
      | (go_ret; exact ⟨ret_int (by unfold clsI; (repeat' split) <;> omega), rfl⟩)

theorem of_at {c k : Int} (h : clsI c = k) (w : World) : Calls Tryd.prog 28 #[.int .i32 c] w fun e w' => e = .returned (.int .i64 k) ∧ w = w' := by
  subst h; exact of_any c w

set_option maxHeartbeats 1000000 in
theorem inName_any (c : Int) (w : World) : Calls Tryd.prog 31 #[.int .i32 c] w fun e w' => e = .returned (.bool (pName c)) ∧ w = w' := by
  by_cases h3 : clsI c = 3
  · have H := Lib.hid (show pName c = true by simp [pName, h3])
    have H3 := Lib.hid h3
    clear h3
    go_enter Tryd.func31, Tryd.ntmps31
    go_wp2_with (go_at_call 28; refine (of_at H3.out _).mono ?_; rintro e w' ⟨rfl, rfl⟩)
    go_ret
    exact ⟨ret_bool H.out.symm, rfl⟩
  · by_cases h4 : clsI c = 4
    · have H := Lib.hid (show pName c = true by simp [pName, h4])
      have H3 := Lib.hid h4
      clear h3 h4
      go_enter Tryd.func31, Tryd.ntmps31
      go_wp2_with (go_at_call 28; refine (of_at H3.out _).mono ?_; rintro e w' ⟨rfl, rfl⟩)
      go_ret
      exact ⟨ret_bool H.out.symm, rfl⟩
    · obtain ⟨k, hk⟩ : ∃ k, clsI c = k := ⟨_, rfl⟩
      by_cases h5 : c = 95
      · subst h5
        have H := Lib.hid (show pName 95 = true by simp [pName])
        have H3 := Lib.hid hk
        rw [hk] at h3 h4
        clear hk
        go_enter Tryd.func31, Tryd.ntmps31
        go_wp2_with (go_at_call 28; refine (of_at H3.out _).mono ?_; rintro e w' ⟨rfl, rfl⟩)
        go_ret
        exact ⟨ret_bool H.out.symm, rfl⟩
      · have H := Lib.hid (show pName c = false by simp [pName, h3, h4, h5])
        have H3 := Lib.hid hk
        rw [hk] at h3 h4
        clear hk
        go_enter Tryd.func31, Tryd.ntmps31
        go_wp2_with (go_at_call 28; refine (of_at H3.out _).mono ?_; rintro e w' ⟨rfl, rfl⟩)
        go_ret
        exact ⟨ret_bool (by rw [H.out]; simpa using h5), rfl⟩

set_option maxHeartbeats 1000000 in
theorem notEnd_any (c : Int) (w : World) : Calls Tryd.prog 30 #[.int .i32 c] w fun e w' => e = .returned (.bool (pHash c)) ∧ w = w' := by
  go_enter Tryd.func30, Tryd.ntmps30
  go_wp2
  go_ret
  exact ⟨ret_bool (by rw [Bool.eq_iff_iff]; simp [pHash]), rfl⟩

set_option maxHeartbeats 1000000 in
theorem inNumber_any (c : Int) (w : World) : Calls Tryd.prog 32 #[.int .i32 c] w fun e w' => e = .returned (.bool (pDigit c)) ∧ w = w' := by
  obtain ⟨k, hk⟩ : ∃ k, clsI c = k := ⟨_, rfl⟩
  have H3 := Lib.hid hk
  clear hk
  go_enter Tryd.func32, Tryd.ntmps32
  go_wp2_with (go_at_call 28; refine (of_at H3.out _).mono ?_; rintro e w' ⟨rfl, rfl⟩)
  go_ret
  exact ⟨ret_bool (by rw [Bool.eq_iff_iff]; simp [pDigit, H3.out]), rfl⟩

theorem list_size (s : ByteArray) : s.data.toList.length = s.size := rfl
/-- How many bytes from k on go on. -/
def scan (p : Int → Bool) (s : ByteArray) (k : Nat) : Nat := ((s.data.toList.drop k).takeWhile fun c => p c.toNat).length
theorem drop_at (s : ByteArray) (k : Nat) (h : k < s.size) : s.data.toList.drop k = s[k] :: s.data.toList.drop (k + 1) := by
  rw [List.drop_eq_getElem_cons (by simpa using h)]; rfl
theorem scan_yes {p : Int → Bool} {s : ByteArray} {k : Nat} (h : k < s.size) (hp : p (s[k].toNat : Int) = true) : scan p s k = 1 + scan p s (k + 1) := by
  unfold scan; rw [drop_at s k h]; simp only [List.takeWhile, hp, List.length_cons]; omega
theorem scan_no {p : Int → Bool} {s : ByteArray} {k : Nat} (h : k < s.size) (hp : p (s[k].toNat : Int) = false) : scan p s k = 0 := by
  unfold scan; rw [drop_at s k h]; simp only [List.takeWhile, hp, List.length_nil]
theorem scan_end {p : Int → Bool} {s : ByteArray} {k : Nat} (h : s.size ≤ k) : scan p s k = 0 := by
  unfold scan; rw [List.drop_eq_nil_of_le (by rw [list_size]; exact h)]; rfl
theorem scan_le (p : Int → Bool) (s : ByteArray) (k : Nat) (h : k ≤ s.size) : k + scan p s k ≤ s.size := by
  unfold scan
  have h1 := tw_le (fun c => p c.toNat) (s.data.toList.drop k)
  rw [List.length_drop, list_size] at h1
  omega

end Go.Proofs.YtiidalhcmlhnmaaDoor.Lx
