/- Texts of proofs: plain words, and walks through the program's functions. -/
import Derived.RangeFuncNested
import Derived.RangeFuncBound
import Derived.RangeFuncBox
import Derived.RangeFuncCalls
import Derived.RangeFuncLeaves
import Derived.Shelf.Abstract
import Derived.Shelf.RegionOpen
import Derived.WalkKit
import Derived.OwnWalkIn
import Derived.TacticsInMore
import Derived.LoopNIn
import Derived.LoopIn
import Derived.LoopTactic
import Derived.BigGuardPart
import Derived.Maps.AppendAt
import Derived.Lib.Hide
import Derived.Test.YtdedlchpjboceaaDoorMfc4bd90d
import Derived.Test.YtdedlchpjboceaaDoorProg

section
namespace Go.Proofs.YtdedlchpjboceaaDoor.Lx
open Go.RowKit Go.Shelf
attribute [local go_sem] Oper.semAt_some
theorem ret_int {k : IntKind} {a b : Int} (h : a = b) : Ending.returned (.int k a) = .returned (.int k b) := by rw [h]
theorem ret_bool {a b : Bool} (h : a = b) : Ending.returned (.bool a) = .returned (.bool b) := by rw [h]
set_option maxHeartbeats 1000000 in
theorem of_any (c : Int) (w : World) : Calls Tryd.prog 74 #[.int .i32 c] w fun e w' => e = .returned (.int .i64 (clsI c)) ∧ w = w' := by
  rcases (by omega : c = 32 ∨ c = 9 ∨ c = 10 ∨ c = 35 ∨ c = 59 ∨ (97 ≤ c ∧ c ≤ 122) ∨ (48 ≤ c ∧ c ≤ 57) ∨ (c < 48 ∧ ¬ c = 32 ∧ ¬ c = 9 ∧ ¬ c = 10 ∧ ¬ c = 35) ∨ (57 < c ∧ c < 97 ∧ ¬ c = 59) ∨ 122 < c)
    with rfl | rfl | rfl | rfl | rfl | ⟨h1, h2⟩ | ⟨h1, h2⟩ | ⟨h1, h2, h3, h4, h5⟩ | ⟨h1, h2, h3⟩ | h1
  all_goals
    go_enter Tryd.func74, Tryd.ntmps74
    go_wp2
    all_goals first
      | (exfalso; omega)
      | (go_ret; exact ⟨ret_int (by unfold clsI; (repeat' split) <;> omega), rfl⟩)
theorem of_at {c k : Int} (h : clsI c = k) (w : World) : Calls Tryd.prog 74 #[.int .i32 c] w fun e w' => e = .returned (.int .i64 k) ∧ w = w' := by
  subst h; exact of_any c w
set_option maxHeartbeats 1000000 in
theorem inName_any (c : Int) (w : World) : Calls Tryd.prog 77 #[.int .i32 c] w fun e w' => e = .returned (.bool (pName c)) ∧ w = w' := by
  by_cases h3 : clsI c = 3
  · have H := Lib.hid (show pName c = true by simp [pName, h3])
    have H3 := Lib.hid h3
    clear h3
    go_enter Tryd.func77, Tryd.ntmps77
    go_wp2_with (go_at_call 74; refine (of_at H3.out _).mono ?_; rintro e w' ⟨rfl, rfl⟩)
    go_ret
    exact ⟨ret_bool H.out.symm, rfl⟩
  · by_cases h4 : clsI c = 4
    · have H := Lib.hid (show pName c = true by simp [pName, h4])
      have H3 := Lib.hid h4
      clear h3 h4
      go_enter Tryd.func77, Tryd.ntmps77
      go_wp2_with (go_at_call 74; refine (of_at H3.out _).mono ?_; rintro e w' ⟨rfl, rfl⟩)
      go_ret
      exact ⟨ret_bool H.out.symm, rfl⟩
    · obtain ⟨k, hk⟩ : ∃ k, clsI c = k := ⟨_, rfl⟩
      by_cases h5 : c = 95
      · subst h5
        have H := Lib.hid (show pName 95 = true by simp [pName])
        have H3 := Lib.hid hk
        rw [hk] at h3 h4
        clear hk
        go_enter Tryd.func77, Tryd.ntmps77
        go_wp2_with (go_at_call 74; refine (of_at H3.out _).mono ?_; rintro e w' ⟨rfl, rfl⟩)
        go_ret
        exact ⟨ret_bool H.out.symm, rfl⟩
      · have H := Lib.hid (show pName c = false by simp [pName, h3, h4, h5])
        have H3 := Lib.hid hk
        rw [hk] at h3 h4
        clear hk
        go_enter Tryd.func77, Tryd.ntmps77
        go_wp2_with (go_at_call 74; refine (of_at H3.out _).mono ?_; rintro e w' ⟨rfl, rfl⟩)
        go_ret
        exact ⟨ret_bool (by rw [H.out]; simpa using h5), rfl⟩
set_option maxHeartbeats 1000000 in
theorem notEnd_any (c : Int) (w : World) : Calls Tryd.prog 76 #[.int .i32 c] w fun e w' => e = .returned (.bool (pHash c)) ∧ w = w' := by
  go_enter Tryd.func76, Tryd.ntmps76
  go_wp2
  go_ret
  exact ⟨ret_bool (by rw [Bool.eq_iff_iff]; simp [pHash]), rfl⟩
set_option maxHeartbeats 1000000 in
theorem inNumber_any (c : Int) (w : World) : Calls Tryd.prog 78 #[.int .i32 c] w fun e w' => e = .returned (.bool (pDigit c)) ∧ w = w' := by
  obtain ⟨k, hk⟩ : ∃ k, clsI c = k := ⟨_, rfl⟩
  have H3 := Lib.hid hk
  clear hk
  go_enter Tryd.func78, Tryd.ntmps78
  go_wp2_with (go_at_call 74; refine (of_at H3.out _).mono ?_; rintro e w' ⟨rfl, rfl⟩)
  go_ret
  exact ⟨ret_bool (by rw [Bool.eq_iff_iff]; simp [pDigit, H3.out]), rfl⟩
theorem list_size (s : ByteArray) : s.data.toList.length = s.size := rfl
/-- How many bytes from k on go on. -/
def scan (p : Int → Bool) (s : ByteArray) (k : Nat) : Nat := ((s.data.toList.drop k).takeWhile fun c => p c.toNat).length
theorem drop_at (s : ByteArray) (k : Nat) (h : k < s.size) : s.data.toList.drop k = s[k] :: s.data.toList.drop (k + 1) := by
  rw [List.drop_eq_getElem_cons (by simpa using h)]; rfl
theorem scan_yes {p : Int → Bool} {s : ByteArray} {k : Nat} (h : k < s.size) (hp : p (s[k].toNat : Int) = true) : scan p s k = 1 + scan p s (k + 1) := by
  unfold scan; rw [drop_at s k h]; simp only [List.takeWhile, hp, List.length_cons]; omega
theorem scan_no {p : Int → Bool} {s : ByteArray} {k : Nat} (h : k < s.size) (hp : p (s[k].toNat : Int) = false) : scan p s k = 0 := by
  unfold scan; rw [drop_at s k h]; simp only [List.takeWhile, hp, List.length_nil]
theorem scan_end {p : Int → Bool} {s : ByteArray} {k : Nat} (h : s.size ≤ k) : scan p s k = 0 := by
  unfold scan; rw [List.drop_eq_nil_of_le (by rw [list_size]; exact h)]; rfl
theorem scan_le (p : Int → Bool) (s : ByteArray) (k : Nat) (h : k ≤ s.size) : k + scan p s k ≤ s.size := by
  unfold scan
  have h1 := tw_le (fun c => p c.toNat) (s.data.toList.drop k)
  rw [List.length_drop, list_size] at h1
  omega
end Go.Proofs.YtdedlchpjboceaaDoor.Lx
end

section
namespace Go.Proofs.YtdedlchpjboceaaDoor.Lx
open Go.RowKit Go.Shelf
attribute [local go_sem] Oper.semAt_some
set_option maxHeartbeats 2000000 in
theorem end_pHash (s : ByteArray) (a : Nat) (ha : a ≤ s.size) (hs : s.size ≤ 9223372036854775806) (w : World) :
    Calls Tryd.prog 75 #[.string s, .int .i64 a, .func (.func 76) #[] #[]] w fun e w' => e = .returned (.int .i64 ((a + scan pHash s a : Nat) : Int)) ∧ w = w' := by
  have eg : ∀ args w, (callFunc 76 args).run Tryd.prog w = .ok (.enter 76 args) w := enters_of Tryd.func76 (by kernel_rfl) rfl
  go_enter Tryd.func75, Tryd.ntmps75
  go_wp2
  go_loop [1] (fun i => ∃ k : Nat, k ≤ s.size ∧ i = .int .i64 k ∧ Hid (k + scan pHash s k = a + scan pHash s a)) (fun i => s.size - (intOf i).toNat)
  case atStart => exact ⟨a, ha, rfl, Lib.hid rfl⟩
  case round =>
    obtain ⟨k, hk, rfl, hH⟩ := hrel
    by_cases hlt : k < s.size
    · have hb := s[k].toNat_lt
      cases hp : pHash (s[k].toNat : Int) with
      | true =>
        have H2 := Lib.hid (scan_yes hlt hp)
        go_wp2_with (go_at_call 76; refine (notEnd_any _ _).mono ?_; rintro e w' ⟨rfl, rfl⟩)
        go_round
        case rel => exact ⟨k + 1, by omega, by go_num, Lib.hid (by have := H2.out; have := hH.out; omega)⟩
        case measure => simp [intOf]; omega
      | false =>
        have H2 := Lib.hid (scan_no hlt hp)
        go_wp2_with (go_at_call 76; refine (notEnd_any _ _).mono ?_; rintro e w' ⟨rfl, rfl⟩)
        go_ret
        exact ⟨ret_int (by have := H2.out; have := hH.out; omega), rfl⟩
    · have H2 := Lib.hid (scan_end (p := pHash) (s := s) (k := k) (by omega))
      go_wp2
      go_ret
      exact ⟨ret_int (by have := H2.out; have := hH.out; omega), rfl⟩
set_option maxHeartbeats 2000000 in
theorem end_pName (s : ByteArray) (a : Nat) (ha : a ≤ s.size) (hs : s.size ≤ 9223372036854775806) (w : World) :
    Calls Tryd.prog 75 #[.string s, .int .i64 a, .func (.func 77) #[] #[]] w fun e w' => e = .returned (.int .i64 ((a + scan pName s a : Nat) : Int)) ∧ w = w' := by
  have eg : ∀ args w, (callFunc 77 args).run Tryd.prog w = .ok (.enter 77 args) w := enters_of Tryd.func77 (by kernel_rfl) rfl
  go_enter Tryd.func75, Tryd.ntmps75
  go_wp2
  go_loop [1] (fun i => ∃ k : Nat, k ≤ s.size ∧ i = .int .i64 k ∧ Hid (k + scan pName s k = a + scan pName s a)) (fun i => s.size - (intOf i).toNat)
  case atStart => exact ⟨a, ha, rfl, Lib.hid rfl⟩
  case round =>
    obtain ⟨k, hk, rfl, hH⟩ := hrel
    by_cases hlt : k < s.size
    · have hb := s[k].toNat_lt
      cases hp : pName (s[k].toNat : Int) with
      | true =>
        have H2 := Lib.hid (scan_yes hlt hp)
        go_wp2_with (go_at_call 77; refine (inName_any _ _).mono ?_; rintro e w' ⟨rfl, rfl⟩)
        go_round
        case rel => exact ⟨k + 1, by omega, by go_num, Lib.hid (by have := H2.out; have := hH.out; omega)⟩
        case measure => simp [intOf]; omega
      | false =>
        have H2 := Lib.hid (scan_no hlt hp)
        go_wp2_with (go_at_call 77; refine (inName_any _ _).mono ?_; rintro e w' ⟨rfl, rfl⟩)
        go_ret
        exact ⟨ret_int (by have := H2.out; have := hH.out; omega), rfl⟩
    · have H2 := Lib.hid (scan_end (p := pName) (s := s) (k := k) (by omega))
      go_wp2
      go_ret
      exact ⟨ret_int (by have := H2.out; have := hH.out; omega), rfl⟩
set_option maxHeartbeats 2000000 in
theorem end_pDigit (s : ByteArray) (a : Nat) (ha : a ≤ s.size) (hs : s.size ≤ 9223372036854775806) (w : World) :
    Calls Tryd.prog 75 #[.string s, .int .i64 a, .func (.func 78) #[] #[]] w fun e w' => e = .returned (.int .i64 ((a + scan pDigit s a : Nat) : Int)) ∧ w = w' := by
  have eg : ∀ args w, (callFunc 78 args).run Tryd.prog w = .ok (.enter 78 args) w := enters_of Tryd.func78 (by kernel_rfl) rfl
  go_enter Tryd.func75, Tryd.ntmps75
  go_wp2
  go_loop [1] (fun i => ∃ k : Nat, k ≤ s.size ∧ i = .int .i64 k ∧ Hid (k + scan pDigit s k = a + scan pDigit s a)) (fun i => s.size - (intOf i).toNat)
  case atStart => exact ⟨a, ha, rfl, Lib.hid rfl⟩
  case round =>
    obtain ⟨k, hk, rfl, hH⟩ := hrel
    by_cases hlt : k < s.size
    · have hb := s[k].toNat_lt
      cases hp : pDigit (s[k].toNat : Int) with
      | true =>
        have H2 := Lib.hid (scan_yes hlt hp)
        go_wp2_with (go_at_call 78; refine (inNumber_any _ _).mono ?_; rintro e w' ⟨rfl, rfl⟩)
        go_round
        case rel => exact ⟨k + 1, by omega, by go_num, Lib.hid (by have := H2.out; have := hH.out; omega)⟩
        case measure => simp [intOf]; omega
      | false =>
        have H2 := Lib.hid (scan_no hlt hp)
        go_wp2_with (go_at_call 78; refine (inNumber_any _ _).mono ?_; rintro e w' ⟨rfl, rfl⟩)
        go_ret
        exact ⟨ret_int (by have := H2.out; have := hH.out; omega), rfl⟩
    · have H2 := Lib.hid (scan_end (p := pDigit) (s := s) (k := k) (by omega))
      go_wp2
      go_ret
      exact ⟨ret_int (by have := H2.out; have := hH.out; omega), rfl⟩
end Go.Proofs.YtdedlchpjboceaaDoor.Lx
end
