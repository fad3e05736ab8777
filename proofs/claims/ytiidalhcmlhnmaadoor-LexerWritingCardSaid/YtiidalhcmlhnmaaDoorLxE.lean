/-
  The lexer's 'end' at each of its three conditions; 'spans'; its iterator's contract.
-/
import Derived.Test.YtiidalhcmlhnmaaDoorLxW
namespace Go.Proofs.YtiidalhcmlhnmaaDoor.Lx
open Go.RowKit Go.Shelf
attribute [local go_sem] Oper.semAt_some

set_option maxHeartbeats 2000000 in
theorem end_pHash (s : ByteArray) (a : Nat) (ha : a ≤ s.size) (hs : s.size ≤ 9223372036854775806) (w : World) :
    Calls Tryd.prog 29 #[.string s, .int .i64 a, .func (.func 30) #[] #[]] w fun e w' => e = .returned (.int .i64 ((a + scan pHash s a : Nat) : Int)) ∧ w = w' := by
  have eg : ∀ args w, (callFunc 30 args).run Tryd.prog w = .ok (.enter 30 args) w := enters_of Tryd.func30 (by kernel_rfl) rfl
  go_enter Tryd.func29, Tryd.ntmps29
  go_wp2
  go_loop [1] (fun i => ∃ k : Nat, k ≤ s.size ∧ i = .int .i64 k ∧ Hid (k + scan pHash s k = a + scan pHash s a)) (fun i => s.size - (intOf i).toNat)
  case atStart => exact ⟨a, ha, rfl, Lib.hid rfl⟩
  case round =>
    obtain ⟨k, hk, rfl, hH⟩ := hrel
    by_cases hlt : k < s.size
    · have hb := s[k].toNat_lt
      cases hp : pHash (s[k].toNat : Int) with
      | true =>
        have H2 := Lib.hid (scan_yes hlt hp)
        go_wp2_with (go_at_call 30; refine (notEnd_any _ _).mono ?_; rintro e w' ⟨rfl, rfl⟩)
        go_round
        case rel => exact ⟨k + 1, by omega, by go_num, Lib.hid (by have := H2.out; have := hH.out; omega)⟩
        case measure => simp [intOf]; omega
      | false =>
        have H2 := Lib.hid (scan_no hlt hp)
        go_wp2_with (go_at_call 30; refine (notEnd_any _ _).mono ?_; rintro e w' ⟨rfl, rfl⟩)
        go_ret
        exact ⟨ret_int (by have := H2.out; have := hH.out; omega), rfl⟩
    · have H2 := Lib.hid (scan_end (p := pHash) (s := s) (k := k) (by omega))
      go_wp2
      go_ret
      exact ⟨ret_int (by have := H2.out; have := hH.out; omega), rfl⟩
set_option maxHeartbeats 2000000 in
theorem end_pName (s : ByteArray) (a : Nat) (ha : a ≤ s.size) (hs : s.size ≤ 9223372036854775806) (w : World) :
    Calls Tryd.prog 29 #[.string s, .int .i64 a, .func (.func 31) #[] #[]] w fun e w' => e = .returned (.int .i64 ((a + scan pName s a : Nat) : Int)) ∧ w = w' := by
  have eg : ∀ args w, (callFunc 31 args).run Tryd.prog w = .ok (.enter 31 args) w := enters_of Tryd.func31 (by kernel_rfl) rfl
  go_enter Tryd.func29, Tryd.ntmps29
  go_wp2
  go_loop [1] (fun i => ∃ k : Nat, k ≤ s.size ∧ i = .int .i64 k ∧ Hid (k + scan pName s k = a + scan pName s a)) (fun i => s.size - (intOf i).toNat)
  case atStart => exact ⟨a, ha, rfl, Lib.hid rfl⟩
  case round =>
    obtain ⟨k, hk, rfl, hH⟩ := hrel
    by_cases hlt : k < s.size
    · have hb := s[k].toNat_lt
      cases hp : pName (s[k].toNat : Int) with
      | true =>
        have H2 := Lib.hid (scan_yes hlt hp)
        go_wp2_with (go_at_call 31; refine (inName_any _ _).mono ?_; rintro e w' ⟨rfl, rfl⟩)
        go_round
        case rel => exact ⟨k + 1, by omega, by go_num, Lib.hid (by have := H2.out; have := hH.out; omega)⟩
        case measure => simp [intOf]; omega
      | false =>
        have H2 := Lib.hid (scan_no hlt hp)
        go_wp2_with (go_at_call 31; refine (inName_any _ _).mono ?_; rintro e w' ⟨rfl, rfl⟩)
        go_ret
        exact ⟨ret_int (by have := H2.out; have := hH.out; omega), rfl⟩
    · have H2 := Lib.hid (scan_end (p := pName) (s := s) (k := k) (by omega))
      go_wp2
      go_ret
      exact ⟨ret_int (by have := H2.out; have := hH.out; omega), rfl⟩
set_option maxHeartbeats 2000000 in
theorem end_pDigit (s : ByteArray) (a : Nat) (ha : a ≤ s.size) (hs : s.size ≤ 9223372036854775806) (w : World) :
    Calls Tryd.prog 29 #[.string s, .int .i64 a, .func (.func 32) #[] #[]] w fun e w' => e = .returned (.int .i64 ((a + scan pDigit s a : Nat) : Int)) ∧ w = w' := by
  have eg : ∀ args w, (callFunc 32 args).run Tryd.prog w = .ok (.enter 32 args) w := enters_of Tryd.func32 (by kernel_rfl) rfl
  go_enter Tryd.func29, Tryd.ntmps29
  go_wp2
  go_loop [1] (fun i => ∃ k : Nat, k ≤ s.size ∧ i = .int .i64 k ∧ Hid (k + scan pDigit s k = a + scan pDigit s a)) (fun i => s.size - (intOf i).toNat)
  case atStart => exact ⟨a, ha, rfl, Lib.hid rfl⟩
  case round =>
    obtain ⟨k, hk, rfl, hH⟩ := hrel
    by_cases hlt : k < s.size
    · have hb := s[k].toNat_lt
      cases hp : pDigit (s[k].toNat : Int) with
      | true =>
        have H2 := Lib.hid (scan_yes hlt hp)
        go_wp2_with (go_at_call 32; refine (inNumber_any _ _).mono ?_; rintro e w' ⟨rfl, rfl⟩)
        go_round
        case rel => exact ⟨k + 1, by omega, by go_num, Lib.hid (by have := H2.out; have := hH.out; omega)⟩
        case measure => simp [intOf]; omega
      | false =>
        have H2 := Lib.hid (scan_no hlt hp)
        go_wp2_with (go_at_call 32; refine (inNumber_any _ _).mono ?_; rintro e w' ⟨rfl, rfl⟩)
        go_ret
        exact ⟨ret_int (by have := H2.out; have := hH.out; omega), rfl⟩
    · have H2 := Lib.hid (scan_end (p := pDigit) (s := s) (k := k) (by omega))
      go_wp2
      go_ret
      exact ⟨ret_int (by have := H2.out; have := hH.out; omega), rfl⟩

end Go.Proofs.YtiidalhcmlhnmaaDoor.Lx
