-- Written by a program of this session's, out of the translation; Lean checks it.
import Derived.Test.YtiidalhcmlhnmaaDoorPAx0
import Derived.Test.YtiidalhcmlhnmaaDoorPAx1
import Derived.Test.YtiidalhcmlhnmaaDoorPAx3
namespace Go.Proofs.YtiidalhcmlhnmaaDoor.PA
open Go.RowKit Go.Proofs.YtiidalhcmlhnmaaDoorW.PrintWords Go.Proofs.YtiidalhcmlhnmaaDoorW.PrintLast Go.Proofs.YtiidalhcmlhnmaaDoorW.PrintMore
attribute [local go_sem] max2_int min2_int max_two min_two max_three min_three max_four min_four   -- for this text's walks alone

/-! ### slotmeshlaw01_gaps: function 14 -/
def slotmeshlaw01_gaps.l0 : Nat → ByteArray → Bool → Bool → Int → Option (Bool)
  | 0, _, _, _, _ => none
  | k + 1, x0, x1, x5, x6 => if x6 < (x0.size : Int) then (if 0 ≤ x6 then (if (bt x0 x6) = 10 then (slotmeshlaw01_gaps.l0 k x0 x1 false (wrap64 (x6 + 1))) else (if (bt x0 x6) = 35 then (slotmeshlaw01_gaps.l0 k x0 x1 true (wrap64 (x6 + 1))) else (if x5 = true then (slotmeshlaw01_gaps.l0 k x0 x1 x5 (wrap64 (x6 + 1))) else (if (bt x0 x6) = 32 then (slotmeshlaw01_gaps.l0 k x0 x1 x5 (wrap64 (x6 + 1))) else (if (bt x0 x6) = 9 then (slotmeshlaw01_gaps.l0 k x0 x1 x5 (wrap64 (x6 + 1))) else (some false)))))) else (none)) else (if x1 = true then (some true) else (some (!x5)))
def slotmeshlaw01_gaps.f (k : Nat) (a0 : ByteArray) (a1 : Bool) : Option (Bool) := slotmeshlaw01_gaps.l0 k a0 a1 false 0
theorem slotmeshlaw01_gaps.mono_l : ∀ k, (∀ y0 y1 y2 y3, LeO (slotmeshlaw01_gaps.l0 k y0 y1 y2 y3) (slotmeshlaw01_gaps.l0 (k + 1) y0 y1 y2 y3))
  | 0 => fun _ _ _ _ r h => by simp [slotmeshlaw01_gaps.l0] at h
  | k + 1 => by
    have ih0 := slotmeshlaw01_gaps.mono_l k
    · intro y0 y1 y2 y3
      unfold slotmeshlaw01_gaps.l0
      repeat' first
      | (with_reducible exact ih0 _ _ _ _)
      | (with_reducible exact LeO.refl _)
      | (with_reducible exact LeO.none _)
      | (with_reducible refine LeO.ite ?_ ?_)
      | (with_reducible refine LeO.bind ?_ (fun _ => ?_))
      | exact ih0 _ _ _ _
      | exact LeO.none _
      | refine LeO.ite ?_ ?_
      | refine LeO.bind ?_ (fun _ => ?_)
theorem slotmeshlaw01_gaps.mono : ∀ a0 a1 k, LeO (slotmeshlaw01_gaps.f k a0 a1) (slotmeshlaw01_gaps.f (k + 1) a0 a1) := by
  intro a0 a1 k
  have ih0 := slotmeshlaw01_gaps.mono_l k
  unfold slotmeshlaw01_gaps.f
  repeat' first
      | (with_reducible exact ih0 _ _ _ _)
      | (with_reducible exact LeO.refl _)
      | (with_reducible exact LeO.none _)
      | (with_reducible refine LeO.ite ?_ ?_)
      | (with_reducible refine LeO.bind ?_ (fun _ => ?_))
      | exact ih0 _ _ _ _
      | exact LeO.none _
      | refine LeO.ite ?_ ?_
      | refine LeO.bind ?_ (fun _ => ?_)
set_option maxHeartbeats 8000000 in
set_option maxRecDepth 100000 in
theorem slotmeshlaw01_gaps.calls (k : Nat) (a0 : ByteArray) (a1 : Bool) (r : Bool) (w : World) (h : slotmeshlaw01_gaps.f k a0 a1 = some r) :
    Calls Tryd.prog 14 #[.string a0, .bool a1] w fun e w' => e = .returned (.bool r) ∧ Drawn0 w w' := by
  have H : (slotmeshlaw01_gaps.l0 k a0 a1 false 0) = some r := h
  clear h
  have H' := Aside0.mk H
  clear H
  go_enter Tryd.func14, Tryd.ntmps14
  go_wp2
  go_loopg [5, 6] k (fun kq v5 v6 w' => ∃ (x5_1 : Bool) (x6_1 : Int), v5 = .bool x5_1 ∧ v6 = .int .i64 x6_1 ∧ Aside0 (slotmeshlaw01_gaps.l0 kq a0 a1 x5_1 x6_1 = some r) ∧ Aside0 (kq ≤ k) ∧ Drawn0 w w')
  case atStart => exact ⟨(false), (0), (by first | rfl | (simp; done) | (simp [*]; done)), (by first | rfl | (simp; done) | (simp [*]; done)), H', ⟨Nat.le_refl _⟩, by repeat (first | exact Drawn0.refl _ | apply Drawn0.step)⟩
  case round =>
    clear H'
    try clear c1
    try clear p2
    obtain ⟨x5_1, x6_1, rfl, rfl, HA, HK1, ⟨m1, rfl⟩⟩ := hrel
    cases gk with
    | zero => exact absurd HA.out (by simp [slotmeshlaw01_gaps.l0])
    | succ k1 =>
      have H := HA.out
      clear HA
      simp only [slotmeshlaw01_gaps.l0] at H
      by_cases c3 : x6_1 < (a0.size : Int)
      · rw [if_pos c3] at H
        have c3b0 : decide (x6_1 < (a0.size : Int)) = true := decide_eq_true c3
        clear c3
        by_cases c4 : 0 ≤ x6_1
        · rw [if_pos c4] at H
          have c4b0 : decide (0 ≤ x6_1) = true := decide_eq_true c4
          clear c4
          by_cases c6 : (bt a0 x6_1) = 10
          · rw [if_pos c6] at H
            have c6b0 : ((bt a0 x6_1) == 10) = true := beq_iff_eq.mpr c6
            have c6b1 : ((bt a0 x6_1) != 10) = false := bne_eq_false_iff_eq.mpr c6
            clear c6
            have H' := Aside0.mk H
            clear H
            have p5 : 0 ≤ (x6_1 : Int) := of_decide_eq_true (by first | (with_reducible assumption) | assumption)
            have q5 : x6_1 < (a0.size : Int) := of_decide_eq_true (by first | (with_reducible assumption) | assumption)
            have hx5 := bt_at a0 x6_1
            replace p5 := eq_true p5
            replace q5 := eq_true q5
            go_wp2
            go_roundg k1
            case measure => have := HK1.out; omega
            case rel => exact ⟨(false), (wrap64 (x6_1 + 1)), (by first | rfl | (simp; done) | (simp [*]; done)), (by first | rfl | (simp; done) | (simp [*]; done)), H', ⟨by have := HK1.out; omega⟩, by repeat (first | exact Drawn0.refl _ | apply Drawn0.step)⟩
          · rw [if_neg c6] at H
            have c6b0 : ((bt a0 x6_1) == 10) = false := beq_eq_false_iff_ne.mpr c6
            have c6b1 : ((bt a0 x6_1) != 10) = true := bne_iff_ne.mpr c6
            by_cases c8 : (bt a0 x6_1) = 35
            · rw [if_pos c8] at H
              have c8b0 : ((bt a0 x6_1) == 35) = true := beq_iff_eq.mpr c8
              have c8b1 : ((bt a0 x6_1) != 35) = false := bne_eq_false_iff_eq.mpr c8
              clear c8
              have H' := Aside0.mk H
              clear H
              have p5 : 0 ≤ (x6_1 : Int) := of_decide_eq_true (by first | (with_reducible assumption) | assumption)
              have q5 : x6_1 < (a0.size : Int) := of_decide_eq_true (by first | (with_reducible assumption) | assumption)
              have hx5 := bt_at a0 x6_1
              replace p5 := eq_true p5
              replace q5 := eq_true q5
              have p7 : 0 ≤ (x6_1 : Int) := of_decide_eq_true (by first | (with_reducible assumption) | assumption)
              have q7 : x6_1 < (a0.size : Int) := of_decide_eq_true (by first | (with_reducible assumption) | assumption)
              have hx7 := bt_at a0 x6_1
              replace p7 := eq_true p7
              replace q7 := eq_true q7
              go_wp2
              go_roundg k1
              case measure => have := HK1.out; omega
              case rel => exact ⟨(true), (wrap64 (x6_1 + 1)), (by first | rfl | (simp; done) | (simp [*]; done)), (by first | rfl | (simp; done) | (simp [*]; done)), H', ⟨by have := HK1.out; omega⟩, by repeat (first | exact Drawn0.refl _ | apply Drawn0.step)⟩
            · rw [if_neg c8] at H
              have c8b0 : ((bt a0 x6_1) == 35) = false := beq_eq_false_iff_ne.mpr c8
              have c8b1 : ((bt a0 x6_1) != 35) = true := bne_iff_ne.mpr c8
              by_cases c9 : x5_1 = true
              · subst c9
                have H1 : (slotmeshlaw01_gaps.l0 k1 a0 a1 true (wrap64 (x6_1 + 1))) = some r := by rw [if_pos rfl] at H; exact H
                clear H
                have H := H1
                clear H1
                have H' := Aside0.mk H
                clear H
                have p5 : 0 ≤ (x6_1 : Int) := of_decide_eq_true (by first | (with_reducible assumption) | assumption)
                have q5 : x6_1 < (a0.size : Int) := of_decide_eq_true (by first | (with_reducible assumption) | assumption)
                have hx5 := bt_at a0 x6_1
                replace p5 := eq_true p5
                replace q5 := eq_true q5
                have p7 : 0 ≤ (x6_1 : Int) := of_decide_eq_true (by first | (with_reducible assumption) | assumption)
                have q7 : x6_1 < (a0.size : Int) := of_decide_eq_true (by first | (with_reducible assumption) | assumption)
                have hx7 := bt_at a0 x6_1
                replace p7 := eq_true p7
                replace q7 := eq_true q7
                go_wp2
                go_roundg k1
                case measure => have := HK1.out; omega
                case rel => exact ⟨(true), (wrap64 (x6_1 + 1)), (by first | rfl | (simp; done) | (simp [*]; done)), (by first | rfl | (simp; done) | (simp [*]; done)), H', ⟨by have := HK1.out; omega⟩, by repeat (first | exact Drawn0.refl _ | apply Drawn0.step)⟩
              · replace c9 := Bool.eq_false_iff.mpr c9
                subst c9
                have H1 : (if (bt a0 x6_1) = 32 then (slotmeshlaw01_gaps.l0 k1 a0 a1 false (wrap64 (x6_1 + 1))) else (if (bt a0 x6_1) = 9 then (slotmeshlaw01_gaps.l0 k1 a0 a1 false (wrap64 (x6_1 + 1))) else (some false))) = some r := by rw [if_neg (show ¬ (false = true) by decide)] at H; exact H
                clear H
                have H := H1
                clear H1
                by_cases c11 : (bt a0 x6_1) = 32
                · rw [if_pos c11] at H
                  have c11b0 : ((bt a0 x6_1) == 32) = true := beq_iff_eq.mpr c11
                  have c11b1 : ((bt a0 x6_1) != 32) = false := bne_eq_false_iff_eq.mpr c11
                  clear c11
                  have H' := Aside0.mk H
                  clear H
                  have p5 : 0 ≤ (x6_1 : Int) := of_decide_eq_true (by first | (with_reducible assumption) | assumption)
                  have q5 : x6_1 < (a0.size : Int) := of_decide_eq_true (by first | (with_reducible assumption) | assumption)
                  have hx5 := bt_at a0 x6_1
                  replace p5 := eq_true p5
                  replace q5 := eq_true q5
                  have p7 : 0 ≤ (x6_1 : Int) := of_decide_eq_true (by first | (with_reducible assumption) | assumption)
                  have q7 : x6_1 < (a0.size : Int) := of_decide_eq_true (by first | (with_reducible assumption) | assumption)
                  have hx7 := bt_at a0 x6_1
                  replace p7 := eq_true p7
                  replace q7 := eq_true q7
                  have p10 : 0 ≤ (x6_1 : Int) := of_decide_eq_true (by first | (with_reducible assumption) | assumption)
                  have q10 : x6_1 < (a0.size : Int) := of_decide_eq_true (by first | (with_reducible assumption) | assumption)
                  have hx10 := bt_at a0 x6_1
                  replace p10 := eq_true p10
                  replace q10 := eq_true q10
                  go_wp2
                  go_roundg k1
                  case measure => have := HK1.out; omega
                  case rel => exact ⟨(false), (wrap64 (x6_1 + 1)), (by first | rfl | (simp; done) | (simp [*]; done)), (by first | rfl | (simp; done) | (simp [*]; done)), H', ⟨by have := HK1.out; omega⟩, by repeat (first | exact Drawn0.refl _ | apply Drawn0.step)⟩
                · rw [if_neg c11] at H
                  have c11b0 : ((bt a0 x6_1) == 32) = false := beq_eq_false_iff_ne.mpr c11
                  have c11b1 : ((bt a0 x6_1) != 32) = true := bne_iff_ne.mpr c11
                  by_cases c13 : (bt a0 x6_1) = 9
                  · rw [if_pos c13] at H
                    have c13b0 : ((bt a0 x6_1) == 9) = true := beq_iff_eq.mpr c13
                    have c13b1 : ((bt a0 x6_1) != 9) = false := bne_eq_false_iff_eq.mpr c13
                    clear c13
                    have H' := Aside0.mk H
                    clear H
                    have p5 : 0 ≤ (x6_1 : Int) := of_decide_eq_true (by first | (with_reducible assumption) | assumption)
                    have q5 : x6_1 < (a0.size : Int) := of_decide_eq_true (by first | (with_reducible assumption) | assumption)
                    have hx5 := bt_at a0 x6_1
                    replace p5 := eq_true p5
                    replace q5 := eq_true q5
                    have p7 : 0 ≤ (x6_1 : Int) := of_decide_eq_true (by first | (with_reducible assumption) | assumption)
                    have q7 : x6_1 < (a0.size : Int) := of_decide_eq_true (by first | (with_reducible assumption) | assumption)
                    have hx7 := bt_at a0 x6_1
                    replace p7 := eq_true p7
                    replace q7 := eq_true q7
                    have p10 : 0 ≤ (x6_1 : Int) := of_decide_eq_true (by first | (with_reducible assumption) | assumption)
                    have q10 : x6_1 < (a0.size : Int) := of_decide_eq_true (by first | (with_reducible assumption) | assumption)
                    have hx10 := bt_at a0 x6_1
                    replace p10 := eq_true p10
                    replace q10 := eq_true q10
                    have p12 : 0 ≤ (x6_1 : Int) := of_decide_eq_true (by first | (with_reducible assumption) | assumption)
                    have q12 : x6_1 < (a0.size : Int) := of_decide_eq_true (by first | (with_reducible assumption) | assumption)
                    have hx12 := bt_at a0 x6_1
                    replace p12 := eq_true p12
                    replace q12 := eq_true q12
                    go_wp2
                    go_roundg k1
                    case measure => have := HK1.out; omega
                    case rel => exact ⟨(false), (wrap64 (x6_1 + 1)), (by first | rfl | (simp; done) | (simp [*]; done)), (by first | rfl | (simp; done) | (simp [*]; done)), H', ⟨by have := HK1.out; omega⟩, by repeat (first | exact Drawn0.refl _ | apply Drawn0.step)⟩
                  · rw [if_neg c13] at H
                    have c13b0 : ((bt a0 x6_1) == 9) = false := beq_eq_false_iff_ne.mpr c13
                    have c13b1 : ((bt a0 x6_1) != 9) = true := bne_iff_ne.mpr c13
                    obtain rfl := Option.some.inj H
                    have p5 : 0 ≤ (x6_1 : Int) := of_decide_eq_true (by first | (with_reducible assumption) | assumption)
                    have q5 : x6_1 < (a0.size : Int) := of_decide_eq_true (by first | (with_reducible assumption) | assumption)
                    have hx5 := bt_at a0 x6_1
                    replace p5 := eq_true p5
                    replace q5 := eq_true q5
                    have p7 : 0 ≤ (x6_1 : Int) := of_decide_eq_true (by first | (with_reducible assumption) | assumption)
                    have q7 : x6_1 < (a0.size : Int) := of_decide_eq_true (by first | (with_reducible assumption) | assumption)
                    have hx7 := bt_at a0 x6_1
                    replace p7 := eq_true p7
                    replace q7 := eq_true q7
                    have p10 : 0 ≤ (x6_1 : Int) := of_decide_eq_true (by first | (with_reducible assumption) | assumption)
                    have q10 : x6_1 < (a0.size : Int) := of_decide_eq_true (by first | (with_reducible assumption) | assumption)
                    have hx10 := bt_at a0 x6_1
                    replace p10 := eq_true p10
                    replace q10 := eq_true q10
                    have p12 : 0 ≤ (x6_1 : Int) := of_decide_eq_true (by first | (with_reducible assumption) | assumption)
                    have q12 : x6_1 < (a0.size : Int) := of_decide_eq_true (by first | (with_reducible assumption) | assumption)
                    have hx12 := bt_at a0 x6_1
                    replace p12 := eq_true p12
                    replace q12 := eq_true q12
                    go_wp2
                    go_ret
                    exact ⟨by first | rfl | (simp; done) | (simp [*]; done), by repeat (first | exact Drawn0.refl _ | apply Drawn0.step)⟩
        · rw [if_neg c4] at H
          exact absurd H (by simp)
      · rw [if_neg c3] at H
        have c3b0 : decide (x6_1 < (a0.size : Int)) = false := decide_eq_false c3
        clear c3
        by_cases c14 : a1 = true
        · subst c14
          have H1 : (some true) = some r := by rw [if_pos rfl] at H; exact H
          clear H
          have H := H1
          clear H1
          obtain rfl := Option.some.inj H
          go_wp2
          go_ret
          exact ⟨by first | rfl | (simp; done) | (simp [*]; done), by repeat (first | exact Drawn0.refl _ | apply Drawn0.step)⟩
        · replace c14 := Bool.eq_false_iff.mpr c14
          subst c14
          have H1 : (some (!x5_1)) = some r := by rw [if_neg (show ¬ (false = true) by decide)] at H; exact H
          clear H
          have H := H1
          clear H1
          obtain rfl := Option.some.inj H
          go_wp2
          go_ret
          exact ⟨by first | rfl | (simp; done) | (simp [*]; done), by repeat (first | exact Drawn0.refl _ | apply Drawn0.step)⟩

/-! ### slotmeshlaw01_LexerOffsets: function 4 -/
def slotmeshlaw01_LexerOffsets.l0 : Nat → ByteArray → Bool → List (S31) → Int → Int → Option (Bool)
  | 0, _, _, _, _, _ => none
  | k + 1, x0, x3, x4, x7, x8 => if x8 < (x4.length : Int) then (if 0 ≤ x8 then ((slotmeshref01_Text.f k ((rd_T31 x4 x8).f0) ((rd_T31 x4 x8).f1) ((rd_T31 x4 x8).f2) ((rd_T31 x4 x8).f3)).bind fun t187 => (if t187.toList = ([] : List UInt8) then (some false) else (if ((rd_T31 x4 x8).f3) < x7 then (some false) else (if (wrap64 (((rd_T31 x4 x8).f3) + (t187.size : Int))) > (x0.size : Int) then (some false) else (if 0 ≤ ((rd_T31 x4 x8).f3) then (if ((rd_T31 x4 x8).f3) ≤ (wrap64 (((rd_T31 x4 x8).f3) + (t187.size : Int))) then (if (wrap64 (((rd_T31 x4 x8).f3) + (t187.size : Int))) ≤ (x0.size : Int) then (if (x0.extract (((rd_T31 x4 x8).f3) : Int).toNat ((wrap64 (((rd_T31 x4 x8).f3) + (t187.size : Int))) : Int).toNat).toList = t187.toList then (if 0 ≤ x7 then (if x7 ≤ ((rd_T31 x4 x8).f3) then (if ((rd_T31 x4 x8).f3) ≤ (x0.size : Int) then ((slotmeshlaw01_gaps.f k (x0.extract (x7 : Int).toNat (((rd_T31 x4 x8).f3) : Int).toNat) false).bind fun t192 => (if x3 = true then (slotmeshlaw01_LexerOffsets.l0 k x0 t192 x4 (wrap64 (((rd_T31 x4 x8).f3) + (t187.size : Int))) (wrap64 (x8 + 1))) else (slotmeshlaw01_LexerOffsets.l0 k x0 false x4 (wrap64 (((rd_T31 x4 x8).f3) + (t187.size : Int))) (wrap64 (x8 + 1))))) else (none)) else (none)) else (none)) else (some false)) else (none)) else (none)) else (none)))))) else (none)) else (if 0 ≤ x7 then (if x7 ≤ (x0.size : Int) then ((slotmeshlaw01_gaps.f k (x0.extract (x7 : Int).toNat x0.size) true).bind fun t185 => (if x3 = true then (some t185) else (some false))) else (none)) else (none))
def slotmeshlaw01_LexerOffsets.f (k : Nat) (a0 : ByteArray) : Option (Bool) := (slotmeshlaw01_head.f k).bind fun t179 => (if (a0.size : Int) > 10000 then (some t179) else ((lexer_Lex.f a0).bind fun bt180 => (if bt180.2.1 = 0 then (slotmeshlaw01_LexerOffsets.l0 k a0 t179 bt180.1 0 0) else (if t179 = true then (some ((bt180.1.length : Int) == 0)) else (some false)))))
theorem slotmeshlaw01_LexerOffsets.mono_l : ∀ k, (∀ y0 y1 y2 y3 y4, LeO (slotmeshlaw01_LexerOffsets.l0 k y0 y1 y2 y3 y4) (slotmeshlaw01_LexerOffsets.l0 (k + 1) y0 y1 y2 y3 y4))
  | 0 => fun _ _ _ _ _ r h => by simp [slotmeshlaw01_LexerOffsets.l0] at h
  | k + 1 => by
    have ih0 := slotmeshlaw01_LexerOffsets.mono_l k
    · intro y0 y1 y2 y3 y4
      unfold slotmeshlaw01_LexerOffsets.l0
      repeat' first
      | (with_reducible exact ih0 _ _ _ _ _)
      | (with_reducible exact slotmeshlaw01_gaps.mono _ _ _)
      | (with_reducible exact slotmeshlaw01_head.mono _)
      | (with_reducible exact slotmeshref01_Text.mono _ _ _ _ _)
      | (with_reducible exact LeO.refl _)
      | (with_reducible exact LeO.none _)
      | (with_reducible refine LeO.ite ?_ ?_)
      | (with_reducible refine LeO.bind ?_ (fun _ => ?_))
      | exact ih0 _ _ _ _ _
      | exact slotmeshlaw01_gaps.mono _ _ _
      | exact slotmeshlaw01_head.mono _
      | exact slotmeshref01_Text.mono _ _ _ _ _
      | exact LeO.none _
      | refine LeO.ite ?_ ?_
      | refine LeO.bind ?_ (fun _ => ?_)
theorem slotmeshlaw01_LexerOffsets.mono : ∀ a0 k, LeO (slotmeshlaw01_LexerOffsets.f k a0) (slotmeshlaw01_LexerOffsets.f (k + 1) a0) := by
  intro a0 k
  have ih0 := slotmeshlaw01_LexerOffsets.mono_l k
  unfold slotmeshlaw01_LexerOffsets.f
  repeat' first
      | (with_reducible exact ih0 _ _ _ _ _)
      | (with_reducible exact slotmeshlaw01_gaps.mono _ _ _)
      | (with_reducible exact slotmeshlaw01_head.mono _)
      | (with_reducible exact slotmeshref01_Text.mono _ _ _ _ _)
      | (with_reducible exact LeO.refl _)
      | (with_reducible exact LeO.none _)
      | (with_reducible refine LeO.ite ?_ ?_)
      | (with_reducible refine LeO.bind ?_ (fun _ => ?_))
      | exact ih0 _ _ _ _ _
      | exact slotmeshlaw01_gaps.mono _ _ _
      | exact slotmeshlaw01_head.mono _
      | exact slotmeshref01_Text.mono _ _ _ _ _
      | exact LeO.none _
      | refine LeO.ite ?_ ?_
      | refine LeO.bind ?_ (fun _ => ?_)
set_option maxHeartbeats 8000000 in
set_option maxRecDepth 100000 in
theorem slotmeshlaw01_LexerOffsets.calls (k : Nat) (a0 : ByteArray) (r : Bool) (w : World) (hG : Aside0 (Lx.GOK w)) (h : slotmeshlaw01_LexerOffsets.f k a0 = some r) :
    Calls Tryd.prog 4 #[.string a0] w fun e w' => e = .returned (.bool r) ∧ Below w.heap.size w w' := by
  have hu31 := Tryd.underlying31
  have HB := Aside0.mk (Below.refl w.heap.size w)
  have H : ((slotmeshlaw01_head.f k).bind fun t179 => (if (a0.size : Int) > 10000 then (some t179) else ((lexer_Lex.f a0).bind fun bt180 => (if bt180.2.1 = 0 then (slotmeshlaw01_LexerOffsets.l0 k a0 t179 bt180.1 0 0) else (if t179 = true then (some ((bt180.1.length : Int) == 0)) else (some false)))))) = some r := h
  clear h
  replace H := Option.bind_eq_some_iff.mp H
  obtain ⟨t179, A20, H⟩ := H
  replace H : (if (a0.size : Int) > 10000 then (some t179) else ((lexer_Lex.f a0).bind fun bt180 => (if bt180.2.1 = 0 then (slotmeshlaw01_LexerOffsets.l0 k a0 t179 bt180.1 0 0) else (if t179 = true then (some ((bt180.1.length : Int) == 0)) else (some false))))) = some r := H
  have A2 := Aside0.mk A20
  clear A20
  by_cases c3 : (a0.size : Int) > 10000
  · rw [if_pos c3] at H
    have c3b0 : decide (10000 < (a0.size : Int)) = true := decide_eq_true c3
    have c3b1 : decide (10000 < a0.size) = true := decide_eq_true (by omega)
    clear c3
    obtain rfl := Option.some.inj H
    go_enter Tryd.func4, Tryd.ntmps4
    go_wp2_with (first | ((with_reducible refine gate_callee (f := 9) rfl ?_); refine goesL_ (some 13) rfl rfl Tryd.func9 (by kernel_rfl) rfl #[] rfl (by (try simp only [List.map_toArray, List.map_nil]); first | done | rfl | (simp only [List.length_drop, List.length_take]; rfl) | (simp (disch := omega) only [IntWalk.wrap64_in]; done)) ?_; (with_reducible refine (slotmeshlaw01_head.calls k  t179 _ ?side1 A2.out).mono ?_); (case side1 => exact Lx.GOK.aside hG (by repeat (first | (with_reducible first | exact HB.out | apply below_alloc | apply pw_below_drewN | apply below_drew1) | exact HB.out))); rintro e w4 ⟨rfl, hb⟩; refine ⟨_, rfl, ?_⟩; have n0_ := Aside0.mk (below_step (by repeat (first | (with_reducible first | exact HB.out | apply below_alloc | apply pw_below_drewN | apply below_drew1) | exact HB.out)) hb); clear HB; have HB := n0_; clear n0_; (try clear hb); (try clear hb2); (try clear hk); (try clear hi)))
    go_ret
    exact ⟨by first | rfl | (simp [errW_none, errW_some] <;> rfl) | (simp [*, errW_none, errW_some] <;> rfl), by repeat (first | (with_reducible first | exact HB.out | apply below_alloc | apply pw_below_drewN | apply below_drew1) | exact HB.out)⟩
  · rw [if_neg c3] at H
    have c3b0 : decide (10000 < (a0.size : Int)) = false := decide_eq_false c3
    have c3b1 : decide (10000 < a0.size) = false := decide_eq_false (by omega)
    clear c3
    replace H := Option.bind_eq_some_iff.mp H
    obtain ⟨⟨t180, t181, t182⟩, A50, H⟩ := H
    replace H : (if t181 = 0 then (slotmeshlaw01_LexerOffsets.l0 k a0 t179 t180 0 0) else (if t179 = true then (some ((t180.length : Int) == 0)) else (some false))) = some r := H
    have A5 := Aside0.mk A50
    clear A50
    by_cases c6 : t181 = 0
    · rw [if_pos c6] at H
      have c6b0 : (t181 == 0) = true := beq_iff_eq.mpr c6
      have c6b1 : (t181 != 0) = false := bne_eq_false_iff_eq.mpr c6
      clear c6
      have H' := Aside0.mk H
      clear H
      go_enter Tryd.func4, Tryd.ntmps4
      go_wp2_with (first | ((with_reducible refine gate_callee (f := 9) rfl ?_); refine goesL_ (some 13) rfl rfl Tryd.func9 (by kernel_rfl) rfl #[] rfl (by (try simp only [List.map_toArray, List.map_nil]); first | done | rfl | (simp only [List.length_drop, List.length_take]; rfl) | (simp (disch := omega) only [IntWalk.wrap64_in]; done)) ?_; (with_reducible refine (slotmeshlaw01_head.calls k  t179 _ ?side1 A2.out).mono ?_); (case side1 => exact Lx.GOK.aside hG (by repeat (first | (with_reducible first | exact HB.out | apply below_alloc | apply pw_below_drewN | apply below_drew1) | exact HB.out))); rintro e w7 ⟨rfl, hb⟩; refine ⟨_, rfl, ?_⟩; have n0_ := Aside0.mk (below_step (by repeat (first | (with_reducible first | exact HB.out | apply below_alloc | apply pw_below_drewN | apply below_drew1) | exact HB.out)) hb); clear HB; have HB := n0_; clear n0_; (try clear hb); (try clear hb2); (try clear hk); (try clear hi)) | ((with_reducible refine gate_callee (f := 10) rfl ?_); refine goesL_ (some 20) rfl rfl Tryd.func10 (by kernel_rfl) rfl #[.string a0] rfl (by (try simp only [List.map_toArray, List.map_cons, List.map_nil]); first | done | rfl | (simp only [List.length_drop, List.length_take]; rfl) | (simp (disch := omega) only [IntWalk.wrap64_in]; done)) ?_; (with_reducible refine (lexer_Lex.calls a0 t180 t181 t182 _ ?side1 A5.out).mono ?_); (case side1 => exact Lx.GOK.aside hG (by repeat (first | (with_reducible first | exact HB.out | apply below_alloc | apply pw_below_drewN | apply below_drew1) | exact HB.out))); rintro e w8 ⟨v183, rfl, ho0, hb⟩; refine ⟨_, rfl, ?_⟩; have n0_ := Aside0.mk (Kd.R_lower ho0 (below_size (by repeat (first | (with_reducible first | exact HB.out | apply below_alloc | apply pw_below_drewN | apply below_drew1) | exact HB.out)))); have n1_ := Aside0.mk (below_step (by repeat (first | (with_reducible first | exact HB.out | apply below_alloc | apply pw_below_drewN | apply below_drew1) | exact HB.out)) hb); clear HB; have HO184 := n0_; have HB := n1_; clear n0_ n1_; (try clear hb); (try clear hb2); (try clear hk); (try clear hi); (try clear ho0)))
      go_loopg [3, 7, 8] k (fun kq v3 v7 v8 w' => ∃ (x3_1 : Bool) (x7_1 : Int) (x8_1 : Int), v3 = .bool x3_1 ∧ v7 = .int .i64 x7_1 ∧ v8 = .int .i64 x8_1 ∧ Aside0 (slotmeshlaw01_LexerOffsets.l0 kq a0 x3_1 t180 x7_1 x8_1 = some r) ∧ Aside0 (kq ≤ k) ∧ Aside0 (Kd.R k31 31 w' w.heap.size (fun _ => True) v183 t180) ∧ Aside0 (Below w.heap.size w w'))
      case atStart => exact ⟨(t179), (0), (0), (by first | rfl | (simp; done) | (simp [*]; done)), (by first | rfl | (simp; done) | (simp [*]; done)), (by first | rfl | (simp; done) | (simp [*]; done)), H', ⟨Nat.le_refl _⟩, ⟨by (with_reducible repeat (first | apply Kd.R_alloc | apply Kd.R_drewN | apply Kd.R_drew)); exact HO184.out⟩, ⟨by repeat (first | (with_reducible first | exact HB.out | apply below_alloc | apply pw_below_drewN | apply below_drew1) | exact HB.out)⟩⟩
      case round =>
        clear H'
        try clear c1
        try clear p2
        try clear c3
        try clear c3b0
        try clear c3b1
        try clear c4
        try clear c6
        try clear c6b0
        try clear c6b1
        obtain ⟨x3_1, x7_1, x8_1, rfl, rfl, rfl, HA, HK1, HO_4, HB⟩ := hrel
        cases gk with
        | zero => exact absurd HA.out (by simp [slotmeshlaw01_LexerOffsets.l0])
        | succ k1 =>
          have H := HA.out
          clear HA
          simp only [slotmeshlaw01_LexerOffsets.l0] at H
          by_cases c9 : x8_1 < (t180.length : Int)
          · rw [if_pos c9] at H
            have c9b0 : decide (x8_1 < (t180.length : Int)) = true := decide_eq_true c9
            clear c9
            by_cases c10 : 0 ≤ x8_1
            · rw [if_pos c10] at H
              have c10b0 : decide (0 ≤ x8_1) = true := decide_eq_true c10
              clear c10
              replace H := Option.bind_eq_some_iff.mp H
              obtain ⟨t187, A110, H⟩ := H
              replace H : (if t187.toList = ([] : List UInt8) then (some false) else (if ((rd_T31 t180 x8_1).f3) < x7_1 then (some false) else (if (wrap64 (((rd_T31 t180 x8_1).f3) + (t187.size : Int))) > (a0.size : Int) then (some false) else (if 0 ≤ ((rd_T31 t180 x8_1).f3) then (if ((rd_T31 t180 x8_1).f3) ≤ (wrap64 (((rd_T31 t180 x8_1).f3) + (t187.size : Int))) then (if (wrap64 (((rd_T31 t180 x8_1).f3) + (t187.size : Int))) ≤ (a0.size : Int) then (if (a0.extract (((rd_T31 t180 x8_1).f3) : Int).toNat ((wrap64 (((rd_T31 t180 x8_1).f3) + (t187.size : Int))) : Int).toNat).toList = t187.toList then (if 0 ≤ x7_1 then (if x7_1 ≤ ((rd_T31 t180 x8_1).f3) then (if ((rd_T31 t180 x8_1).f3) ≤ (a0.size : Int) then ((slotmeshlaw01_gaps.f k1 (a0.extract (x7_1 : Int).toNat (((rd_T31 t180 x8_1).f3) : Int).toNat) false).bind fun t192 => (if x3_1 = true then (slotmeshlaw01_LexerOffsets.l0 k1 a0 t192 t180 (wrap64 (((rd_T31 t180 x8_1).f3) + (t187.size : Int))) (wrap64 (x8_1 + 1))) else (slotmeshlaw01_LexerOffsets.l0 k1 a0 false t180 (wrap64 (((rd_T31 t180 x8_1).f3) + (t187.size : Int))) (wrap64 (x8_1 + 1))))) else (none)) else (none)) else (none)) else (some false)) else (none)) else (none)) else (none))))) = some r := H
              have A11 := Aside0.mk A110
              clear A110
              by_cases c12 : t187.toList = ([] : List UInt8)
              · rw [if_pos c12] at H
                have c12b0 : (t187.toList == ([] : List UInt8)) = true := beq_iff_eq.mpr c12
                have c12b1 : (t187.toList != ([] : List UInt8)) = false := bne_eq_false_iff_eq.mpr c12
                clear c12
                obtain rfl := Option.some.inj H
                obtain ⟨Ao13, co13, eo13⟩ := Kd.R_slice HO_4.out
                subst eo13
                have p186 : 0 ≤ (x8_1 : Int) := of_decide_eq_true (by first | (with_reducible assumption) | assumption)
                have q186 : x8_1 < (t180.length : Int) := of_decide_eq_true (by first | (with_reducible assumption) | assumption)
                obtain ⟨ad186, e186, hx186_0, hx186_1, hx186_2, hx186_3⟩ := at_T31 (Kd.R_reads' HO_4.out).2.2 x8_1 p186 q186
                cases e186
                replace p186 := eq_true p186
                replace q186 := eq_true q186
                go_wp2_with (first | ((with_reducible refine gate_callee (f := 13) rfl ?_); refine goesL_ (some 42) rfl rfl Tryd.func13 (by kernel_rfl) rfl #[.agg #[.int .i64 ((rd_T31 t180 x8_1).f0), .string ((rd_T31 t180 x8_1).f1), .int .i64 ((rd_T31 t180 x8_1).f2), .int .i64 ((rd_T31 t180 x8_1).f3)]] rfl (by (try simp only [List.map_toArray, List.map_cons, List.map_nil]); first | done | rfl | (simp only [List.length_drop, List.length_take]; rfl) | (simp (disch := omega) only [IntWalk.wrap64_in]; done)) ?_; (with_reducible refine (slotmeshref01_Text.calls k1 ((rd_T31 t180 x8_1).f0) ((rd_T31 t180 x8_1).f1) ((rd_T31 t180 x8_1).f2) ((rd_T31 t180 x8_1).f3) t187 _ A11.out).mono ?_); rintro e w14 ⟨rfl, hb⟩; refine ⟨_, rfl, ?_⟩; have n0_ := Aside0.mk (Kd.R_below (by (with_reducible repeat (first | apply Kd.R_alloc | apply Kd.R_drewN | apply Kd.R_drew)); exact HO_4.out) hb); have n1_ := Aside0.mk (below_step (by repeat (first | (with_reducible first | exact HB.out | apply below_alloc | apply pw_below_drewN | apply below_drew1) | exact HB.out)) hb); clear HO_4; clear HB; have HO_4 := n0_; have HB := n1_; clear n0_ n1_; (try clear hb); (try clear hb2); (try clear hk); (try clear hi); have p188 : 0 ≤ (x8_1 : Int) := of_decide_eq_true (by first | (with_reducible assumption) | assumption); have q188 : x8_1 < (t180.length : Int) := of_decide_eq_true (by first | (with_reducible assumption) | assumption); obtain ⟨ad188, e188, hx188_0, hx188_1, hx188_2, hx188_3⟩ := at_T31 (Kd.R_reads' HO_4.out).2.2 x8_1 p188 q188; obtain rfl : ad186 = ad188 := (by injection e188); replace p188 := eq_true p188; replace q188 := eq_true q188))
                go_ret
                exact ⟨by first | rfl | (simp [errW_none, errW_some] <;> rfl) | (simp [*, errW_none, errW_some] <;> rfl), by repeat (first | (with_reducible first | exact HB.out | apply below_alloc | apply pw_below_drewN | apply below_drew1) | exact HB.out)⟩
              · rw [if_neg c12] at H
                have c12b0 : (t187.toList == ([] : List UInt8)) = false := beq_eq_false_iff_ne.mpr c12
                have c12b1 : (t187.toList != ([] : List UInt8)) = true := bne_iff_ne.mpr c12
                by_cases c15 : ((rd_T31 t180 x8_1).f3) < x7_1
                · rw [if_pos c15] at H
                  have c15b0 : decide (((rd_T31 t180 x8_1).f3) < x7_1) = true := decide_eq_true c15
                  clear c15
                  obtain rfl := Option.some.inj H
                  obtain ⟨Ao16, co16, eo16⟩ := Kd.R_slice HO_4.out
                  subst eo16
                  have p186 : 0 ≤ (x8_1 : Int) := of_decide_eq_true (by first | (with_reducible assumption) | assumption)
                  have q186 : x8_1 < (t180.length : Int) := of_decide_eq_true (by first | (with_reducible assumption) | assumption)
                  obtain ⟨ad186, e186, hx186_0, hx186_1, hx186_2, hx186_3⟩ := at_T31 (Kd.R_reads' HO_4.out).2.2 x8_1 p186 q186
                  cases e186
                  replace p186 := eq_true p186
                  replace q186 := eq_true q186
                  go_wp2_with (first | ((with_reducible refine gate_callee (f := 13) rfl ?_); refine goesL_ (some 42) rfl rfl Tryd.func13 (by kernel_rfl) rfl #[.agg #[.int .i64 ((rd_T31 t180 x8_1).f0), .string ((rd_T31 t180 x8_1).f1), .int .i64 ((rd_T31 t180 x8_1).f2), .int .i64 ((rd_T31 t180 x8_1).f3)]] rfl (by (try simp only [List.map_toArray, List.map_cons, List.map_nil]); first | done | rfl | (simp only [List.length_drop, List.length_take]; rfl) | (simp (disch := omega) only [IntWalk.wrap64_in]; done)) ?_; (with_reducible refine (slotmeshref01_Text.calls k1 ((rd_T31 t180 x8_1).f0) ((rd_T31 t180 x8_1).f1) ((rd_T31 t180 x8_1).f2) ((rd_T31 t180 x8_1).f3) t187 _ A11.out).mono ?_); rintro e w17 ⟨rfl, hb⟩; refine ⟨_, rfl, ?_⟩; have n0_ := Aside0.mk (Kd.R_below (by (with_reducible repeat (first | apply Kd.R_alloc | apply Kd.R_drewN | apply Kd.R_drew)); exact HO_4.out) hb); have n1_ := Aside0.mk (below_step (by repeat (first | (with_reducible first | exact HB.out | apply below_alloc | apply pw_below_drewN | apply below_drew1) | exact HB.out)) hb); clear HO_4; clear HB; have HO_4 := n0_; have HB := n1_; clear n0_ n1_; (try clear hb); (try clear hb2); (try clear hk); (try clear hi); have p188 : 0 ≤ (x8_1 : Int) := of_decide_eq_true (by first | (with_reducible assumption) | assumption); have q188 : x8_1 < (t180.length : Int) := of_decide_eq_true (by first | (with_reducible assumption) | assumption); obtain ⟨ad188, e188, hx188_0, hx188_1, hx188_2, hx188_3⟩ := at_T31 (Kd.R_reads' HO_4.out).2.2 x8_1 p188 q188; obtain rfl : ad186 = ad188 := (by injection e188); replace p188 := eq_true p188; replace q188 := eq_true q188; have p189 : 0 ≤ (x8_1 : Int) := of_decide_eq_true (by first | (with_reducible assumption) | assumption); have q189 : x8_1 < (t180.length : Int) := of_decide_eq_true (by first | (with_reducible assumption) | assumption); obtain ⟨ad189, e189, hx189_0, hx189_1, hx189_2, hx189_3⟩ := at_T31 (Kd.R_reads' HO_4.out).2.2 x8_1 p189 q189; obtain rfl : ad186 = ad189 := (by injection e189); replace p189 := eq_true p189; replace q189 := eq_true q189))
                  go_ret
                  exact ⟨by first | rfl | (simp [errW_none, errW_some] <;> rfl) | (simp [*, errW_none, errW_some] <;> rfl), by repeat (first | (with_reducible first | exact HB.out | apply below_alloc | apply pw_below_drewN | apply below_drew1) | exact HB.out)⟩
                · rw [if_neg c15] at H
                  have c15b0 : decide (((rd_T31 t180 x8_1).f3) < x7_1) = false := decide_eq_false c15
                  clear c15
                  by_cases c18 : (wrap64 (((rd_T31 t180 x8_1).f3) + (t187.size : Int))) > (a0.size : Int)
                  · rw [if_pos c18] at H
                    have c18b0 : decide ((a0.size : Int) < (wrap64 (((rd_T31 t180 x8_1).f3) + (t187.size : Int)))) = true := decide_eq_true c18
                    clear c18
                    obtain rfl := Option.some.inj H
                    obtain ⟨Ao19, co19, eo19⟩ := Kd.R_slice HO_4.out
                    subst eo19
                    have p186 : 0 ≤ (x8_1 : Int) := of_decide_eq_true (by first | (with_reducible assumption) | assumption)
                    have q186 : x8_1 < (t180.length : Int) := of_decide_eq_true (by first | (with_reducible assumption) | assumption)
                    obtain ⟨ad186, e186, hx186_0, hx186_1, hx186_2, hx186_3⟩ := at_T31 (Kd.R_reads' HO_4.out).2.2 x8_1 p186 q186
                    cases e186
                    replace p186 := eq_true p186
                    replace q186 := eq_true q186
                    go_wp2_with (first | ((with_reducible refine gate_callee (f := 13) rfl ?_); refine goesL_ (some 42) rfl rfl Tryd.func13 (by kernel_rfl) rfl #[.agg #[.int .i64 ((rd_T31 t180 x8_1).f0), .string ((rd_T31 t180 x8_1).f1), .int .i64 ((rd_T31 t180 x8_1).f2), .int .i64 ((rd_T31 t180 x8_1).f3)]] rfl (by (try simp only [List.map_toArray, List.map_cons, List.map_nil]); first | done | rfl | (simp only [List.length_drop, List.length_take]; rfl) | (simp (disch := omega) only [IntWalk.wrap64_in]; done)) ?_; (with_reducible refine (slotmeshref01_Text.calls k1 ((rd_T31 t180 x8_1).f0) ((rd_T31 t180 x8_1).f1) ((rd_T31 t180 x8_1).f2) ((rd_T31 t180 x8_1).f3) t187 _ A11.out).mono ?_); rintro e w20 ⟨rfl, hb⟩; refine ⟨_, rfl, ?_⟩; have n0_ := Aside0.mk (Kd.R_below (by (with_reducible repeat (first | apply Kd.R_alloc | apply Kd.R_drewN | apply Kd.R_drew)); exact HO_4.out) hb); have n1_ := Aside0.mk (below_step (by repeat (first | (with_reducible first | exact HB.out | apply below_alloc | apply pw_below_drewN | apply below_drew1) | exact HB.out)) hb); clear HO_4; clear HB; have HO_4 := n0_; have HB := n1_; clear n0_ n1_; (try clear hb); (try clear hb2); (try clear hk); (try clear hi); have p188 : 0 ≤ (x8_1 : Int) := of_decide_eq_true (by first | (with_reducible assumption) | assumption); have q188 : x8_1 < (t180.length : Int) := of_decide_eq_true (by first | (with_reducible assumption) | assumption); obtain ⟨ad188, e188, hx188_0, hx188_1, hx188_2, hx188_3⟩ := at_T31 (Kd.R_reads' HO_4.out).2.2 x8_1 p188 q188; obtain rfl : ad186 = ad188 := (by injection e188); replace p188 := eq_true p188; replace q188 := eq_true q188; have p189 : 0 ≤ (x8_1 : Int) := of_decide_eq_true (by first | (with_reducible assumption) | assumption); have q189 : x8_1 < (t180.length : Int) := of_decide_eq_true (by first | (with_reducible assumption) | assumption); obtain ⟨ad189, e189, hx189_0, hx189_1, hx189_2, hx189_3⟩ := at_T31 (Kd.R_reads' HO_4.out).2.2 x8_1 p189 q189; obtain rfl : ad186 = ad189 := (by injection e189); replace p189 := eq_true p189; replace q189 := eq_true q189))
                    go_ret
                    exact ⟨by first | rfl | (simp [errW_none, errW_some] <;> rfl) | (simp [*, errW_none, errW_some] <;> rfl), by repeat (first | (with_reducible first | exact HB.out | apply below_alloc | apply pw_below_drewN | apply below_drew1) | exact HB.out)⟩
                  · rw [if_neg c18] at H
                    have c18b0 : decide ((a0.size : Int) < (wrap64 (((rd_T31 t180 x8_1).f3) + (t187.size : Int)))) = false := decide_eq_false c18
                    clear c18
                    by_cases c21 : 0 ≤ ((rd_T31 t180 x8_1).f3)
                    · rw [if_pos c21] at H
                      have c21b0 := eq_true c21
                      have c21b1 : decide (0 ≤ ((rd_T31 t180 x8_1).f3)) = true := decide_eq_true c21
                      clear c21
                      by_cases c22 : ((rd_T31 t180 x8_1).f3) ≤ (wrap64 (((rd_T31 t180 x8_1).f3) + (t187.size : Int)))
                      · rw [if_pos c22] at H
                        have c22b0 := eq_true c22
                        have c22b1 : decide (((rd_T31 t180 x8_1).f3) ≤ (wrap64 (((rd_T31 t180 x8_1).f3) + (t187.size : Int)))) = true := decide_eq_true c22
                        by_cases c23 : (wrap64 (((rd_T31 t180 x8_1).f3) + (t187.size : Int))) ≤ (a0.size : Int)
                        · rw [if_pos c23] at H
                          have c23b0 := eq_true c23
                          have c23b1 : decide ((wrap64 (((rd_T31 t180 x8_1).f3) + (t187.size : Int))) ≤ (a0.size : Int)) = true := decide_eq_true c23
                          by_cases c24 : (a0.extract (((rd_T31 t180 x8_1).f3) : Int).toNat ((wrap64 (((rd_T31 t180 x8_1).f3) + (t187.size : Int))) : Int).toNat).toList = t187.toList
                          · rw [if_pos c24] at H
                            have c24b0 : ((a0.extract (((rd_T31 t180 x8_1).f3) : Int).toNat ((wrap64 (((rd_T31 t180 x8_1).f3) + (t187.size : Int))) : Int).toNat).toList == t187.toList) = true := beq_iff_eq.mpr c24
                            have c24b1 : ((a0.extract (((rd_T31 t180 x8_1).f3) : Int).toNat ((wrap64 (((rd_T31 t180 x8_1).f3) + (t187.size : Int))) : Int).toNat).toList != t187.toList) = false := bne_eq_false_iff_eq.mpr c24
                            clear c24
                            by_cases c25 : 0 ≤ x7_1
                            · rw [if_pos c25] at H
                              have c25b0 := eq_true c25
                              have c25b1 : decide (0 ≤ x7_1) = true := decide_eq_true c25
                              clear c25
                              by_cases c26 : x7_1 ≤ ((rd_T31 t180 x8_1).f3)
                              · rw [if_pos c26] at H
                                have c26b0 := eq_true c26
                                have c26b1 : decide (x7_1 ≤ ((rd_T31 t180 x8_1).f3)) = true := decide_eq_true c26
                                clear c26
                                by_cases c27 : ((rd_T31 t180 x8_1).f3) ≤ (a0.size : Int)
                                · rw [if_pos c27] at H
                                  have c27b0 := eq_true c27
                                  have c27b1 : decide (((rd_T31 t180 x8_1).f3) ≤ (a0.size : Int)) = true := decide_eq_true c27
                                  clear c27
                                  replace H := Option.bind_eq_some_iff.mp H
                                  obtain ⟨t192, A280, H⟩ := H
                                  replace H : (if x3_1 = true then (slotmeshlaw01_LexerOffsets.l0 k1 a0 t192 t180 (wrap64 (((rd_T31 t180 x8_1).f3) + (t187.size : Int))) (wrap64 (x8_1 + 1))) else (slotmeshlaw01_LexerOffsets.l0 k1 a0 false t180 (wrap64 (((rd_T31 t180 x8_1).f3) + (t187.size : Int))) (wrap64 (x8_1 + 1)))) = some r := H
                                  have A28 := Aside0.mk A280
                                  clear A280
                                  by_cases c29 : x3_1 = true
                                  · subst c29
                                    have H1 : (slotmeshlaw01_LexerOffsets.l0 k1 a0 t192 t180 (wrap64 (((rd_T31 t180 x8_1).f3) + (t187.size : Int))) (wrap64 (x8_1 + 1))) = some r := by rw [if_pos rfl] at H; exact H
                                    clear H
                                    have H := H1
                                    clear H1
                                    have H' := Aside0.mk H
                                    clear H
                                    obtain ⟨Ao30, co30, eo30⟩ := Kd.R_slice HO_4.out
                                    subst eo30
                                    have p186 : 0 ≤ (x8_1 : Int) := of_decide_eq_true (by first | (with_reducible assumption) | assumption)
                                    have q186 : x8_1 < (t180.length : Int) := of_decide_eq_true (by first | (with_reducible assumption) | assumption)
                                    obtain ⟨ad186, e186, hx186_0, hx186_1, hx186_2, hx186_3⟩ := at_T31 (Kd.R_reads' HO_4.out).2.2 x8_1 p186 q186
                                    cases e186
                                    replace p186 := eq_true p186
                                    replace q186 := eq_true q186
                                    go_wp2_with (first | ((with_reducible refine gate_callee (f := 13) rfl ?_); refine goesL_ (some 42) rfl rfl Tryd.func13 (by kernel_rfl) rfl #[.agg #[.int .i64 ((rd_T31 t180 x8_1).f0), .string ((rd_T31 t180 x8_1).f1), .int .i64 ((rd_T31 t180 x8_1).f2), .int .i64 ((rd_T31 t180 x8_1).f3)]] rfl (by (try simp only [List.map_toArray, List.map_cons, List.map_nil]); first | done | rfl | (simp only [List.length_drop, List.length_take]; rfl) | (simp (disch := omega) only [IntWalk.wrap64_in]; done)) ?_; (with_reducible refine (slotmeshref01_Text.calls k1 ((rd_T31 t180 x8_1).f0) ((rd_T31 t180 x8_1).f1) ((rd_T31 t180 x8_1).f2) ((rd_T31 t180 x8_1).f3) t187 _ A11.out).mono ?_); rintro e w31 ⟨rfl, hb⟩; refine ⟨_, rfl, ?_⟩; have n0_ := Aside0.mk (Kd.R_below (by (with_reducible repeat (first | apply Kd.R_alloc | apply Kd.R_drewN | apply Kd.R_drew)); exact HO_4.out) hb); have n1_ := Aside0.mk (below_step (by repeat (first | (with_reducible first | exact HB.out | apply below_alloc | apply pw_below_drewN | apply below_drew1) | exact HB.out)) hb); clear HO_4; clear HB; have HO_4 := n0_; have HB := n1_; clear n0_ n1_; (try clear hb); (try clear hb2); (try clear hk); (try clear hi); have p188 : 0 ≤ (x8_1 : Int) := of_decide_eq_true (by first | (with_reducible assumption) | assumption); have q188 : x8_1 < (t180.length : Int) := of_decide_eq_true (by first | (with_reducible assumption) | assumption); obtain ⟨ad188, e188, hx188_0, hx188_1, hx188_2, hx188_3⟩ := at_T31 (Kd.R_reads' HO_4.out).2.2 x8_1 p188 q188; obtain rfl : ad186 = ad188 := (by injection e188); replace p188 := eq_true p188; replace q188 := eq_true q188; have p189 : 0 ≤ (x8_1 : Int) := of_decide_eq_true (by first | (with_reducible assumption) | assumption); have q189 : x8_1 < (t180.length : Int) := of_decide_eq_true (by first | (with_reducible assumption) | assumption); obtain ⟨ad189, e189, hx189_0, hx189_1, hx189_2, hx189_3⟩ := at_T31 (Kd.R_reads' HO_4.out).2.2 x8_1 p189 q189; obtain rfl : ad186 = ad189 := (by injection e189); replace p189 := eq_true p189; replace q189 := eq_true q189; have p190 : 0 ≤ (x8_1 : Int) := of_decide_eq_true (by first | (with_reducible assumption) | assumption); have q190 : x8_1 < (t180.length : Int) := of_decide_eq_true (by first | (with_reducible assumption) | assumption); obtain ⟨ad190, e190, hx190_0, hx190_1, hx190_2, hx190_3⟩ := at_T31 (Kd.R_reads' HO_4.out).2.2 x8_1 p190 q190; obtain rfl : ad186 = ad190 := (by injection e190); replace p190 := eq_true p190; replace q190 := eq_true q190; have p191 : 0 ≤ (x8_1 : Int) := of_decide_eq_true (by first | (with_reducible assumption) | assumption); have q191 : x8_1 < (t180.length : Int) := of_decide_eq_true (by first | (with_reducible assumption) | assumption); obtain ⟨ad191, e191, hx191_0, hx191_1, hx191_2, hx191_3⟩ := at_T31 (Kd.R_reads' HO_4.out).2.2 x8_1 p191 q191; obtain rfl : ad186 = ad191 := (by injection e191); replace p191 := eq_true p191; replace q191 := eq_true q191) | ((with_reducible refine gate_callee (f := 14) rfl ?_); refine goesL_ (some 88) rfl rfl Tryd.func14 (by kernel_rfl) rfl #[.string (a0.extract (x7_1 : Int).toNat (((rd_T31 t180 x8_1).f3) : Int).toNat), .bool false] rfl (by (try simp only [List.map_toArray, List.map_cons, List.map_nil]); first | done | rfl | (simp only [List.length_drop, List.length_take]; rfl) | (simp (disch := omega) only [IntWalk.wrap64_in]; done)) ?_; (with_reducible refine (slotmeshlaw01_gaps.calls k1 (a0.extract (x7_1 : Int).toNat (((rd_T31 t180 x8_1).f3) : Int).toNat) false t192 _ A28.out).mono ?_); rintro e w' ⟨rfl, ⟨nd, rfl⟩⟩; refine ⟨_, rfl, ?_⟩))
                                    go_roundg k1
                                    case measure => have := HK1.out; omega
                                    case rel => exact ⟨(t192), (wrap64 (((rd_T31 t180 x8_1).f3) + (t187.size : Int))), (wrap64 (x8_1 + 1)), (by first | rfl | (simp; done) | (simp [*]; done)), (by first | rfl | (simp; done) | (simp [*]; done)), (by first | rfl | (simp; done) | (simp [*]; done)), H', ⟨by have := HK1.out; omega⟩, ⟨by (with_reducible repeat (first | apply Kd.R_alloc | apply Kd.R_drewN | apply Kd.R_drew)); exact HO_4.out⟩, ⟨by repeat (first | (with_reducible first | exact HB.out | apply below_alloc | apply pw_below_drewN | apply below_drew1) | exact HB.out)⟩⟩
                                  · replace c29 := Bool.eq_false_iff.mpr c29
                                    subst c29
                                    have H1 : (slotmeshlaw01_LexerOffsets.l0 k1 a0 false t180 (wrap64 (((rd_T31 t180 x8_1).f3) + (t187.size : Int))) (wrap64 (x8_1 + 1))) = some r := by rw [if_neg (show ¬ (false = true) by decide)] at H; exact H
                                    clear H
                                    have H := H1
                                    clear H1
                                    have H' := Aside0.mk H
                                    clear H
                                    obtain ⟨Ao32, co32, eo32⟩ := Kd.R_slice HO_4.out
                                    subst eo32
                                    have p186 : 0 ≤ (x8_1 : Int) := of_decide_eq_true (by first | (with_reducible assumption) | assumption)
                                    have q186 : x8_1 < (t180.length : Int) := of_decide_eq_true (by first | (with_reducible assumption) | assumption)
                                    obtain ⟨ad186, e186, hx186_0, hx186_1, hx186_2, hx186_3⟩ := at_T31 (Kd.R_reads' HO_4.out).2.2 x8_1 p186 q186
                                    cases e186
                                    replace p186 := eq_true p186
                                    replace q186 := eq_true q186
                                    go_wp2_with (first | ((with_reducible refine gate_callee (f := 13) rfl ?_); refine goesL_ (some 42) rfl rfl Tryd.func13 (by kernel_rfl) rfl #[.agg #[.int .i64 ((rd_T31 t180 x8_1).f0), .string ((rd_T31 t180 x8_1).f1), .int .i64 ((rd_T31 t180 x8_1).f2), .int .i64 ((rd_T31 t180 x8_1).f3)]] rfl (by (try simp only [List.map_toArray, List.map_cons, List.map_nil]); first | done | rfl | (simp only [List.length_drop, List.length_take]; rfl) | (simp (disch := omega) only [IntWalk.wrap64_in]; done)) ?_; (with_reducible refine (slotmeshref01_Text.calls k1 ((rd_T31 t180 x8_1).f0) ((rd_T31 t180 x8_1).f1) ((rd_T31 t180 x8_1).f2) ((rd_T31 t180 x8_1).f3) t187 _ A11.out).mono ?_); rintro e w33 ⟨rfl, hb⟩; refine ⟨_, rfl, ?_⟩; have n0_ := Aside0.mk (Kd.R_below (by (with_reducible repeat (first | apply Kd.R_alloc | apply Kd.R_drewN | apply Kd.R_drew)); exact HO_4.out) hb); have n1_ := Aside0.mk (below_step (by repeat (first | (with_reducible first | exact HB.out | apply below_alloc | apply pw_below_drewN | apply below_drew1) | exact HB.out)) hb); clear HO_4; clear HB; have HO_4 := n0_; have HB := n1_; clear n0_ n1_; (try clear hb); (try clear hb2); (try clear hk); (try clear hi); have p188 : 0 ≤ (x8_1 : Int) := of_decide_eq_true (by first | (with_reducible assumption) | assumption); have q188 : x8_1 < (t180.length : Int) := of_decide_eq_true (by first | (with_reducible assumption) | assumption); obtain ⟨ad188, e188, hx188_0, hx188_1, hx188_2, hx188_3⟩ := at_T31 (Kd.R_reads' HO_4.out).2.2 x8_1 p188 q188; obtain rfl : ad186 = ad188 := (by injection e188); replace p188 := eq_true p188; replace q188 := eq_true q188; have p189 : 0 ≤ (x8_1 : Int) := of_decide_eq_true (by first | (with_reducible assumption) | assumption); have q189 : x8_1 < (t180.length : Int) := of_decide_eq_true (by first | (with_reducible assumption) | assumption); obtain ⟨ad189, e189, hx189_0, hx189_1, hx189_2, hx189_3⟩ := at_T31 (Kd.R_reads' HO_4.out).2.2 x8_1 p189 q189; obtain rfl : ad186 = ad189 := (by injection e189); replace p189 := eq_true p189; replace q189 := eq_true q189; have p190 : 0 ≤ (x8_1 : Int) := of_decide_eq_true (by first | (with_reducible assumption) | assumption); have q190 : x8_1 < (t180.length : Int) := of_decide_eq_true (by first | (with_reducible assumption) | assumption); obtain ⟨ad190, e190, hx190_0, hx190_1, hx190_2, hx190_3⟩ := at_T31 (Kd.R_reads' HO_4.out).2.2 x8_1 p190 q190; obtain rfl : ad186 = ad190 := (by injection e190); replace p190 := eq_true p190; replace q190 := eq_true q190; have p191 : 0 ≤ (x8_1 : Int) := of_decide_eq_true (by first | (with_reducible assumption) | assumption); have q191 : x8_1 < (t180.length : Int) := of_decide_eq_true (by first | (with_reducible assumption) | assumption); obtain ⟨ad191, e191, hx191_0, hx191_1, hx191_2, hx191_3⟩ := at_T31 (Kd.R_reads' HO_4.out).2.2 x8_1 p191 q191; obtain rfl : ad186 = ad191 := (by injection e191); replace p191 := eq_true p191; replace q191 := eq_true q191) | ((with_reducible refine gate_callee (f := 14) rfl ?_); refine goesL_ (some 88) rfl rfl Tryd.func14 (by kernel_rfl) rfl #[.string (a0.extract (x7_1 : Int).toNat (((rd_T31 t180 x8_1).f3) : Int).toNat), .bool false] rfl (by (try simp only [List.map_toArray, List.map_cons, List.map_nil]); first | done | rfl | (simp only [List.length_drop, List.length_take]; rfl) | (simp (disch := omega) only [IntWalk.wrap64_in]; done)) ?_; (with_reducible refine (slotmeshlaw01_gaps.calls k1 (a0.extract (x7_1 : Int).toNat (((rd_T31 t180 x8_1).f3) : Int).toNat) false t192 _ A28.out).mono ?_); rintro e w' ⟨rfl, ⟨nd, rfl⟩⟩; refine ⟨_, rfl, ?_⟩))
                                    go_roundg k1
                                    case measure => have := HK1.out; omega
                                    case rel => exact ⟨(false), (wrap64 (((rd_T31 t180 x8_1).f3) + (t187.size : Int))), (wrap64 (x8_1 + 1)), (by first | rfl | (simp; done) | (simp [*]; done)), (by first | rfl | (simp; done) | (simp [*]; done)), (by first | rfl | (simp; done) | (simp [*]; done)), H', ⟨by have := HK1.out; omega⟩, ⟨by (with_reducible repeat (first | apply Kd.R_alloc | apply Kd.R_drewN | apply Kd.R_drew)); exact HO_4.out⟩, ⟨by repeat (first | (with_reducible first | exact HB.out | apply below_alloc | apply pw_below_drewN | apply below_drew1) | exact HB.out)⟩⟩
                                · rw [if_neg c27] at H
                                  exact absurd H (by simp)
                              · rw [if_neg c26] at H
                                exact absurd H (by simp)
                            · rw [if_neg c25] at H
                              exact absurd H (by simp)
                          · rw [if_neg c24] at H
                            have c24b0 : ((a0.extract (((rd_T31 t180 x8_1).f3) : Int).toNat ((wrap64 (((rd_T31 t180 x8_1).f3) + (t187.size : Int))) : Int).toNat).toList == t187.toList) = false := beq_eq_false_iff_ne.mpr c24
                            have c24b1 : ((a0.extract (((rd_T31 t180 x8_1).f3) : Int).toNat ((wrap64 (((rd_T31 t180 x8_1).f3) + (t187.size : Int))) : Int).toNat).toList != t187.toList) = true := bne_iff_ne.mpr c24
                            obtain rfl := Option.some.inj H
                            obtain ⟨Ao34, co34, eo34⟩ := Kd.R_slice HO_4.out
                            subst eo34
                            have p186 : 0 ≤ (x8_1 : Int) := of_decide_eq_true (by first | (with_reducible assumption) | assumption)
                            have q186 : x8_1 < (t180.length : Int) := of_decide_eq_true (by first | (with_reducible assumption) | assumption)
                            obtain ⟨ad186, e186, hx186_0, hx186_1, hx186_2, hx186_3⟩ := at_T31 (Kd.R_reads' HO_4.out).2.2 x8_1 p186 q186
                            cases e186
                            replace p186 := eq_true p186
                            replace q186 := eq_true q186
                            go_wp2_with (first | ((with_reducible refine gate_callee (f := 13) rfl ?_); refine goesL_ (some 42) rfl rfl Tryd.func13 (by kernel_rfl) rfl #[.agg #[.int .i64 ((rd_T31 t180 x8_1).f0), .string ((rd_T31 t180 x8_1).f1), .int .i64 ((rd_T31 t180 x8_1).f2), .int .i64 ((rd_T31 t180 x8_1).f3)]] rfl (by (try simp only [List.map_toArray, List.map_cons, List.map_nil]); first | done | rfl | (simp only [List.length_drop, List.length_take]; rfl) | (simp (disch := omega) only [IntWalk.wrap64_in]; done)) ?_; (with_reducible refine (slotmeshref01_Text.calls k1 ((rd_T31 t180 x8_1).f0) ((rd_T31 t180 x8_1).f1) ((rd_T31 t180 x8_1).f2) ((rd_T31 t180 x8_1).f3) t187 _ A11.out).mono ?_); rintro e w35 ⟨rfl, hb⟩; refine ⟨_, rfl, ?_⟩; have n0_ := Aside0.mk (Kd.R_below (by (with_reducible repeat (first | apply Kd.R_alloc | apply Kd.R_drewN | apply Kd.R_drew)); exact HO_4.out) hb); have n1_ := Aside0.mk (below_step (by repeat (first | (with_reducible first | exact HB.out | apply below_alloc | apply pw_below_drewN | apply below_drew1) | exact HB.out)) hb); clear HO_4; clear HB; have HO_4 := n0_; have HB := n1_; clear n0_ n1_; (try clear hb); (try clear hb2); (try clear hk); (try clear hi); have p188 : 0 ≤ (x8_1 : Int) := of_decide_eq_true (by first | (with_reducible assumption) | assumption); have q188 : x8_1 < (t180.length : Int) := of_decide_eq_true (by first | (with_reducible assumption) | assumption); obtain ⟨ad188, e188, hx188_0, hx188_1, hx188_2, hx188_3⟩ := at_T31 (Kd.R_reads' HO_4.out).2.2 x8_1 p188 q188; obtain rfl : ad186 = ad188 := (by injection e188); replace p188 := eq_true p188; replace q188 := eq_true q188; have p189 : 0 ≤ (x8_1 : Int) := of_decide_eq_true (by first | (with_reducible assumption) | assumption); have q189 : x8_1 < (t180.length : Int) := of_decide_eq_true (by first | (with_reducible assumption) | assumption); obtain ⟨ad189, e189, hx189_0, hx189_1, hx189_2, hx189_3⟩ := at_T31 (Kd.R_reads' HO_4.out).2.2 x8_1 p189 q189; obtain rfl : ad186 = ad189 := (by injection e189); replace p189 := eq_true p189; replace q189 := eq_true q189; have p190 : 0 ≤ (x8_1 : Int) := of_decide_eq_true (by first | (with_reducible assumption) | assumption); have q190 : x8_1 < (t180.length : Int) := of_decide_eq_true (by first | (with_reducible assumption) | assumption); obtain ⟨ad190, e190, hx190_0, hx190_1, hx190_2, hx190_3⟩ := at_T31 (Kd.R_reads' HO_4.out).2.2 x8_1 p190 q190; obtain rfl : ad186 = ad190 := (by injection e190); replace p190 := eq_true p190; replace q190 := eq_true q190))
                            go_ret
                            exact ⟨by first | rfl | (simp [errW_none, errW_some] <;> rfl) | (simp [*, errW_none, errW_some] <;> rfl), by repeat (first | (with_reducible first | exact HB.out | apply below_alloc | apply pw_below_drewN | apply below_drew1) | exact HB.out)⟩
                        · rw [if_neg c23] at H
                          exact absurd H (by simp)
                      · rw [if_neg c22] at H
                        exact absurd H (by simp)
                    · rw [if_neg c21] at H
                      exact absurd H (by simp)
            · rw [if_neg c10] at H
              exact absurd H (by simp)
          · rw [if_neg c9] at H
            have c9b0 : decide (x8_1 < (t180.length : Int)) = false := decide_eq_false c9
            clear c9
            by_cases c36 : 0 ≤ x7_1
            · rw [if_pos c36] at H
              have c36b0 := eq_true c36
              have c36b1 : decide (0 ≤ x7_1) = true := decide_eq_true c36
              clear c36
              by_cases c37 : x7_1 ≤ (a0.size : Int)
              · rw [if_pos c37] at H
                have c37b0 := eq_true c37
                have c37b1 : decide (x7_1 ≤ (a0.size : Int)) = true := decide_eq_true c37
                clear c37
                replace H := Option.bind_eq_some_iff.mp H
                obtain ⟨t185, A380, H⟩ := H
                replace H : (if x3_1 = true then (some t185) else (some false)) = some r := H
                have A38 := Aside0.mk A380
                clear A380
                by_cases c39 : x3_1 = true
                · subst c39
                  have H1 : (some t185) = some r := by rw [if_pos rfl] at H; exact H
                  clear H
                  have H := H1
                  clear H1
                  obtain rfl := Option.some.inj H
                  obtain ⟨Ao40, co40, eo40⟩ := Kd.R_slice HO_4.out
                  subst eo40
                  go_wp2_with (first | ((with_reducible refine gate_callee (f := 14) rfl ?_); refine goesL_ (some 97) rfl rfl Tryd.func14 (by kernel_rfl) rfl #[.string (a0.extract (x7_1 : Int).toNat a0.size), .bool true] rfl (by (try simp only [List.map_toArray, List.map_cons, List.map_nil]); first | done | rfl | (simp only [List.length_drop, List.length_take]; rfl) | (simp (disch := omega) only [IntWalk.wrap64_in]; done)) ?_; (with_reducible refine (slotmeshlaw01_gaps.calls k1 (a0.extract (x7_1 : Int).toNat a0.size) true t185 _ A38.out).mono ?_); rintro e w' ⟨rfl, ⟨nd, rfl⟩⟩; refine ⟨_, rfl, ?_⟩))
                  go_ret
                  exact ⟨by first | rfl | (simp [errW_none, errW_some] <;> rfl) | (simp [*, errW_none, errW_some] <;> rfl), by repeat (first | (with_reducible first | exact HB.out | apply below_alloc | apply pw_below_drewN | apply below_drew1) | exact HB.out)⟩
                · replace c39 := Bool.eq_false_iff.mpr c39
                  subst c39
                  have H1 : (some false) = some r := by rw [if_neg (show ¬ (false = true) by decide)] at H; exact H
                  clear H
                  have H := H1
                  clear H1
                  obtain rfl := Option.some.inj H
                  obtain ⟨Ao41, co41, eo41⟩ := Kd.R_slice HO_4.out
                  subst eo41
                  go_wp2_with (first | ((with_reducible refine gate_callee (f := 14) rfl ?_); refine goesL_ (some 97) rfl rfl Tryd.func14 (by kernel_rfl) rfl #[.string (a0.extract (x7_1 : Int).toNat a0.size), .bool true] rfl (by (try simp only [List.map_toArray, List.map_cons, List.map_nil]); first | done | rfl | (simp only [List.length_drop, List.length_take]; rfl) | (simp (disch := omega) only [IntWalk.wrap64_in]; done)) ?_; (with_reducible refine (slotmeshlaw01_gaps.calls k1 (a0.extract (x7_1 : Int).toNat a0.size) true t185 _ A38.out).mono ?_); rintro e w' ⟨rfl, ⟨nd, rfl⟩⟩; refine ⟨_, rfl, ?_⟩))
                  go_ret
                  exact ⟨by first | rfl | (simp [errW_none, errW_some] <;> rfl) | (simp [*, errW_none, errW_some] <;> rfl), by repeat (first | (with_reducible first | exact HB.out | apply below_alloc | apply pw_below_drewN | apply below_drew1) | exact HB.out)⟩
              · rw [if_neg c37] at H
                exact absurd H (by simp)
            · rw [if_neg c36] at H
              exact absurd H (by simp)
    · rw [if_neg c6] at H
      have c6b0 : (t181 == 0) = false := beq_eq_false_iff_ne.mpr c6
      have c6b1 : (t181 != 0) = true := bne_iff_ne.mpr c6
      by_cases c42 : t179 = true
      · subst c42
        have H1 : (some ((t180.length : Int) == 0)) = some r := by rw [if_pos rfl] at H; exact H
        clear H
        have H := H1
        clear H1
        obtain rfl := Option.some.inj H
        go_enter Tryd.func4, Tryd.ntmps4
        go_wp2_with (first | ((with_reducible refine gate_callee (f := 9) rfl ?_); refine goesL_ (some 13) rfl rfl Tryd.func9 (by kernel_rfl) rfl #[] rfl (by (try simp only [List.map_toArray, List.map_nil]); first | done | rfl | (simp only [List.length_drop, List.length_take]; rfl) | (simp (disch := omega) only [IntWalk.wrap64_in]; done)) ?_; (with_reducible refine (slotmeshlaw01_head.calls k  true _ ?side1 A2.out).mono ?_); (case side1 => exact Lx.GOK.aside hG (by repeat (first | (with_reducible first | exact HB.out | apply below_alloc | apply pw_below_drewN | apply below_drew1) | exact HB.out))); rintro e w43 ⟨rfl, hb⟩; refine ⟨_, rfl, ?_⟩; have n0_ := Aside0.mk (below_step (by repeat (first | (with_reducible first | exact HB.out | apply below_alloc | apply pw_below_drewN | apply below_drew1) | exact HB.out)) hb); clear HB; have HB := n0_; clear n0_; (try clear hb); (try clear hb2); (try clear hk); (try clear hi)) | ((with_reducible refine gate_callee (f := 10) rfl ?_); refine goesL_ (some 20) rfl rfl Tryd.func10 (by kernel_rfl) rfl #[.string a0] rfl (by (try simp only [List.map_toArray, List.map_cons, List.map_nil]); first | done | rfl | (simp only [List.length_drop, List.length_take]; rfl) | (simp (disch := omega) only [IntWalk.wrap64_in]; done)) ?_; (with_reducible refine (lexer_Lex.calls a0 t180 t181 t182 _ ?side1 A5.out).mono ?_); (case side1 => exact Lx.GOK.aside hG (by repeat (first | (with_reducible first | exact HB.out | apply below_alloc | apply pw_below_drewN | apply below_drew1) | exact HB.out))); rintro e w44 ⟨v183, rfl, ho0, hb⟩; refine ⟨_, rfl, ?_⟩; have n0_ := Aside0.mk (Kd.R_lower ho0 (below_size (by repeat (first | (with_reducible first | exact HB.out | apply below_alloc | apply pw_below_drewN | apply below_drew1) | exact HB.out)))); have n1_ := Aside0.mk (below_step (by repeat (first | (with_reducible first | exact HB.out | apply below_alloc | apply pw_below_drewN | apply below_drew1) | exact HB.out)) hb); clear HB; have HO184 := n0_; have HB := n1_; clear n0_ n1_; (try clear hb); (try clear hb2); (try clear hk); (try clear hi); (try clear ho0); obtain ⟨Ao45, co45, eo45⟩ := Kd.R_slice HO184.out; subst eo45))
        go_ret
        exact ⟨by first | rfl | (simp [errW_none, errW_some] <;> rfl) | (simp [*, errW_none, errW_some] <;> rfl), by repeat (first | (with_reducible first | exact HB.out | apply below_alloc | apply pw_below_drewN | apply below_drew1) | exact HB.out)⟩
      · replace c42 := Bool.eq_false_iff.mpr c42
        subst c42
        have H1 : (some false) = some r := by rw [if_neg (show ¬ (false = true) by decide)] at H; exact H
        clear H
        have H := H1
        clear H1
        obtain rfl := Option.some.inj H
        go_enter Tryd.func4, Tryd.ntmps4
        go_wp2_with (first | ((with_reducible refine gate_callee (f := 9) rfl ?_); refine goesL_ (some 13) rfl rfl Tryd.func9 (by kernel_rfl) rfl #[] rfl (by (try simp only [List.map_toArray, List.map_nil]); first | done | rfl | (simp only [List.length_drop, List.length_take]; rfl) | (simp (disch := omega) only [IntWalk.wrap64_in]; done)) ?_; (with_reducible refine (slotmeshlaw01_head.calls k  false _ ?side1 A2.out).mono ?_); (case side1 => exact Lx.GOK.aside hG (by repeat (first | (with_reducible first | exact HB.out | apply below_alloc | apply pw_below_drewN | apply below_drew1) | exact HB.out))); rintro e w46 ⟨rfl, hb⟩; refine ⟨_, rfl, ?_⟩; have n0_ := Aside0.mk (below_step (by repeat (first | (with_reducible first | exact HB.out | apply below_alloc | apply pw_below_drewN | apply below_drew1) | exact HB.out)) hb); clear HB; have HB := n0_; clear n0_; (try clear hb); (try clear hb2); (try clear hk); (try clear hi)) | ((with_reducible refine gate_callee (f := 10) rfl ?_); refine goesL_ (some 20) rfl rfl Tryd.func10 (by kernel_rfl) rfl #[.string a0] rfl (by (try simp only [List.map_toArray, List.map_cons, List.map_nil]); first | done | rfl | (simp only [List.length_drop, List.length_take]; rfl) | (simp (disch := omega) only [IntWalk.wrap64_in]; done)) ?_; (with_reducible refine (lexer_Lex.calls a0 t180 t181 t182 _ ?side1 A5.out).mono ?_); (case side1 => exact Lx.GOK.aside hG (by repeat (first | (with_reducible first | exact HB.out | apply below_alloc | apply pw_below_drewN | apply below_drew1) | exact HB.out))); rintro e w47 ⟨v183, rfl, ho0, hb⟩; refine ⟨_, rfl, ?_⟩; have n0_ := Aside0.mk (Kd.R_lower ho0 (below_size (by repeat (first | (with_reducible first | exact HB.out | apply below_alloc | apply pw_below_drewN | apply below_drew1) | exact HB.out)))); have n1_ := Aside0.mk (below_step (by repeat (first | (with_reducible first | exact HB.out | apply below_alloc | apply pw_below_drewN | apply below_drew1) | exact HB.out)) hb); clear HB; have HO184 := n0_; have HB := n1_; clear n0_ n1_; (try clear hb); (try clear hb2); (try clear hk); (try clear hi); (try clear ho0)))
        go_ret
        exact ⟨by first | rfl | (simp [errW_none, errW_some] <;> rfl) | (simp [*, errW_none, errW_some] <;> rfl), by repeat (first | (with_reducible first | exact HB.out | apply below_alloc | apply pw_below_drewN | apply below_drew1) | exact HB.out)⟩

/-- THE ONE PURE STATEMENT of slotmeshlaw01_LexerOffsets: yours. -/
def slotmeshlaw01_LexerOffsets.Pure : Prop := ∀ (a0 : ByteArray), a0.size ≤ 140737488351232 → ∃ k, slotmeshlaw01_LexerOffsets.f k a0 = some true
theorem slotmeshlaw01_LexerOffsets.walk (P : slotmeshlaw01_LexerOffsets.Pure) (a0 : ByteArray) (w : World) (hG : Lx.GOK w) (w0 : a0.size ≤ 140737488351232) :
    Calls Tryd.prog 4 #[.string a0] w fun e w' => e = .returned (.bool true) ∧ Below w.heap.size w w' := by
  obtain ⟨k, h⟩ := P a0 w0
  refine (slotmeshlaw01_LexerOffsets.calls k a0 true w ⟨hG⟩ h).mono ?_
  rintro e w' ⟨rfl, hd⟩
  exact ⟨rfl, hd⟩

/-! ### slotmeshlaw01_pick: function 15 -/
def slotmeshlaw01_pick.f (a0 : Int) (a1 : Int) : Option (Int) := if a0 < 0 then (if a1 = 0 then (none) else (some (Int.tmod (wrap64 (-(wrap64 (a0 + 1)))) a1))) else (if a1 = 0 then (none) else (some (Int.tmod a0 a1)))
set_option maxHeartbeats 8000000 in
set_option maxRecDepth 100000 in
theorem slotmeshlaw01_pick.calls (a0 : Int) (a1 : Int) (r : Int) (w : World) (h : slotmeshlaw01_pick.f a0 a1 = some r) :
    Calls Tryd.prog 15 #[.int .i64 a0, .int .i64 a1] w fun e w' => e = .returned (.int .i64 r) ∧ Drawn0 w w' := by
  have H : (if a0 < 0 then (if a1 = 0 then (none) else (some (Int.tmod (wrap64 (-(wrap64 (a0 + 1)))) a1))) else (if a1 = 0 then (none) else (some (Int.tmod a0 a1)))) = some r := h
  clear h
  by_cases c3 : a0 < 0
  · rw [if_pos c3] at H
    have c3b0 : decide (a0 < 0) = true := decide_eq_true c3
    clear c3
    by_cases c4 : a1 = 0
    · rw [if_pos c4] at H
      exact absurd H (by simp)
    · rw [if_neg c4] at H
      have c4b0 : (a1 == 0) = false := beq_eq_false_iff_ne.mpr c4
      have c4b1 : (a1 != 0) = true := bne_iff_ne.mpr c4
      obtain rfl := Option.some.inj H
      go_enter Tryd.func15, Tryd.ntmps15
      go_wp2
      go_ret
      exact ⟨by first | rfl | (simp; done) | (simp [*]; done), by repeat (first | exact Drawn0.refl _ | apply Drawn0.step)⟩
  · rw [if_neg c3] at H
    have c3b0 : decide (a0 < 0) = false := decide_eq_false c3
    clear c3
    by_cases c5 : a1 = 0
    · rw [if_pos c5] at H
      exact absurd H (by simp)
    · rw [if_neg c5] at H
      have c5b0 : (a1 == 0) = false := beq_eq_false_iff_ne.mpr c5
      have c5b1 : (a1 != 0) = true := bne_iff_ne.mpr c5
      obtain rfl := Option.some.inj H
      go_enter Tryd.func15, Tryd.ntmps15
      go_wp2
      go_ret
      exact ⟨by first | rfl | (simp; done) | (simp [*]; done), by repeat (first | exact Drawn0.refl _ | apply Drawn0.step)⟩

end Go.Proofs.YtiidalhcmlhnmaaDoor.PA
