/- Texts of proofs: plain words, and walks through the program's functions. -/
import Derived.Test.YtdedlchpjboceaaDoorProg
import Derived.Below
import Derived.Deep.Draws
import Derived.Deep.AppendLies
import Derived.Maps.AppendAt
import Derived.OwnWalk
import Derived.Laws.BytesArg
import Derived.Laws.MakeOwn
import Derived.Laws.OwnMore
import Derived.Deep.OwnRows
import Derived.Tactics
import Derived.Lib.ConvBytes
import Derived.Laws.Slices
import Derived.WalkKit
import Derived.KernelRfl
import Derived.RowKit3
import Derived.Deep.LoopGhost
import Derived.Deep.QuietTactic
import Derived.BigQuiet
import Derived.WideLaws
import Derived.Deep.DeepCutAuto
import Derived.Deep.CutBlock
import Derived.Deep.RegionHeld3
import Derived.Laws.Rows
import Derived.Lib.AppendStr
import Derived.ArgAppend
import Derived.Laws.IdiomCopy
import Derived.OrdersHeld
import Derived.Laws.BitsLemmas
import Derived.RowKit
import Derived.Test.YtdedlchpjboceaaDoorM5a2c183c
import Derived.Test.YtdedlchpjboceaaDoorM1e215e0c
import Derived.Test.YtdedlchpjboceaaDoorM8721c24a
import Derived.Laws.StructEq

section
namespace Go.Proofs.YtdedlchpjboceaaDoor.PB
open Go.RowKit Go.Proofs.YtdedlchpjboceaaDoorW.PrintWords Go.Proofs.YtdedlchpjboceaaDoorW.PrintLast Go.Proofs.YtdedlchpjboceaaDoorW.PrintMore
attribute [local go_sem] max2_int min2_int max_two min_two max_three min_three max_four min_four   -- for this text's walks alone
def errW : Option Int → Value
  | none => .nilIface
  | some c => .iface 0 (.int .i64 c)
theorem errW_none : errW none = .nilIface := rfl
theorem errW_some (c : Int) : errW (some c) = .iface 0 (.int .i64 c) := rfl
end Go.Proofs.YtdedlchpjboceaaDoor.PB
end

section
namespace Go.Proofs.YtdedlchpjboceaaDoor.PB
open Go.RowKit Go.Proofs.YtdedlchpjboceaaDoorW.PrintWords Go.Proofs.YtdedlchpjboceaaDoorW.PrintLast Go.Proofs.YtdedlchpjboceaaDoorW.PrintMore
attribute [local go_sem] max2_int min2_int max_two min_two max_three min_three max_four min_four   -- for this text's walks alone
mutual
def parser_shape.j0 : Nat → Int → Bool → Option (Bool × Int)
  | 0, _, _ => none
  | k + 1, x4, x7 => if x7 = true then (some (true, 2)) else (if x4 = 3 then (some (true, 4)) else (if x4 = 4 then (some (true, 3)) else (if x4 = 5 then (parser_shape.j1 k x4 (x4 == 5)) else (parser_shape.j1 k x4 (x4 == 6)))))
def parser_shape.j1 : Nat → Int → Bool → Option (Bool × Int)
  | 0, _, _ => none
  | _ + 1, x4, x14 => if x14 = true then (some (true, 1)) else (if x4 = 8 then (some (false, 6)) else (if x4 = 9 then (some (false, 4)) else (if x4 = 10 then (some (false, 3)) else (if x4 = 11 then (some (false, 1)) else (some (false, (-1)))))))
end
def parser_shape.f (k : Nat) (a0 : Int) : Option (Bool × Int) := if a0 = 1 then (some (false, 2)) else (if a0 = 2 then (parser_shape.j0 k a0 (a0 == 2)) else (parser_shape.j0 k a0 (a0 == 7)))
theorem parser_shape.mono_l : ∀ k, (∀ y0 y1, LeO (parser_shape.j0 k y0 y1) (parser_shape.j0 (k + 1) y0 y1)) ∧ (∀ y0 y1, LeO (parser_shape.j1 k y0 y1) (parser_shape.j1 (k + 1) y0 y1))
  | 0 => ⟨fun _ _ r h => by simp [parser_shape.j0] at h, fun _ _ r h => by simp [parser_shape.j1] at h⟩
  | k + 1 => by
    obtain ⟨ih0, ih1⟩ := parser_shape.mono_l k
    refine ⟨?_, ?_⟩
    · intro y0 y1
      unfold parser_shape.j0
      repeat' first
      | (with_reducible exact ih0 _ _)
      | (with_reducible exact ih1 _ _)
      | (with_reducible exact LeO.refl _)
      | (with_reducible exact LeO.none _)
      | (with_reducible refine LeO.ite ?_ ?_)
      | (with_reducible refine LeO.bind ?_ (fun _ => ?_))
      | exact ih0 _ _
      | exact ih1 _ _
      | exact LeO.none _
      | refine LeO.ite ?_ ?_
      | refine LeO.bind ?_ (fun _ => ?_)
    · intro y0 y1
      unfold parser_shape.j1
      repeat' first
      | (with_reducible exact ih0 _ _)
      | (with_reducible exact ih1 _ _)
      | (with_reducible exact LeO.refl _)
      | (with_reducible exact LeO.none _)
      | (with_reducible refine LeO.ite ?_ ?_)
      | (with_reducible refine LeO.bind ?_ (fun _ => ?_))
      | exact ih0 _ _
      | exact ih1 _ _
      | exact LeO.none _
      | refine LeO.ite ?_ ?_
      | refine LeO.bind ?_ (fun _ => ?_)
theorem parser_shape.mono : ∀ a0 k, LeO (parser_shape.f k a0) (parser_shape.f (k + 1) a0) := by
  intro a0 k
  obtain ⟨ih0, ih1⟩ := parser_shape.mono_l k
  unfold parser_shape.f
  repeat' first
      | (with_reducible exact ih0 _ _)
      | (with_reducible exact ih1 _ _)
      | (with_reducible exact LeO.refl _)
      | (with_reducible exact LeO.none _)
      | (with_reducible refine LeO.ite ?_ ?_)
      | (with_reducible refine LeO.bind ?_ (fun _ => ?_))
      | exact ih0 _ _
      | exact ih1 _ _
      | exact LeO.none _
      | refine LeO.ite ?_ ?_
      | refine LeO.bind ?_ (fun _ => ?_)
set_option maxHeartbeats 8000000 in
set_option maxRecDepth 100000 in
theorem parser_shape.calls (k : Nat) (a0 : Int) (r1 : Bool) (r2 : Int) (w : World) (h : parser_shape.f k a0 = some (r1, r2)) :
    Calls Tryd.prog 90 #[.int .i64 a0] w fun e w' => e = .returned (.tuple #[.bool r1, .int .i64 r2]) ∧ Drawn0 w w' := by
  have H : (if a0 = 1 then (some (false, 2)) else (if a0 = 2 then (parser_shape.j0 k a0 (a0 == 2)) else (parser_shape.j0 k a0 (a0 == 7)))) = some (r1, r2) := h
  clear h
  by_cases c2 : a0 = 1
  · rw [if_pos c2] at H
    have c2b0 : (a0 == 1) = true := beq_iff_eq.mpr c2
    have c2b1 : (a0 != 1) = false := bne_eq_false_iff_eq.mpr c2
    clear c2
    simp only [Option.some.injEq, Prod.mk.injEq] at H
    obtain ⟨rfl, rfl⟩ := H
    go_enter Tryd.func90, Tryd.ntmps90
    go_wp2
    go_ret2
    exact ⟨by first | rfl | (simp; done) | (simp [*]; done), by repeat (first | exact Drawn0.refl _ | apply Drawn0.step)⟩
  · rw [if_neg c2] at H
    have c2b0 : (a0 == 1) = false := beq_eq_false_iff_ne.mpr c2
    have c2b1 : (a0 != 1) = true := bne_iff_ne.mpr c2
    have HC3 := Aside0.mk H
    clear H
    go_enter Tryd.func90, Tryd.ntmps90
    go_upto_if 7 with (fail)
    go_cut [7] (fun v7 wc => ∃ (kq : Nat) (x7_2 : Bool), v7 = .bool x7_2 ∧ Aside0 (parser_shape.j0 kq a0 x7_2 = some (r1, r2)) ∧ Aside0 (kq ≤ k) ∧ Drawn0 w wc)
    case first =>
      have H := HC3.out
      clear HC3
      by_cases c4 : a0 = 2
      · rw [if_pos c4] at H
        have c4b0 : (a0 == 2) = true := beq_iff_eq.mpr c4
        have c4b1 : (a0 != 2) = false := bne_eq_false_iff_eq.mpr c4
        clear c4
        (first | rw [c4b0] | (simp only [i64_w, i32_w]; rw [c4b0]) | skip)
        have H' := Aside0.mk H
        clear H
        go_wp2
        go_meet
        case rel => exact ⟨_, ((a0 == 2)), (by first | rfl | (simp; done) | (simp [*]; done)), H', ⟨by first | omega | exact Nat.le_refl _⟩, by repeat (first | exact Drawn0.refl _ | apply Drawn0.step)⟩
      · rw [if_neg c4] at H
        have c4b0 : (a0 == 2) = false := beq_eq_false_iff_ne.mpr c4
        have c4b1 : (a0 != 2) = true := bne_iff_ne.mpr c4
        (first | rw [c4b0] | (simp only [i64_w, i32_w]; rw [c4b0]) | skip)
        have H' := Aside0.mk H
        clear H
        go_wp2
        go_meet
        case rel => exact ⟨_, ((a0 == 7)), (by first | rfl | (simp; done) | (simp [*]; done)), H', ⟨by first | omega | exact Nat.le_refl _⟩, by repeat (first | exact Drawn0.refl _ | apply Drawn0.step)⟩
    case rest =>
      clear HC3
      try clear c2
      try clear c2b0
      try clear c2b1
      try clear p2
      try clear c4
      try clear c4b0
      try clear c4b1
      obtain ⟨kq, x7_2, rfl, HA, HJ2, ⟨mc2, rfl⟩⟩ := hcut
      cases kq with
      | zero => exact absurd HA.out (by simp [parser_shape.j0])
      | succ kj2 =>
        have H := HA.out
        clear HA
        simp only [parser_shape.j0] at H
        by_cases c5 : x7_2 = true
        · subst c5
          have H1 : (some (true, 2)) = some (r1, r2) := by rw [if_pos rfl] at H; exact H
          clear H
          have H := H1
          clear H1
          simp only [Option.some.injEq, Prod.mk.injEq] at H
          obtain ⟨rfl, rfl⟩ := H
          go_wp2
          go_ret2
          exact ⟨by first | rfl | (simp; done) | (simp [*]; done), by repeat (first | exact Drawn0.refl _ | apply Drawn0.step)⟩
        · replace c5 := Bool.eq_false_iff.mpr c5
          subst c5
          have H1 : (if a0 = 3 then (some (true, 4)) else (if a0 = 4 then (some (true, 3)) else (if a0 = 5 then (parser_shape.j1 kj2 a0 (a0 == 5)) else (parser_shape.j1 kj2 a0 (a0 == 6))))) = some (r1, r2) := by rw [if_neg (show ¬ (false = true) by decide)] at H; exact H
          clear H
          have H := H1
          clear H1
          by_cases c6 : a0 = 3
          · rw [if_pos c6] at H
            have c6b0 : (a0 == 3) = true := beq_iff_eq.mpr c6
            have c6b1 : (a0 != 3) = false := bne_eq_false_iff_eq.mpr c6
            clear c6
            simp only [Option.some.injEq, Prod.mk.injEq] at H
            obtain ⟨rfl, rfl⟩ := H
            go_wp2
            go_ret2
            exact ⟨by first | rfl | (simp; done) | (simp [*]; done), by repeat (first | exact Drawn0.refl _ | apply Drawn0.step)⟩
          · rw [if_neg c6] at H
            have c6b0 : (a0 == 3) = false := beq_eq_false_iff_ne.mpr c6
            have c6b1 : (a0 != 3) = true := bne_iff_ne.mpr c6
            by_cases c7 : a0 = 4
            · rw [if_pos c7] at H
              have c7b0 : (a0 == 4) = true := beq_iff_eq.mpr c7
              have c7b1 : (a0 != 4) = false := bne_eq_false_iff_eq.mpr c7
              clear c7
              simp only [Option.some.injEq, Prod.mk.injEq] at H
              obtain ⟨rfl, rfl⟩ := H
              go_wp2
              go_ret2
              exact ⟨by first | rfl | (simp; done) | (simp [*]; done), by repeat (first | exact Drawn0.refl _ | apply Drawn0.step)⟩
            · rw [if_neg c7] at H
              have c7b0 : (a0 == 4) = false := beq_eq_false_iff_ne.mpr c7
              have c7b1 : (a0 != 4) = true := bne_iff_ne.mpr c7
              have HC8 := Aside0.mk H
              clear H
              go_upto_if 14 with (fail)
              go_cut [14] (fun v14 wc => ∃ (kq : Nat) (x14_7 : Bool), v14 = .bool x14_7 ∧ Aside0 (parser_shape.j1 kq a0 x14_7 = some (r1, r2)) ∧ Aside0 (kq ≤ kj2) ∧ Drawn0 w wc)
              case first =>
                have H := HC8.out
                clear HC8
                by_cases c9 : a0 = 5
                · rw [if_pos c9] at H
                  have c9b0 : (a0 == 5) = true := beq_iff_eq.mpr c9
                  have c9b1 : (a0 != 5) = false := bne_eq_false_iff_eq.mpr c9
                  clear c9
                  (first | rw [c9b0] | (simp only [i64_w, i32_w]; rw [c9b0]) | skip)
                  have H' := Aside0.mk H
                  clear H
                  go_wp2
                  go_meet
                  case rel => exact ⟨_, ((a0 == 5)), (by first | rfl | (simp; done) | (simp [*]; done)), H', ⟨by have := HJ2.out; first | omega | exact Nat.le_refl _⟩, by repeat (first | exact Drawn0.refl _ | apply Drawn0.step)⟩
                · rw [if_neg c9] at H
                  have c9b0 : (a0 == 5) = false := beq_eq_false_iff_ne.mpr c9
                  have c9b1 : (a0 != 5) = true := bne_iff_ne.mpr c9
                  (first | rw [c9b0] | (simp only [i64_w, i32_w]; rw [c9b0]) | skip)
                  have H' := Aside0.mk H
                  clear H
                  go_wp2
                  go_meet
                  case rel => exact ⟨_, ((a0 == 6)), (by first | rfl | (simp; done) | (simp [*]; done)), H', ⟨by have := HJ2.out; first | omega | exact Nat.le_refl _⟩, by repeat (first | exact Drawn0.refl _ | apply Drawn0.step)⟩
              case rest =>
                clear HC8
                try clear c2
                try clear c2b0
                try clear c2b1
                try clear p2
                try clear c4
                try clear c4b0
                try clear c4b1
                try clear c5
                try clear c6
                try clear c6b0
                try clear c6b1
                try clear c7
                try clear c7b0
                try clear c7b1
                try clear c9
                try clear c9b0
                try clear c9b1
                try clear p2
                obtain ⟨kq, x14_7, rfl, HA, HJ7, ⟨mc7, rfl⟩⟩ := hcut
                cases kq with
                | zero => exact absurd HA.out (by simp [parser_shape.j1])
                | succ kj7 =>
                  have H := HA.out
                  clear HA
                  simp only [parser_shape.j1] at H
                  by_cases c10 : x14_7 = true
                  · subst c10
                    have H1 : (some (true, 1)) = some (r1, r2) := by rw [if_pos rfl] at H; exact H
                    clear H
                    have H := H1
                    clear H1
                    simp only [Option.some.injEq, Prod.mk.injEq] at H
                    obtain ⟨rfl, rfl⟩ := H
                    go_wp2
                    go_ret2
                    exact ⟨by first | rfl | (simp; done) | (simp [*]; done), by repeat (first | exact Drawn0.refl _ | apply Drawn0.step)⟩
                  · replace c10 := Bool.eq_false_iff.mpr c10
                    subst c10
                    have H1 : (if a0 = 8 then (some (false, 6)) else (if a0 = 9 then (some (false, 4)) else (if a0 = 10 then (some (false, 3)) else (if a0 = 11 then (some (false, 1)) else (some (false, (-1))))))) = some (r1, r2) := by rw [if_neg (show ¬ (false = true) by decide)] at H; exact H
                    clear H
                    have H := H1
                    clear H1
                    by_cases c11 : a0 = 8
                    · rw [if_pos c11] at H
                      have c11b0 : (a0 == 8) = true := beq_iff_eq.mpr c11
                      have c11b1 : (a0 != 8) = false := bne_eq_false_iff_eq.mpr c11
                      clear c11
                      simp only [Option.some.injEq, Prod.mk.injEq] at H
                      obtain ⟨rfl, rfl⟩ := H
                      go_wp2
                      go_ret2
                      exact ⟨by first | rfl | (simp; done) | (simp [*]; done), by repeat (first | exact Drawn0.refl _ | apply Drawn0.step)⟩
                    · rw [if_neg c11] at H
                      have c11b0 : (a0 == 8) = false := beq_eq_false_iff_ne.mpr c11
                      have c11b1 : (a0 != 8) = true := bne_iff_ne.mpr c11
                      by_cases c12 : a0 = 9
                      · rw [if_pos c12] at H
                        have c12b0 : (a0 == 9) = true := beq_iff_eq.mpr c12
                        have c12b1 : (a0 != 9) = false := bne_eq_false_iff_eq.mpr c12
                        clear c12
                        simp only [Option.some.injEq, Prod.mk.injEq] at H
                        obtain ⟨rfl, rfl⟩ := H
                        go_wp2
                        go_ret2
                        exact ⟨by first | rfl | (simp; done) | (simp [*]; done), by repeat (first | exact Drawn0.refl _ | apply Drawn0.step)⟩
                      · rw [if_neg c12] at H
                        have c12b0 : (a0 == 9) = false := beq_eq_false_iff_ne.mpr c12
                        have c12b1 : (a0 != 9) = true := bne_iff_ne.mpr c12
                        by_cases c13 : a0 = 10
                        · rw [if_pos c13] at H
                          have c13b0 : (a0 == 10) = true := beq_iff_eq.mpr c13
                          have c13b1 : (a0 != 10) = false := bne_eq_false_iff_eq.mpr c13
                          clear c13
                          simp only [Option.some.injEq, Prod.mk.injEq] at H
                          obtain ⟨rfl, rfl⟩ := H
                          go_wp2
                          go_ret2
                          exact ⟨by first | rfl | (simp; done) | (simp [*]; done), by repeat (first | exact Drawn0.refl _ | apply Drawn0.step)⟩
                        · rw [if_neg c13] at H
                          have c13b0 : (a0 == 10) = false := beq_eq_false_iff_ne.mpr c13
                          have c13b1 : (a0 != 10) = true := bne_iff_ne.mpr c13
                          by_cases c14 : a0 = 11
                          · rw [if_pos c14] at H
                            have c14b0 : (a0 == 11) = true := beq_iff_eq.mpr c14
                            have c14b1 : (a0 != 11) = false := bne_eq_false_iff_eq.mpr c14
                            clear c14
                            simp only [Option.some.injEq, Prod.mk.injEq] at H
                            obtain ⟨rfl, rfl⟩ := H
                            go_wp2
                            go_ret2
                            exact ⟨by first | rfl | (simp; done) | (simp [*]; done), by repeat (first | exact Drawn0.refl _ | apply Drawn0.step)⟩
                          · rw [if_neg c14] at H
                            have c14b0 : (a0 == 11) = false := beq_eq_false_iff_ne.mpr c14
                            have c14b1 : (a0 != 11) = true := bne_iff_ne.mpr c14
                            simp only [Option.some.injEq, Prod.mk.injEq] at H
                            obtain ⟨rfl, rfl⟩ := H
                            go_wp2
                            go_ret2
                            exact ⟨by first | rfl | (simp; done) | (simp [*]; done), by repeat (first | exact Drawn0.refl _ | apply Drawn0.step)⟩
def parser_isWord.f (a0 : ByteArray) : Option (Bool) := if a0.toList = ([109, 101, 115, 104] : List UInt8) then (some true) else (if a0.toList = ([100, 97, 116, 97] : List UInt8) then (some true) else (if a0.toList = ([114, 97, 110, 103, 101] : List UInt8) then (some true) else (if a0.toList = ([114, 111, 111, 116] : List UInt8) then (some true) else (if a0.toList = ([97, 116] : List UInt8) then (some true) else (if a0.toList = ([110, 111, 100, 101] : List UInt8) then (some true) else (if a0.toList = ([102, 97, 115, 116] : List UInt8) then (some true) else (if a0.toList = ([115, 108, 111, 119] : List UInt8) then (some true) else (if a0.toList = ([98, 97, 116, 116, 101, 114, 121] : List UInt8) then (some true) else (if a0.toList = ([109, 111, 118, 101] : List UInt8) then (some true) else (if a0.toList = ([102, 97, 105, 108] : List UInt8) then (some true) else (if a0.toList = ([115, 116, 97, 114, 116] : List UInt8) then (some true) else (if a0.toList = ([114, 101, 97, 100] : List UInt8) then (some true) else (if a0.toList = ([106, 97, 109] : List UInt8) then (some true) else (if a0.toList = ([114, 97, 100, 105, 117, 115] : List UInt8) then (some true) else (if a0.toList = ([99, 104, 97, 110, 110, 101, 108] : List UInt8) then (some true) else (if a0.toList = ([102, 111, 114] : List UInt8) then (some true) else (if a0.toList = ([114, 101, 112, 108, 97, 121] : List UInt8) then (some true) else (if a0.toList = ([112, 114, 111, 103, 114, 97, 109] : List UInt8) then (some true) else (if a0.toList = ([115, 105, 122, 101] : List UInt8) then (some true) else (if a0.toList = ([114, 117, 110] : List UInt8) then (some true) else (some false)))))))))))))))))))))
set_option maxHeartbeats 8000000 in
set_option maxRecDepth 100000 in
theorem parser_isWord.calls (a0 : ByteArray) (r : Bool) (w : World) (h : parser_isWord.f a0 = some r) :
    Calls Tryd.prog 112 #[.string a0] w fun e w' => e = .returned (.bool r) ∧ Drawn0 w w' := by
  have H : (if a0.toList = ([109, 101, 115, 104] : List UInt8) then (some true) else (if a0.toList = ([100, 97, 116, 97] : List UInt8) then (some true) else (if a0.toList = ([114, 97, 110, 103, 101] : List UInt8) then (some true) else (if a0.toList = ([114, 111, 111, 116] : List UInt8) then (some true) else (if a0.toList = ([97, 116] : List UInt8) then (some true) else (if a0.toList = ([110, 111, 100, 101] : List UInt8) then (some true) else (if a0.toList = ([102, 97, 115, 116] : List UInt8) then (some true) else (if a0.toList = ([115, 108, 111, 119] : List UInt8) then (some true) else (if a0.toList = ([98, 97, 116, 116, 101, 114, 121] : List UInt8) then (some true) else (if a0.toList = ([109, 111, 118, 101] : List UInt8) then (some true) else (if a0.toList = ([102, 97, 105, 108] : List UInt8) then (some true) else (if a0.toList = ([115, 116, 97, 114, 116] : List UInt8) then (some true) else (if a0.toList = ([114, 101, 97, 100] : List UInt8) then (some true) else (if a0.toList = ([106, 97, 109] : List UInt8) then (some true) else (if a0.toList = ([114, 97, 100, 105, 117, 115] : List UInt8) then (some true) else (if a0.toList = ([99, 104, 97, 110, 110, 101, 108] : List UInt8) then (some true) else (if a0.toList = ([102, 111, 114] : List UInt8) then (some true) else (if a0.toList = ([114, 101, 112, 108, 97, 121] : List UInt8) then (some true) else (if a0.toList = ([112, 114, 111, 103, 114, 97, 109] : List UInt8) then (some true) else (if a0.toList = ([115, 105, 122, 101] : List UInt8) then (some true) else (if a0.toList = ([114, 117, 110] : List UInt8) then (some true) else (some false)))))))))))))))))))))) = some r := h
  clear h
  by_cases c2 : a0.toList = ([109, 101, 115, 104] : List UInt8)
  · rw [if_pos c2] at H
    have c2b0 : (a0.toList == ([109, 101, 115, 104] : List UInt8)) = true := beq_iff_eq.mpr c2
    have c2b1 : (a0.toList != ([109, 101, 115, 104] : List UInt8)) = false := bne_eq_false_iff_eq.mpr c2
    clear c2
    obtain rfl := Option.some.inj H
    go_enter Tryd.func112, Tryd.ntmps112
    go_wp2
    go_ret
    exact ⟨by first | rfl | (simp; done) | (simp [*]; done), by repeat (first | exact Drawn0.refl _ | apply Drawn0.step)⟩
  · rw [if_neg c2] at H
    have c2b0 : (a0.toList == ([109, 101, 115, 104] : List UInt8)) = false := beq_eq_false_iff_ne.mpr c2
    have c2b1 : (a0.toList != ([109, 101, 115, 104] : List UInt8)) = true := bne_iff_ne.mpr c2
    by_cases c3 : a0.toList = ([100, 97, 116, 97] : List UInt8)
    · rw [if_pos c3] at H
      have c3b0 : (a0.toList == ([100, 97, 116, 97] : List UInt8)) = true := beq_iff_eq.mpr c3
      have c3b1 : (a0.toList != ([100, 97, 116, 97] : List UInt8)) = false := bne_eq_false_iff_eq.mpr c3
      clear c3
      obtain rfl := Option.some.inj H
      go_enter Tryd.func112, Tryd.ntmps112
      go_wp2
      go_ret
      exact ⟨by first | rfl | (simp; done) | (simp [*]; done), by repeat (first | exact Drawn0.refl _ | apply Drawn0.step)⟩
    · rw [if_neg c3] at H
      have c3b0 : (a0.toList == ([100, 97, 116, 97] : List UInt8)) = false := beq_eq_false_iff_ne.mpr c3
      have c3b1 : (a0.toList != ([100, 97, 116, 97] : List UInt8)) = true := bne_iff_ne.mpr c3
      by_cases c4 : a0.toList = ([114, 97, 110, 103, 101] : List UInt8)
      · rw [if_pos c4] at H
        have c4b0 : (a0.toList == ([114, 97, 110, 103, 101] : List UInt8)) = true := beq_iff_eq.mpr c4
        have c4b1 : (a0.toList != ([114, 97, 110, 103, 101] : List UInt8)) = false := bne_eq_false_iff_eq.mpr c4
        clear c4
        obtain rfl := Option.some.inj H
        go_enter Tryd.func112, Tryd.ntmps112
        go_wp2
        go_ret
        exact ⟨by first | rfl | (simp; done) | (simp [*]; done), by repeat (first | exact Drawn0.refl _ | apply Drawn0.step)⟩
      · rw [if_neg c4] at H
        have c4b0 : (a0.toList == ([114, 97, 110, 103, 101] : List UInt8)) = false := beq_eq_false_iff_ne.mpr c4
        have c4b1 : (a0.toList != ([114, 97, 110, 103, 101] : List UInt8)) = true := bne_iff_ne.mpr c4
        by_cases c5 : a0.toList = ([114, 111, 111, 116] : List UInt8)
        · rw [if_pos c5] at H
          have c5b0 : (a0.toList == ([114, 111, 111, 116] : List UInt8)) = true := beq_iff_eq.mpr c5
          have c5b1 : (a0.toList != ([114, 111, 111, 116] : List UInt8)) = false := bne_eq_false_iff_eq.mpr c5
          clear c5
          obtain rfl := Option.some.inj H
          go_enter Tryd.func112, Tryd.ntmps112
          go_wp2
          go_ret
          exact ⟨by first | rfl | (simp; done) | (simp [*]; done), by repeat (first | exact Drawn0.refl _ | apply Drawn0.step)⟩
        · rw [if_neg c5] at H
          have c5b0 : (a0.toList == ([114, 111, 111, 116] : List UInt8)) = false := beq_eq_false_iff_ne.mpr c5
          have c5b1 : (a0.toList != ([114, 111, 111, 116] : List UInt8)) = true := bne_iff_ne.mpr c5
          by_cases c6 : a0.toList = ([97, 116] : List UInt8)
          · rw [if_pos c6] at H
            have c6b0 : (a0.toList == ([97, 116] : List UInt8)) = true := beq_iff_eq.mpr c6
            have c6b1 : (a0.toList != ([97, 116] : List UInt8)) = false := bne_eq_false_iff_eq.mpr c6
            clear c6
            obtain rfl := Option.some.inj H
            go_enter Tryd.func112, Tryd.ntmps112
            go_wp2
            go_ret
            exact ⟨by first | rfl | (simp; done) | (simp [*]; done), by repeat (first | exact Drawn0.refl _ | apply Drawn0.step)⟩
          · rw [if_neg c6] at H
            have c6b0 : (a0.toList == ([97, 116] : List UInt8)) = false := beq_eq_false_iff_ne.mpr c6
            have c6b1 : (a0.toList != ([97, 116] : List UInt8)) = true := bne_iff_ne.mpr c6
            by_cases c7 : a0.toList = ([110, 111, 100, 101] : List UInt8)
            · rw [if_pos c7] at H
              have c7b0 : (a0.toList == ([110, 111, 100, 101] : List UInt8)) = true := beq_iff_eq.mpr c7
              have c7b1 : (a0.toList != ([110, 111, 100, 101] : List UInt8)) = false := bne_eq_false_iff_eq.mpr c7
              clear c7
              obtain rfl := Option.some.inj H
              go_enter Tryd.func112, Tryd.ntmps112
              go_wp2
              go_ret
              exact ⟨by first | rfl | (simp; done) | (simp [*]; done), by repeat (first | exact Drawn0.refl _ | apply Drawn0.step)⟩
            · rw [if_neg c7] at H
              have c7b0 : (a0.toList == ([110, 111, 100, 101] : List UInt8)) = false := beq_eq_false_iff_ne.mpr c7
              have c7b1 : (a0.toList != ([110, 111, 100, 101] : List UInt8)) = true := bne_iff_ne.mpr c7
              by_cases c8 : a0.toList = ([102, 97, 115, 116] : List UInt8)
              · rw [if_pos c8] at H
                have c8b0 : (a0.toList == ([102, 97, 115, 116] : List UInt8)) = true := beq_iff_eq.mpr c8
                have c8b1 : (a0.toList != ([102, 97, 115, 116] : List UInt8)) = false := bne_eq_false_iff_eq.mpr c8
                clear c8
                obtain rfl := Option.some.inj H
                go_enter Tryd.func112, Tryd.ntmps112
                go_wp2
                go_ret
                exact ⟨by first | rfl | (simp; done) | (simp [*]; done), by repeat (first | exact Drawn0.refl _ | apply Drawn0.step)⟩
              · rw [if_neg c8] at H
                have c8b0 : (a0.toList == ([102, 97, 115, 116] : List UInt8)) = false := beq_eq_false_iff_ne.mpr c8
                have c8b1 : (a0.toList != ([102, 97, 115, 116] : List UInt8)) = true := bne_iff_ne.mpr c8
                by_cases c9 : a0.toList = ([115, 108, 111, 119] : List UInt8)
                · rw [if_pos c9] at H
                  have c9b0 : (a0.toList == ([115, 108, 111, 119] : List UInt8)) = true := beq_iff_eq.mpr c9
                  have c9b1 : (a0.toList != ([115, 108, 111, 119] : List UInt8)) = false := bne_eq_false_iff_eq.mpr c9
                  clear c9
                  obtain rfl := Option.some.inj H
                  go_enter Tryd.func112, Tryd.ntmps112
                  go_wp2
                  go_ret
                  exact ⟨by first | rfl | (simp; done) | (simp [*]; done), by repeat (first | exact Drawn0.refl _ | apply Drawn0.step)⟩
                · rw [if_neg c9] at H
                  have c9b0 : (a0.toList == ([115, 108, 111, 119] : List UInt8)) = false := beq_eq_false_iff_ne.mpr c9
                  have c9b1 : (a0.toList != ([115, 108, 111, 119] : List UInt8)) = true := bne_iff_ne.mpr c9
                  by_cases c10 : a0.toList = ([98, 97, 116, 116, 101, 114, 121] : List UInt8)
                  · rw [if_pos c10] at H
                    have c10b0 : (a0.toList == ([98, 97, 116, 116, 101, 114, 121] : List UInt8)) = true := beq_iff_eq.mpr c10
                    have c10b1 : (a0.toList != ([98, 97, 116, 116, 101, 114, 121] : List UInt8)) = false := bne_eq_false_iff_eq.mpr c10
                    clear c10
                    obtain rfl := Option.some.inj H
                    go_enter Tryd.func112, Tryd.ntmps112
                    go_wp2
                    go_ret
                    exact ⟨by first | rfl | (simp; done) | (simp [*]; done), by repeat (first | exact Drawn0.refl _ | apply Drawn0.step)⟩
                  · rw [if_neg c10] at H
                    have c10b0 : (a0.toList == ([98, 97, 116, 116, 101, 114, 121] : List UInt8)) = false := beq_eq_false_iff_ne.mpr c10
                    have c10b1 : (a0.toList != ([98, 97, 116, 116, 101, 114, 121] : List UInt8)) = true := bne_iff_ne.mpr c10
                    by_cases c11 : a0.toList = ([109, 111, 118, 101] : List UInt8)
                    · rw [if_pos c11] at H
                      have c11b0 : (a0.toList == ([109, 111, 118, 101] : List UInt8)) = true := beq_iff_eq.mpr c11
                      have c11b1 : (a0.toList != ([109, 111, 118, 101] : List UInt8)) = false := bne_eq_false_iff_eq.mpr c11
                      clear c11
                      obtain rfl := Option.some.inj H
                      go_enter Tryd.func112, Tryd.ntmps112
                      go_wp2
                      go_ret
                      exact ⟨by first | rfl | (simp; done) | (simp [*]; done), by repeat (first | exact Drawn0.refl _ | apply Drawn0.step)⟩
                    · rw [if_neg c11] at H
                      have c11b0 : (a0.toList == ([109, 111, 118, 101] : List UInt8)) = false := beq_eq_false_iff_ne.mpr c11
                      have c11b1 : (a0.toList != ([109, 111, 118, 101] : List UInt8)) = true := bne_iff_ne.mpr c11
                      by_cases c12 : a0.toList = ([102, 97, 105, 108] : List UInt8)
                      · rw [if_pos c12] at H
                        have c12b0 : (a0.toList == ([102, 97, 105, 108] : List UInt8)) = true := beq_iff_eq.mpr c12
                        have c12b1 : (a0.toList != ([102, 97, 105, 108] : List UInt8)) = false := bne_eq_false_iff_eq.mpr c12
                        clear c12
                        obtain rfl := Option.some.inj H
                        go_enter Tryd.func112, Tryd.ntmps112
                        go_wp2
                        go_ret
                        exact ⟨by first | rfl | (simp; done) | (simp [*]; done), by repeat (first | exact Drawn0.refl _ | apply Drawn0.step)⟩
                      · rw [if_neg c12] at H
                        have c12b0 : (a0.toList == ([102, 97, 105, 108] : List UInt8)) = false := beq_eq_false_iff_ne.mpr c12
                        have c12b1 : (a0.toList != ([102, 97, 105, 108] : List UInt8)) = true := bne_iff_ne.mpr c12
                        by_cases c13 : a0.toList = ([115, 116, 97, 114, 116] : List UInt8)
                        · rw [if_pos c13] at H
                          have c13b0 : (a0.toList == ([115, 116, 97, 114, 116] : List UInt8)) = true := beq_iff_eq.mpr c13
                          have c13b1 : (a0.toList != ([115, 116, 97, 114, 116] : List UInt8)) = false := bne_eq_false_iff_eq.mpr c13
                          clear c13
                          obtain rfl := Option.some.inj H
                          go_enter Tryd.func112, Tryd.ntmps112
                          go_wp2
                          go_ret
                          exact ⟨by first | rfl | (simp; done) | (simp [*]; done), by repeat (first | exact Drawn0.refl _ | apply Drawn0.step)⟩
                        · rw [if_neg c13] at H
                          have c13b0 : (a0.toList == ([115, 116, 97, 114, 116] : List UInt8)) = false := beq_eq_false_iff_ne.mpr c13
                          have c13b1 : (a0.toList != ([115, 116, 97, 114, 116] : List UInt8)) = true := bne_iff_ne.mpr c13
                          by_cases c14 : a0.toList = ([114, 101, 97, 100] : List UInt8)
                          · rw [if_pos c14] at H
                            have c14b0 : (a0.toList == ([114, 101, 97, 100] : List UInt8)) = true := beq_iff_eq.mpr c14
                            have c14b1 : (a0.toList != ([114, 101, 97, 100] : List UInt8)) = false := bne_eq_false_iff_eq.mpr c14
                            clear c14
                            obtain rfl := Option.some.inj H
                            go_enter Tryd.func112, Tryd.ntmps112
                            go_wp2
                            go_ret
                            exact ⟨by first | rfl | (simp; done) | (simp [*]; done), by repeat (first | exact Drawn0.refl _ | apply Drawn0.step)⟩
                          · rw [if_neg c14] at H
                            have c14b0 : (a0.toList == ([114, 101, 97, 100] : List UInt8)) = false := beq_eq_false_iff_ne.mpr c14
                            have c14b1 : (a0.toList != ([114, 101, 97, 100] : List UInt8)) = true := bne_iff_ne.mpr c14
                            by_cases c15 : a0.toList = ([106, 97, 109] : List UInt8)
                            · rw [if_pos c15] at H
                              have c15b0 : (a0.toList == ([106, 97, 109] : List UInt8)) = true := beq_iff_eq.mpr c15
                              have c15b1 : (a0.toList != ([106, 97, 109] : List UInt8)) = false := bne_eq_false_iff_eq.mpr c15
                              clear c15
                              obtain rfl := Option.some.inj H
                              go_enter Tryd.func112, Tryd.ntmps112
                              go_wp2
                              go_ret
                              exact ⟨by first | rfl | (simp; done) | (simp [*]; done), by repeat (first | exact Drawn0.refl _ | apply Drawn0.step)⟩
                            · rw [if_neg c15] at H
                              have c15b0 : (a0.toList == ([106, 97, 109] : List UInt8)) = false := beq_eq_false_iff_ne.mpr c15
                              have c15b1 : (a0.toList != ([106, 97, 109] : List UInt8)) = true := bne_iff_ne.mpr c15
                              by_cases c16 : a0.toList = ([114, 97, 100, 105, 117, 115] : List UInt8)
                              · rw [if_pos c16] at H
                                have c16b0 : (a0.toList == ([114, 97, 100, 105, 117, 115] : List UInt8)) = true := beq_iff_eq.mpr c16
                                have c16b1 : (a0.toList != ([114, 97, 100, 105, 117, 115] : List UInt8)) = false := bne_eq_false_iff_eq.mpr c16
                                clear c16
                                obtain rfl := Option.some.inj H
                                go_enter Tryd.func112, Tryd.ntmps112
                                go_wp2
                                go_ret
                                exact ⟨by first | rfl | (simp; done) | (simp [*]; done), by repeat (first | exact Drawn0.refl _ | apply Drawn0.step)⟩
                              · rw [if_neg c16] at H
                                have c16b0 : (a0.toList == ([114, 97, 100, 105, 117, 115] : List UInt8)) = false := beq_eq_false_iff_ne.mpr c16
                                have c16b1 : (a0.toList != ([114, 97, 100, 105, 117, 115] : List UInt8)) = true := bne_iff_ne.mpr c16
                                by_cases c17 : a0.toList = ([99, 104, 97, 110, 110, 101, 108] : List UInt8)
                                · rw [if_pos c17] at H
                                  have c17b0 : (a0.toList == ([99, 104, 97, 110, 110, 101, 108] : List UInt8)) = true := beq_iff_eq.mpr c17
                                  have c17b1 : (a0.toList != ([99, 104, 97, 110, 110, 101, 108] : List UInt8)) = false := bne_eq_false_iff_eq.mpr c17
                                  clear c17
                                  obtain rfl := Option.some.inj H
                                  go_enter Tryd.func112, Tryd.ntmps112
                                  go_wp2
                                  go_ret
                                  exact ⟨by first | rfl | (simp; done) | (simp [*]; done), by repeat (first | exact Drawn0.refl _ | apply Drawn0.step)⟩
                                · rw [if_neg c17] at H
                                  have c17b0 : (a0.toList == ([99, 104, 97, 110, 110, 101, 108] : List UInt8)) = false := beq_eq_false_iff_ne.mpr c17
                                  have c17b1 : (a0.toList != ([99, 104, 97, 110, 110, 101, 108] : List UInt8)) = true := bne_iff_ne.mpr c17
                                  by_cases c18 : a0.toList = ([102, 111, 114] : List UInt8)
                                  · rw [if_pos c18] at H
                                    have c18b0 : (a0.toList == ([102, 111, 114] : List UInt8)) = true := beq_iff_eq.mpr c18
                                    have c18b1 : (a0.toList != ([102, 111, 114] : List UInt8)) = false := bne_eq_false_iff_eq.mpr c18
                                    clear c18
                                    obtain rfl := Option.some.inj H
                                    go_enter Tryd.func112, Tryd.ntmps112
                                    go_wp2
                                    go_ret
                                    exact ⟨by first | rfl | (simp; done) | (simp [*]; done), by repeat (first | exact Drawn0.refl _ | apply Drawn0.step)⟩
                                  · rw [if_neg c18] at H
                                    have c18b0 : (a0.toList == ([102, 111, 114] : List UInt8)) = false := beq_eq_false_iff_ne.mpr c18
                                    have c18b1 : (a0.toList != ([102, 111, 114] : List UInt8)) = true := bne_iff_ne.mpr c18
                                    by_cases c19 : a0.toList = ([114, 101, 112, 108, 97, 121] : List UInt8)
                                    · rw [if_pos c19] at H
                                      have c19b0 : (a0.toList == ([114, 101, 112, 108, 97, 121] : List UInt8)) = true := beq_iff_eq.mpr c19
                                      have c19b1 : (a0.toList != ([114, 101, 112, 108, 97, 121] : List UInt8)) = false := bne_eq_false_iff_eq.mpr c19
                                      clear c19
                                      obtain rfl := Option.some.inj H
                                      go_enter Tryd.func112, Tryd.ntmps112
                                      go_wp2
                                      go_ret
                                      exact ⟨by first | rfl | (simp; done) | (simp [*]; done), by repeat (first | exact Drawn0.refl _ | apply Drawn0.step)⟩
                                    · rw [if_neg c19] at H
                                      have c19b0 : (a0.toList == ([114, 101, 112, 108, 97, 121] : List UInt8)) = false := beq_eq_false_iff_ne.mpr c19
                                      have c19b1 : (a0.toList != ([114, 101, 112, 108, 97, 121] : List UInt8)) = true := bne_iff_ne.mpr c19
                                      by_cases c20 : a0.toList = ([112, 114, 111, 103, 114, 97, 109] : List UInt8)
                                      · rw [if_pos c20] at H
                                        have c20b0 : (a0.toList == ([112, 114, 111, 103, 114, 97, 109] : List UInt8)) = true := beq_iff_eq.mpr c20
                                        have c20b1 : (a0.toList != ([112, 114, 111, 103, 114, 97, 109] : List UInt8)) = false := bne_eq_false_iff_eq.mpr c20
                                        clear c20
                                        obtain rfl := Option.some.inj H
                                        go_enter Tryd.func112, Tryd.ntmps112
                                        go_wp2
                                        go_ret
                                        exact ⟨by first | rfl | (simp; done) | (simp [*]; done), by repeat (first | exact Drawn0.refl _ | apply Drawn0.step)⟩
                                      · rw [if_neg c20] at H
                                        have c20b0 : (a0.toList == ([112, 114, 111, 103, 114, 97, 109] : List UInt8)) = false := beq_eq_false_iff_ne.mpr c20
                                        have c20b1 : (a0.toList != ([112, 114, 111, 103, 114, 97, 109] : List UInt8)) = true := bne_iff_ne.mpr c20
                                        by_cases c21 : a0.toList = ([115, 105, 122, 101] : List UInt8)
                                        · rw [if_pos c21] at H
                                          have c21b0 : (a0.toList == ([115, 105, 122, 101] : List UInt8)) = true := beq_iff_eq.mpr c21
                                          have c21b1 : (a0.toList != ([115, 105, 122, 101] : List UInt8)) = false := bne_eq_false_iff_eq.mpr c21
                                          clear c21
                                          obtain rfl := Option.some.inj H
                                          go_enter Tryd.func112, Tryd.ntmps112
                                          go_wp2
                                          go_ret
                                          exact ⟨by first | rfl | (simp; done) | (simp [*]; done), by repeat (first | exact Drawn0.refl _ | apply Drawn0.step)⟩
                                        · rw [if_neg c21] at H
                                          have c21b0 : (a0.toList == ([115, 105, 122, 101] : List UInt8)) = false := beq_eq_false_iff_ne.mpr c21
                                          have c21b1 : (a0.toList != ([115, 105, 122, 101] : List UInt8)) = true := bne_iff_ne.mpr c21
                                          by_cases c22 : a0.toList = ([114, 117, 110] : List UInt8)
                                          · rw [if_pos c22] at H
                                            have c22b0 : (a0.toList == ([114, 117, 110] : List UInt8)) = true := beq_iff_eq.mpr c22
                                            have c22b1 : (a0.toList != ([114, 117, 110] : List UInt8)) = false := bne_eq_false_iff_eq.mpr c22
                                            clear c22
                                            obtain rfl := Option.some.inj H
                                            go_enter Tryd.func112, Tryd.ntmps112
                                            go_wp2
                                            go_ret
                                            exact ⟨by first | rfl | (simp; done) | (simp [*]; done), by repeat (first | exact Drawn0.refl _ | apply Drawn0.step)⟩
                                          · rw [if_neg c22] at H
                                            have c22b0 : (a0.toList == ([114, 117, 110] : List UInt8)) = false := beq_eq_false_iff_ne.mpr c22
                                            have c22b1 : (a0.toList != ([114, 117, 110] : List UInt8)) = true := bne_iff_ne.mpr c22
                                            obtain rfl := Option.some.inj H
                                            go_enter Tryd.func112, Tryd.ntmps112
                                            go_wp2
                                            go_ret
                                            exact ⟨by first | rfl | (simp; done) | (simp [*]; done), by repeat (first | exact Drawn0.refl _ | apply Drawn0.step)⟩
end Go.Proofs.YtdedlchpjboceaaDoor.PB
end
