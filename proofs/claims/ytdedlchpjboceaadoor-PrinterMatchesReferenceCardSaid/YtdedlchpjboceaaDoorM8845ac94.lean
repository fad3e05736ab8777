/- Texts of proofs: plain words, and walks through the program's functions. -/
import Derived.Test.YtdedlchpjboceaaDoorM5f72d8ed
import Derived.Test.YtdedlchpjboceaaDoorM7c8612c7

section
namespace Go.Proofs.YtdedlchpjboceaaDoor.PE
open Go.RowKit Go.Proofs.YtdedlchpjboceaaDoorW.PrintWords Go.Proofs.YtdedlchpjboceaaDoorW.PrintLast Go.Proofs.YtdedlchpjboceaaDoorW.PrintMore
attribute [local go_sem] max2_int min2_int max_two min_two max_three min_three max_four min_four   -- for this text's walks alone
mutual
def slotmeshref02_Same.l0 : Nat → List (S40) → List (S40) → Int → Option (Bool)
  | 0, _, _, _ => none
  | k + 1, x0, x1, x5 => if x5 < (x0.length : Int) then (if 0 ≤ x5 then (if x5 < (x1.length : Int) then (if ((rd_T40 x0 x5).f0) = ((rd_T40 x1 x5).f0) then (if ((rd_T40 x0 x5).f1).toList = ((rd_T40 x1 x5).f1).toList then (if ((rd_T40 x0 x5).f3) = ((rd_T40 x1 x5).f3) then (slotmeshref02_Same.j1 k x0 x1 x5 ((((rd_T40 x0 x5).f2).length : Int) != (((rd_T40 x1 x5).f2).length : Int))) else (slotmeshref02_Same.j1 k x0 x1 x5 true)) else (slotmeshref02_Same.j1 k x0 x1 x5 true)) else (slotmeshref02_Same.j1 k x0 x1 x5 true)) else (none)) else (none)) else (some true)
def slotmeshref02_Same.j1 : Nat → List (S40) → List (S40) → Int → Bool → Option (Bool)
  | 0, _, _, _, _ => none
  | k + 1, x0, x1, x5, x69 => if x69 = true then (some false) else (slotmeshref02_Same.l1 k x0 x1 x5 0)
def slotmeshref02_Same.l1 : Nat → List (S40) → List (S40) → Int → Int → Option (Bool)
  | 0, _, _, _, _ => none
  | k + 1, x0, x1, x5, x6 => if 0 ≤ x5 then (if x5 < (x0.length : Int) then (if x6 < (((rd_T40 x0 x5).f2).length : Int) then (if 0 ≤ x6 then (if x5 < (x1.length : Int) then (if x6 < (((rd_T40 x1 x5).f2).length : Int) then (if (rd ((rd_T40 x0 x5).f2) x6) = (rd ((rd_T40 x1 x5).f2) x6) then (slotmeshref02_Same.l1 k x0 x1 x5 (wrap64 (x6 + 1))) else (some false)) else (none)) else (none)) else (none)) else (slotmeshref02_Same.l0 k x0 x1 (wrap64 (x5 + 1)))) else (none)) else (none)
end
def slotmeshref02_Same.f (k : Nat) (l0 : List (S40)) (l1 : List (S40)) : Option (Bool) := if (l0.length : Int) = (l1.length : Int) then (slotmeshref02_Same.l0 k l0 l1 0) else (some false)
theorem slotmeshref02_Same.mono_l : ∀ k, (∀ y0 y1 y2, LeO (slotmeshref02_Same.l0 k y0 y1 y2) (slotmeshref02_Same.l0 (k + 1) y0 y1 y2)) ∧ (∀ y0 y1 y2 y3, LeO (slotmeshref02_Same.j1 k y0 y1 y2 y3) (slotmeshref02_Same.j1 (k + 1) y0 y1 y2 y3)) ∧ (∀ y0 y1 y2 y3, LeO (slotmeshref02_Same.l1 k y0 y1 y2 y3) (slotmeshref02_Same.l1 (k + 1) y0 y1 y2 y3))
  | 0 => ⟨fun _ _ _ r h => by simp [slotmeshref02_Same.l0] at h, fun _ _ _ _ r h => by simp [slotmeshref02_Same.j1] at h, fun _ _ _ _ r h => by simp [slotmeshref02_Same.l1] at h⟩
  | k + 1 => by
    obtain ⟨ih0, ih1, ih2⟩ := slotmeshref02_Same.mono_l k
    refine ⟨?_, ?_, ?_⟩
    · intro y0 y1 y2
      unfold slotmeshref02_Same.l0
      repeat' first
      | (with_reducible exact ih0 _ _ _)
      | (with_reducible exact ih1 _ _ _ _)
      | (with_reducible exact ih2 _ _ _ _)
      | (with_reducible exact LeO.refl _)
      | (with_reducible exact LeO.none _)
      | (with_reducible refine LeO.ite ?_ ?_)
      | (with_reducible refine LeO.bind ?_ (fun _ => ?_))
      | exact ih0 _ _ _
      | exact ih1 _ _ _ _
      | exact ih2 _ _ _ _
      | exact LeO.none _
      | refine LeO.ite ?_ ?_
      | refine LeO.bind ?_ (fun _ => ?_)
    · intro y0 y1 y2 y3
      unfold slotmeshref02_Same.j1
      repeat' first
      | (with_reducible exact ih0 _ _ _)
      | (with_reducible exact ih1 _ _ _ _)
      | (with_reducible exact ih2 _ _ _ _)
      | (with_reducible exact LeO.refl _)
      | (with_reducible exact LeO.none _)
      | (with_reducible refine LeO.ite ?_ ?_)
      | (with_reducible refine LeO.bind ?_ (fun _ => ?_))
      | exact ih0 _ _ _
      | exact ih1 _ _ _ _
      | exact ih2 _ _ _ _
      | exact LeO.none _
      | refine LeO.ite ?_ ?_
      | refine LeO.bind ?_ (fun _ => ?_)
    · intro y0 y1 y2 y3
      unfold slotmeshref02_Same.l1
      repeat' first
      | (with_reducible exact ih0 _ _ _)
      | (with_reducible exact ih1 _ _ _ _)
      | (with_reducible exact ih2 _ _ _ _)
      | (with_reducible exact LeO.refl _)
      | (with_reducible exact LeO.none _)
      | (with_reducible refine LeO.ite ?_ ?_)
      | (with_reducible refine LeO.bind ?_ (fun _ => ?_))
      | exact ih0 _ _ _
      | exact ih1 _ _ _ _
      | exact ih2 _ _ _ _
      | exact LeO.none _
      | refine LeO.ite ?_ ?_
      | refine LeO.bind ?_ (fun _ => ?_)
theorem slotmeshref02_Same.mono : ∀ a0 a1 k, LeO (slotmeshref02_Same.f k a0 a1) (slotmeshref02_Same.f (k + 1) a0 a1) := by
  intro a0 a1 k
  obtain ⟨ih0, ih1, ih2⟩ := slotmeshref02_Same.mono_l k
  unfold slotmeshref02_Same.f
  repeat' first
      | (with_reducible exact ih0 _ _ _)
      | (with_reducible exact ih1 _ _ _ _)
      | (with_reducible exact ih2 _ _ _ _)
      | (with_reducible exact LeO.refl _)
      | (with_reducible exact LeO.none _)
      | (with_reducible refine LeO.ite ?_ ?_)
      | (with_reducible refine LeO.bind ?_ (fun _ => ?_))
      | exact ih0 _ _ _
      | exact ih1 _ _ _ _
      | exact ih2 _ _ _ _
      | exact LeO.none _
      | refine LeO.ite ?_ ?_
      | refine LeO.bind ?_ (fun _ => ?_)
set_option maxHeartbeats 8000000 in
set_option maxRecDepth 100000 in
theorem slotmeshref02_Same.calls (k : Nat) (A0 : Option Addr) (c0 : Nat) (l0 : List (S40)) (A1 : Option Addr) (c1 : Nat) (l1 : List (S40)) (r : Bool) (w : World) (hr0 : Kd.C k40 w A0 l0.length l0) (hc0 : l0.length ≤ c0) (hr1 : Kd.C k40 w A1 l1.length l1) (hc1 : l1.length ≤ c1) (h : slotmeshref02_Same.f k l0 l1 = some r) :
    Calls Tryd.prog 22 #[.slice A0 l0.length c0, .slice A1 l1.length c1] w fun e w' => e = .returned (.bool r) ∧ Drawn0 w w' := by
  have HR0 := Aside0.mk hr0
  have HC0 := Aside0.mk hc0
  clear hr0 hc0
  have HR1 := Aside0.mk hr1
  have HC1 := Aside0.mk hc1
  clear hr1 hc1
  have H : (if (l0.length : Int) = (l1.length : Int) then (slotmeshref02_Same.l0 k l0 l1 0) else (some false)) = some r := h
  clear h
  by_cases c3 : (l0.length : Int) = (l1.length : Int)
  · rw [if_pos c3] at H
    have c3b0 : ((l0.length : Int) == (l1.length : Int)) = true := beq_iff_eq.mpr c3
    have c3b1 : ((l0.length : Int) != (l1.length : Int)) = false := bne_eq_false_iff_eq.mpr c3
    have c3b2 : (l0.length == l1.length) = true := by first | simpa using c3 | (simp at c3 ⊢; omega)
    clear c3
    have H' := Aside0.mk H
    clear H
    go_enter Tryd.func22, Tryd.ntmps22
    go_wp2
    repeat (go_quiet (fail); try go_wp2)
    go_loopg [5] k (fun kq v5 w' => ∃ (x5_1 : Int), v5 = .int .i64 x5_1 ∧ Aside0 (slotmeshref02_Same.l0 kq l0 l1 x5_1 = some r) ∧ Aside0 (kq ≤ k) ∧ Drawn0 w w')
    case atStart => exact ⟨(0), (by first | rfl | (simp; done) | (simp [*]; done)), H', ⟨Nat.le_refl _⟩, by repeat (first | exact Drawn0.refl _ | apply Drawn0.step)⟩
    case round =>
      clear H'
      try clear c1
      try clear c2
      try clear p2
      try clear c3
      try clear c3b0
      try clear c3b1
      try clear c3b2
      obtain ⟨x5_1, rfl, HA, HK1, ⟨m1, rfl⟩⟩ := hrel
      cases gk with
      | zero => exact absurd HA.out (by simp [slotmeshref02_Same.l0])
      | succ k1 =>
        have H := HA.out
        clear HA
        simp only [slotmeshref02_Same.l0] at H
        by_cases c4 : x5_1 < (l0.length : Int)
        · rw [if_pos c4] at H
          have c4b0 : decide (x5_1 < (l0.length : Int)) = true := decide_eq_true c4
          clear c4
          have HC5 := Aside0.mk H
          clear H
          go_upto_region 6 with (fail)
          repeat (go_quiet (fail); go_upto_region 6 with (fail))
          go_cut [69] (fun v69 wc => ∃ (kq : Nat) (x69_4 : Bool), v69 = .bool x69_4 ∧ Aside0 (slotmeshref02_Same.j1 kq l0 l1 x5_1 x69_4 = some r) ∧ Aside0 (kq ≤ k1) ∧ Drawn0 w wc)
          case first =>
            have H := HC5.out
            clear HC5
            by_cases c6 : 0 ≤ x5_1
            · rw [if_pos c6] at H
              have c6b0 : decide (0 ≤ x5_1) = true := decide_eq_true c6
              clear c6
              (first | rw [c6b0] | (simp only [i64_w, i32_w]; rw [c6b0]) | skip)
              by_cases c7 : x5_1 < (l1.length : Int)
              · rw [if_pos c7] at H
                have c7b0 : decide (x5_1 < (l1.length : Int)) = true := decide_eq_true c7
                clear c7
                by_cases c8 : ((rd_T40 l0 x5_1).f0) = ((rd_T40 l1 x5_1).f0)
                · rw [if_pos c8] at H
                  have c8b0 : (((rd_T40 l0 x5_1).f0) == ((rd_T40 l1 x5_1).f0)) = true := beq_iff_eq.mpr c8
                  have c8b1 : (((rd_T40 l0 x5_1).f0) != ((rd_T40 l1 x5_1).f0)) = false := bne_eq_false_iff_eq.mpr c8
                  clear c8
                  by_cases c9 : ((rd_T40 l0 x5_1).f1).toList = ((rd_T40 l1 x5_1).f1).toList
                  · rw [if_pos c9] at H
                    have c9b0 : (((rd_T40 l0 x5_1).f1).toList == ((rd_T40 l1 x5_1).f1).toList) = true := beq_iff_eq.mpr c9
                    have c9b1 : (((rd_T40 l0 x5_1).f1).toList != ((rd_T40 l1 x5_1).f1).toList) = false := bne_eq_false_iff_eq.mpr c9
                    clear c9
                    by_cases c10 : ((rd_T40 l0 x5_1).f3) = ((rd_T40 l1 x5_1).f3)
                    · rw [if_pos c10] at H
                      have c10b0 : (((rd_T40 l0 x5_1).f3) == ((rd_T40 l1 x5_1).f3)) = true := beq_iff_eq.mpr c10
                      have c10b1 : (((rd_T40 l0 x5_1).f3) != ((rd_T40 l1 x5_1).f3)) = false := bne_eq_false_iff_eq.mpr c10
                      clear c10
                      have H' := Aside0.mk H
                      clear H
                      have p282 : 0 ≤ (x5_1 : Int) := of_decide_eq_true (by first | (with_reducible assumption) | assumption)
                      have q282 : x5_1 < (l0.length : Int) := of_decide_eq_true (by first | (with_reducible assumption) | assumption)
                      obtain ⟨ad282, A282_2, c282_2, e282, hx282_0, hx282_1, hx282_2, hx282_3, hl282_2, hi282_2⟩ := at_T40 HR0.out x5_1 p282 q282
                      cases e282
                      have HR282_2 := Aside0.mk hi282_2
                      have HC282_2 := Aside0.mk hl282_2
                      clear hi282_2 hl282_2
                      replace p282 := eq_true p282
                      replace q282 := eq_true q282
                      have p283 : 0 ≤ (x5_1 : Int) := of_decide_eq_true (by first | (with_reducible assumption) | assumption)
                      have q283 : x5_1 < (l1.length : Int) := of_decide_eq_true (by first | (with_reducible assumption) | assumption)
                      obtain ⟨ad283, A283_2, c283_2, e283, hx283_0, hx283_1, hx283_2, hx283_3, hl283_2, hi283_2⟩ := at_T40 HR1.out x5_1 p283 q283
                      cases e283
                      have HR283_2 := Aside0.mk hi283_2
                      have HC283_2 := Aside0.mk hl283_2
                      clear hi283_2 hl283_2
                      replace p283 := eq_true p283
                      replace q283 := eq_true q283
                      have p284 : 0 ≤ (x5_1 : Int) := of_decide_eq_true (by first | (with_reducible assumption) | assumption)
                      have q284 : x5_1 < (l0.length : Int) := of_decide_eq_true (by first | (with_reducible assumption) | assumption)
                      obtain ⟨ad284, A284_2, c284_2, e284, hx284_0, hx284_1, hx284_2, hx284_3, hl284_2, hi284_2⟩ := at_T40 HR0.out x5_1 p284 q284
                      obtain rfl : ad282 = ad284 := (by injection e284)
                      have HR284_2 := Aside0.mk hi284_2
                      have HC284_2 := Aside0.mk hl284_2
                      clear hi284_2 hl284_2
                      replace p284 := eq_true p284
                      replace q284 := eq_true q284
                      have ea_ := Option.some.inj (hx282_2.symm.trans hx284_2)
                      injection ea_ with ea_ en_ ec_
                      subst ea_
                      subst ec_
                      clear en_
                      have p285 : 0 ≤ (x5_1 : Int) := of_decide_eq_true (by first | (with_reducible assumption) | assumption)
                      have q285 : x5_1 < (l1.length : Int) := of_decide_eq_true (by first | (with_reducible assumption) | assumption)
                      obtain ⟨ad285, A285_2, c285_2, e285, hx285_0, hx285_1, hx285_2, hx285_3, hl285_2, hi285_2⟩ := at_T40 HR1.out x5_1 p285 q285
                      obtain rfl : ad283 = ad285 := (by injection e285)
                      have HR285_2 := Aside0.mk hi285_2
                      have HC285_2 := Aside0.mk hl285_2
                      clear hi285_2 hl285_2
                      replace p285 := eq_true p285
                      replace q285 := eq_true q285
                      have ea_ := Option.some.inj (hx283_2.symm.trans hx285_2)
                      injection ea_ with ea_ en_ ec_
                      subst ea_
                      subst ec_
                      clear en_
                      have p286 : 0 ≤ (x5_1 : Int) := of_decide_eq_true (by first | (with_reducible assumption) | assumption)
                      have q286 : x5_1 < (l0.length : Int) := of_decide_eq_true (by first | (with_reducible assumption) | assumption)
                      obtain ⟨ad286, A286_2, c286_2, e286, hx286_0, hx286_1, hx286_2, hx286_3, hl286_2, hi286_2⟩ := at_T40 HR0.out x5_1 p286 q286
                      obtain rfl : ad282 = ad286 := (by injection e286)
                      have HR286_2 := Aside0.mk hi286_2
                      have HC286_2 := Aside0.mk hl286_2
                      clear hi286_2 hl286_2
                      replace p286 := eq_true p286
                      replace q286 := eq_true q286
                      have ea_ := Option.some.inj (hx282_2.symm.trans hx286_2)
                      injection ea_ with ea_ en_ ec_
                      subst ea_
                      subst ec_
                      clear en_
                      have p287 : 0 ≤ (x5_1 : Int) := of_decide_eq_true (by first | (with_reducible assumption) | assumption)
                      have q287 : x5_1 < (l1.length : Int) := of_decide_eq_true (by first | (with_reducible assumption) | assumption)
                      obtain ⟨ad287, A287_2, c287_2, e287, hx287_0, hx287_1, hx287_2, hx287_3, hl287_2, hi287_2⟩ := at_T40 HR1.out x5_1 p287 q287
                      obtain rfl : ad283 = ad287 := (by injection e287)
                      have HR287_2 := Aside0.mk hi287_2
                      have HC287_2 := Aside0.mk hl287_2
                      clear hi287_2 hl287_2
                      replace p287 := eq_true p287
                      replace q287 := eq_true q287
                      have ea_ := Option.some.inj (hx283_2.symm.trans hx287_2)
                      injection ea_ with ea_ en_ ec_
                      subst ea_
                      subst ec_
                      clear en_
                      have p288 : 0 ≤ (x5_1 : Int) := of_decide_eq_true (by first | (with_reducible assumption) | assumption)
                      have q288 : x5_1 < (l0.length : Int) := of_decide_eq_true (by first | (with_reducible assumption) | assumption)
                      obtain ⟨ad288, A288_2, c288_2, e288, hx288_0, hx288_1, hx288_2, hx288_3, hl288_2, hi288_2⟩ := at_T40 HR0.out x5_1 p288 q288
                      obtain rfl : ad282 = ad288 := (by injection e288)
                      have HR288_2 := Aside0.mk hi288_2
                      have HC288_2 := Aside0.mk hl288_2
                      clear hi288_2 hl288_2
                      replace p288 := eq_true p288
                      replace q288 := eq_true q288
                      have ea_ := Option.some.inj (hx282_2.symm.trans hx288_2)
                      injection ea_ with ea_ en_ ec_
                      subst ea_
                      subst ec_
                      clear en_
                      have p289 : 0 ≤ (x5_1 : Int) := of_decide_eq_true (by first | (with_reducible assumption) | assumption)
                      have q289 : x5_1 < (l1.length : Int) := of_decide_eq_true (by first | (with_reducible assumption) | assumption)
                      obtain ⟨ad289, A289_2, c289_2, e289, hx289_0, hx289_1, hx289_2, hx289_3, hl289_2, hi289_2⟩ := at_T40 HR1.out x5_1 p289 q289
                      obtain rfl : ad283 = ad289 := (by injection e289)
                      have HR289_2 := Aside0.mk hi289_2
                      have HC289_2 := Aside0.mk hl289_2
                      clear hi289_2 hl289_2
                      replace p289 := eq_true p289
                      replace q289 := eq_true q289
                      have ea_ := Option.some.inj (hx283_2.symm.trans hx289_2)
                      injection ea_ with ea_ en_ ec_
                      subst ea_
                      subst ec_
                      clear en_
                      go_wp2
                      repeat (go_quiet (fail); try go_wp2)
                      go_meet
                      case rel => exact ⟨_, (((((rd_T40 l0 x5_1).f2).length : Int) != (((rd_T40 l1 x5_1).f2).length : Int))), (by first | rfl | (simp; done) | (simp [*]; done)), H', ⟨by have := HK1.out; first | omega | exact Nat.le_refl _⟩, by repeat (first | exact Drawn0.refl _ | apply Drawn0.step)⟩
                    · rw [if_neg c10] at H
                      have c10b0 : (((rd_T40 l0 x5_1).f3) == ((rd_T40 l1 x5_1).f3)) = false := beq_eq_false_iff_ne.mpr c10
                      have c10b1 : (((rd_T40 l0 x5_1).f3) != ((rd_T40 l1 x5_1).f3)) = true := bne_iff_ne.mpr c10
                      have H' := Aside0.mk H
                      clear H
                      have p282 : 0 ≤ (x5_1 : Int) := of_decide_eq_true (by first | (with_reducible assumption) | assumption)
                      have q282 : x5_1 < (l0.length : Int) := of_decide_eq_true (by first | (with_reducible assumption) | assumption)
                      obtain ⟨ad282, A282_2, c282_2, e282, hx282_0, hx282_1, hx282_2, hx282_3, hl282_2, hi282_2⟩ := at_T40 HR0.out x5_1 p282 q282
                      cases e282
                      have HR282_2 := Aside0.mk hi282_2
                      have HC282_2 := Aside0.mk hl282_2
                      clear hi282_2 hl282_2
                      replace p282 := eq_true p282
                      replace q282 := eq_true q282
                      have p283 : 0 ≤ (x5_1 : Int) := of_decide_eq_true (by first | (with_reducible assumption) | assumption)
                      have q283 : x5_1 < (l1.length : Int) := of_decide_eq_true (by first | (with_reducible assumption) | assumption)
                      obtain ⟨ad283, A283_2, c283_2, e283, hx283_0, hx283_1, hx283_2, hx283_3, hl283_2, hi283_2⟩ := at_T40 HR1.out x5_1 p283 q283
                      cases e283
                      have HR283_2 := Aside0.mk hi283_2
                      have HC283_2 := Aside0.mk hl283_2
                      clear hi283_2 hl283_2
                      replace p283 := eq_true p283
                      replace q283 := eq_true q283
                      have p284 : 0 ≤ (x5_1 : Int) := of_decide_eq_true (by first | (with_reducible assumption) | assumption)
                      have q284 : x5_1 < (l0.length : Int) := of_decide_eq_true (by first | (with_reducible assumption) | assumption)
                      obtain ⟨ad284, A284_2, c284_2, e284, hx284_0, hx284_1, hx284_2, hx284_3, hl284_2, hi284_2⟩ := at_T40 HR0.out x5_1 p284 q284
                      obtain rfl : ad282 = ad284 := (by injection e284)
                      have HR284_2 := Aside0.mk hi284_2
                      have HC284_2 := Aside0.mk hl284_2
                      clear hi284_2 hl284_2
                      replace p284 := eq_true p284
                      replace q284 := eq_true q284
                      have ea_ := Option.some.inj (hx282_2.symm.trans hx284_2)
                      injection ea_ with ea_ en_ ec_
                      subst ea_
                      subst ec_
                      clear en_
                      have p285 : 0 ≤ (x5_1 : Int) := of_decide_eq_true (by first | (with_reducible assumption) | assumption)
                      have q285 : x5_1 < (l1.length : Int) := of_decide_eq_true (by first | (with_reducible assumption) | assumption)
                      obtain ⟨ad285, A285_2, c285_2, e285, hx285_0, hx285_1, hx285_2, hx285_3, hl285_2, hi285_2⟩ := at_T40 HR1.out x5_1 p285 q285
                      obtain rfl : ad283 = ad285 := (by injection e285)
                      have HR285_2 := Aside0.mk hi285_2
                      have HC285_2 := Aside0.mk hl285_2
                      clear hi285_2 hl285_2
                      replace p285 := eq_true p285
                      replace q285 := eq_true q285
                      have ea_ := Option.some.inj (hx283_2.symm.trans hx285_2)
                      injection ea_ with ea_ en_ ec_
                      subst ea_
                      subst ec_
                      clear en_
                      have p286 : 0 ≤ (x5_1 : Int) := of_decide_eq_true (by first | (with_reducible assumption) | assumption)
                      have q286 : x5_1 < (l0.length : Int) := of_decide_eq_true (by first | (with_reducible assumption) | assumption)
                      obtain ⟨ad286, A286_2, c286_2, e286, hx286_0, hx286_1, hx286_2, hx286_3, hl286_2, hi286_2⟩ := at_T40 HR0.out x5_1 p286 q286
                      obtain rfl : ad282 = ad286 := (by injection e286)
                      have HR286_2 := Aside0.mk hi286_2
                      have HC286_2 := Aside0.mk hl286_2
                      clear hi286_2 hl286_2
                      replace p286 := eq_true p286
                      replace q286 := eq_true q286
                      have ea_ := Option.some.inj (hx282_2.symm.trans hx286_2)
                      injection ea_ with ea_ en_ ec_
                      subst ea_
                      subst ec_
                      clear en_
                      have p287 : 0 ≤ (x5_1 : Int) := of_decide_eq_true (by first | (with_reducible assumption) | assumption)
                      have q287 : x5_1 < (l1.length : Int) := of_decide_eq_true (by first | (with_reducible assumption) | assumption)
                      obtain ⟨ad287, A287_2, c287_2, e287, hx287_0, hx287_1, hx287_2, hx287_3, hl287_2, hi287_2⟩ := at_T40 HR1.out x5_1 p287 q287
                      obtain rfl : ad283 = ad287 := (by injection e287)
                      have HR287_2 := Aside0.mk hi287_2
                      have HC287_2 := Aside0.mk hl287_2
                      clear hi287_2 hl287_2
                      replace p287 := eq_true p287
                      replace q287 := eq_true q287
                      have ea_ := Option.some.inj (hx283_2.symm.trans hx287_2)
                      injection ea_ with ea_ en_ ec_
                      subst ea_
                      subst ec_
                      clear en_
                      go_wp2
                      repeat (go_quiet (fail); try go_wp2)
                      go_meet
                      case rel => exact ⟨_, (true), (by first | rfl | (simp; done) | (simp [*]; done)), H', ⟨by have := HK1.out; first | omega | exact Nat.le_refl _⟩, by repeat (first | exact Drawn0.refl _ | apply Drawn0.step)⟩
                  · rw [if_neg c9] at H
                    have c9b0 : (((rd_T40 l0 x5_1).f1).toList == ((rd_T40 l1 x5_1).f1).toList) = false := beq_eq_false_iff_ne.mpr c9
                    have c9b1 : (((rd_T40 l0 x5_1).f1).toList != ((rd_T40 l1 x5_1).f1).toList) = true := bne_iff_ne.mpr c9
                    have H' := Aside0.mk H
                    clear H
                    have p282 : 0 ≤ (x5_1 : Int) := of_decide_eq_true (by first | (with_reducible assumption) | assumption)
                    have q282 : x5_1 < (l0.length : Int) := of_decide_eq_true (by first | (with_reducible assumption) | assumption)
                    obtain ⟨ad282, A282_2, c282_2, e282, hx282_0, hx282_1, hx282_2, hx282_3, hl282_2, hi282_2⟩ := at_T40 HR0.out x5_1 p282 q282
                    cases e282
                    have HR282_2 := Aside0.mk hi282_2
                    have HC282_2 := Aside0.mk hl282_2
                    clear hi282_2 hl282_2
                    replace p282 := eq_true p282
                    replace q282 := eq_true q282
                    have p283 : 0 ≤ (x5_1 : Int) := of_decide_eq_true (by first | (with_reducible assumption) | assumption)
                    have q283 : x5_1 < (l1.length : Int) := of_decide_eq_true (by first | (with_reducible assumption) | assumption)
                    obtain ⟨ad283, A283_2, c283_2, e283, hx283_0, hx283_1, hx283_2, hx283_3, hl283_2, hi283_2⟩ := at_T40 HR1.out x5_1 p283 q283
                    cases e283
                    have HR283_2 := Aside0.mk hi283_2
                    have HC283_2 := Aside0.mk hl283_2
                    clear hi283_2 hl283_2
                    replace p283 := eq_true p283
                    replace q283 := eq_true q283
                    have p284 : 0 ≤ (x5_1 : Int) := of_decide_eq_true (by first | (with_reducible assumption) | assumption)
                    have q284 : x5_1 < (l0.length : Int) := of_decide_eq_true (by first | (with_reducible assumption) | assumption)
                    obtain ⟨ad284, A284_2, c284_2, e284, hx284_0, hx284_1, hx284_2, hx284_3, hl284_2, hi284_2⟩ := at_T40 HR0.out x5_1 p284 q284
                    obtain rfl : ad282 = ad284 := (by injection e284)
                    have HR284_2 := Aside0.mk hi284_2
                    have HC284_2 := Aside0.mk hl284_2
                    clear hi284_2 hl284_2
                    replace p284 := eq_true p284
                    replace q284 := eq_true q284
                    have ea_ := Option.some.inj (hx282_2.symm.trans hx284_2)
                    injection ea_ with ea_ en_ ec_
                    subst ea_
                    subst ec_
                    clear en_
                    have p285 : 0 ≤ (x5_1 : Int) := of_decide_eq_true (by first | (with_reducible assumption) | assumption)
                    have q285 : x5_1 < (l1.length : Int) := of_decide_eq_true (by first | (with_reducible assumption) | assumption)
                    obtain ⟨ad285, A285_2, c285_2, e285, hx285_0, hx285_1, hx285_2, hx285_3, hl285_2, hi285_2⟩ := at_T40 HR1.out x5_1 p285 q285
                    obtain rfl : ad283 = ad285 := (by injection e285)
                    have HR285_2 := Aside0.mk hi285_2
                    have HC285_2 := Aside0.mk hl285_2
                    clear hi285_2 hl285_2
                    replace p285 := eq_true p285
                    replace q285 := eq_true q285
                    have ea_ := Option.some.inj (hx283_2.symm.trans hx285_2)
                    injection ea_ with ea_ en_ ec_
                    subst ea_
                    subst ec_
                    clear en_
                    go_wp2
                    repeat (go_quiet (fail); try go_wp2)
                    go_meet
                    case rel => exact ⟨_, (true), (by first | rfl | (simp; done) | (simp [*]; done)), H', ⟨by have := HK1.out; first | omega | exact Nat.le_refl _⟩, by repeat (first | exact Drawn0.refl _ | apply Drawn0.step)⟩
                · rw [if_neg c8] at H
                  have c8b0 : (((rd_T40 l0 x5_1).f0) == ((rd_T40 l1 x5_1).f0)) = false := beq_eq_false_iff_ne.mpr c8
                  have c8b1 : (((rd_T40 l0 x5_1).f0) != ((rd_T40 l1 x5_1).f0)) = true := bne_iff_ne.mpr c8
                  have H' := Aside0.mk H
                  clear H
                  have p282 : 0 ≤ (x5_1 : Int) := of_decide_eq_true (by first | (with_reducible assumption) | assumption)
                  have q282 : x5_1 < (l0.length : Int) := of_decide_eq_true (by first | (with_reducible assumption) | assumption)
                  obtain ⟨ad282, A282_2, c282_2, e282, hx282_0, hx282_1, hx282_2, hx282_3, hl282_2, hi282_2⟩ := at_T40 HR0.out x5_1 p282 q282
                  cases e282
                  have HR282_2 := Aside0.mk hi282_2
                  have HC282_2 := Aside0.mk hl282_2
                  clear hi282_2 hl282_2
                  replace p282 := eq_true p282
                  replace q282 := eq_true q282
                  have p283 : 0 ≤ (x5_1 : Int) := of_decide_eq_true (by first | (with_reducible assumption) | assumption)
                  have q283 : x5_1 < (l1.length : Int) := of_decide_eq_true (by first | (with_reducible assumption) | assumption)
                  obtain ⟨ad283, A283_2, c283_2, e283, hx283_0, hx283_1, hx283_2, hx283_3, hl283_2, hi283_2⟩ := at_T40 HR1.out x5_1 p283 q283
                  cases e283
                  have HR283_2 := Aside0.mk hi283_2
                  have HC283_2 := Aside0.mk hl283_2
                  clear hi283_2 hl283_2
                  replace p283 := eq_true p283
                  replace q283 := eq_true q283
                  go_wp2
                  repeat (go_quiet (fail); try go_wp2)
                  go_meet
                  case rel => exact ⟨_, (true), (by first | rfl | (simp; done) | (simp [*]; done)), H', ⟨by have := HK1.out; first | omega | exact Nat.le_refl _⟩, by repeat (first | exact Drawn0.refl _ | apply Drawn0.step)⟩
              · rw [if_neg c7] at H
                exact absurd H (by simp)
            · rw [if_neg c6] at H
              exact absurd H (by simp)
          case rest =>
            clear HC5
            try clear c1
            try clear c2
            try clear p2
            try clear q2
            try clear hx2
            try clear c3
            try clear c3b0
            try clear c3b1
            try clear c3b2
            try clear c4
            try clear c4b0
            try clear c6
            try clear c6b0
            try clear c7
            try clear c7b0
            try clear c8
            try clear c8b0
            try clear c8b1
            try clear c9
            try clear c9b0
            try clear c9b1
            try clear c10
            try clear c10b0
            try clear c10b1
            try clear hx282_0
            try clear hx282_1
            try clear hx282_2
            try clear hx282_3
            try clear hx283_0
            try clear hx283_1
            try clear hx283_2
            try clear hx283_3
            try clear hx284_0
            try clear hx284_1
            try clear hx284_2
            try clear hx284_3
            try clear hx285_0
            try clear hx285_1
            try clear hx285_2
            try clear hx285_3
            try clear hx286_0
            try clear hx286_1
            try clear hx286_2
            try clear hx286_3
            try clear hx287_0
            try clear hx287_1
            try clear hx287_2
            try clear hx287_3
            try clear hx288_0
            try clear hx288_1
            try clear hx288_2
            try clear hx288_3
            try clear hx289_0
            try clear hx289_1
            try clear hx289_2
            try clear hx289_3
            try clear p2
            try clear p282
            try clear p283
            try clear p284
            try clear p285
            try clear p286
            try clear p287
            try clear p288
            try clear p289
            try clear q282
            try clear q283
            try clear q284
            try clear q285
            try clear q286
            try clear q287
            try clear q288
            try clear q289
            obtain ⟨kq, x69_4, rfl, HA, HJ4, ⟨mc4, rfl⟩⟩ := hcut
            cases kq with
            | zero => exact absurd HA.out (by simp [slotmeshref02_Same.j1])
            | succ kj4 =>
              have H := HA.out
              clear HA
              simp only [slotmeshref02_Same.j1] at H
              by_cases c11 : x69_4 = true
              · subst c11
                have H1 : (some false) = some r := by rw [if_pos rfl] at H; exact H
                clear H
                have H := H1
                clear H1
                obtain rfl := Option.some.inj H
                go_wp2
                repeat (go_quiet (fail); try go_wp2)
                go_ret
                exact ⟨by first | rfl | (simp; done) | (simp [*]; done), by repeat (first | exact Drawn0.refl _ | apply Drawn0.step)⟩
              · replace c11 := Bool.eq_false_iff.mpr c11
                subst c11
                have H1 : (slotmeshref02_Same.l1 kj4 l0 l1 x5_1 0) = some r := by rw [if_neg (show ¬ (false = true) by decide)] at H; exact H
                clear H
                have H := H1
                clear H1
                have H' := Aside0.mk H
                clear H
                go_wp2
                repeat (go_quiet (fail); try go_wp2)
                go_loopg [6] kj4 (fun kq v6 w' => ∃ (x6_3 : Int), v6 = .int .i64 x6_3 ∧ Aside0 (slotmeshref02_Same.l1 kq l0 l1 x5_1 x6_3 = some r) ∧ Aside0 (kq ≤ kj4) ∧ Drawn0 w w')
                case atStart => exact ⟨(0), (by first | rfl | (simp; done) | (simp [*]; done)), H', ⟨Nat.le_refl _⟩, by repeat (first | exact Drawn0.refl _ | apply Drawn0.step)⟩
                case round =>
                  clear H'
                  try clear c1
                  try clear c2
                  try clear p2
                  try clear q2
                  try clear hx2
                  try clear c3
                  try clear c3b0
                  try clear c3b1
                  try clear c3b2
                  try clear c4
                  try clear c4b0
                  try clear c6
                  try clear c6b0
                  try clear c7
                  try clear c7b0
                  try clear c8
                  try clear c8b0
                  try clear c8b1
                  try clear c9
                  try clear c9b0
                  try clear c9b1
                  try clear c10
                  try clear c10b0
                  try clear c10b1
                  try clear c11
                  try clear hx282_0
                  try clear hx282_1
                  try clear hx282_2
                  try clear hx282_3
                  try clear hx283_0
                  try clear hx283_1
                  try clear hx283_2
                  try clear hx283_3
                  try clear hx284_0
                  try clear hx284_1
                  try clear hx284_2
                  try clear hx284_3
                  try clear hx285_0
                  try clear hx285_1
                  try clear hx285_2
                  try clear hx285_3
                  try clear hx286_0
                  try clear hx286_1
                  try clear hx286_2
                  try clear hx286_3
                  try clear hx287_0
                  try clear hx287_1
                  try clear hx287_2
                  try clear hx287_3
                  try clear hx288_0
                  try clear hx288_1
                  try clear hx288_2
                  try clear hx288_3
                  try clear hx289_0
                  try clear hx289_1
                  try clear hx289_2
                  try clear hx289_3
                  try clear p2
                  try clear p282
                  try clear p283
                  try clear p284
                  try clear p285
                  try clear p286
                  try clear p287
                  try clear p288
                  try clear p289
                  try clear q2
                  try clear q282
                  try clear q283
                  try clear q284
                  try clear q285
                  try clear q286
                  try clear q287
                  try clear q288
                  try clear q289
                  obtain ⟨x6_3, rfl, HA, HK3, ⟨m3, rfl⟩⟩ := hrel
                  cases gk with
                  | zero => exact absurd HA.out (by simp [slotmeshref02_Same.l1])
                  | succ k3 =>
                    have H := HA.out
                    clear HA
                    simp only [slotmeshref02_Same.l1] at H
                    by_cases c12 : 0 ≤ x5_1
                    · rw [if_pos c12] at H
                      have c12b0 : decide (0 ≤ x5_1) = true := decide_eq_true c12
                      clear c12
                      by_cases c13 : x5_1 < (l0.length : Int)
                      · rw [if_pos c13] at H
                        have c13b0 : decide (x5_1 < (l0.length : Int)) = true := decide_eq_true c13
                        clear c13
                        by_cases c14 : x6_3 < (((rd_T40 l0 x5_1).f2).length : Int)
                        · rw [if_pos c14] at H
                          have c14b0 : decide (x6_3 < (((rd_T40 l0 x5_1).f2).length : Int)) = true := decide_eq_true c14
                          clear c14
                          by_cases c15 : 0 ≤ x6_3
                          · rw [if_pos c15] at H
                            have c15b0 : decide (0 ≤ x6_3) = true := decide_eq_true c15
                            clear c15
                            by_cases c16 : x5_1 < (l1.length : Int)
                            · rw [if_pos c16] at H
                              have c16b0 : decide (x5_1 < (l1.length : Int)) = true := decide_eq_true c16
                              clear c16
                              by_cases c17 : x6_3 < (((rd_T40 l1 x5_1).f2).length : Int)
                              · rw [if_pos c17] at H
                                have c17b0 : decide (x6_3 < (((rd_T40 l1 x5_1).f2).length : Int)) = true := decide_eq_true c17
                                clear c17
                                by_cases c18 : (rd ((rd_T40 l0 x5_1).f2) x6_3) = (rd ((rd_T40 l1 x5_1).f2) x6_3)
                                · rw [if_pos c18] at H
                                  have c18b0 : ((rd ((rd_T40 l0 x5_1).f2) x6_3) == (rd ((rd_T40 l1 x5_1).f2) x6_3)) = true := beq_iff_eq.mpr c18
                                  have c18b1 : ((rd ((rd_T40 l0 x5_1).f2) x6_3) != (rd ((rd_T40 l1 x5_1).f2) x6_3)) = false := bne_eq_false_iff_eq.mpr c18
                                  clear c18
                                  have H' := Aside0.mk H
                                  clear H
                                  have p290 : 0 ≤ (x5_1 : Int) := of_decide_eq_true (by first | (with_reducible assumption) | assumption)
                                  have q290 : x5_1 < (l0.length : Int) := of_decide_eq_true (by first | (with_reducible assumption) | assumption)
                                  obtain ⟨ad290, A290_2, c290_2, e290, hx290_0, hx290_1, hx290_2, hx290_3, hl290_2, hi290_2⟩ := at_T40 HR0.out x5_1 p290 q290
                                  cases e290
                                  have HR290_2 := Aside0.mk hi290_2
                                  have HC290_2 := Aside0.mk hl290_2
                                  clear hi290_2 hl290_2
                                  replace p290 := eq_true p290
                                  replace q290 := eq_true q290
                                  have p291 : 0 ≤ (x5_1 : Int) := of_decide_eq_true (by first | (with_reducible assumption) | assumption)
                                  have q291 : x5_1 < (l0.length : Int) := of_decide_eq_true (by first | (with_reducible assumption) | assumption)
                                  obtain ⟨ad291, A291_2, c291_2, e291, hx291_0, hx291_1, hx291_2, hx291_3, hl291_2, hi291_2⟩ := at_T40 HR0.out x5_1 p291 q291
                                  obtain rfl : ad290 = ad291 := (by injection e291)
                                  have HR291_2 := Aside0.mk hi291_2
                                  have HC291_2 := Aside0.mk hl291_2
                                  clear hi291_2 hl291_2
                                  replace p291 := eq_true p291
                                  replace q291 := eq_true q291
                                  have ea_ := Option.some.inj (hx290_2.symm.trans hx291_2)
                                  injection ea_ with ea_ en_ ec_
                                  subst ea_
                                  subst ec_
                                  clear en_
                                  have p292 : 0 ≤ (x6_3 : Int) := of_decide_eq_true (by first | (with_reducible assumption) | assumption)
                                  have q292 : x6_3 < (((rd_T40 l0 x5_1).f2).length : Int) := of_decide_eq_true (by first | (with_reducible assumption) | assumption)
                                  obtain ⟨ad292, e292, hx292_0⟩ := Kd.at_int HR291_2.out x6_3 p292 q292
                                  cases e292
                                  replace p292 := eq_true p292
                                  replace q292 := eq_true q292
                                  have p293 : 0 ≤ (x5_1 : Int) := of_decide_eq_true (by first | (with_reducible assumption) | assumption)
                                  have q293 : x5_1 < (l1.length : Int) := of_decide_eq_true (by first | (with_reducible assumption) | assumption)
                                  obtain ⟨ad293, A293_2, c293_2, e293, hx293_0, hx293_1, hx293_2, hx293_3, hl293_2, hi293_2⟩ := at_T40 HR1.out x5_1 p293 q293
                                  cases e293
                                  have HR293_2 := Aside0.mk hi293_2
                                  have HC293_2 := Aside0.mk hl293_2
                                  clear hi293_2 hl293_2
                                  replace p293 := eq_true p293
                                  replace q293 := eq_true q293
                                  have p294 : 0 ≤ (x6_3 : Int) := of_decide_eq_true (by first | (with_reducible assumption) | assumption)
                                  have q294 : x6_3 < (((rd_T40 l1 x5_1).f2).length : Int) := of_decide_eq_true (by first | (with_reducible assumption) | assumption)
                                  obtain ⟨ad294, e294, hx294_0⟩ := Kd.at_int HR293_2.out x6_3 p294 q294
                                  cases e294
                                  replace p294 := eq_true p294
                                  replace q294 := eq_true q294
                                  go_wp2
                                  repeat (go_quiet (fail); try go_wp2)
                                  go_roundg k3
                                  case measure => have := HK1.out; have := HJ4.out; have := HK3.out; omega
                                  case rel => exact ⟨(wrap64 (x6_3 + 1)), (by first | rfl | (simp; done) | (simp [*]; done)), H', ⟨by have := HK1.out; have := HJ4.out; have := HK3.out; omega⟩, by repeat (first | exact Drawn0.refl _ | apply Drawn0.step)⟩
                                · rw [if_neg c18] at H
                                  have c18b0 : ((rd ((rd_T40 l0 x5_1).f2) x6_3) == (rd ((rd_T40 l1 x5_1).f2) x6_3)) = false := beq_eq_false_iff_ne.mpr c18
                                  have c18b1 : ((rd ((rd_T40 l0 x5_1).f2) x6_3) != (rd ((rd_T40 l1 x5_1).f2) x6_3)) = true := bne_iff_ne.mpr c18
                                  obtain rfl := Option.some.inj H
                                  have p290 : 0 ≤ (x5_1 : Int) := of_decide_eq_true (by first | (with_reducible assumption) | assumption)
                                  have q290 : x5_1 < (l0.length : Int) := of_decide_eq_true (by first | (with_reducible assumption) | assumption)
                                  obtain ⟨ad290, A290_2, c290_2, e290, hx290_0, hx290_1, hx290_2, hx290_3, hl290_2, hi290_2⟩ := at_T40 HR0.out x5_1 p290 q290
                                  cases e290
                                  have HR290_2 := Aside0.mk hi290_2
                                  have HC290_2 := Aside0.mk hl290_2
                                  clear hi290_2 hl290_2
                                  replace p290 := eq_true p290
                                  replace q290 := eq_true q290
                                  have p291 : 0 ≤ (x5_1 : Int) := of_decide_eq_true (by first | (with_reducible assumption) | assumption)
                                  have q291 : x5_1 < (l0.length : Int) := of_decide_eq_true (by first | (with_reducible assumption) | assumption)
                                  obtain ⟨ad291, A291_2, c291_2, e291, hx291_0, hx291_1, hx291_2, hx291_3, hl291_2, hi291_2⟩ := at_T40 HR0.out x5_1 p291 q291
                                  obtain rfl : ad290 = ad291 := (by injection e291)
                                  have HR291_2 := Aside0.mk hi291_2
                                  have HC291_2 := Aside0.mk hl291_2
                                  clear hi291_2 hl291_2
                                  replace p291 := eq_true p291
                                  replace q291 := eq_true q291
                                  have ea_ := Option.some.inj (hx290_2.symm.trans hx291_2)
                                  injection ea_ with ea_ en_ ec_
                                  subst ea_
                                  subst ec_
                                  clear en_
                                  have p292 : 0 ≤ (x6_3 : Int) := of_decide_eq_true (by first | (with_reducible assumption) | assumption)
                                  have q292 : x6_3 < (((rd_T40 l0 x5_1).f2).length : Int) := of_decide_eq_true (by first | (with_reducible assumption) | assumption)
                                  obtain ⟨ad292, e292, hx292_0⟩ := Kd.at_int HR291_2.out x6_3 p292 q292
                                  cases e292
                                  replace p292 := eq_true p292
                                  replace q292 := eq_true q292
                                  have p293 : 0 ≤ (x5_1 : Int) := of_decide_eq_true (by first | (with_reducible assumption) | assumption)
                                  have q293 : x5_1 < (l1.length : Int) := of_decide_eq_true (by first | (with_reducible assumption) | assumption)
                                  obtain ⟨ad293, A293_2, c293_2, e293, hx293_0, hx293_1, hx293_2, hx293_3, hl293_2, hi293_2⟩ := at_T40 HR1.out x5_1 p293 q293
                                  cases e293
                                  have HR293_2 := Aside0.mk hi293_2
                                  have HC293_2 := Aside0.mk hl293_2
                                  clear hi293_2 hl293_2
                                  replace p293 := eq_true p293
                                  replace q293 := eq_true q293
                                  have p294 : 0 ≤ (x6_3 : Int) := of_decide_eq_true (by first | (with_reducible assumption) | assumption)
                                  have q294 : x6_3 < (((rd_T40 l1 x5_1).f2).length : Int) := of_decide_eq_true (by first | (with_reducible assumption) | assumption)
                                  obtain ⟨ad294, e294, hx294_0⟩ := Kd.at_int HR293_2.out x6_3 p294 q294
                                  cases e294
                                  replace p294 := eq_true p294
                                  replace q294 := eq_true q294
                                  go_wp2
                                  repeat (go_quiet (fail); try go_wp2)
                                  go_ret
                                  exact ⟨by first | rfl | (simp; done) | (simp [*]; done), by repeat (first | exact Drawn0.refl _ | apply Drawn0.step)⟩
                              · rw [if_neg c17] at H
                                exact absurd H (by simp)
                            · rw [if_neg c16] at H
                              exact absurd H (by simp)
                          · rw [if_neg c15] at H
                            exact absurd H (by simp)
                        · rw [if_neg c14] at H
                          have c14b0 : decide (x6_3 < (((rd_T40 l0 x5_1).f2).length : Int)) = false := decide_eq_false c14
                          clear c14
                          have H' := Aside0.mk H
                          clear H
                          have p290 : 0 ≤ (x5_1 : Int) := of_decide_eq_true (by first | (with_reducible assumption) | assumption)
                          have q290 : x5_1 < (l0.length : Int) := of_decide_eq_true (by first | (with_reducible assumption) | assumption)
                          obtain ⟨ad290, A290_2, c290_2, e290, hx290_0, hx290_1, hx290_2, hx290_3, hl290_2, hi290_2⟩ := at_T40 HR0.out x5_1 p290 q290
                          cases e290
                          have HR290_2 := Aside0.mk hi290_2
                          have HC290_2 := Aside0.mk hl290_2
                          clear hi290_2 hl290_2
                          replace p290 := eq_true p290
                          replace q290 := eq_true q290
                          go_wp2
                          repeat (go_quiet (fail); try go_wp2)
                          go_roundg k3
                          case measure => have := HK1.out; have := HJ4.out; have := HK3.out; omega
                          case rel => exact ⟨(wrap64 (x5_1 + 1)), (by first | rfl | (simp; done) | (simp [*]; done)), H', ⟨by have := HK1.out; have := HJ4.out; have := HK3.out; omega⟩, by repeat (first | exact Drawn0.refl _ | apply Drawn0.step)⟩
                      · rw [if_neg c13] at H
                        exact absurd H (by simp)
                    · rw [if_neg c12] at H
                      exact absurd H (by simp)
        · rw [if_neg c4] at H
          have c4b0 : decide (x5_1 < (l0.length : Int)) = false := decide_eq_false c4
          clear c4
          obtain rfl := Option.some.inj H
          go_wp2
          repeat (go_quiet (fail); try go_wp2)
          go_ret
          exact ⟨by first | rfl | (simp; done) | (simp [*]; done), by repeat (first | exact Drawn0.refl _ | apply Drawn0.step)⟩
  · rw [if_neg c3] at H
    have c3b0 : ((l0.length : Int) == (l1.length : Int)) = false := beq_eq_false_iff_ne.mpr c3
    have c3b1 : ((l0.length : Int) != (l1.length : Int)) = true := bne_iff_ne.mpr c3
    have c3b2 : (l0.length == l1.length) = false := by first | simpa using c3 | (simp at c3 ⊢; omega)
    obtain rfl := Option.some.inj H
    go_enter Tryd.func22, Tryd.ntmps22
    go_wp2
    repeat (go_quiet (fail); try go_wp2)
    go_ret
    exact ⟨by first | rfl | (simp; done) | (simp [*]; done), by repeat (first | exact Drawn0.refl _ | apply Drawn0.step)⟩
end Go.Proofs.YtdedlchpjboceaaDoor.PE
end

section
namespace Go.Proofs.YtdedlchpjboceaaDoor.Qy
open Go.RowKit Go.Proofs.YtdedlchpjboceaaDoorW.PrintWords Go.Proofs.YtdedlchpjboceaaDoorW.PrintLast Go.Proofs.YtdedlchpjboceaaDoor.Lx Go.Proofs.YtdedlchpjboceaaDoor.PE
theorem rd_at (l : List S40) (j : Nat) (h : j < l.length) : rd_T40 l (j : Int) = l[j] := by
  unfold rd_T40
  rw [Int.toNat_natCast, List.getD_eq_getElem?_getD, List.getElem?_eq_getElem h]; rfl
end Go.Proofs.YtdedlchpjboceaaDoor.Qy
end
