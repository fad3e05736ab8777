-- Written by a program of this session's, out of the translation; Lean checks it.
import Derived.Test.YtiidalhcmlhnmaaDoorPAx0
namespace Go.Proofs.YtiidalhcmlhnmaaDoor.PA
open Go.RowKit Go.Proofs.YtiidalhcmlhnmaaDoorW.PrintWords Go.Proofs.YtiidalhcmlhnmaaDoorW.PrintLast Go.Proofs.YtiidalhcmlhnmaaDoorW.PrintMore
attribute [local go_sem] max2_int min2_int max_two min_two max_three min_three max_four min_four   -- for this text's walks alone

/-! ### lexer_Lex: function 10 -/
def toTok (x : Lx.Tk) : S31 := ⟨x.kind, ⟨x.t.toArray⟩, x.n, x.o⟩
theorem reps_toks {R : S31 → List Value → Prop} (hR : ∀ x : Lx.Tk, R (toTok x) (Lx.tkCell x)) : ∀ ts : List Lx.Tk, Reps R 4 (ts.map toTok) (Lx.tkCells ts)
  | [] => Reps.none _ _
  | x :: ts => Kd.reps_append (ps := [toTok x]) (by simpa using Reps.snoc (Reps.none R 4) (hR x) rfl) (reps_toks hR ts)
/-- What Lex answers: the tokens, the error's number, the offset. -/
def lexer_Lex.f (a0 : ByteArray) : Option ((List (S31)) × Int × Int) := some (match Lx.lex a0.data.toList with | .ok ts => (ts.map toTok, 0, 0) | .error e => ([], e.1, (e.2 : Nat)))
theorem lexer_Lex.calls (a0 : ByteArray) (r1 : List (S31)) (r2 : Int) (r3 : Int) (w : World) (hG : Aside0 (Lx.GOK w)) (h : lexer_Lex.f a0 = some (r1, r2, r3)) :
    Calls Tryd.prog 10 #[.string a0] w fun e w' => ∃ v0_ : Value, e = .returned (.tuple #[v0_, .int .i64 r2, .int .i64 r3]) ∧ Kd.R k31 31 w' w.heap.size (fun _ => True) v0_ r1 ∧ Below w.heap.size w w' := by
  unfold lexer_Lex.f Lx.lex at h
  rw [Lx.list_size] at h
  by_cases hl : 8000 < a0.size
  · rw [if_pos hl] at h
    simp only [Option.some.injEq, Prod.mk.injEq] at h
    obtain ⟨rfl, rfl, rfl⟩ := h
    refine (Lx.Lex_long a0 hl w).mono ?_
    rintro e w' ⟨rfl, hb⟩
    exact ⟨_, rfl, Kd.R_nil _ _ _ _ _, hb⟩
  · rw [if_neg hl] at h
    refine (Lx.Lex_main a0 (by omega) w hG.out).mono ?_
    rintro e w' ⟨⟨v, ts, hp, rfl, ho⟩ | ⟨er, o, hp, rfl⟩, hb⟩
    · rw [hp] at h
      simp only [Option.some.injEq, Prod.mk.injEq] at h
      obtain ⟨rfl, rfl, rfl⟩ := h
      refine ⟨_, rfl, ⟨fun _ _ => trivial, _, by rw [List.length_map]; exact ho, reps_toks (fun x => k31_mkM _ _ _ (toTok x)) ts⟩, hb⟩
    · rw [hp] at h
      simp only [Option.some.injEq, Prod.mk.injEq] at h
      obtain ⟨rfl, rfl, rfl⟩ := h
      exact ⟨_, rfl, Kd.R_nil _ _ _ _ _, hb⟩


/-! ### slotmeshref01_Same: function 12 -/
def slotmeshref01_Same.l0 : Nat → List (S31) → List (S31) → Int → Int → Option (Bool)
  | 0, _, _, _, _ => none
  | k + 1, x0, x1, x2, x7 => if x7 < (x0.length : Int) then (if 0 ≤ x7 then (if x7 < (x1.length : Int) then (if ((rd_T31 x0 x7).f0) = ((rd_T31 x1 x7).f0) then (if ((rd_T31 x0 x7).f1).toList = ((rd_T31 x1 x7).f1).toList then (if ((rd_T31 x0 x7).f2) = ((rd_T31 x1 x7).f2) then (if (wrap64 (((rd_T31 x0 x7).f3) + x2)) = ((rd_T31 x1 x7).f3) then (slotmeshref01_Same.l0 k x0 x1 x2 (wrap64 (x7 + 1))) else (some false)) else (some false)) else (some false)) else (some false)) else (none)) else (none)) else (some true)
def slotmeshref01_Same.f (k : Nat) (l0 : List (S31)) (l1 : List (S31)) (a2 : Int) : Option (Bool) := if (l0.length : Int) = (l1.length : Int) then (slotmeshref01_Same.l0 k l0 l1 a2 0) else (some false)
theorem slotmeshref01_Same.mono_l : ∀ k, (∀ y0 y1 y2 y3, LeO (slotmeshref01_Same.l0 k y0 y1 y2 y3) (slotmeshref01_Same.l0 (k + 1) y0 y1 y2 y3))
  | 0 => fun _ _ _ _ r h => by simp [slotmeshref01_Same.l0] at h
  | k + 1 => by
    have ih0 := slotmeshref01_Same.mono_l k
    · intro y0 y1 y2 y3
      unfold slotmeshref01_Same.l0
      repeat' first
      | (with_reducible exact ih0 _ _ _ _)
      | (with_reducible exact LeO.refl _)
      | (with_reducible exact LeO.none _)
      | (with_reducible refine LeO.ite ?_ ?_)
      | (with_reducible refine LeO.bind ?_ (fun _ => ?_))
      | exact ih0 _ _ _ _
      | exact LeO.none _
      | refine LeO.ite ?_ ?_
      | refine LeO.bind ?_ (fun _ => ?_)
theorem slotmeshref01_Same.mono : ∀ a0 a1 a2 k, LeO (slotmeshref01_Same.f k a0 a1 a2) (slotmeshref01_Same.f (k + 1) a0 a1 a2) := by
  intro a0 a1 a2 k
  have ih0 := slotmeshref01_Same.mono_l k
  unfold slotmeshref01_Same.f
  repeat' first
      | (with_reducible exact ih0 _ _ _ _)
      | (with_reducible exact LeO.refl _)
      | (with_reducible exact LeO.none _)
      | (with_reducible refine LeO.ite ?_ ?_)
      | (with_reducible refine LeO.bind ?_ (fun _ => ?_))
      | exact ih0 _ _ _ _
      | exact LeO.none _
      | refine LeO.ite ?_ ?_
      | refine LeO.bind ?_ (fun _ => ?_)
set_option maxHeartbeats 8000000 in
set_option maxRecDepth 100000 in
theorem slotmeshref01_Same.calls (k : Nat) (A0 : Option Addr) (c0 : Nat) (l0 : List (S31)) (A1 : Option Addr) (c1 : Nat) (l1 : List (S31)) (a2 : Int) (r : Bool) (w : World) (hr0 : Kd.C k31 w A0 l0.length l0) (hc0 : l0.length ≤ c0) (hr1 : Kd.C k31 w A1 l1.length l1) (hc1 : l1.length ≤ c1) (h : slotmeshref01_Same.f k l0 l1 a2 = some r) :
    Calls Tryd.prog 12 #[.slice A0 l0.length c0, .slice A1 l1.length c1, .int .i64 a2] w fun e w' => e = .returned (.bool r) ∧ Drawn0 w w' := by
  have HR0 := Aside0.mk hr0
  have HC0 := Aside0.mk hc0
  clear hr0 hc0
  have HR1 := Aside0.mk hr1
  have HC1 := Aside0.mk hc1
  clear hr1 hc1
  have H : (if (l0.length : Int) = (l1.length : Int) then (slotmeshref01_Same.l0 k l0 l1 a2 0) else (some false)) = some r := h
  clear h
  by_cases c4 : (l0.length : Int) = (l1.length : Int)
  · rw [if_pos c4] at H
    have c4b0 : ((l0.length : Int) == (l1.length : Int)) = true := beq_iff_eq.mpr c4
    have c4b1 : ((l0.length : Int) != (l1.length : Int)) = false := bne_eq_false_iff_eq.mpr c4
    have c4b2 : (l0.length == l1.length) = true := by first | simpa using c4 | (simp at c4 ⊢; omega)
    clear c4
    have H' := Aside0.mk H
    clear H
    go_enter Tryd.func12, Tryd.ntmps12
    go_wp2
    repeat (go_quiet (fail); try go_wp2)
    go_loopg [7] k (fun kq v7 w' => ∃ (x7_1 : Int), v7 = .int .i64 x7_1 ∧ Aside0 (slotmeshref01_Same.l0 kq l0 l1 a2 x7_1 = some r) ∧ Aside0 (kq ≤ k) ∧ Drawn0 w w')
    case atStart => exact ⟨(0), (by first | rfl | (simp; done) | (simp [*]; done)), H', ⟨Nat.le_refl _⟩, by repeat (first | exact Drawn0.refl _ | apply Drawn0.step)⟩
    case round =>
      clear H'
      try clear c1
      try clear p2
      try clear c4
      try clear c4b0
      try clear c4b1
      try clear c4b2
      obtain ⟨x7_1, rfl, HA, HK1, ⟨m1, rfl⟩⟩ := hrel
      cases gk with
      | zero => exact absurd HA.out (by simp [slotmeshref01_Same.l0])
      | succ k1 =>
        have H := HA.out
        clear HA
        simp only [slotmeshref01_Same.l0] at H
        by_cases c5 : x7_1 < (l0.length : Int)
        · rw [if_pos c5] at H
          have c5b0 : decide (x7_1 < (l0.length : Int)) = true := decide_eq_true c5
          clear c5
          by_cases c6 : 0 ≤ x7_1
          · rw [if_pos c6] at H
            have c6b0 : decide (0 ≤ x7_1) = true := decide_eq_true c6
            clear c6
            by_cases c7 : x7_1 < (l1.length : Int)
            · rw [if_pos c7] at H
              have c7b0 : decide (x7_1 < (l1.length : Int)) = true := decide_eq_true c7
              clear c7
              by_cases c8 : ((rd_T31 l0 x7_1).f0) = ((rd_T31 l1 x7_1).f0)
              · rw [if_pos c8] at H
                have c8b0 : (((rd_T31 l0 x7_1).f0) == ((rd_T31 l1 x7_1).f0)) = true := beq_iff_eq.mpr c8
                have c8b1 : (((rd_T31 l0 x7_1).f0) != ((rd_T31 l1 x7_1).f0)) = false := bne_eq_false_iff_eq.mpr c8
                clear c8
                by_cases c9 : ((rd_T31 l0 x7_1).f1).toList = ((rd_T31 l1 x7_1).f1).toList
                · rw [if_pos c9] at H
                  have c9b0 : (((rd_T31 l0 x7_1).f1).toList == ((rd_T31 l1 x7_1).f1).toList) = true := beq_iff_eq.mpr c9
                  have c9b1 : (((rd_T31 l0 x7_1).f1).toList != ((rd_T31 l1 x7_1).f1).toList) = false := bne_eq_false_iff_eq.mpr c9
                  clear c9
                  by_cases c10 : ((rd_T31 l0 x7_1).f2) = ((rd_T31 l1 x7_1).f2)
                  · rw [if_pos c10] at H
                    have c10b0 : (((rd_T31 l0 x7_1).f2) == ((rd_T31 l1 x7_1).f2)) = true := beq_iff_eq.mpr c10
                    have c10b1 : (((rd_T31 l0 x7_1).f2) != ((rd_T31 l1 x7_1).f2)) = false := bne_eq_false_iff_eq.mpr c10
                    clear c10
                    by_cases c11 : (wrap64 (((rd_T31 l0 x7_1).f3) + a2)) = ((rd_T31 l1 x7_1).f3)
                    · rw [if_pos c11] at H
                      have c11b0 : ((wrap64 (((rd_T31 l0 x7_1).f3) + a2)) == ((rd_T31 l1 x7_1).f3)) = true := beq_iff_eq.mpr c11
                      have c11b1 : ((wrap64 (((rd_T31 l0 x7_1).f3) + a2)) != ((rd_T31 l1 x7_1).f3)) = false := bne_eq_false_iff_eq.mpr c11
                      clear c11
                      have H' := Aside0.mk H
                      clear H
                      have p101 : 0 ≤ (x7_1 : Int) := of_decide_eq_true (by first | (with_reducible assumption) | assumption)
                      have q101 : x7_1 < (l0.length : Int) := of_decide_eq_true (by first | (with_reducible assumption) | assumption)
                      obtain ⟨ad101, e101, hx101_0, hx101_1, hx101_2, hx101_3⟩ := at_T31 HR0.out x7_1 p101 q101
                      cases e101
                      replace p101 := eq_true p101
                      replace q101 := eq_true q101
                      have p102 : 0 ≤ (x7_1 : Int) := of_decide_eq_true (by first | (with_reducible assumption) | assumption)
                      have q102 : x7_1 < (l1.length : Int) := of_decide_eq_true (by first | (with_reducible assumption) | assumption)
                      obtain ⟨ad102, e102, hx102_0, hx102_1, hx102_2, hx102_3⟩ := at_T31 HR1.out x7_1 p102 q102
                      cases e102
                      replace p102 := eq_true p102
                      replace q102 := eq_true q102
                      have p103 : 0 ≤ (x7_1 : Int) := of_decide_eq_true (by first | (with_reducible assumption) | assumption)
                      have q103 : x7_1 < (l0.length : Int) := of_decide_eq_true (by first | (with_reducible assumption) | assumption)
                      obtain ⟨ad103, e103, hx103_0, hx103_1, hx103_2, hx103_3⟩ := at_T31 HR0.out x7_1 p103 q103
                      obtain rfl : ad101 = ad103 := (by injection e103)
                      replace p103 := eq_true p103
                      replace q103 := eq_true q103
                      have p104 : 0 ≤ (x7_1 : Int) := of_decide_eq_true (by first | (with_reducible assumption) | assumption)
                      have q104 : x7_1 < (l1.length : Int) := of_decide_eq_true (by first | (with_reducible assumption) | assumption)
                      obtain ⟨ad104, e104, hx104_0, hx104_1, hx104_2, hx104_3⟩ := at_T31 HR1.out x7_1 p104 q104
                      obtain rfl : ad102 = ad104 := (by injection e104)
                      replace p104 := eq_true p104
                      replace q104 := eq_true q104
                      have p105 : 0 ≤ (x7_1 : Int) := of_decide_eq_true (by first | (with_reducible assumption) | assumption)
                      have q105 : x7_1 < (l0.length : Int) := of_decide_eq_true (by first | (with_reducible assumption) | assumption)
                      obtain ⟨ad105, e105, hx105_0, hx105_1, hx105_2, hx105_3⟩ := at_T31 HR0.out x7_1 p105 q105
                      obtain rfl : ad101 = ad105 := (by injection e105)
                      replace p105 := eq_true p105
                      replace q105 := eq_true q105
                      have p106 : 0 ≤ (x7_1 : Int) := of_decide_eq_true (by first | (with_reducible assumption) | assumption)
                      have q106 : x7_1 < (l1.length : Int) := of_decide_eq_true (by first | (with_reducible assumption) | assumption)
                      obtain ⟨ad106, e106, hx106_0, hx106_1, hx106_2, hx106_3⟩ := at_T31 HR1.out x7_1 p106 q106
                      obtain rfl : ad102 = ad106 := (by injection e106)
                      replace p106 := eq_true p106
                      replace q106 := eq_true q106
                      have p107 : 0 ≤ (x7_1 : Int) := of_decide_eq_true (by first | (with_reducible assumption) | assumption)
                      have q107 : x7_1 < (l0.length : Int) := of_decide_eq_true (by first | (with_reducible assumption) | assumption)
                      obtain ⟨ad107, e107, hx107_0, hx107_1, hx107_2, hx107_3⟩ := at_T31 HR0.out x7_1 p107 q107
                      obtain rfl : ad101 = ad107 := (by injection e107)
                      replace p107 := eq_true p107
                      replace q107 := eq_true q107
                      have p108 : 0 ≤ (x7_1 : Int) := of_decide_eq_true (by first | (with_reducible assumption) | assumption)
                      have q108 : x7_1 < (l1.length : Int) := of_decide_eq_true (by first | (with_reducible assumption) | assumption)
                      obtain ⟨ad108, e108, hx108_0, hx108_1, hx108_2, hx108_3⟩ := at_T31 HR1.out x7_1 p108 q108
                      obtain rfl : ad102 = ad108 := (by injection e108)
                      replace p108 := eq_true p108
                      replace q108 := eq_true q108
                      go_wp2
                      repeat (go_quiet (fail); try go_wp2)
                      go_roundg k1
                      case measure => have := HK1.out; omega
                      case rel => exact ⟨(wrap64 (x7_1 + 1)), (by first | rfl | (simp; done) | (simp [*]; done)), H', ⟨by have := HK1.out; omega⟩, by repeat (first | exact Drawn0.refl _ | apply Drawn0.step)⟩
                    · rw [if_neg c11] at H
                      have c11b0 : ((wrap64 (((rd_T31 l0 x7_1).f3) + a2)) == ((rd_T31 l1 x7_1).f3)) = false := beq_eq_false_iff_ne.mpr c11
                      have c11b1 : ((wrap64 (((rd_T31 l0 x7_1).f3) + a2)) != ((rd_T31 l1 x7_1).f3)) = true := bne_iff_ne.mpr c11
                      obtain rfl := Option.some.inj H
                      have p101 : 0 ≤ (x7_1 : Int) := of_decide_eq_true (by first | (with_reducible assumption) | assumption)
                      have q101 : x7_1 < (l0.length : Int) := of_decide_eq_true (by first | (with_reducible assumption) | assumption)
                      obtain ⟨ad101, e101, hx101_0, hx101_1, hx101_2, hx101_3⟩ := at_T31 HR0.out x7_1 p101 q101
                      cases e101
                      replace p101 := eq_true p101
                      replace q101 := eq_true q101
                      have p102 : 0 ≤ (x7_1 : Int) := of_decide_eq_true (by first | (with_reducible assumption) | assumption)
                      have q102 : x7_1 < (l1.length : Int) := of_decide_eq_true (by first | (with_reducible assumption) | assumption)
                      obtain ⟨ad102, e102, hx102_0, hx102_1, hx102_2, hx102_3⟩ := at_T31 HR1.out x7_1 p102 q102
                      cases e102
                      replace p102 := eq_true p102
                      replace q102 := eq_true q102
                      have p103 : 0 ≤ (x7_1 : Int) := of_decide_eq_true (by first | (with_reducible assumption) | assumption)
                      have q103 : x7_1 < (l0.length : Int) := of_decide_eq_true (by first | (with_reducible assumption) | assumption)
                      obtain ⟨ad103, e103, hx103_0, hx103_1, hx103_2, hx103_3⟩ := at_T31 HR0.out x7_1 p103 q103
                      obtain rfl : ad101 = ad103 := (by injection e103)
                      replace p103 := eq_true p103
                      replace q103 := eq_true q103
                      have p104 : 0 ≤ (x7_1 : Int) := of_decide_eq_true (by first | (with_reducible assumption) | assumption)
                      have q104 : x7_1 < (l1.length : Int) := of_decide_eq_true (by first | (with_reducible assumption) | assumption)
                      obtain ⟨ad104, e104, hx104_0, hx104_1, hx104_2, hx104_3⟩ := at_T31 HR1.out x7_1 p104 q104
                      obtain rfl : ad102 = ad104 := (by injection e104)
                      replace p104 := eq_true p104
                      replace q104 := eq_true q104
                      have p105 : 0 ≤ (x7_1 : Int) := of_decide_eq_true (by first | (with_reducible assumption) | assumption)
                      have q105 : x7_1 < (l0.length : Int) := of_decide_eq_true (by first | (with_reducible assumption) | assumption)
                      obtain ⟨ad105, e105, hx105_0, hx105_1, hx105_2, hx105_3⟩ := at_T31 HR0.out x7_1 p105 q105
                      obtain rfl : ad101 = ad105 := (by injection e105)
                      replace p105 := eq_true p105
                      replace q105 := eq_true q105
                      have p106 : 0 ≤ (x7_1 : Int) := of_decide_eq_true (by first | (with_reducible assumption) | assumption)
                      have q106 : x7_1 < (l1.length : Int) := of_decide_eq_true (by first | (with_reducible assumption) | assumption)
                      obtain ⟨ad106, e106, hx106_0, hx106_1, hx106_2, hx106_3⟩ := at_T31 HR1.out x7_1 p106 q106
                      obtain rfl : ad102 = ad106 := (by injection e106)
                      replace p106 := eq_true p106
                      replace q106 := eq_true q106
                      have p107 : 0 ≤ (x7_1 : Int) := of_decide_eq_true (by first | (with_reducible assumption) | assumption)
                      have q107 : x7_1 < (l0.length : Int) := of_decide_eq_true (by first | (with_reducible assumption) | assumption)
                      obtain ⟨ad107, e107, hx107_0, hx107_1, hx107_2, hx107_3⟩ := at_T31 HR0.out x7_1 p107 q107
                      obtain rfl : ad101 = ad107 := (by injection e107)
                      replace p107 := eq_true p107
                      replace q107 := eq_true q107
                      have p108 : 0 ≤ (x7_1 : Int) := of_decide_eq_true (by first | (with_reducible assumption) | assumption)
                      have q108 : x7_1 < (l1.length : Int) := of_decide_eq_true (by first | (with_reducible assumption) | assumption)
                      obtain ⟨ad108, e108, hx108_0, hx108_1, hx108_2, hx108_3⟩ := at_T31 HR1.out x7_1 p108 q108
                      obtain rfl : ad102 = ad108 := (by injection e108)
                      replace p108 := eq_true p108
                      replace q108 := eq_true q108
                      go_wp2
                      repeat (go_quiet (fail); try go_wp2)
                      go_ret
                      exact ⟨by first | rfl | (simp; done) | (simp [*]; done), by repeat (first | exact Drawn0.refl _ | apply Drawn0.step)⟩
                  · rw [if_neg c10] at H
                    have c10b0 : (((rd_T31 l0 x7_1).f2) == ((rd_T31 l1 x7_1).f2)) = false := beq_eq_false_iff_ne.mpr c10
                    have c10b1 : (((rd_T31 l0 x7_1).f2) != ((rd_T31 l1 x7_1).f2)) = true := bne_iff_ne.mpr c10
                    obtain rfl := Option.some.inj H
                    have p101 : 0 ≤ (x7_1 : Int) := of_decide_eq_true (by first | (with_reducible assumption) | assumption)
                    have q101 : x7_1 < (l0.length : Int) := of_decide_eq_true (by first | (with_reducible assumption) | assumption)
                    obtain ⟨ad101, e101, hx101_0, hx101_1, hx101_2, hx101_3⟩ := at_T31 HR0.out x7_1 p101 q101
                    cases e101
                    replace p101 := eq_true p101
                    replace q101 := eq_true q101
                    have p102 : 0 ≤ (x7_1 : Int) := of_decide_eq_true (by first | (with_reducible assumption) | assumption)
                    have q102 : x7_1 < (l1.length : Int) := of_decide_eq_true (by first | (with_reducible assumption) | assumption)
                    obtain ⟨ad102, e102, hx102_0, hx102_1, hx102_2, hx102_3⟩ := at_T31 HR1.out x7_1 p102 q102
                    cases e102
                    replace p102 := eq_true p102
                    replace q102 := eq_true q102
                    have p103 : 0 ≤ (x7_1 : Int) := of_decide_eq_true (by first | (with_reducible assumption) | assumption)
                    have q103 : x7_1 < (l0.length : Int) := of_decide_eq_true (by first | (with_reducible assumption) | assumption)
                    obtain ⟨ad103, e103, hx103_0, hx103_1, hx103_2, hx103_3⟩ := at_T31 HR0.out x7_1 p103 q103
                    obtain rfl : ad101 = ad103 := (by injection e103)
                    replace p103 := eq_true p103
                    replace q103 := eq_true q103
                    have p104 : 0 ≤ (x7_1 : Int) := of_decide_eq_true (by first | (with_reducible assumption) | assumption)
                    have q104 : x7_1 < (l1.length : Int) := of_decide_eq_true (by first | (with_reducible assumption) | assumption)
                    obtain ⟨ad104, e104, hx104_0, hx104_1, hx104_2, hx104_3⟩ := at_T31 HR1.out x7_1 p104 q104
                    obtain rfl : ad102 = ad104 := (by injection e104)
                    replace p104 := eq_true p104
                    replace q104 := eq_true q104
                    have p105 : 0 ≤ (x7_1 : Int) := of_decide_eq_true (by first | (with_reducible assumption) | assumption)
                    have q105 : x7_1 < (l0.length : Int) := of_decide_eq_true (by first | (with_reducible assumption) | assumption)
                    obtain ⟨ad105, e105, hx105_0, hx105_1, hx105_2, hx105_3⟩ := at_T31 HR0.out x7_1 p105 q105
                    obtain rfl : ad101 = ad105 := (by injection e105)
                    replace p105 := eq_true p105
                    replace q105 := eq_true q105
                    have p106 : 0 ≤ (x7_1 : Int) := of_decide_eq_true (by first | (with_reducible assumption) | assumption)
                    have q106 : x7_1 < (l1.length : Int) := of_decide_eq_true (by first | (with_reducible assumption) | assumption)
                    obtain ⟨ad106, e106, hx106_0, hx106_1, hx106_2, hx106_3⟩ := at_T31 HR1.out x7_1 p106 q106
                    obtain rfl : ad102 = ad106 := (by injection e106)
                    replace p106 := eq_true p106
                    replace q106 := eq_true q106
                    go_wp2
                    repeat (go_quiet (fail); try go_wp2)
                    go_ret
                    exact ⟨by first | rfl | (simp; done) | (simp [*]; done), by repeat (first | exact Drawn0.refl _ | apply Drawn0.step)⟩
                · rw [if_neg c9] at H
                  have c9b0 : (((rd_T31 l0 x7_1).f1).toList == ((rd_T31 l1 x7_1).f1).toList) = false := beq_eq_false_iff_ne.mpr c9
                  have c9b1 : (((rd_T31 l0 x7_1).f1).toList != ((rd_T31 l1 x7_1).f1).toList) = true := bne_iff_ne.mpr c9
                  obtain rfl := Option.some.inj H
                  have p101 : 0 ≤ (x7_1 : Int) := of_decide_eq_true (by first | (with_reducible assumption) | assumption)
                  have q101 : x7_1 < (l0.length : Int) := of_decide_eq_true (by first | (with_reducible assumption) | assumption)
                  obtain ⟨ad101, e101, hx101_0, hx101_1, hx101_2, hx101_3⟩ := at_T31 HR0.out x7_1 p101 q101
                  cases e101
                  replace p101 := eq_true p101
                  replace q101 := eq_true q101
                  have p102 : 0 ≤ (x7_1 : Int) := of_decide_eq_true (by first | (with_reducible assumption) | assumption)
                  have q102 : x7_1 < (l1.length : Int) := of_decide_eq_true (by first | (with_reducible assumption) | assumption)
                  obtain ⟨ad102, e102, hx102_0, hx102_1, hx102_2, hx102_3⟩ := at_T31 HR1.out x7_1 p102 q102
                  cases e102
                  replace p102 := eq_true p102
                  replace q102 := eq_true q102
                  have p103 : 0 ≤ (x7_1 : Int) := of_decide_eq_true (by first | (with_reducible assumption) | assumption)
                  have q103 : x7_1 < (l0.length : Int) := of_decide_eq_true (by first | (with_reducible assumption) | assumption)
                  obtain ⟨ad103, e103, hx103_0, hx103_1, hx103_2, hx103_3⟩ := at_T31 HR0.out x7_1 p103 q103
                  obtain rfl : ad101 = ad103 := (by injection e103)
                  replace p103 := eq_true p103
                  replace q103 := eq_true q103
                  have p104 : 0 ≤ (x7_1 : Int) := of_decide_eq_true (by first | (with_reducible assumption) | assumption)
                  have q104 : x7_1 < (l1.length : Int) := of_decide_eq_true (by first | (with_reducible assumption) | assumption)
                  obtain ⟨ad104, e104, hx104_0, hx104_1, hx104_2, hx104_3⟩ := at_T31 HR1.out x7_1 p104 q104
                  obtain rfl : ad102 = ad104 := (by injection e104)
                  replace p104 := eq_true p104
                  replace q104 := eq_true q104
                  go_wp2
                  repeat (go_quiet (fail); try go_wp2)
                  go_ret
                  exact ⟨by first | rfl | (simp; done) | (simp [*]; done), by repeat (first | exact Drawn0.refl _ | apply Drawn0.step)⟩
              · rw [if_neg c8] at H
                have c8b0 : (((rd_T31 l0 x7_1).f0) == ((rd_T31 l1 x7_1).f0)) = false := beq_eq_false_iff_ne.mpr c8
                have c8b1 : (((rd_T31 l0 x7_1).f0) != ((rd_T31 l1 x7_1).f0)) = true := bne_iff_ne.mpr c8
                obtain rfl := Option.some.inj H
                have p101 : 0 ≤ (x7_1 : Int) := of_decide_eq_true (by first | (with_reducible assumption) | assumption)
                have q101 : x7_1 < (l0.length : Int) := of_decide_eq_true (by first | (with_reducible assumption) | assumption)
                obtain ⟨ad101, e101, hx101_0, hx101_1, hx101_2, hx101_3⟩ := at_T31 HR0.out x7_1 p101 q101
                cases e101
                replace p101 := eq_true p101
                replace q101 := eq_true q101
                have p102 : 0 ≤ (x7_1 : Int) := of_decide_eq_true (by first | (with_reducible assumption) | assumption)
                have q102 : x7_1 < (l1.length : Int) := of_decide_eq_true (by first | (with_reducible assumption) | assumption)
                obtain ⟨ad102, e102, hx102_0, hx102_1, hx102_2, hx102_3⟩ := at_T31 HR1.out x7_1 p102 q102
                cases e102
                replace p102 := eq_true p102
                replace q102 := eq_true q102
                go_wp2
                repeat (go_quiet (fail); try go_wp2)
                go_ret
                exact ⟨by first | rfl | (simp; done) | (simp [*]; done), by repeat (first | exact Drawn0.refl _ | apply Drawn0.step)⟩
            · rw [if_neg c7] at H
              exact absurd H (by simp)
          · rw [if_neg c6] at H
            exact absurd H (by simp)
        · rw [if_neg c5] at H
          have c5b0 : decide (x7_1 < (l0.length : Int)) = false := decide_eq_false c5
          clear c5
          obtain rfl := Option.some.inj H
          go_wp2
          repeat (go_quiet (fail); try go_wp2)
          go_ret
          exact ⟨by first | rfl | (simp; done) | (simp [*]; done), by repeat (first | exact Drawn0.refl _ | apply Drawn0.step)⟩
  · rw [if_neg c4] at H
    have c4b0 : ((l0.length : Int) == (l1.length : Int)) = false := beq_eq_false_iff_ne.mpr c4
    have c4b1 : ((l0.length : Int) != (l1.length : Int)) = true := bne_iff_ne.mpr c4
    have c4b2 : (l0.length == l1.length) = false := by first | simpa using c4 | (simp at c4 ⊢; omega)
    obtain rfl := Option.some.inj H
    go_enter Tryd.func12, Tryd.ntmps12
    go_wp2
    repeat (go_quiet (fail); try go_wp2)
    go_ret
    exact ⟨by first | rfl | (simp; done) | (simp [*]; done), by repeat (first | exact Drawn0.refl _ | apply Drawn0.step)⟩

/-! ### slotmeshlaw01_fails: function 18 -/
def slotmeshlaw01_fails.f (a0 : ByteArray) (a1 : Int) (a2 : Int) : Option (Bool) := (lexer_Lex.f a0).bind fun bt109 => (if (bt109.1.length : Int) = 0 then (if bt109.2.1 = a1 then (some (bt109.2.2 == a2)) else (some false)) else (some false))
set_option maxHeartbeats 8000000 in
set_option maxRecDepth 100000 in
theorem slotmeshlaw01_fails.calls (a0 : ByteArray) (a1 : Int) (a2 : Int) (r : Bool) (w : World) (hG : Aside0 (Lx.GOK w)) (h : slotmeshlaw01_fails.f a0 a1 a2 = some r) :
    Calls Tryd.prog 18 #[.string a0, .int .i64 a1, .int .i64 a2] w fun e w' => e = .returned (.bool r) ∧ Below w.heap.size w w' := by
  have HB := Aside0.mk (Below.refl w.heap.size w)
  have H : ((lexer_Lex.f a0).bind fun bt109 => (if (bt109.1.length : Int) = 0 then (if bt109.2.1 = a1 then (some (bt109.2.2 == a2)) else (some false)) else (some false))) = some r := h
  clear h
  replace H := Option.bind_eq_some_iff.mp H
  obtain ⟨⟨t109, t110, t111⟩, A40, H⟩ := H
  replace H : (if (t109.length : Int) = 0 then (if t110 = a1 then (some (t111 == a2)) else (some false)) else (some false)) = some r := H
  have A4 := Aside0.mk A40
  clear A40
  by_cases c5 : (t109.length : Int) = 0
  · rw [if_pos c5] at H
    have c5b0 : ((t109.length : Int) == 0) = true := beq_iff_eq.mpr c5
    have c5b1 : ((t109.length : Int) != 0) = false := bne_eq_false_iff_eq.mpr c5
    clear c5
    by_cases c6 : t110 = a1
    · rw [if_pos c6] at H
      have c6b0 : (t110 == a1) = true := beq_iff_eq.mpr c6
      have c6b1 : (t110 != a1) = false := bne_eq_false_iff_eq.mpr c6
      clear c6
      obtain rfl := Option.some.inj H
      go_enter Tryd.func18, Tryd.ntmps18
      go_wp2_with (first | ((with_reducible refine gate_callee (f := 10) rfl ?_); refine goesL_ (some 12) rfl rfl Tryd.func10 (by kernel_rfl) rfl #[.string a0] rfl (by (try simp only [List.map_toArray, List.map_cons, List.map_nil]); first | done | rfl | (simp only [List.length_drop, List.length_take]; rfl) | (simp (disch := omega) only [IntWalk.wrap64_in]; done)) ?_; (with_reducible refine (lexer_Lex.calls a0 t109 t110 t111 _ ?side1 A4.out).mono ?_); (case side1 => exact Lx.GOK.aside hG (by repeat (first | (with_reducible first | exact HB.out | apply below_alloc | apply pw_below_drewN | apply below_drew1) | exact HB.out))); rintro e w7 ⟨v112, rfl, ho0, hb⟩; refine ⟨_, rfl, ?_⟩; have n0_ := Aside0.mk (Kd.R_lower ho0 (below_size (by repeat (first | (with_reducible first | exact HB.out | apply below_alloc | apply pw_below_drewN | apply below_drew1) | exact HB.out)))); have n1_ := Aside0.mk (below_step (by repeat (first | (with_reducible first | exact HB.out | apply below_alloc | apply pw_below_drewN | apply below_drew1) | exact HB.out)) hb); clear HB; have HO113 := n0_; have HB := n1_; clear n0_ n1_; (try clear hb); (try clear hb2); (try clear hk); (try clear hi); (try clear ho0); obtain ⟨Ao8, co8, eo8⟩ := Kd.R_slice HO113.out; subst eo8))
      go_ret
      exact ⟨by first | rfl | (simp [errW_none, errW_some] <;> rfl) | (simp [*, errW_none, errW_some] <;> rfl), by repeat (first | (with_reducible first | exact HB.out | apply below_alloc | apply pw_below_drewN | apply below_drew1) | exact HB.out)⟩
    · rw [if_neg c6] at H
      have c6b0 : (t110 == a1) = false := beq_eq_false_iff_ne.mpr c6
      have c6b1 : (t110 != a1) = true := bne_iff_ne.mpr c6
      obtain rfl := Option.some.inj H
      go_enter Tryd.func18, Tryd.ntmps18
      go_wp2_with (first | ((with_reducible refine gate_callee (f := 10) rfl ?_); refine goesL_ (some 12) rfl rfl Tryd.func10 (by kernel_rfl) rfl #[.string a0] rfl (by (try simp only [List.map_toArray, List.map_cons, List.map_nil]); first | done | rfl | (simp only [List.length_drop, List.length_take]; rfl) | (simp (disch := omega) only [IntWalk.wrap64_in]; done)) ?_; (with_reducible refine (lexer_Lex.calls a0 t109 t110 t111 _ ?side1 A4.out).mono ?_); (case side1 => exact Lx.GOK.aside hG (by repeat (first | (with_reducible first | exact HB.out | apply below_alloc | apply pw_below_drewN | apply below_drew1) | exact HB.out))); rintro e w9 ⟨v112, rfl, ho0, hb⟩; refine ⟨_, rfl, ?_⟩; have n0_ := Aside0.mk (Kd.R_lower ho0 (below_size (by repeat (first | (with_reducible first | exact HB.out | apply below_alloc | apply pw_below_drewN | apply below_drew1) | exact HB.out)))); have n1_ := Aside0.mk (below_step (by repeat (first | (with_reducible first | exact HB.out | apply below_alloc | apply pw_below_drewN | apply below_drew1) | exact HB.out)) hb); clear HB; have HO113 := n0_; have HB := n1_; clear n0_ n1_; (try clear hb); (try clear hb2); (try clear hk); (try clear hi); (try clear ho0); obtain ⟨Ao10, co10, eo10⟩ := Kd.R_slice HO113.out; subst eo10))
      go_ret
      exact ⟨by first | rfl | (simp [errW_none, errW_some] <;> rfl) | (simp [*, errW_none, errW_some] <;> rfl), by repeat (first | (with_reducible first | exact HB.out | apply below_alloc | apply pw_below_drewN | apply below_drew1) | exact HB.out)⟩
  · rw [if_neg c5] at H
    have c5b0 : ((t109.length : Int) == 0) = false := beq_eq_false_iff_ne.mpr c5
    have c5b1 : ((t109.length : Int) != 0) = true := bne_iff_ne.mpr c5
    have c5b2 : ¬ (t109 = []) := fun h_ => c5 (by rw [h_]; rfl)
    obtain rfl := Option.some.inj H
    go_enter Tryd.func18, Tryd.ntmps18
    go_wp2_with (first | ((with_reducible refine gate_callee (f := 10) rfl ?_); refine goesL_ (some 12) rfl rfl Tryd.func10 (by kernel_rfl) rfl #[.string a0] rfl (by (try simp only [List.map_toArray, List.map_cons, List.map_nil]); first | done | rfl | (simp only [List.length_drop, List.length_take]; rfl) | (simp (disch := omega) only [IntWalk.wrap64_in]; done)) ?_; (with_reducible refine (lexer_Lex.calls a0 t109 t110 t111 _ ?side1 A4.out).mono ?_); (case side1 => exact Lx.GOK.aside hG (by repeat (first | (with_reducible first | exact HB.out | apply below_alloc | apply pw_below_drewN | apply below_drew1) | exact HB.out))); rintro e w11 ⟨v112, rfl, ho0, hb⟩; refine ⟨_, rfl, ?_⟩; have n0_ := Aside0.mk (Kd.R_lower ho0 (below_size (by repeat (first | (with_reducible first | exact HB.out | apply below_alloc | apply pw_below_drewN | apply below_drew1) | exact HB.out)))); have n1_ := Aside0.mk (below_step (by repeat (first | (with_reducible first | exact HB.out | apply below_alloc | apply pw_below_drewN | apply below_drew1) | exact HB.out)) hb); clear HB; have HO113 := n0_; have HB := n1_; clear n0_ n1_; (try clear hb); (try clear hb2); (try clear hk); (try clear hi); (try clear ho0); obtain ⟨Ao12, co12, eo12⟩ := Kd.R_slice HO113.out; subst eo12))
    go_ret
    exact ⟨by first | rfl | (simp [errW_none, errW_some] <;> rfl) | (simp [*, errW_none, errW_some] <;> rfl), by repeat (first | (with_reducible first | exact HB.out | apply below_alloc | apply pw_below_drewN | apply below_drew1) | exact HB.out)⟩

/-! ### slotmeshlaw01_head: function 9 -/
def slotmeshlaw01_head.f (k : Nat)  : Option (Bool) := (lexer_Lex.f (⟨#[97, 116, 32, 55, 48, 32, 114, 101, 97, 100, 32, 110, 49, 59]⟩ : ByteArray)).bind fun bt114 => ((lexer_Lex.f (⟨#[49, 50, 97, 98, 59, 35, 32, 120]⟩ : ByteArray)).bind fun bt119 => (if bt114.2.1 = 0 then (if bt119.2.1 = 0 then ((slotmeshlaw01_fails.f (⟨#[114, 117, 110, 32, 48, 48, 55]⟩ : ByteArray) 7 4).bind fun t124 => (if t124 = true then ((slotmeshlaw01_fails.f (⟨#[114, 117, 110, 32, 49, 48, 48, 48, 48, 48, 48, 48, 48, 49]⟩ : ByteArray) 3 4).bind fun t125 => (if t125 = true then ((slotmeshlaw01_fails.f (⟨#[109, 101, 115, 104, 44, 32]⟩ : ByteArray) 7 4).bind fun t126 => (if t126 = true then ((slotmeshlaw01_fails.f (⟨#[97, 32, 97, 98, 99, 100, 101, 102, 103, 104, 105, 106, 107, 108, 109]⟩ : ByteArray) 3 2).bind fun t127 => (if t127 = true then ((slotmeshref01_Same.f k bt114.1 (([(⟨1, (⟨#[97, 116]⟩ : ByteArray), 0, 0⟩ : S31), (⟨2, (⟨#[]⟩ : ByteArray), 70, 3⟩ : S31), (⟨1, (⟨#[114, 101, 97, 100]⟩ : ByteArray), 0, 6⟩ : S31), (⟨1, (⟨#[110, 49]⟩ : ByteArray), 0, 11⟩ : S31), (⟨3, (⟨#[59]⟩ : ByteArray), 0, 13⟩ : S31)] : List (S31))) 0).bind fun t131 => (if t131 = true then ((slotmeshref01_Same.f k bt119.1 (([(⟨2, (⟨#[]⟩ : ByteArray), 12, 0⟩ : S31), (⟨1, (⟨#[97, 98]⟩ : ByteArray), 0, 2⟩ : S31), (⟨3, (⟨#[59]⟩ : ByteArray), 0, 4⟩ : S31)] : List (S31))) 0).bind fun t135 => (some t135)) else (some false))) else (some false))) else (some false))) else (some false))) else (some false))) else (some false)) else (some false)))
theorem slotmeshlaw01_head.mono : ∀ k, LeO (slotmeshlaw01_head.f k ) (slotmeshlaw01_head.f (k + 1) ) := by
  intro  k
  unfold slotmeshlaw01_head.f
  repeat' first
      | (with_reducible exact slotmeshref01_Same.mono _ _ _ _)
      | (with_reducible exact LeO.refl _)
      | (with_reducible exact LeO.none _)
      | (with_reducible refine LeO.ite ?_ ?_)
      | (with_reducible refine LeO.bind ?_ (fun _ => ?_))
      | exact slotmeshref01_Same.mono _ _ _ _
      | exact LeO.none _
      | refine LeO.ite ?_ ?_
      | refine LeO.bind ?_ (fun _ => ?_)
set_option maxHeartbeats 8000000 in
set_option maxRecDepth 100000 in
theorem slotmeshlaw01_head.calls (k : Nat)  (r : Bool) (w : World) (hG : Aside0 (Lx.GOK w)) (h : slotmeshlaw01_head.f k  = some r) :
    Calls Tryd.prog 9 #[] w fun e w' => e = .returned (.bool r) ∧ Below w.heap.size w w' := by
  have hu31 := Tryd.underlying31
  have HB := Aside0.mk (Below.refl w.heap.size w)
  have H : ((lexer_Lex.f (⟨#[97, 116, 32, 55, 48, 32, 114, 101, 97, 100, 32, 110, 49, 59]⟩ : ByteArray)).bind fun bt114 => ((lexer_Lex.f (⟨#[49, 50, 97, 98, 59, 35, 32, 120]⟩ : ByteArray)).bind fun bt119 => (if bt114.2.1 = 0 then (if bt119.2.1 = 0 then ((slotmeshlaw01_fails.f (⟨#[114, 117, 110, 32, 48, 48, 55]⟩ : ByteArray) 7 4).bind fun t124 => (if t124 = true then ((slotmeshlaw01_fails.f (⟨#[114, 117, 110, 32, 49, 48, 48, 48, 48, 48, 48, 48, 48, 49]⟩ : ByteArray) 3 4).bind fun t125 => (if t125 = true then ((slotmeshlaw01_fails.f (⟨#[109, 101, 115, 104, 44, 32]⟩ : ByteArray) 7 4).bind fun t126 => (if t126 = true then ((slotmeshlaw01_fails.f (⟨#[97, 32, 97, 98, 99, 100, 101, 102, 103, 104, 105, 106, 107, 108, 109]⟩ : ByteArray) 3 2).bind fun t127 => (if t127 = true then ((slotmeshref01_Same.f k bt114.1 (([(⟨1, (⟨#[97, 116]⟩ : ByteArray), 0, 0⟩ : S31), (⟨2, (⟨#[]⟩ : ByteArray), 70, 3⟩ : S31), (⟨1, (⟨#[114, 101, 97, 100]⟩ : ByteArray), 0, 6⟩ : S31), (⟨1, (⟨#[110, 49]⟩ : ByteArray), 0, 11⟩ : S31), (⟨3, (⟨#[59]⟩ : ByteArray), 0, 13⟩ : S31)] : List (S31))) 0).bind fun t131 => (if t131 = true then ((slotmeshref01_Same.f k bt119.1 (([(⟨2, (⟨#[]⟩ : ByteArray), 12, 0⟩ : S31), (⟨1, (⟨#[97, 98]⟩ : ByteArray), 0, 2⟩ : S31), (⟨3, (⟨#[59]⟩ : ByteArray), 0, 4⟩ : S31)] : List (S31))) 0).bind fun t135 => (some t135)) else (some false))) else (some false))) else (some false))) else (some false))) else (some false))) else (some false)) else (some false)))) = some r := h
  clear h
  replace H := Option.bind_eq_some_iff.mp H
  obtain ⟨⟨t114, t115, t116⟩, A10, H⟩ := H
  replace H : ((lexer_Lex.f (⟨#[49, 50, 97, 98, 59, 35, 32, 120]⟩ : ByteArray)).bind fun bt119 => (if t115 = 0 then (if bt119.2.1 = 0 then ((slotmeshlaw01_fails.f (⟨#[114, 117, 110, 32, 48, 48, 55]⟩ : ByteArray) 7 4).bind fun t124 => (if t124 = true then ((slotmeshlaw01_fails.f (⟨#[114, 117, 110, 32, 49, 48, 48, 48, 48, 48, 48, 48, 48, 49]⟩ : ByteArray) 3 4).bind fun t125 => (if t125 = true then ((slotmeshlaw01_fails.f (⟨#[109, 101, 115, 104, 44, 32]⟩ : ByteArray) 7 4).bind fun t126 => (if t126 = true then ((slotmeshlaw01_fails.f (⟨#[97, 32, 97, 98, 99, 100, 101, 102, 103, 104, 105, 106, 107, 108, 109]⟩ : ByteArray) 3 2).bind fun t127 => (if t127 = true then ((slotmeshref01_Same.f k t114 (([(⟨1, (⟨#[97, 116]⟩ : ByteArray), 0, 0⟩ : S31), (⟨2, (⟨#[]⟩ : ByteArray), 70, 3⟩ : S31), (⟨1, (⟨#[114, 101, 97, 100]⟩ : ByteArray), 0, 6⟩ : S31), (⟨1, (⟨#[110, 49]⟩ : ByteArray), 0, 11⟩ : S31), (⟨3, (⟨#[59]⟩ : ByteArray), 0, 13⟩ : S31)] : List (S31))) 0).bind fun t131 => (if t131 = true then ((slotmeshref01_Same.f k bt119.1 (([(⟨2, (⟨#[]⟩ : ByteArray), 12, 0⟩ : S31), (⟨1, (⟨#[97, 98]⟩ : ByteArray), 0, 2⟩ : S31), (⟨3, (⟨#[59]⟩ : ByteArray), 0, 4⟩ : S31)] : List (S31))) 0).bind fun t135 => (some t135)) else (some false))) else (some false))) else (some false))) else (some false))) else (some false))) else (some false)) else (some false))) = some r := H
  have A1 := Aside0.mk A10
  clear A10
  replace H := Option.bind_eq_some_iff.mp H
  obtain ⟨⟨t119, t120, t121⟩, A20, H⟩ := H
  replace H : (if t115 = 0 then (if t120 = 0 then ((slotmeshlaw01_fails.f (⟨#[114, 117, 110, 32, 48, 48, 55]⟩ : ByteArray) 7 4).bind fun t124 => (if t124 = true then ((slotmeshlaw01_fails.f (⟨#[114, 117, 110, 32, 49, 48, 48, 48, 48, 48, 48, 48, 48, 49]⟩ : ByteArray) 3 4).bind fun t125 => (if t125 = true then ((slotmeshlaw01_fails.f (⟨#[109, 101, 115, 104, 44, 32]⟩ : ByteArray) 7 4).bind fun t126 => (if t126 = true then ((slotmeshlaw01_fails.f (⟨#[97, 32, 97, 98, 99, 100, 101, 102, 103, 104, 105, 106, 107, 108, 109]⟩ : ByteArray) 3 2).bind fun t127 => (if t127 = true then ((slotmeshref01_Same.f k t114 (([(⟨1, (⟨#[97, 116]⟩ : ByteArray), 0, 0⟩ : S31), (⟨2, (⟨#[]⟩ : ByteArray), 70, 3⟩ : S31), (⟨1, (⟨#[114, 101, 97, 100]⟩ : ByteArray), 0, 6⟩ : S31), (⟨1, (⟨#[110, 49]⟩ : ByteArray), 0, 11⟩ : S31), (⟨3, (⟨#[59]⟩ : ByteArray), 0, 13⟩ : S31)] : List (S31))) 0).bind fun t131 => (if t131 = true then ((slotmeshref01_Same.f k t119 (([(⟨2, (⟨#[]⟩ : ByteArray), 12, 0⟩ : S31), (⟨1, (⟨#[97, 98]⟩ : ByteArray), 0, 2⟩ : S31), (⟨3, (⟨#[59]⟩ : ByteArray), 0, 4⟩ : S31)] : List (S31))) 0).bind fun t135 => (some t135)) else (some false))) else (some false))) else (some false))) else (some false))) else (some false))) else (some false)) else (some false)) = some r := H
  have A2 := Aside0.mk A20
  clear A20
  by_cases c3 : t115 = 0
  · rw [if_pos c3] at H
    have c3b0 : (t115 == 0) = true := beq_iff_eq.mpr c3
    have c3b1 : (t115 != 0) = false := bne_eq_false_iff_eq.mpr c3
    clear c3
    by_cases c4 : t120 = 0
    · rw [if_pos c4] at H
      have c4b0 : (t120 == 0) = true := beq_iff_eq.mpr c4
      have c4b1 : (t120 != 0) = false := bne_eq_false_iff_eq.mpr c4
      clear c4
      replace H := Option.bind_eq_some_iff.mp H
      obtain ⟨t124, A50, H⟩ := H
      replace H : (if t124 = true then ((slotmeshlaw01_fails.f (⟨#[114, 117, 110, 32, 49, 48, 48, 48, 48, 48, 48, 48, 48, 49]⟩ : ByteArray) 3 4).bind fun t125 => (if t125 = true then ((slotmeshlaw01_fails.f (⟨#[109, 101, 115, 104, 44, 32]⟩ : ByteArray) 7 4).bind fun t126 => (if t126 = true then ((slotmeshlaw01_fails.f (⟨#[97, 32, 97, 98, 99, 100, 101, 102, 103, 104, 105, 106, 107, 108, 109]⟩ : ByteArray) 3 2).bind fun t127 => (if t127 = true then ((slotmeshref01_Same.f k t114 (([(⟨1, (⟨#[97, 116]⟩ : ByteArray), 0, 0⟩ : S31), (⟨2, (⟨#[]⟩ : ByteArray), 70, 3⟩ : S31), (⟨1, (⟨#[114, 101, 97, 100]⟩ : ByteArray), 0, 6⟩ : S31), (⟨1, (⟨#[110, 49]⟩ : ByteArray), 0, 11⟩ : S31), (⟨3, (⟨#[59]⟩ : ByteArray), 0, 13⟩ : S31)] : List (S31))) 0).bind fun t131 => (if t131 = true then ((slotmeshref01_Same.f k t119 (([(⟨2, (⟨#[]⟩ : ByteArray), 12, 0⟩ : S31), (⟨1, (⟨#[97, 98]⟩ : ByteArray), 0, 2⟩ : S31), (⟨3, (⟨#[59]⟩ : ByteArray), 0, 4⟩ : S31)] : List (S31))) 0).bind fun t135 => (some t135)) else (some false))) else (some false))) else (some false))) else (some false))) else (some false)) = some r := H
      have A5 := Aside0.mk A50
      clear A50
      by_cases c6 : t124 = true
      · subst c6
        have H1 : ((slotmeshlaw01_fails.f (⟨#[114, 117, 110, 32, 49, 48, 48, 48, 48, 48, 48, 48, 48, 49]⟩ : ByteArray) 3 4).bind fun t125 => (if t125 = true then ((slotmeshlaw01_fails.f (⟨#[109, 101, 115, 104, 44, 32]⟩ : ByteArray) 7 4).bind fun t126 => (if t126 = true then ((slotmeshlaw01_fails.f (⟨#[97, 32, 97, 98, 99, 100, 101, 102, 103, 104, 105, 106, 107, 108, 109]⟩ : ByteArray) 3 2).bind fun t127 => (if t127 = true then ((slotmeshref01_Same.f k t114 (([(⟨1, (⟨#[97, 116]⟩ : ByteArray), 0, 0⟩ : S31), (⟨2, (⟨#[]⟩ : ByteArray), 70, 3⟩ : S31), (⟨1, (⟨#[114, 101, 97, 100]⟩ : ByteArray), 0, 6⟩ : S31), (⟨1, (⟨#[110, 49]⟩ : ByteArray), 0, 11⟩ : S31), (⟨3, (⟨#[59]⟩ : ByteArray), 0, 13⟩ : S31)] : List (S31))) 0).bind fun t131 => (if t131 = true then ((slotmeshref01_Same.f k t119 (([(⟨2, (⟨#[]⟩ : ByteArray), 12, 0⟩ : S31), (⟨1, (⟨#[97, 98]⟩ : ByteArray), 0, 2⟩ : S31), (⟨3, (⟨#[59]⟩ : ByteArray), 0, 4⟩ : S31)] : List (S31))) 0).bind fun t135 => (some t135)) else (some false))) else (some false))) else (some false))) else (some false))) = some r := by rw [if_pos rfl] at H; exact H
        clear H
        have H := H1
        clear H1
        replace H := Option.bind_eq_some_iff.mp H
        obtain ⟨t125, A70, H⟩ := H
        replace H : (if t125 = true then ((slotmeshlaw01_fails.f (⟨#[109, 101, 115, 104, 44, 32]⟩ : ByteArray) 7 4).bind fun t126 => (if t126 = true then ((slotmeshlaw01_fails.f (⟨#[97, 32, 97, 98, 99, 100, 101, 102, 103, 104, 105, 106, 107, 108, 109]⟩ : ByteArray) 3 2).bind fun t127 => (if t127 = true then ((slotmeshref01_Same.f k t114 (([(⟨1, (⟨#[97, 116]⟩ : ByteArray), 0, 0⟩ : S31), (⟨2, (⟨#[]⟩ : ByteArray), 70, 3⟩ : S31), (⟨1, (⟨#[114, 101, 97, 100]⟩ : ByteArray), 0, 6⟩ : S31), (⟨1, (⟨#[110, 49]⟩ : ByteArray), 0, 11⟩ : S31), (⟨3, (⟨#[59]⟩ : ByteArray), 0, 13⟩ : S31)] : List (S31))) 0).bind fun t131 => (if t131 = true then ((slotmeshref01_Same.f k t119 (([(⟨2, (⟨#[]⟩ : ByteArray), 12, 0⟩ : S31), (⟨1, (⟨#[97, 98]⟩ : ByteArray), 0, 2⟩ : S31), (⟨3, (⟨#[59]⟩ : ByteArray), 0, 4⟩ : S31)] : List (S31))) 0).bind fun t135 => (some t135)) else (some false))) else (some false))) else (some false))) else (some false)) = some r := H
        have A7 := Aside0.mk A70
        clear A70
        by_cases c8 : t125 = true
        · subst c8
          have H1 : ((slotmeshlaw01_fails.f (⟨#[109, 101, 115, 104, 44, 32]⟩ : ByteArray) 7 4).bind fun t126 => (if t126 = true then ((slotmeshlaw01_fails.f (⟨#[97, 32, 97, 98, 99, 100, 101, 102, 103, 104, 105, 106, 107, 108, 109]⟩ : ByteArray) 3 2).bind fun t127 => (if t127 = true then ((slotmeshref01_Same.f k t114 (([(⟨1, (⟨#[97, 116]⟩ : ByteArray), 0, 0⟩ : S31), (⟨2, (⟨#[]⟩ : ByteArray), 70, 3⟩ : S31), (⟨1, (⟨#[114, 101, 97, 100]⟩ : ByteArray), 0, 6⟩ : S31), (⟨1, (⟨#[110, 49]⟩ : ByteArray), 0, 11⟩ : S31), (⟨3, (⟨#[59]⟩ : ByteArray), 0, 13⟩ : S31)] : List (S31))) 0).bind fun t131 => (if t131 = true then ((slotmeshref01_Same.f k t119 (([(⟨2, (⟨#[]⟩ : ByteArray), 12, 0⟩ : S31), (⟨1, (⟨#[97, 98]⟩ : ByteArray), 0, 2⟩ : S31), (⟨3, (⟨#[59]⟩ : ByteArray), 0, 4⟩ : S31)] : List (S31))) 0).bind fun t135 => (some t135)) else (some false))) else (some false))) else (some false))) = some r := by rw [if_pos rfl] at H; exact H
          clear H
          have H := H1
          clear H1
          replace H := Option.bind_eq_some_iff.mp H
          obtain ⟨t126, A90, H⟩ := H
          replace H : (if t126 = true then ((slotmeshlaw01_fails.f (⟨#[97, 32, 97, 98, 99, 100, 101, 102, 103, 104, 105, 106, 107, 108, 109]⟩ : ByteArray) 3 2).bind fun t127 => (if t127 = true then ((slotmeshref01_Same.f k t114 (([(⟨1, (⟨#[97, 116]⟩ : ByteArray), 0, 0⟩ : S31), (⟨2, (⟨#[]⟩ : ByteArray), 70, 3⟩ : S31), (⟨1, (⟨#[114, 101, 97, 100]⟩ : ByteArray), 0, 6⟩ : S31), (⟨1, (⟨#[110, 49]⟩ : ByteArray), 0, 11⟩ : S31), (⟨3, (⟨#[59]⟩ : ByteArray), 0, 13⟩ : S31)] : List (S31))) 0).bind fun t131 => (if t131 = true then ((slotmeshref01_Same.f k t119 (([(⟨2, (⟨#[]⟩ : ByteArray), 12, 0⟩ : S31), (⟨1, (⟨#[97, 98]⟩ : ByteArray), 0, 2⟩ : S31), (⟨3, (⟨#[59]⟩ : ByteArray), 0, 4⟩ : S31)] : List (S31))) 0).bind fun t135 => (some t135)) else (some false))) else (some false))) else (some false)) = some r := H
          have A9 := Aside0.mk A90
          clear A90
          by_cases c10 : t126 = true
          · subst c10
            have H1 : ((slotmeshlaw01_fails.f (⟨#[97, 32, 97, 98, 99, 100, 101, 102, 103, 104, 105, 106, 107, 108, 109]⟩ : ByteArray) 3 2).bind fun t127 => (if t127 = true then ((slotmeshref01_Same.f k t114 (([(⟨1, (⟨#[97, 116]⟩ : ByteArray), 0, 0⟩ : S31), (⟨2, (⟨#[]⟩ : ByteArray), 70, 3⟩ : S31), (⟨1, (⟨#[114, 101, 97, 100]⟩ : ByteArray), 0, 6⟩ : S31), (⟨1, (⟨#[110, 49]⟩ : ByteArray), 0, 11⟩ : S31), (⟨3, (⟨#[59]⟩ : ByteArray), 0, 13⟩ : S31)] : List (S31))) 0).bind fun t131 => (if t131 = true then ((slotmeshref01_Same.f k t119 (([(⟨2, (⟨#[]⟩ : ByteArray), 12, 0⟩ : S31), (⟨1, (⟨#[97, 98]⟩ : ByteArray), 0, 2⟩ : S31), (⟨3, (⟨#[59]⟩ : ByteArray), 0, 4⟩ : S31)] : List (S31))) 0).bind fun t135 => (some t135)) else (some false))) else (some false))) = some r := by rw [if_pos rfl] at H; exact H
            clear H
            have H := H1
            clear H1
            replace H := Option.bind_eq_some_iff.mp H
            obtain ⟨t127, A110, H⟩ := H
            replace H : (if t127 = true then ((slotmeshref01_Same.f k t114 (([(⟨1, (⟨#[97, 116]⟩ : ByteArray), 0, 0⟩ : S31), (⟨2, (⟨#[]⟩ : ByteArray), 70, 3⟩ : S31), (⟨1, (⟨#[114, 101, 97, 100]⟩ : ByteArray), 0, 6⟩ : S31), (⟨1, (⟨#[110, 49]⟩ : ByteArray), 0, 11⟩ : S31), (⟨3, (⟨#[59]⟩ : ByteArray), 0, 13⟩ : S31)] : List (S31))) 0).bind fun t131 => (if t131 = true then ((slotmeshref01_Same.f k t119 (([(⟨2, (⟨#[]⟩ : ByteArray), 12, 0⟩ : S31), (⟨1, (⟨#[97, 98]⟩ : ByteArray), 0, 2⟩ : S31), (⟨3, (⟨#[59]⟩ : ByteArray), 0, 4⟩ : S31)] : List (S31))) 0).bind fun t135 => (some t135)) else (some false))) else (some false)) = some r := H
            have A11 := Aside0.mk A110
            clear A110
            by_cases c12 : t127 = true
            · subst c12
              have H1 : ((slotmeshref01_Same.f k t114 (([(⟨1, (⟨#[97, 116]⟩ : ByteArray), 0, 0⟩ : S31), (⟨2, (⟨#[]⟩ : ByteArray), 70, 3⟩ : S31), (⟨1, (⟨#[114, 101, 97, 100]⟩ : ByteArray), 0, 6⟩ : S31), (⟨1, (⟨#[110, 49]⟩ : ByteArray), 0, 11⟩ : S31), (⟨3, (⟨#[59]⟩ : ByteArray), 0, 13⟩ : S31)] : List (S31))) 0).bind fun t131 => (if t131 = true then ((slotmeshref01_Same.f k t119 (([(⟨2, (⟨#[]⟩ : ByteArray), 12, 0⟩ : S31), (⟨1, (⟨#[97, 98]⟩ : ByteArray), 0, 2⟩ : S31), (⟨3, (⟨#[59]⟩ : ByteArray), 0, 4⟩ : S31)] : List (S31))) 0).bind fun t135 => (some t135)) else (some false))) = some r := by rw [if_pos rfl] at H; exact H
              clear H
              have H := H1
              clear H1
              obtain ⟨y128, hy128⟩ : ∃ y_ : List (S31), y_ = (([(⟨1, (⟨#[97, 116]⟩ : ByteArray), 0, 0⟩ : S31), (⟨2, (⟨#[]⟩ : ByteArray), 70, 3⟩ : S31), (⟨1, (⟨#[114, 101, 97, 100]⟩ : ByteArray), 0, 6⟩ : S31), (⟨1, (⟨#[110, 49]⟩ : ByteArray), 0, 11⟩ : S31), (⟨3, (⟨#[59]⟩ : ByteArray), 0, 13⟩ : S31)] : List (S31))) := ⟨_, rfl⟩
              replace H : ((slotmeshref01_Same.f k t114 y128 0).bind fun t131 => (if t131 = true then ((slotmeshref01_Same.f k t119 (([(⟨2, (⟨#[]⟩ : ByteArray), 12, 0⟩ : S31), (⟨1, (⟨#[97, 98]⟩ : ByteArray), 0, 2⟩ : S31), (⟨3, (⟨#[59]⟩ : ByteArray), 0, 4⟩ : S31)] : List (S31))) 0).bind fun t135 => (some t135)) else (some false))) = some r := by first | (rw [hy128]; with_reducible exact H) | (have H2_ := (Option.bind_some _ _).symm.trans H; rw [hy128]; with_reducible exact H2_) | (have H2_ := (Option.bind_some _ _).symm.trans H; with_reducible exact H2_) | with_reducible exact H | (rw [hy128]; exact H) | exact H
              have Ny128 := Aside0.mk hy128
              clear hy128
              replace H := Option.bind_eq_some_iff.mp H
              obtain ⟨t131, A130, H⟩ := H
              replace H : (if t131 = true then ((slotmeshref01_Same.f k t119 (([(⟨2, (⟨#[]⟩ : ByteArray), 12, 0⟩ : S31), (⟨1, (⟨#[97, 98]⟩ : ByteArray), 0, 2⟩ : S31), (⟨3, (⟨#[59]⟩ : ByteArray), 0, 4⟩ : S31)] : List (S31))) 0).bind fun t135 => (some t135)) else (some false)) = some r := H
              have A13 := Aside0.mk A130
              clear A130
              by_cases c14 : t131 = true
              · subst c14
                have H1 : ((slotmeshref01_Same.f k t119 (([(⟨2, (⟨#[]⟩ : ByteArray), 12, 0⟩ : S31), (⟨1, (⟨#[97, 98]⟩ : ByteArray), 0, 2⟩ : S31), (⟨3, (⟨#[59]⟩ : ByteArray), 0, 4⟩ : S31)] : List (S31))) 0).bind fun t135 => (some t135)) = some r := by rw [if_pos rfl] at H; exact H
                clear H
                have H := H1
                clear H1
                obtain ⟨y132, hy132⟩ : ∃ y_ : List (S31), y_ = (([(⟨2, (⟨#[]⟩ : ByteArray), 12, 0⟩ : S31), (⟨1, (⟨#[97, 98]⟩ : ByteArray), 0, 2⟩ : S31), (⟨3, (⟨#[59]⟩ : ByteArray), 0, 4⟩ : S31)] : List (S31))) := ⟨_, rfl⟩
                replace H : ((slotmeshref01_Same.f k t119 y132 0).bind fun t135 => (some t135)) = some r := by first | (rw [hy132]; with_reducible exact H) | (have H2_ := (Option.bind_some _ _).symm.trans H; rw [hy132]; with_reducible exact H2_) | (have H2_ := (Option.bind_some _ _).symm.trans H; with_reducible exact H2_) | with_reducible exact H | (rw [hy132]; exact H) | exact H
                have Ny132 := Aside0.mk hy132
                clear hy132
                replace H := Option.bind_eq_some_iff.mp H
                obtain ⟨t135, A150, H⟩ := H
                replace H : (some t135) = some r := H
                have A15 := Aside0.mk A150
                clear A150
                obtain rfl := Option.some.inj H
                go_enter Tryd.func9, Tryd.ntmps9
                go_wp2_with (first | ((with_reducible refine gate_callee (f := 10) rfl ?_); refine goesL_ (some 9) rfl rfl Tryd.func10 (by kernel_rfl) rfl #[.string (⟨#[97, 116, 32, 55, 48, 32, 114, 101, 97, 100, 32, 110, 49, 59]⟩ : ByteArray)] rfl (by (try simp only [List.map_toArray, List.map_cons, List.map_nil]); first | done | rfl | (simp only [List.length_drop, List.length_take]; rfl) | (simp (disch := omega) only [IntWalk.wrap64_in]; done)) ?_; (with_reducible refine (lexer_Lex.calls (⟨#[97, 116, 32, 55, 48, 32, 114, 101, 97, 100, 32, 110, 49, 59]⟩ : ByteArray) t114 t115 t116 _ ?side1 A1.out).mono ?_); (case side1 => exact Lx.GOK.aside hG (by repeat (first | (with_reducible first | exact HB.out | apply below_alloc | apply pw_below_drewN | apply below_drew1) | exact HB.out))); rintro e w16 ⟨v117, rfl, ho0, hb⟩; refine ⟨_, rfl, ?_⟩; have n0_ := Aside0.mk (Kd.R_lower ho0 (below_size (by repeat (first | (with_reducible first | exact HB.out | apply below_alloc | apply pw_below_drewN | apply below_drew1) | exact HB.out)))); have n1_ := Aside0.mk (below_step (by repeat (first | (with_reducible first | exact HB.out | apply below_alloc | apply pw_below_drewN | apply below_drew1) | exact HB.out)) hb); clear HB; have HO118 := n0_; have HB := n1_; clear n0_ n1_; (try clear hb); (try clear hb2); (try clear hk); (try clear hi); (try clear ho0)) | ((with_reducible refine gate_callee (f := 10) rfl ?_); refine goesL_ (some 14) rfl rfl Tryd.func10 (by kernel_rfl) rfl #[.string (⟨#[49, 50, 97, 98, 59, 35, 32, 120]⟩ : ByteArray)] rfl (by (try simp only [List.map_toArray, List.map_cons, List.map_nil]); first | done | rfl | (simp only [List.length_drop, List.length_take]; rfl) | (simp (disch := omega) only [IntWalk.wrap64_in]; done)) ?_; (with_reducible refine (lexer_Lex.calls (⟨#[49, 50, 97, 98, 59, 35, 32, 120]⟩ : ByteArray) t119 t120 t121 _ ?side1 A2.out).mono ?_); (case side1 => exact Lx.GOK.aside hG (by repeat (first | (with_reducible first | exact HB.out | apply below_alloc | apply pw_below_drewN | apply below_drew1) | exact HB.out))); rintro e w17 ⟨v122, rfl, ho0, hb⟩; refine ⟨_, rfl, ?_⟩; have n0_ := Aside0.mk (Kd.R_elder' (by (with_reducible repeat (first | apply Kd.R_alloc | apply Kd.R_drewN | apply Kd.R_drew)); exact HO118.out) (Kd.R_base ho0) hb); have n1_ := Aside0.mk (Kd.R_lower (Kd.R_new' ho0 (Kd.R_lt (by (with_reducible repeat (first | apply Kd.R_alloc | apply Kd.R_drewN | apply Kd.R_drew)); exact HO118.out))) (below_size (by repeat (first | (with_reducible first | exact HB.out | apply below_alloc | apply pw_below_drewN | apply below_drew1) | exact HB.out)))); have n2_ := Aside0.mk (below_step (by repeat (first | (with_reducible first | exact HB.out | apply below_alloc | apply pw_below_drewN | apply below_drew1) | exact HB.out)) hb); clear HO118; clear HB; have HO118 := n0_; have HO123 := n1_; have HB := n2_; clear n0_ n1_ n2_; (try clear hb); (try clear hb2); (try clear hk); (try clear hi); (try clear ho0)) | (go_at_call 18; (with_reducible refine (slotmeshlaw01_fails.calls (⟨#[114, 117, 110, 32, 48, 48, 55]⟩ : ByteArray) 7 4 true _ ?side1 A5.out).mono ?_); (case side1 => exact Lx.GOK.aside hG (by repeat (first | (with_reducible first | exact HB.out | apply below_alloc | apply pw_below_drewN | apply below_drew1) | exact HB.out))); rintro e w18 ⟨rfl, hb⟩; have n0_ := Aside0.mk (Kd.R_below (by (with_reducible repeat (first | apply Kd.R_alloc | apply Kd.R_drewN | apply Kd.R_drew)); exact HO118.out) hb); have n1_ := Aside0.mk (Kd.R_below (by (with_reducible repeat (first | apply Kd.R_alloc | apply Kd.R_drewN | apply Kd.R_drew)); exact HO123.out) hb); have n2_ := Aside0.mk (below_step (by repeat (first | (with_reducible first | exact HB.out | apply below_alloc | apply pw_below_drewN | apply below_drew1) | exact HB.out)) hb); clear HO118; clear HO123; clear HB; have HO118 := n0_; have HO123 := n1_; have HB := n2_; clear n0_ n1_ n2_; (try clear hb); (try clear hb2); (try clear hk); (try clear hi)) | (go_at_call 18; (with_reducible refine (slotmeshlaw01_fails.calls (⟨#[114, 117, 110, 32, 49, 48, 48, 48, 48, 48, 48, 48, 48, 49]⟩ : ByteArray) 3 4 true _ ?side1 A7.out).mono ?_); (case side1 => exact Lx.GOK.aside hG (by repeat (first | (with_reducible first | exact HB.out | apply below_alloc | apply pw_below_drewN | apply below_drew1) | exact HB.out))); rintro e w19 ⟨rfl, hb⟩; have n0_ := Aside0.mk (Kd.R_below (by (with_reducible repeat (first | apply Kd.R_alloc | apply Kd.R_drewN | apply Kd.R_drew)); exact HO118.out) hb); have n1_ := Aside0.mk (Kd.R_below (by (with_reducible repeat (first | apply Kd.R_alloc | apply Kd.R_drewN | apply Kd.R_drew)); exact HO123.out) hb); have n2_ := Aside0.mk (below_step (by repeat (first | (with_reducible first | exact HB.out | apply below_alloc | apply pw_below_drewN | apply below_drew1) | exact HB.out)) hb); clear HO118; clear HO123; clear HB; have HO118 := n0_; have HO123 := n1_; have HB := n2_; clear n0_ n1_ n2_; (try clear hb); (try clear hb2); (try clear hk); (try clear hi)) | (go_at_call 18; (with_reducible refine (slotmeshlaw01_fails.calls (⟨#[109, 101, 115, 104, 44, 32]⟩ : ByteArray) 7 4 true _ ?side1 A9.out).mono ?_); (case side1 => exact Lx.GOK.aside hG (by repeat (first | (with_reducible first | exact HB.out | apply below_alloc | apply pw_below_drewN | apply below_drew1) | exact HB.out))); rintro e w20 ⟨rfl, hb⟩; have n0_ := Aside0.mk (Kd.R_below (by (with_reducible repeat (first | apply Kd.R_alloc | apply Kd.R_drewN | apply Kd.R_drew)); exact HO118.out) hb); have n1_ := Aside0.mk (Kd.R_below (by (with_reducible repeat (first | apply Kd.R_alloc | apply Kd.R_drewN | apply Kd.R_drew)); exact HO123.out) hb); have n2_ := Aside0.mk (below_step (by repeat (first | (with_reducible first | exact HB.out | apply below_alloc | apply pw_below_drewN | apply below_drew1) | exact HB.out)) hb); clear HO118; clear HO123; clear HB; have HO118 := n0_; have HO123 := n1_; have HB := n2_; clear n0_ n1_ n2_; (try clear hb); (try clear hb2); (try clear hk); (try clear hi)) | (go_at_call 18; (with_reducible refine (slotmeshlaw01_fails.calls (⟨#[97, 32, 97, 98, 99, 100, 101, 102, 103, 104, 105, 106, 107, 108, 109]⟩ : ByteArray) 3 2 true _ ?side1 A11.out).mono ?_); (case side1 => exact Lx.GOK.aside hG (by repeat (first | (with_reducible first | exact HB.out | apply below_alloc | apply pw_below_drewN | apply below_drew1) | exact HB.out))); rintro e w21 ⟨rfl, hb⟩; have n0_ := Aside0.mk (Kd.R_below (by (with_reducible repeat (first | apply Kd.R_alloc | apply Kd.R_drewN | apply Kd.R_drew)); exact HO118.out) hb); have n1_ := Aside0.mk (Kd.R_below (by (with_reducible repeat (first | apply Kd.R_alloc | apply Kd.R_drewN | apply Kd.R_drew)); exact HO123.out) hb); have n2_ := Aside0.mk (below_step (by repeat (first | (with_reducible first | exact HB.out | apply below_alloc | apply pw_below_drewN | apply below_drew1) | exact HB.out)) hb); clear HO118; clear HO123; clear HB; have HO118 := n0_; have HO123 := n1_; have HB := n2_; clear n0_ n1_ n2_; (try clear hb); (try clear hb2); (try clear hk); (try clear hi)) | ((with_reducible refine gate_dst (N := 44) rfl ?_); (try (refine gate_guard (by rfl) ?_; dsimp only)); refine Kd.R_lit k31 _ 31 ?hg (N := 44) ?hd (xs := ([(⟨1, (⟨#[97, 116]⟩ : ByteArray), 0, 0⟩ : S31), (⟨2, (⟨#[]⟩ : ByteArray), 70, 3⟩ : S31), (⟨1, (⟨#[114, 101, 97, 100]⟩ : ByteArray), 0, 6⟩ : S31), (⟨1, (⟨#[110, 49]⟩ : ByteArray), 0, 11⟩ : S31), (⟨3, (⟨#[59]⟩ : ByteArray), 0, 13⟩ : S31)] : List (S31))) (inner := [.int .i64 1, .string (⟨#[97, 116]⟩ : ByteArray), .int .i64 0, .int .i64 0, .int .i64 2, .string (⟨#[]⟩ : ByteArray), .int .i64 70, .int .i64 3, .int .i64 1, .string (⟨#[114, 101, 97, 100]⟩ : ByteArray), .int .i64 0, .int .i64 6, .int .i64 1, .string (⟨#[110, 49]⟩ : ByteArray), .int .i64 0, .int .i64 11, .int .i64 3, .string (⟨#[59]⟩ : ByteArray), .int .i64 0, .int .i64 13]) (ok := fun _ => True) (okp := fun _ => True) ?hr ?hp (fun _ hk => hk) trivial (Below.refl _ _) (Nat.le_refl _) (by simp) ?_; (case hd => rfl); (case hg => rfl); (case hr => first | (go_simp; done) | (go_simp; rfl)); (case hp => exact (Reps.c4 (show Kd.M k31 _ _ _ (⟨1, (⟨#[97, 116]⟩ : ByteArray), 0, 0⟩ : S31) [.int .i64 1, .string (⟨#[97, 116]⟩ : ByteArray), .int .i64 0, .int .i64 0] from (k31_mkM _ _ _ (⟨1, (⟨#[97, 116]⟩ : ByteArray), 0, 0⟩ : S31) )) (Reps.c4 (show Kd.M k31 _ _ _ (⟨2, (⟨#[]⟩ : ByteArray), 70, 3⟩ : S31) [.int .i64 2, .string (⟨#[]⟩ : ByteArray), .int .i64 70, .int .i64 3] from (k31_mkM _ _ _ (⟨2, (⟨#[]⟩ : ByteArray), 70, 3⟩ : S31) )) (Reps.c4 (show Kd.M k31 _ _ _ (⟨1, (⟨#[114, 101, 97, 100]⟩ : ByteArray), 0, 6⟩ : S31) [.int .i64 1, .string (⟨#[114, 101, 97, 100]⟩ : ByteArray), .int .i64 0, .int .i64 6] from (k31_mkM _ _ _ (⟨1, (⟨#[114, 101, 97, 100]⟩ : ByteArray), 0, 6⟩ : S31) )) (Reps.c4 (show Kd.M k31 _ _ _ (⟨1, (⟨#[110, 49]⟩ : ByteArray), 0, 11⟩ : S31) [.int .i64 1, .string (⟨#[110, 49]⟩ : ByteArray), .int .i64 0, .int .i64 11] from (k31_mkM _ _ _ (⟨1, (⟨#[110, 49]⟩ : ByteArray), 0, 11⟩ : S31) )) (Reps.c4 (show Kd.M k31 _ _ _ (⟨3, (⟨#[59]⟩ : ByteArray), 0, 13⟩ : S31) [.int .i64 3, .string (⟨#[59]⟩ : ByteArray), .int .i64 0, .int .i64 13] from (k31_mkM _ _ _ (⟨3, (⟨#[59]⟩ : ByteArray), 0, 13⟩ : S31) )) (Reps.none _ _))))))); intro v129 w22 ho23 hb hg_ hnew_; clear hg_ hnew_; (first | rw [← Ny128.out] at ho23 | (simp only [Int.reduceToNat] at ho23; rw [← Ny128.out] at ho23)); have n0_ := Aside0.mk (Kd.R_elder' (by (with_reducible repeat (first | apply Kd.R_alloc | apply Kd.R_drewN | apply Kd.R_drew)); exact HO118.out) (Kd.R_base ho23) hb); have n1_ := Aside0.mk (Kd.R_elder' (by (with_reducible repeat (first | apply Kd.R_alloc | apply Kd.R_drewN | apply Kd.R_drew)); exact HO123.out) (Kd.R_base ho23) hb); have n2_ := Aside0.mk (Kd.R_lower (Kd.R_new' (Kd.R_new' ho23 (Kd.R_lt (by (with_reducible repeat (first | apply Kd.R_alloc | apply Kd.R_drewN | apply Kd.R_drew)); exact HO118.out))) (Kd.R_lt (by (with_reducible repeat (first | apply Kd.R_alloc | apply Kd.R_drewN | apply Kd.R_drew)); exact HO123.out))) (below_size (by repeat (first | (with_reducible first | exact HB.out | apply below_alloc | apply pw_below_drewN | apply below_drew1) | exact HB.out)))); have n3_ := Aside0.mk (below_step (by repeat (first | (with_reducible first | exact HB.out | apply below_alloc | apply pw_below_drewN | apply below_drew1) | exact HB.out)) hb); clear HO118; clear HO123; clear HB; have HO118 := n0_; have HO123 := n1_; have HO130 := n2_; have HB := n3_; clear n0_ n1_ n2_ n3_; clear hb ho23; obtain ⟨Ao24, co24, eo24⟩ := Kd.R_slice HO118.out; subst eo24; obtain ⟨Ao25, co25, eo25⟩ := Kd.R_slice HO130.out; subst eo25) | (go_at_call 12; (with_reducible refine (slotmeshref01_Same.calls k _ _ t114 _ _ y128 0 true _ ?side1 ?side2 ?side3 ?side4 A13.out).mono ?_); (case side1 => repeat (first | exact (Kd.R_reads' HO118.out).2.2 | (with_reducible refine Kd.C_alloc ?_ _) | (with_reducible refine Kd.C_drewN ?_ _) | (with_reducible refine Kd.C_drew ?_))); (case side2 => exact (Kd.R_reads' HO118.out).2.1); (case side3 => repeat (first | exact (Kd.R_reads' HO130.out).2.2 | (with_reducible refine Kd.C_alloc ?_ _) | (with_reducible refine Kd.C_drewN ?_ _) | (with_reducible refine Kd.C_drew ?_))); (case side4 => exact (Kd.R_reads' HO130.out).2.1); rintro e w' ⟨rfl, ⟨nd, rfl⟩⟩) | ((with_reducible refine gate_dst (N := 53) rfl ?_); (try (refine gate_guard (by rfl) ?_; dsimp only)); refine Kd.R_lit k31 _ 31 ?hg (N := 53) ?hd (xs := ([(⟨2, (⟨#[]⟩ : ByteArray), 12, 0⟩ : S31), (⟨1, (⟨#[97, 98]⟩ : ByteArray), 0, 2⟩ : S31), (⟨3, (⟨#[59]⟩ : ByteArray), 0, 4⟩ : S31)] : List (S31))) (inner := [.int .i64 2, .string (⟨#[]⟩ : ByteArray), .int .i64 12, .int .i64 0, .int .i64 1, .string (⟨#[97, 98]⟩ : ByteArray), .int .i64 0, .int .i64 2, .int .i64 3, .string (⟨#[59]⟩ : ByteArray), .int .i64 0, .int .i64 4]) (ok := fun _ => True) (okp := fun _ => True) ?hr ?hp (fun _ hk => hk) trivial (Below.refl _ _) (Nat.le_refl _) (by simp) ?_; (case hd => rfl); (case hg => rfl); (case hr => first | (go_simp; done) | (go_simp; rfl)); (case hp => exact (Reps.c4 (show Kd.M k31 _ _ _ (⟨2, (⟨#[]⟩ : ByteArray), 12, 0⟩ : S31) [.int .i64 2, .string (⟨#[]⟩ : ByteArray), .int .i64 12, .int .i64 0] from (k31_mkM _ _ _ (⟨2, (⟨#[]⟩ : ByteArray), 12, 0⟩ : S31) )) (Reps.c4 (show Kd.M k31 _ _ _ (⟨1, (⟨#[97, 98]⟩ : ByteArray), 0, 2⟩ : S31) [.int .i64 1, .string (⟨#[97, 98]⟩ : ByteArray), .int .i64 0, .int .i64 2] from (k31_mkM _ _ _ (⟨1, (⟨#[97, 98]⟩ : ByteArray), 0, 2⟩ : S31) )) (Reps.c4 (show Kd.M k31 _ _ _ (⟨3, (⟨#[59]⟩ : ByteArray), 0, 4⟩ : S31) [.int .i64 3, .string (⟨#[59]⟩ : ByteArray), .int .i64 0, .int .i64 4] from (k31_mkM _ _ _ (⟨3, (⟨#[59]⟩ : ByteArray), 0, 4⟩ : S31) )) (Reps.none _ _))))); intro v133 w26 ho27 hb hg_ hnew_; clear hg_ hnew_; (first | rw [← Ny132.out] at ho27 | (simp only [Int.reduceToNat] at ho27; rw [← Ny132.out] at ho27)); have n0_ := Aside0.mk (Kd.R_elder' (by (with_reducible repeat (first | apply Kd.R_alloc | apply Kd.R_drewN | apply Kd.R_drew)); exact HO118.out) (Kd.R_base ho27) hb); have n1_ := Aside0.mk (Kd.R_elder' (by (with_reducible repeat (first | apply Kd.R_alloc | apply Kd.R_drewN | apply Kd.R_drew)); exact HO123.out) (Kd.R_base ho27) hb); have n2_ := Aside0.mk (Kd.R_elder' (by (with_reducible repeat (first | apply Kd.R_alloc | apply Kd.R_drewN | apply Kd.R_drew)); exact HO130.out) (Kd.R_base ho27) hb); have n3_ := Aside0.mk (Kd.R_lower (Kd.R_new' (Kd.R_new' (Kd.R_new' ho27 (Kd.R_lt (by (with_reducible repeat (first | apply Kd.R_alloc | apply Kd.R_drewN | apply Kd.R_drew)); exact HO118.out))) (Kd.R_lt (by (with_reducible repeat (first | apply Kd.R_alloc | apply Kd.R_drewN | apply Kd.R_drew)); exact HO123.out))) (Kd.R_lt (by (with_reducible repeat (first | apply Kd.R_alloc | apply Kd.R_drewN | apply Kd.R_drew)); exact HO130.out))) (below_size (by repeat (first | (with_reducible first | exact HB.out | apply below_alloc | apply pw_below_drewN | apply below_drew1) | exact HB.out)))); have n4_ := Aside0.mk (below_step (by repeat (first | (with_reducible first | exact HB.out | apply below_alloc | apply pw_below_drewN | apply below_drew1) | exact HB.out)) hb); clear HO118; clear HO123; clear HO130; clear HB; have HO118 := n0_; have HO123 := n1_; have HO130 := n2_; have HO134 := n3_; have HB := n4_; clear n0_ n1_ n2_ n3_ n4_; clear hb ho27; obtain ⟨Ao28, co28, eo28⟩ := Kd.R_slice HO123.out; subst eo28; obtain ⟨Ao29, co29, eo29⟩ := Kd.R_slice HO134.out; subst eo29) | (go_at_call 12; (with_reducible refine (slotmeshref01_Same.calls k _ _ t119 _ _ y132 0 t135 _ ?side1 ?side2 ?side3 ?side4 A15.out).mono ?_); (case side1 => repeat (first | exact (Kd.R_reads' HO123.out).2.2 | (with_reducible refine Kd.C_alloc ?_ _) | (with_reducible refine Kd.C_drewN ?_ _) | (with_reducible refine Kd.C_drew ?_))); (case side2 => exact (Kd.R_reads' HO123.out).2.1); (case side3 => repeat (first | exact (Kd.R_reads' HO134.out).2.2 | (with_reducible refine Kd.C_alloc ?_ _) | (with_reducible refine Kd.C_drewN ?_ _) | (with_reducible refine Kd.C_drew ?_))); (case side4 => exact (Kd.R_reads' HO134.out).2.1); rintro e w' ⟨rfl, ⟨nd, rfl⟩⟩))
                go_ret
                exact ⟨by first | rfl | (simp [errW_none, errW_some] <;> rfl) | (simp [*, errW_none, errW_some] <;> rfl), by repeat (first | (with_reducible first | exact HB.out | apply below_alloc | apply pw_below_drewN | apply below_drew1) | exact HB.out)⟩
              · replace c14 := Bool.eq_false_iff.mpr c14
                subst c14
                have H1 : (some false) = some r := by rw [if_neg (show ¬ (false = true) by decide)] at H; exact H
                clear H
                have H := H1
                clear H1
                obtain rfl := Option.some.inj H
                go_enter Tryd.func9, Tryd.ntmps9
                go_wp2_with (first | ((with_reducible refine gate_callee (f := 10) rfl ?_); refine goesL_ (some 9) rfl rfl Tryd.func10 (by kernel_rfl) rfl #[.string (⟨#[97, 116, 32, 55, 48, 32, 114, 101, 97, 100, 32, 110, 49, 59]⟩ : ByteArray)] rfl (by (try simp only [List.map_toArray, List.map_cons, List.map_nil]); first | done | rfl | (simp only [List.length_drop, List.length_take]; rfl) | (simp (disch := omega) only [IntWalk.wrap64_in]; done)) ?_; (with_reducible refine (lexer_Lex.calls (⟨#[97, 116, 32, 55, 48, 32, 114, 101, 97, 100, 32, 110, 49, 59]⟩ : ByteArray) t114 t115 t116 _ ?side1 A1.out).mono ?_); (case side1 => exact Lx.GOK.aside hG (by repeat (first | (with_reducible first | exact HB.out | apply below_alloc | apply pw_below_drewN | apply below_drew1) | exact HB.out))); rintro e w30 ⟨v117, rfl, ho0, hb⟩; refine ⟨_, rfl, ?_⟩; have n0_ := Aside0.mk (Kd.R_lower ho0 (below_size (by repeat (first | (with_reducible first | exact HB.out | apply below_alloc | apply pw_below_drewN | apply below_drew1) | exact HB.out)))); have n1_ := Aside0.mk (below_step (by repeat (first | (with_reducible first | exact HB.out | apply below_alloc | apply pw_below_drewN | apply below_drew1) | exact HB.out)) hb); clear HB; have HO118 := n0_; have HB := n1_; clear n0_ n1_; (try clear hb); (try clear hb2); (try clear hk); (try clear hi); (try clear ho0)) | ((with_reducible refine gate_callee (f := 10) rfl ?_); refine goesL_ (some 14) rfl rfl Tryd.func10 (by kernel_rfl) rfl #[.string (⟨#[49, 50, 97, 98, 59, 35, 32, 120]⟩ : ByteArray)] rfl (by (try simp only [List.map_toArray, List.map_cons, List.map_nil]); first | done | rfl | (simp only [List.length_drop, List.length_take]; rfl) | (simp (disch := omega) only [IntWalk.wrap64_in]; done)) ?_; (with_reducible refine (lexer_Lex.calls (⟨#[49, 50, 97, 98, 59, 35, 32, 120]⟩ : ByteArray) t119 t120 t121 _ ?side1 A2.out).mono ?_); (case side1 => exact Lx.GOK.aside hG (by repeat (first | (with_reducible first | exact HB.out | apply below_alloc | apply pw_below_drewN | apply below_drew1) | exact HB.out))); rintro e w31 ⟨v122, rfl, ho0, hb⟩; refine ⟨_, rfl, ?_⟩; have n0_ := Aside0.mk (Kd.R_elder' (by (with_reducible repeat (first | apply Kd.R_alloc | apply Kd.R_drewN | apply Kd.R_drew)); exact HO118.out) (Kd.R_base ho0) hb); have n1_ := Aside0.mk (Kd.R_lower (Kd.R_new' ho0 (Kd.R_lt (by (with_reducible repeat (first | apply Kd.R_alloc | apply Kd.R_drewN | apply Kd.R_drew)); exact HO118.out))) (below_size (by repeat (first | (with_reducible first | exact HB.out | apply below_alloc | apply pw_below_drewN | apply below_drew1) | exact HB.out)))); have n2_ := Aside0.mk (below_step (by repeat (first | (with_reducible first | exact HB.out | apply below_alloc | apply pw_below_drewN | apply below_drew1) | exact HB.out)) hb); clear HO118; clear HB; have HO118 := n0_; have HO123 := n1_; have HB := n2_; clear n0_ n1_ n2_; (try clear hb); (try clear hb2); (try clear hk); (try clear hi); (try clear ho0)) | (go_at_call 18; (with_reducible refine (slotmeshlaw01_fails.calls (⟨#[114, 117, 110, 32, 48, 48, 55]⟩ : ByteArray) 7 4 true _ ?side1 A5.out).mono ?_); (case side1 => exact Lx.GOK.aside hG (by repeat (first | (with_reducible first | exact HB.out | apply below_alloc | apply pw_below_drewN | apply below_drew1) | exact HB.out))); rintro e w32 ⟨rfl, hb⟩; have n0_ := Aside0.mk (Kd.R_below (by (with_reducible repeat (first | apply Kd.R_alloc | apply Kd.R_drewN | apply Kd.R_drew)); exact HO118.out) hb); have n1_ := Aside0.mk (Kd.R_below (by (with_reducible repeat (first | apply Kd.R_alloc | apply Kd.R_drewN | apply Kd.R_drew)); exact HO123.out) hb); have n2_ := Aside0.mk (below_step (by repeat (first | (with_reducible first | exact HB.out | apply below_alloc | apply pw_below_drewN | apply below_drew1) | exact HB.out)) hb); clear HO118; clear HO123; clear HB; have HO118 := n0_; have HO123 := n1_; have HB := n2_; clear n0_ n1_ n2_; (try clear hb); (try clear hb2); (try clear hk); (try clear hi)) | (go_at_call 18; (with_reducible refine (slotmeshlaw01_fails.calls (⟨#[114, 117, 110, 32, 49, 48, 48, 48, 48, 48, 48, 48, 48, 49]⟩ : ByteArray) 3 4 true _ ?side1 A7.out).mono ?_); (case side1 => exact Lx.GOK.aside hG (by repeat (first | (with_reducible first | exact HB.out | apply below_alloc | apply pw_below_drewN | apply below_drew1) | exact HB.out))); rintro e w33 ⟨rfl, hb⟩; have n0_ := Aside0.mk (Kd.R_below (by (with_reducible repeat (first | apply Kd.R_alloc | apply Kd.R_drewN | apply Kd.R_drew)); exact HO118.out) hb); have n1_ := Aside0.mk (Kd.R_below (by (with_reducible repeat (first | apply Kd.R_alloc | apply Kd.R_drewN | apply Kd.R_drew)); exact HO123.out) hb); have n2_ := Aside0.mk (below_step (by repeat (first | (with_reducible first | exact HB.out | apply below_alloc | apply pw_below_drewN | apply below_drew1) | exact HB.out)) hb); clear HO118; clear HO123; clear HB; have HO118 := n0_; have HO123 := n1_; have HB := n2_; clear n0_ n1_ n2_; (try clear hb); (try clear hb2); (try clear hk); (try clear hi)) | (go_at_call 18; (with_reducible refine (slotmeshlaw01_fails.calls (⟨#[109, 101, 115, 104, 44, 32]⟩ : ByteArray) 7 4 true _ ?side1 A9.out).mono ?_); (case side1 => exact Lx.GOK.aside hG (by repeat (first | (with_reducible first | exact HB.out | apply below_alloc | apply pw_below_drewN | apply below_drew1) | exact HB.out))); rintro e w34 ⟨rfl, hb⟩; have n0_ := Aside0.mk (Kd.R_below (by (with_reducible repeat (first | apply Kd.R_alloc | apply Kd.R_drewN | apply Kd.R_drew)); exact HO118.out) hb); have n1_ := Aside0.mk (Kd.R_below (by (with_reducible repeat (first | apply Kd.R_alloc | apply Kd.R_drewN | apply Kd.R_drew)); exact HO123.out) hb); have n2_ := Aside0.mk (below_step (by repeat (first | (with_reducible first | exact HB.out | apply below_alloc | apply pw_below_drewN | apply below_drew1) | exact HB.out)) hb); clear HO118; clear HO123; clear HB; have HO118 := n0_; have HO123 := n1_; have HB := n2_; clear n0_ n1_ n2_; (try clear hb); (try clear hb2); (try clear hk); (try clear hi)) | (go_at_call 18; (with_reducible refine (slotmeshlaw01_fails.calls (⟨#[97, 32, 97, 98, 99, 100, 101, 102, 103, 104, 105, 106, 107, 108, 109]⟩ : ByteArray) 3 2 true _ ?side1 A11.out).mono ?_); (case side1 => exact Lx.GOK.aside hG (by repeat (first | (with_reducible first | exact HB.out | apply below_alloc | apply pw_below_drewN | apply below_drew1) | exact HB.out))); rintro e w35 ⟨rfl, hb⟩; have n0_ := Aside0.mk (Kd.R_below (by (with_reducible repeat (first | apply Kd.R_alloc | apply Kd.R_drewN | apply Kd.R_drew)); exact HO118.out) hb); have n1_ := Aside0.mk (Kd.R_below (by (with_reducible repeat (first | apply Kd.R_alloc | apply Kd.R_drewN | apply Kd.R_drew)); exact HO123.out) hb); have n2_ := Aside0.mk (below_step (by repeat (first | (with_reducible first | exact HB.out | apply below_alloc | apply pw_below_drewN | apply below_drew1) | exact HB.out)) hb); clear HO118; clear HO123; clear HB; have HO118 := n0_; have HO123 := n1_; have HB := n2_; clear n0_ n1_ n2_; (try clear hb); (try clear hb2); (try clear hk); (try clear hi)) | ((with_reducible refine gate_dst (N := 44) rfl ?_); (try (refine gate_guard (by rfl) ?_; dsimp only)); refine Kd.R_lit k31 _ 31 ?hg (N := 44) ?hd (xs := ([(⟨1, (⟨#[97, 116]⟩ : ByteArray), 0, 0⟩ : S31), (⟨2, (⟨#[]⟩ : ByteArray), 70, 3⟩ : S31), (⟨1, (⟨#[114, 101, 97, 100]⟩ : ByteArray), 0, 6⟩ : S31), (⟨1, (⟨#[110, 49]⟩ : ByteArray), 0, 11⟩ : S31), (⟨3, (⟨#[59]⟩ : ByteArray), 0, 13⟩ : S31)] : List (S31))) (inner := [.int .i64 1, .string (⟨#[97, 116]⟩ : ByteArray), .int .i64 0, .int .i64 0, .int .i64 2, .string (⟨#[]⟩ : ByteArray), .int .i64 70, .int .i64 3, .int .i64 1, .string (⟨#[114, 101, 97, 100]⟩ : ByteArray), .int .i64 0, .int .i64 6, .int .i64 1, .string (⟨#[110, 49]⟩ : ByteArray), .int .i64 0, .int .i64 11, .int .i64 3, .string (⟨#[59]⟩ : ByteArray), .int .i64 0, .int .i64 13]) (ok := fun _ => True) (okp := fun _ => True) ?hr ?hp (fun _ hk => hk) trivial (Below.refl _ _) (Nat.le_refl _) (by simp) ?_; (case hd => rfl); (case hg => rfl); (case hr => first | (go_simp; done) | (go_simp; rfl)); (case hp => exact (Reps.c4 (show Kd.M k31 _ _ _ (⟨1, (⟨#[97, 116]⟩ : ByteArray), 0, 0⟩ : S31) [.int .i64 1, .string (⟨#[97, 116]⟩ : ByteArray), .int .i64 0, .int .i64 0] from (k31_mkM _ _ _ (⟨1, (⟨#[97, 116]⟩ : ByteArray), 0, 0⟩ : S31) )) (Reps.c4 (show Kd.M k31 _ _ _ (⟨2, (⟨#[]⟩ : ByteArray), 70, 3⟩ : S31) [.int .i64 2, .string (⟨#[]⟩ : ByteArray), .int .i64 70, .int .i64 3] from (k31_mkM _ _ _ (⟨2, (⟨#[]⟩ : ByteArray), 70, 3⟩ : S31) )) (Reps.c4 (show Kd.M k31 _ _ _ (⟨1, (⟨#[114, 101, 97, 100]⟩ : ByteArray), 0, 6⟩ : S31) [.int .i64 1, .string (⟨#[114, 101, 97, 100]⟩ : ByteArray), .int .i64 0, .int .i64 6] from (k31_mkM _ _ _ (⟨1, (⟨#[114, 101, 97, 100]⟩ : ByteArray), 0, 6⟩ : S31) )) (Reps.c4 (show Kd.M k31 _ _ _ (⟨1, (⟨#[110, 49]⟩ : ByteArray), 0, 11⟩ : S31) [.int .i64 1, .string (⟨#[110, 49]⟩ : ByteArray), .int .i64 0, .int .i64 11] from (k31_mkM _ _ _ (⟨1, (⟨#[110, 49]⟩ : ByteArray), 0, 11⟩ : S31) )) (Reps.c4 (show Kd.M k31 _ _ _ (⟨3, (⟨#[59]⟩ : ByteArray), 0, 13⟩ : S31) [.int .i64 3, .string (⟨#[59]⟩ : ByteArray), .int .i64 0, .int .i64 13] from (k31_mkM _ _ _ (⟨3, (⟨#[59]⟩ : ByteArray), 0, 13⟩ : S31) )) (Reps.none _ _))))))); intro v129 w36 ho37 hb hg_ hnew_; clear hg_ hnew_; (first | rw [← Ny128.out] at ho37 | (simp only [Int.reduceToNat] at ho37; rw [← Ny128.out] at ho37)); have n0_ := Aside0.mk (Kd.R_elder' (by (with_reducible repeat (first | apply Kd.R_alloc | apply Kd.R_drewN | apply Kd.R_drew)); exact HO118.out) (Kd.R_base ho37) hb); have n1_ := Aside0.mk (Kd.R_elder' (by (with_reducible repeat (first | apply Kd.R_alloc | apply Kd.R_drewN | apply Kd.R_drew)); exact HO123.out) (Kd.R_base ho37) hb); have n2_ := Aside0.mk (Kd.R_lower (Kd.R_new' (Kd.R_new' ho37 (Kd.R_lt (by (with_reducible repeat (first | apply Kd.R_alloc | apply Kd.R_drewN | apply Kd.R_drew)); exact HO118.out))) (Kd.R_lt (by (with_reducible repeat (first | apply Kd.R_alloc | apply Kd.R_drewN | apply Kd.R_drew)); exact HO123.out))) (below_size (by repeat (first | (with_reducible first | exact HB.out | apply below_alloc | apply pw_below_drewN | apply below_drew1) | exact HB.out)))); have n3_ := Aside0.mk (below_step (by repeat (first | (with_reducible first | exact HB.out | apply below_alloc | apply pw_below_drewN | apply below_drew1) | exact HB.out)) hb); clear HO118; clear HO123; clear HB; have HO118 := n0_; have HO123 := n1_; have HO130 := n2_; have HB := n3_; clear n0_ n1_ n2_ n3_; clear hb ho37; obtain ⟨Ao38, co38, eo38⟩ := Kd.R_slice HO118.out; subst eo38; obtain ⟨Ao39, co39, eo39⟩ := Kd.R_slice HO130.out; subst eo39) | (go_at_call 12; (with_reducible refine (slotmeshref01_Same.calls k _ _ t114 _ _ y128 0 false _ ?side1 ?side2 ?side3 ?side4 A13.out).mono ?_); (case side1 => repeat (first | exact (Kd.R_reads' HO118.out).2.2 | (with_reducible refine Kd.C_alloc ?_ _) | (with_reducible refine Kd.C_drewN ?_ _) | (with_reducible refine Kd.C_drew ?_))); (case side2 => exact (Kd.R_reads' HO118.out).2.1); (case side3 => repeat (first | exact (Kd.R_reads' HO130.out).2.2 | (with_reducible refine Kd.C_alloc ?_ _) | (with_reducible refine Kd.C_drewN ?_ _) | (with_reducible refine Kd.C_drew ?_))); (case side4 => exact (Kd.R_reads' HO130.out).2.1); rintro e w' ⟨rfl, ⟨nd, rfl⟩⟩))
                go_ret
                exact ⟨by first | rfl | (simp [errW_none, errW_some] <;> rfl) | (simp [*, errW_none, errW_some] <;> rfl), by repeat (first | (with_reducible first | exact HB.out | apply below_alloc | apply pw_below_drewN | apply below_drew1) | exact HB.out)⟩
            · replace c12 := Bool.eq_false_iff.mpr c12
              subst c12
              have H1 : (some false) = some r := by rw [if_neg (show ¬ (false = true) by decide)] at H; exact H
              clear H
              have H := H1
              clear H1
              obtain rfl := Option.some.inj H
              go_enter Tryd.func9, Tryd.ntmps9
              go_wp2_with (first | ((with_reducible refine gate_callee (f := 10) rfl ?_); refine goesL_ (some 9) rfl rfl Tryd.func10 (by kernel_rfl) rfl #[.string (⟨#[97, 116, 32, 55, 48, 32, 114, 101, 97, 100, 32, 110, 49, 59]⟩ : ByteArray)] rfl (by (try simp only [List.map_toArray, List.map_cons, List.map_nil]); first | done | rfl | (simp only [List.length_drop, List.length_take]; rfl) | (simp (disch := omega) only [IntWalk.wrap64_in]; done)) ?_; (with_reducible refine (lexer_Lex.calls (⟨#[97, 116, 32, 55, 48, 32, 114, 101, 97, 100, 32, 110, 49, 59]⟩ : ByteArray) t114 t115 t116 _ ?side1 A1.out).mono ?_); (case side1 => exact Lx.GOK.aside hG (by repeat (first | (with_reducible first | exact HB.out | apply below_alloc | apply pw_below_drewN | apply below_drew1) | exact HB.out))); rintro e w40 ⟨v117, rfl, ho0, hb⟩; refine ⟨_, rfl, ?_⟩; have n0_ := Aside0.mk (Kd.R_lower ho0 (below_size (by repeat (first | (with_reducible first | exact HB.out | apply below_alloc | apply pw_below_drewN | apply below_drew1) | exact HB.out)))); have n1_ := Aside0.mk (below_step (by repeat (first | (with_reducible first | exact HB.out | apply below_alloc | apply pw_below_drewN | apply below_drew1) | exact HB.out)) hb); clear HB; have HO118 := n0_; have HB := n1_; clear n0_ n1_; (try clear hb); (try clear hb2); (try clear hk); (try clear hi); (try clear ho0)) | ((with_reducible refine gate_callee (f := 10) rfl ?_); refine goesL_ (some 14) rfl rfl Tryd.func10 (by kernel_rfl) rfl #[.string (⟨#[49, 50, 97, 98, 59, 35, 32, 120]⟩ : ByteArray)] rfl (by (try simp only [List.map_toArray, List.map_cons, List.map_nil]); first | done | rfl | (simp only [List.length_drop, List.length_take]; rfl) | (simp (disch := omega) only [IntWalk.wrap64_in]; done)) ?_; (with_reducible refine (lexer_Lex.calls (⟨#[49, 50, 97, 98, 59, 35, 32, 120]⟩ : ByteArray) t119 t120 t121 _ ?side1 A2.out).mono ?_); (case side1 => exact Lx.GOK.aside hG (by repeat (first | (with_reducible first | exact HB.out | apply below_alloc | apply pw_below_drewN | apply below_drew1) | exact HB.out))); rintro e w41 ⟨v122, rfl, ho0, hb⟩; refine ⟨_, rfl, ?_⟩; have n0_ := Aside0.mk (Kd.R_elder' (by (with_reducible repeat (first | apply Kd.R_alloc | apply Kd.R_drewN | apply Kd.R_drew)); exact HO118.out) (Kd.R_base ho0) hb); have n1_ := Aside0.mk (Kd.R_lower (Kd.R_new' ho0 (Kd.R_lt (by (with_reducible repeat (first | apply Kd.R_alloc | apply Kd.R_drewN | apply Kd.R_drew)); exact HO118.out))) (below_size (by repeat (first | (with_reducible first | exact HB.out | apply below_alloc | apply pw_below_drewN | apply below_drew1) | exact HB.out)))); have n2_ := Aside0.mk (below_step (by repeat (first | (with_reducible first | exact HB.out | apply below_alloc | apply pw_below_drewN | apply below_drew1) | exact HB.out)) hb); clear HO118; clear HB; have HO118 := n0_; have HO123 := n1_; have HB := n2_; clear n0_ n1_ n2_; (try clear hb); (try clear hb2); (try clear hk); (try clear hi); (try clear ho0)) | (go_at_call 18; (with_reducible refine (slotmeshlaw01_fails.calls (⟨#[114, 117, 110, 32, 48, 48, 55]⟩ : ByteArray) 7 4 true _ ?side1 A5.out).mono ?_); (case side1 => exact Lx.GOK.aside hG (by repeat (first | (with_reducible first | exact HB.out | apply below_alloc | apply pw_below_drewN | apply below_drew1) | exact HB.out))); rintro e w42 ⟨rfl, hb⟩; have n0_ := Aside0.mk (Kd.R_below (by (with_reducible repeat (first | apply Kd.R_alloc | apply Kd.R_drewN | apply Kd.R_drew)); exact HO118.out) hb); have n1_ := Aside0.mk (Kd.R_below (by (with_reducible repeat (first | apply Kd.R_alloc | apply Kd.R_drewN | apply Kd.R_drew)); exact HO123.out) hb); have n2_ := Aside0.mk (below_step (by repeat (first | (with_reducible first | exact HB.out | apply below_alloc | apply pw_below_drewN | apply below_drew1) | exact HB.out)) hb); clear HO118; clear HO123; clear HB; have HO118 := n0_; have HO123 := n1_; have HB := n2_; clear n0_ n1_ n2_; (try clear hb); (try clear hb2); (try clear hk); (try clear hi)) | (go_at_call 18; (with_reducible refine (slotmeshlaw01_fails.calls (⟨#[114, 117, 110, 32, 49, 48, 48, 48, 48, 48, 48, 48, 48, 49]⟩ : ByteArray) 3 4 true _ ?side1 A7.out).mono ?_); (case side1 => exact Lx.GOK.aside hG (by repeat (first | (with_reducible first | exact HB.out | apply below_alloc | apply pw_below_drewN | apply below_drew1) | exact HB.out))); rintro e w43 ⟨rfl, hb⟩; have n0_ := Aside0.mk (Kd.R_below (by (with_reducible repeat (first | apply Kd.R_alloc | apply Kd.R_drewN | apply Kd.R_drew)); exact HO118.out) hb); have n1_ := Aside0.mk (Kd.R_below (by (with_reducible repeat (first | apply Kd.R_alloc | apply Kd.R_drewN | apply Kd.R_drew)); exact HO123.out) hb); have n2_ := Aside0.mk (below_step (by repeat (first | (with_reducible first | exact HB.out | apply below_alloc | apply pw_below_drewN | apply below_drew1) | exact HB.out)) hb); clear HO118; clear HO123; clear HB; have HO118 := n0_; have HO123 := n1_; have HB := n2_; clear n0_ n1_ n2_; (try clear hb); (try clear hb2); (try clear hk); (try clear hi)) | (go_at_call 18; (with_reducible refine (slotmeshlaw01_fails.calls (⟨#[109, 101, 115, 104, 44, 32]⟩ : ByteArray) 7 4 true _ ?side1 A9.out).mono ?_); (case side1 => exact Lx.GOK.aside hG (by repeat (first | (with_reducible first | exact HB.out | apply below_alloc | apply pw_below_drewN | apply below_drew1) | exact HB.out))); rintro e w44 ⟨rfl, hb⟩; have n0_ := Aside0.mk (Kd.R_below (by (with_reducible repeat (first | apply Kd.R_alloc | apply Kd.R_drewN | apply Kd.R_drew)); exact HO118.out) hb); have n1_ := Aside0.mk (Kd.R_below (by (with_reducible repeat (first | apply Kd.R_alloc | apply Kd.R_drewN | apply Kd.R_drew)); exact HO123.out) hb); have n2_ := Aside0.mk (below_step (by repeat (first | (with_reducible first | exact HB.out | apply below_alloc | apply pw_below_drewN | apply below_drew1) | exact HB.out)) hb); clear HO118; clear HO123; clear HB; have HO118 := n0_; have HO123 := n1_; have HB := n2_; clear n0_ n1_ n2_; (try clear hb); (try clear hb2); (try clear hk); (try clear hi)) | (go_at_call 18; (with_reducible refine (slotmeshlaw01_fails.calls (⟨#[97, 32, 97, 98, 99, 100, 101, 102, 103, 104, 105, 106, 107, 108, 109]⟩ : ByteArray) 3 2 false _ ?side1 A11.out).mono ?_); (case side1 => exact Lx.GOK.aside hG (by repeat (first | (with_reducible first | exact HB.out | apply below_alloc | apply pw_below_drewN | apply below_drew1) | exact HB.out))); rintro e w45 ⟨rfl, hb⟩; have n0_ := Aside0.mk (Kd.R_below (by (with_reducible repeat (first | apply Kd.R_alloc | apply Kd.R_drewN | apply Kd.R_drew)); exact HO118.out) hb); have n1_ := Aside0.mk (Kd.R_below (by (with_reducible repeat (first | apply Kd.R_alloc | apply Kd.R_drewN | apply Kd.R_drew)); exact HO123.out) hb); have n2_ := Aside0.mk (below_step (by repeat (first | (with_reducible first | exact HB.out | apply below_alloc | apply pw_below_drewN | apply below_drew1) | exact HB.out)) hb); clear HO118; clear HO123; clear HB; have HO118 := n0_; have HO123 := n1_; have HB := n2_; clear n0_ n1_ n2_; (try clear hb); (try clear hb2); (try clear hk); (try clear hi)))
              go_ret
              exact ⟨by first | rfl | (simp [errW_none, errW_some] <;> rfl) | (simp [*, errW_none, errW_some] <;> rfl), by repeat (first | (with_reducible first | exact HB.out | apply below_alloc | apply pw_below_drewN | apply below_drew1) | exact HB.out)⟩
          · replace c10 := Bool.eq_false_iff.mpr c10
            subst c10
            have H1 : (some false) = some r := by rw [if_neg (show ¬ (false = true) by decide)] at H; exact H
            clear H
            have H := H1
            clear H1
            obtain rfl := Option.some.inj H
            go_enter Tryd.func9, Tryd.ntmps9
            go_wp2_with (first | ((with_reducible refine gate_callee (f := 10) rfl ?_); refine goesL_ (some 9) rfl rfl Tryd.func10 (by kernel_rfl) rfl #[.string (⟨#[97, 116, 32, 55, 48, 32, 114, 101, 97, 100, 32, 110, 49, 59]⟩ : ByteArray)] rfl (by (try simp only [List.map_toArray, List.map_cons, List.map_nil]); first | done | rfl | (simp only [List.length_drop, List.length_take]; rfl) | (simp (disch := omega) only [IntWalk.wrap64_in]; done)) ?_; (with_reducible refine (lexer_Lex.calls (⟨#[97, 116, 32, 55, 48, 32, 114, 101, 97, 100, 32, 110, 49, 59]⟩ : ByteArray) t114 t115 t116 _ ?side1 A1.out).mono ?_); (case side1 => exact Lx.GOK.aside hG (by repeat (first | (with_reducible first | exact HB.out | apply below_alloc | apply pw_below_drewN | apply below_drew1) | exact HB.out))); rintro e w46 ⟨v117, rfl, ho0, hb⟩; refine ⟨_, rfl, ?_⟩; have n0_ := Aside0.mk (Kd.R_lower ho0 (below_size (by repeat (first | (with_reducible first | exact HB.out | apply below_alloc | apply pw_below_drewN | apply below_drew1) | exact HB.out)))); have n1_ := Aside0.mk (below_step (by repeat (first | (with_reducible first | exact HB.out | apply below_alloc | apply pw_below_drewN | apply below_drew1) | exact HB.out)) hb); clear HB; have HO118 := n0_; have HB := n1_; clear n0_ n1_; (try clear hb); (try clear hb2); (try clear hk); (try clear hi); (try clear ho0)) | ((with_reducible refine gate_callee (f := 10) rfl ?_); refine goesL_ (some 14) rfl rfl Tryd.func10 (by kernel_rfl) rfl #[.string (⟨#[49, 50, 97, 98, 59, 35, 32, 120]⟩ : ByteArray)] rfl (by (try simp only [List.map_toArray, List.map_cons, List.map_nil]); first | done | rfl | (simp only [List.length_drop, List.length_take]; rfl) | (simp (disch := omega) only [IntWalk.wrap64_in]; done)) ?_; (with_reducible refine (lexer_Lex.calls (⟨#[49, 50, 97, 98, 59, 35, 32, 120]⟩ : ByteArray) t119 t120 t121 _ ?side1 A2.out).mono ?_); (case side1 => exact Lx.GOK.aside hG (by repeat (first | (with_reducible first | exact HB.out | apply below_alloc | apply pw_below_drewN | apply below_drew1) | exact HB.out))); rintro e w47 ⟨v122, rfl, ho0, hb⟩; refine ⟨_, rfl, ?_⟩; have n0_ := Aside0.mk (Kd.R_elder' (by (with_reducible repeat (first | apply Kd.R_alloc | apply Kd.R_drewN | apply Kd.R_drew)); exact HO118.out) (Kd.R_base ho0) hb); have n1_ := Aside0.mk (Kd.R_lower (Kd.R_new' ho0 (Kd.R_lt (by (with_reducible repeat (first | apply Kd.R_alloc | apply Kd.R_drewN | apply Kd.R_drew)); exact HO118.out))) (below_size (by repeat (first | (with_reducible first | exact HB.out | apply below_alloc | apply pw_below_drewN | apply below_drew1) | exact HB.out)))); have n2_ := Aside0.mk (below_step (by repeat (first | (with_reducible first | exact HB.out | apply below_alloc | apply pw_below_drewN | apply below_drew1) | exact HB.out)) hb); clear HO118; clear HB; have HO118 := n0_; have HO123 := n1_; have HB := n2_; clear n0_ n1_ n2_; (try clear hb); (try clear hb2); (try clear hk); (try clear hi); (try clear ho0)) | (go_at_call 18; (with_reducible refine (slotmeshlaw01_fails.calls (⟨#[114, 117, 110, 32, 48, 48, 55]⟩ : ByteArray) 7 4 true _ ?side1 A5.out).mono ?_); (case side1 => exact Lx.GOK.aside hG (by repeat (first | (with_reducible first | exact HB.out | apply below_alloc | apply pw_below_drewN | apply below_drew1) | exact HB.out))); rintro e w48 ⟨rfl, hb⟩; have n0_ := Aside0.mk (Kd.R_below (by (with_reducible repeat (first | apply Kd.R_alloc | apply Kd.R_drewN | apply Kd.R_drew)); exact HO118.out) hb); have n1_ := Aside0.mk (Kd.R_below (by (with_reducible repeat (first | apply Kd.R_alloc | apply Kd.R_drewN | apply Kd.R_drew)); exact HO123.out) hb); have n2_ := Aside0.mk (below_step (by repeat (first | (with_reducible first | exact HB.out | apply below_alloc | apply pw_below_drewN | apply below_drew1) | exact HB.out)) hb); clear HO118; clear HO123; clear HB; have HO118 := n0_; have HO123 := n1_; have HB := n2_; clear n0_ n1_ n2_; (try clear hb); (try clear hb2); (try clear hk); (try clear hi)) | (go_at_call 18; (with_reducible refine (slotmeshlaw01_fails.calls (⟨#[114, 117, 110, 32, 49, 48, 48, 48, 48, 48, 48, 48, 48, 49]⟩ : ByteArray) 3 4 true _ ?side1 A7.out).mono ?_); (case side1 => exact Lx.GOK.aside hG (by repeat (first | (with_reducible first | exact HB.out | apply below_alloc | apply pw_below_drewN | apply below_drew1) | exact HB.out))); rintro e w49 ⟨rfl, hb⟩; have n0_ := Aside0.mk (Kd.R_below (by (with_reducible repeat (first | apply Kd.R_alloc | apply Kd.R_drewN | apply Kd.R_drew)); exact HO118.out) hb); have n1_ := Aside0.mk (Kd.R_below (by (with_reducible repeat (first | apply Kd.R_alloc | apply Kd.R_drewN | apply Kd.R_drew)); exact HO123.out) hb); have n2_ := Aside0.mk (below_step (by repeat (first | (with_reducible first | exact HB.out | apply below_alloc | apply pw_below_drewN | apply below_drew1) | exact HB.out)) hb); clear HO118; clear HO123; clear HB; have HO118 := n0_; have HO123 := n1_; have HB := n2_; clear n0_ n1_ n2_; (try clear hb); (try clear hb2); (try clear hk); (try clear hi)) | (go_at_call 18; (with_reducible refine (slotmeshlaw01_fails.calls (⟨#[109, 101, 115, 104, 44, 32]⟩ : ByteArray) 7 4 false _ ?side1 A9.out).mono ?_); (case side1 => exact Lx.GOK.aside hG (by repeat (first | (with_reducible first | exact HB.out | apply below_alloc | apply pw_below_drewN | apply below_drew1) | exact HB.out))); rintro e w50 ⟨rfl, hb⟩; have n0_ := Aside0.mk (Kd.R_below (by (with_reducible repeat (first | apply Kd.R_alloc | apply Kd.R_drewN | apply Kd.R_drew)); exact HO118.out) hb); have n1_ := Aside0.mk (Kd.R_below (by (with_reducible repeat (first | apply Kd.R_alloc | apply Kd.R_drewN | apply Kd.R_drew)); exact HO123.out) hb); have n2_ := Aside0.mk (below_step (by repeat (first | (with_reducible first | exact HB.out | apply below_alloc | apply pw_below_drewN | apply below_drew1) | exact HB.out)) hb); clear HO118; clear HO123; clear HB; have HO118 := n0_; have HO123 := n1_; have HB := n2_; clear n0_ n1_ n2_; (try clear hb); (try clear hb2); (try clear hk); (try clear hi)))
            go_ret
            exact ⟨by first | rfl | (simp [errW_none, errW_some] <;> rfl) | (simp [*, errW_none, errW_some] <;> rfl), by repeat (first | (with_reducible first | exact HB.out | apply below_alloc | apply pw_below_drewN | apply below_drew1) | exact HB.out)⟩
        · replace c8 := Bool.eq_false_iff.mpr c8
          subst c8
          have H1 : (some false) = some r := by rw [if_neg (show ¬ (false = true) by decide)] at H; exact H
          clear H
          have H := H1
          clear H1
          obtain rfl := Option.some.inj H
          go_enter Tryd.func9, Tryd.ntmps9
          go_wp2_with (first | ((with_reducible refine gate_callee (f := 10) rfl ?_); refine goesL_ (some 9) rfl rfl Tryd.func10 (by kernel_rfl) rfl #[.string (⟨#[97, 116, 32, 55, 48, 32, 114, 101, 97, 100, 32, 110, 49, 59]⟩ : ByteArray)] rfl (by (try simp only [List.map_toArray, List.map_cons, List.map_nil]); first | done | rfl | (simp only [List.length_drop, List.length_take]; rfl) | (simp (disch := omega) only [IntWalk.wrap64_in]; done)) ?_; (with_reducible refine (lexer_Lex.calls (⟨#[97, 116, 32, 55, 48, 32, 114, 101, 97, 100, 32, 110, 49, 59]⟩ : ByteArray) t114 t115 t116 _ ?side1 A1.out).mono ?_); (case side1 => exact Lx.GOK.aside hG (by repeat (first | (with_reducible first | exact HB.out | apply below_alloc | apply pw_below_drewN | apply below_drew1) | exact HB.out))); rintro e w51 ⟨v117, rfl, ho0, hb⟩; refine ⟨_, rfl, ?_⟩; have n0_ := Aside0.mk (Kd.R_lower ho0 (below_size (by repeat (first | (with_reducible first | exact HB.out | apply below_alloc | apply pw_below_drewN | apply below_drew1) | exact HB.out)))); have n1_ := Aside0.mk (below_step (by repeat (first | (with_reducible first | exact HB.out | apply below_alloc | apply pw_below_drewN | apply below_drew1) | exact HB.out)) hb); clear HB; have HO118 := n0_; have HB := n1_; clear n0_ n1_; (try clear hb); (try clear hb2); (try clear hk); (try clear hi); (try clear ho0)) | ((with_reducible refine gate_callee (f := 10) rfl ?_); refine goesL_ (some 14) rfl rfl Tryd.func10 (by kernel_rfl) rfl #[.string (⟨#[49, 50, 97, 98, 59, 35, 32, 120]⟩ : ByteArray)] rfl (by (try simp only [List.map_toArray, List.map_cons, List.map_nil]); first | done | rfl | (simp only [List.length_drop, List.length_take]; rfl) | (simp (disch := omega) only [IntWalk.wrap64_in]; done)) ?_; (with_reducible refine (lexer_Lex.calls (⟨#[49, 50, 97, 98, 59, 35, 32, 120]⟩ : ByteArray) t119 t120 t121 _ ?side1 A2.out).mono ?_); (case side1 => exact Lx.GOK.aside hG (by repeat (first | (with_reducible first | exact HB.out | apply below_alloc | apply pw_below_drewN | apply below_drew1) | exact HB.out))); rintro e w52 ⟨v122, rfl, ho0, hb⟩; refine ⟨_, rfl, ?_⟩; have n0_ := Aside0.mk (Kd.R_elder' (by (with_reducible repeat (first | apply Kd.R_alloc | apply Kd.R_drewN | apply Kd.R_drew)); exact HO118.out) (Kd.R_base ho0) hb); have n1_ := Aside0.mk (Kd.R_lower (Kd.R_new' ho0 (Kd.R_lt (by (with_reducible repeat (first | apply Kd.R_alloc | apply Kd.R_drewN | apply Kd.R_drew)); exact HO118.out))) (below_size (by repeat (first | (with_reducible first | exact HB.out | apply below_alloc | apply pw_below_drewN | apply below_drew1) | exact HB.out)))); have n2_ := Aside0.mk (below_step (by repeat (first | (with_reducible first | exact HB.out | apply below_alloc | apply pw_below_drewN | apply below_drew1) | exact HB.out)) hb); clear HO118; clear HB; have HO118 := n0_; have HO123 := n1_; have HB := n2_; clear n0_ n1_ n2_; (try clear hb); (try clear hb2); (try clear hk); (try clear hi); (try clear ho0)) | (go_at_call 18; (with_reducible refine (slotmeshlaw01_fails.calls (⟨#[114, 117, 110, 32, 48, 48, 55]⟩ : ByteArray) 7 4 true _ ?side1 A5.out).mono ?_); (case side1 => exact Lx.GOK.aside hG (by repeat (first | (with_reducible first | exact HB.out | apply below_alloc | apply pw_below_drewN | apply below_drew1) | exact HB.out))); rintro e w53 ⟨rfl, hb⟩; have n0_ := Aside0.mk (Kd.R_below (by (with_reducible repeat (first | apply Kd.R_alloc | apply Kd.R_drewN | apply Kd.R_drew)); exact HO118.out) hb); have n1_ := Aside0.mk (Kd.R_below (by (with_reducible repeat (first | apply Kd.R_alloc | apply Kd.R_drewN | apply Kd.R_drew)); exact HO123.out) hb); have n2_ := Aside0.mk (below_step (by repeat (first | (with_reducible first | exact HB.out | apply below_alloc | apply pw_below_drewN | apply below_drew1) | exact HB.out)) hb); clear HO118; clear HO123; clear HB; have HO118 := n0_; have HO123 := n1_; have HB := n2_; clear n0_ n1_ n2_; (try clear hb); (try clear hb2); (try clear hk); (try clear hi)) | (go_at_call 18; (with_reducible refine (slotmeshlaw01_fails.calls (⟨#[114, 117, 110, 32, 49, 48, 48, 48, 48, 48, 48, 48, 48, 49]⟩ : ByteArray) 3 4 false _ ?side1 A7.out).mono ?_); (case side1 => exact Lx.GOK.aside hG (by repeat (first | (with_reducible first | exact HB.out | apply below_alloc | apply pw_below_drewN | apply below_drew1) | exact HB.out))); rintro e w54 ⟨rfl, hb⟩; have n0_ := Aside0.mk (Kd.R_below (by (with_reducible repeat (first | apply Kd.R_alloc | apply Kd.R_drewN | apply Kd.R_drew)); exact HO118.out) hb); have n1_ := Aside0.mk (Kd.R_below (by (with_reducible repeat (first | apply Kd.R_alloc | apply Kd.R_drewN | apply Kd.R_drew)); exact HO123.out) hb); have n2_ := Aside0.mk (below_step (by repeat (first | (with_reducible first | exact HB.out | apply below_alloc | apply pw_below_drewN | apply below_drew1) | exact HB.out)) hb); clear HO118; clear HO123; clear HB; have HO118 := n0_; have HO123 := n1_; have HB := n2_; clear n0_ n1_ n2_; (try clear hb); (try clear hb2); (try clear hk); (try clear hi)))
          go_ret
          exact ⟨by first | rfl | (simp [errW_none, errW_some] <;> rfl) | (simp [*, errW_none, errW_some] <;> rfl), by repeat (first | (with_reducible first | exact HB.out | apply below_alloc | apply pw_below_drewN | apply below_drew1) | exact HB.out)⟩
      · replace c6 := Bool.eq_false_iff.mpr c6
        subst c6
        have H1 : (some false) = some r := by rw [if_neg (show ¬ (false = true) by decide)] at H; exact H
        clear H
        have H := H1
        clear H1
        obtain rfl := Option.some.inj H
        go_enter Tryd.func9, Tryd.ntmps9
        go_wp2_with (first | ((with_reducible refine gate_callee (f := 10) rfl ?_); refine goesL_ (some 9) rfl rfl Tryd.func10 (by kernel_rfl) rfl #[.string (⟨#[97, 116, 32, 55, 48, 32, 114, 101, 97, 100, 32, 110, 49, 59]⟩ : ByteArray)] rfl (by (try simp only [List.map_toArray, List.map_cons, List.map_nil]); first | done | rfl | (simp only [List.length_drop, List.length_take]; rfl) | (simp (disch := omega) only [IntWalk.wrap64_in]; done)) ?_; (with_reducible refine (lexer_Lex.calls (⟨#[97, 116, 32, 55, 48, 32, 114, 101, 97, 100, 32, 110, 49, 59]⟩ : ByteArray) t114 t115 t116 _ ?side1 A1.out).mono ?_); (case side1 => exact Lx.GOK.aside hG (by repeat (first | (with_reducible first | exact HB.out | apply below_alloc | apply pw_below_drewN | apply below_drew1) | exact HB.out))); rintro e w55 ⟨v117, rfl, ho0, hb⟩; refine ⟨_, rfl, ?_⟩; have n0_ := Aside0.mk (Kd.R_lower ho0 (below_size (by repeat (first | (with_reducible first | exact HB.out | apply below_alloc | apply pw_below_drewN | apply below_drew1) | exact HB.out)))); have n1_ := Aside0.mk (below_step (by repeat (first | (with_reducible first | exact HB.out | apply below_alloc | apply pw_below_drewN | apply below_drew1) | exact HB.out)) hb); clear HB; have HO118 := n0_; have HB := n1_; clear n0_ n1_; (try clear hb); (try clear hb2); (try clear hk); (try clear hi); (try clear ho0)) | ((with_reducible refine gate_callee (f := 10) rfl ?_); refine goesL_ (some 14) rfl rfl Tryd.func10 (by kernel_rfl) rfl #[.string (⟨#[49, 50, 97, 98, 59, 35, 32, 120]⟩ : ByteArray)] rfl (by (try simp only [List.map_toArray, List.map_cons, List.map_nil]); first | done | rfl | (simp only [List.length_drop, List.length_take]; rfl) | (simp (disch := omega) only [IntWalk.wrap64_in]; done)) ?_; (with_reducible refine (lexer_Lex.calls (⟨#[49, 50, 97, 98, 59, 35, 32, 120]⟩ : ByteArray) t119 t120 t121 _ ?side1 A2.out).mono ?_); (case side1 => exact Lx.GOK.aside hG (by repeat (first | (with_reducible first | exact HB.out | apply below_alloc | apply pw_below_drewN | apply below_drew1) | exact HB.out))); rintro e w56 ⟨v122, rfl, ho0, hb⟩; refine ⟨_, rfl, ?_⟩; have n0_ := Aside0.mk (Kd.R_elder' (by (with_reducible repeat (first | apply Kd.R_alloc | apply Kd.R_drewN | apply Kd.R_drew)); exact HO118.out) (Kd.R_base ho0) hb); have n1_ := Aside0.mk (Kd.R_lower (Kd.R_new' ho0 (Kd.R_lt (by (with_reducible repeat (first | apply Kd.R_alloc | apply Kd.R_drewN | apply Kd.R_drew)); exact HO118.out))) (below_size (by repeat (first | (with_reducible first | exact HB.out | apply below_alloc | apply pw_below_drewN | apply below_drew1) | exact HB.out)))); have n2_ := Aside0.mk (below_step (by repeat (first | (with_reducible first | exact HB.out | apply below_alloc | apply pw_below_drewN | apply below_drew1) | exact HB.out)) hb); clear HO118; clear HB; have HO118 := n0_; have HO123 := n1_; have HB := n2_; clear n0_ n1_ n2_; (try clear hb); (try clear hb2); (try clear hk); (try clear hi); (try clear ho0)) | (go_at_call 18; (with_reducible refine (slotmeshlaw01_fails.calls (⟨#[114, 117, 110, 32, 48, 48, 55]⟩ : ByteArray) 7 4 false _ ?side1 A5.out).mono ?_); (case side1 => exact Lx.GOK.aside hG (by repeat (first | (with_reducible first | exact HB.out | apply below_alloc | apply pw_below_drewN | apply below_drew1) | exact HB.out))); rintro e w57 ⟨rfl, hb⟩; have n0_ := Aside0.mk (Kd.R_below (by (with_reducible repeat (first | apply Kd.R_alloc | apply Kd.R_drewN | apply Kd.R_drew)); exact HO118.out) hb); have n1_ := Aside0.mk (Kd.R_below (by (with_reducible repeat (first | apply Kd.R_alloc | apply Kd.R_drewN | apply Kd.R_drew)); exact HO123.out) hb); have n2_ := Aside0.mk (below_step (by repeat (first | (with_reducible first | exact HB.out | apply below_alloc | apply pw_below_drewN | apply below_drew1) | exact HB.out)) hb); clear HO118; clear HO123; clear HB; have HO118 := n0_; have HO123 := n1_; have HB := n2_; clear n0_ n1_ n2_; (try clear hb); (try clear hb2); (try clear hk); (try clear hi)))
        go_ret
        exact ⟨by first | rfl | (simp [errW_none, errW_some] <;> rfl) | (simp [*, errW_none, errW_some] <;> rfl), by repeat (first | (with_reducible first | exact HB.out | apply below_alloc | apply pw_below_drewN | apply below_drew1) | exact HB.out)⟩
    · rw [if_neg c4] at H
      have c4b0 : (t120 == 0) = false := beq_eq_false_iff_ne.mpr c4
      have c4b1 : (t120 != 0) = true := bne_iff_ne.mpr c4
      obtain rfl := Option.some.inj H
      go_enter Tryd.func9, Tryd.ntmps9
      go_wp2_with (first | ((with_reducible refine gate_callee (f := 10) rfl ?_); refine goesL_ (some 9) rfl rfl Tryd.func10 (by kernel_rfl) rfl #[.string (⟨#[97, 116, 32, 55, 48, 32, 114, 101, 97, 100, 32, 110, 49, 59]⟩ : ByteArray)] rfl (by (try simp only [List.map_toArray, List.map_cons, List.map_nil]); first | done | rfl | (simp only [List.length_drop, List.length_take]; rfl) | (simp (disch := omega) only [IntWalk.wrap64_in]; done)) ?_; (with_reducible refine (lexer_Lex.calls (⟨#[97, 116, 32, 55, 48, 32, 114, 101, 97, 100, 32, 110, 49, 59]⟩ : ByteArray) t114 t115 t116 _ ?side1 A1.out).mono ?_); (case side1 => exact Lx.GOK.aside hG (by repeat (first | (with_reducible first | exact HB.out | apply below_alloc | apply pw_below_drewN | apply below_drew1) | exact HB.out))); rintro e w58 ⟨v117, rfl, ho0, hb⟩; refine ⟨_, rfl, ?_⟩; have n0_ := Aside0.mk (Kd.R_lower ho0 (below_size (by repeat (first | (with_reducible first | exact HB.out | apply below_alloc | apply pw_below_drewN | apply below_drew1) | exact HB.out)))); have n1_ := Aside0.mk (below_step (by repeat (first | (with_reducible first | exact HB.out | apply below_alloc | apply pw_below_drewN | apply below_drew1) | exact HB.out)) hb); clear HB; have HO118 := n0_; have HB := n1_; clear n0_ n1_; (try clear hb); (try clear hb2); (try clear hk); (try clear hi); (try clear ho0)) | ((with_reducible refine gate_callee (f := 10) rfl ?_); refine goesL_ (some 14) rfl rfl Tryd.func10 (by kernel_rfl) rfl #[.string (⟨#[49, 50, 97, 98, 59, 35, 32, 120]⟩ : ByteArray)] rfl (by (try simp only [List.map_toArray, List.map_cons, List.map_nil]); first | done | rfl | (simp only [List.length_drop, List.length_take]; rfl) | (simp (disch := omega) only [IntWalk.wrap64_in]; done)) ?_; (with_reducible refine (lexer_Lex.calls (⟨#[49, 50, 97, 98, 59, 35, 32, 120]⟩ : ByteArray) t119 t120 t121 _ ?side1 A2.out).mono ?_); (case side1 => exact Lx.GOK.aside hG (by repeat (first | (with_reducible first | exact HB.out | apply below_alloc | apply pw_below_drewN | apply below_drew1) | exact HB.out))); rintro e w59 ⟨v122, rfl, ho0, hb⟩; refine ⟨_, rfl, ?_⟩; have n0_ := Aside0.mk (Kd.R_elder' (by (with_reducible repeat (first | apply Kd.R_alloc | apply Kd.R_drewN | apply Kd.R_drew)); exact HO118.out) (Kd.R_base ho0) hb); have n1_ := Aside0.mk (Kd.R_lower (Kd.R_new' ho0 (Kd.R_lt (by (with_reducible repeat (first | apply Kd.R_alloc | apply Kd.R_drewN | apply Kd.R_drew)); exact HO118.out))) (below_size (by repeat (first | (with_reducible first | exact HB.out | apply below_alloc | apply pw_below_drewN | apply below_drew1) | exact HB.out)))); have n2_ := Aside0.mk (below_step (by repeat (first | (with_reducible first | exact HB.out | apply below_alloc | apply pw_below_drewN | apply below_drew1) | exact HB.out)) hb); clear HO118; clear HB; have HO118 := n0_; have HO123 := n1_; have HB := n2_; clear n0_ n1_ n2_; (try clear hb); (try clear hb2); (try clear hk); (try clear hi); (try clear ho0)))
      go_ret
      exact ⟨by first | rfl | (simp [errW_none, errW_some] <;> rfl) | (simp [*, errW_none, errW_some] <;> rfl), by repeat (first | (with_reducible first | exact HB.out | apply below_alloc | apply pw_below_drewN | apply below_drew1) | exact HB.out)⟩
  · rw [if_neg c3] at H
    have c3b0 : (t115 == 0) = false := beq_eq_false_iff_ne.mpr c3
    have c3b1 : (t115 != 0) = true := bne_iff_ne.mpr c3
    obtain rfl := Option.some.inj H
    go_enter Tryd.func9, Tryd.ntmps9
    go_wp2_with (first | ((with_reducible refine gate_callee (f := 10) rfl ?_); refine goesL_ (some 9) rfl rfl Tryd.func10 (by kernel_rfl) rfl #[.string (⟨#[97, 116, 32, 55, 48, 32, 114, 101, 97, 100, 32, 110, 49, 59]⟩ : ByteArray)] rfl (by (try simp only [List.map_toArray, List.map_cons, List.map_nil]); first | done | rfl | (simp only [List.length_drop, List.length_take]; rfl) | (simp (disch := omega) only [IntWalk.wrap64_in]; done)) ?_; (with_reducible refine (lexer_Lex.calls (⟨#[97, 116, 32, 55, 48, 32, 114, 101, 97, 100, 32, 110, 49, 59]⟩ : ByteArray) t114 t115 t116 _ ?side1 A1.out).mono ?_); (case side1 => exact Lx.GOK.aside hG (by repeat (first | (with_reducible first | exact HB.out | apply below_alloc | apply pw_below_drewN | apply below_drew1) | exact HB.out))); rintro e w60 ⟨v117, rfl, ho0, hb⟩; refine ⟨_, rfl, ?_⟩; have n0_ := Aside0.mk (Kd.R_lower ho0 (below_size (by repeat (first | (with_reducible first | exact HB.out | apply below_alloc | apply pw_below_drewN | apply below_drew1) | exact HB.out)))); have n1_ := Aside0.mk (below_step (by repeat (first | (with_reducible first | exact HB.out | apply below_alloc | apply pw_below_drewN | apply below_drew1) | exact HB.out)) hb); clear HB; have HO118 := n0_; have HB := n1_; clear n0_ n1_; (try clear hb); (try clear hb2); (try clear hk); (try clear hi); (try clear ho0)) | ((with_reducible refine gate_callee (f := 10) rfl ?_); refine goesL_ (some 14) rfl rfl Tryd.func10 (by kernel_rfl) rfl #[.string (⟨#[49, 50, 97, 98, 59, 35, 32, 120]⟩ : ByteArray)] rfl (by (try simp only [List.map_toArray, List.map_cons, List.map_nil]); first | done | rfl | (simp only [List.length_drop, List.length_take]; rfl) | (simp (disch := omega) only [IntWalk.wrap64_in]; done)) ?_; (with_reducible refine (lexer_Lex.calls (⟨#[49, 50, 97, 98, 59, 35, 32, 120]⟩ : ByteArray) t119 t120 t121 _ ?side1 A2.out).mono ?_); (case side1 => exact Lx.GOK.aside hG (by repeat (first | (with_reducible first | exact HB.out | apply below_alloc | apply pw_below_drewN | apply below_drew1) | exact HB.out))); rintro e w61 ⟨v122, rfl, ho0, hb⟩; refine ⟨_, rfl, ?_⟩; have n0_ := Aside0.mk (Kd.R_elder' (by (with_reducible repeat (first | apply Kd.R_alloc | apply Kd.R_drewN | apply Kd.R_drew)); exact HO118.out) (Kd.R_base ho0) hb); have n1_ := Aside0.mk (Kd.R_lower (Kd.R_new' ho0 (Kd.R_lt (by (with_reducible repeat (first | apply Kd.R_alloc | apply Kd.R_drewN | apply Kd.R_drew)); exact HO118.out))) (below_size (by repeat (first | (with_reducible first | exact HB.out | apply below_alloc | apply pw_below_drewN | apply below_drew1) | exact HB.out)))); have n2_ := Aside0.mk (below_step (by repeat (first | (with_reducible first | exact HB.out | apply below_alloc | apply pw_below_drewN | apply below_drew1) | exact HB.out)) hb); clear HO118; clear HB; have HO118 := n0_; have HO123 := n1_; have HB := n2_; clear n0_ n1_ n2_; (try clear hb); (try clear hb2); (try clear hk); (try clear hi); (try clear ho0)))
    go_ret
    exact ⟨by first | rfl | (simp [errW_none, errW_some] <;> rfl) | (simp [*, errW_none, errW_some] <;> rfl), by repeat (first | (with_reducible first | exact HB.out | apply below_alloc | apply pw_below_drewN | apply below_drew1) | exact HB.out)⟩

/-! ### slotmeshref01_Letter: function 25 -/
def slotmeshref01_Letter.f (a0 : Int) : Option (Bool) := if a0 ≥ 97 then (some (decide (a0 ≤ 122))) else (some false)
set_option maxHeartbeats 8000000 in
set_option maxRecDepth 100000 in
theorem slotmeshref01_Letter.calls (a0 : Int) (r : Bool) (w : World) (h : slotmeshref01_Letter.f a0 = some r) :
    Calls Tryd.prog 25 #[.int .u8 a0] w fun e w' => e = .returned (.bool r) ∧ Drawn0 w w' := by
  have H : (if a0 ≥ 97 then (some (decide (a0 ≤ 122))) else (some false)) = some r := h
  clear h
  by_cases c2 : a0 ≥ 97
  · rw [if_pos c2] at H
    have c2b0 : decide (97 ≤ a0) = true := decide_eq_true c2
    clear c2
    obtain rfl := Option.some.inj H
    go_enter Tryd.func25, Tryd.ntmps25
    go_wp2
    go_ret
    exact ⟨by first | rfl | (simp; done) | (simp [*]; done), by repeat (first | exact Drawn0.refl _ | apply Drawn0.step)⟩
  · rw [if_neg c2] at H
    have c2b0 : decide (97 ≤ a0) = false := decide_eq_false c2
    clear c2
    obtain rfl := Option.some.inj H
    go_enter Tryd.func25, Tryd.ntmps25
    go_wp2
    go_ret
    exact ⟨by first | rfl | (simp; done) | (simp [*]; done), by repeat (first | exact Drawn0.refl _ | apply Drawn0.step)⟩

/-! ### slotmeshref01_Digit: function 26 -/
def slotmeshref01_Digit.f (a0 : Int) : Option (Bool) := if a0 ≥ 48 then (some (decide (a0 ≤ 57))) else (some false)
set_option maxHeartbeats 8000000 in
set_option maxRecDepth 100000 in
theorem slotmeshref01_Digit.calls (a0 : Int) (r : Bool) (w : World) (h : slotmeshref01_Digit.f a0 = some r) :
    Calls Tryd.prog 26 #[.int .u8 a0] w fun e w' => e = .returned (.bool r) ∧ Drawn0 w w' := by
  have H : (if a0 ≥ 48 then (some (decide (a0 ≤ 57))) else (some false)) = some r := h
  clear h
  by_cases c2 : a0 ≥ 48
  · rw [if_pos c2] at H
    have c2b0 : decide (48 ≤ a0) = true := decide_eq_true c2
    clear c2
    obtain rfl := Option.some.inj H
    go_enter Tryd.func26, Tryd.ntmps26
    go_wp2
    go_ret
    exact ⟨by first | rfl | (simp; done) | (simp [*]; done), by repeat (first | exact Drawn0.refl _ | apply Drawn0.step)⟩
  · rw [if_neg c2] at H
    have c2b0 : decide (48 ≤ a0) = false := decide_eq_false c2
    clear c2
    obtain rfl := Option.some.inj H
    go_enter Tryd.func26, Tryd.ntmps26
    go_wp2
    go_ret
    exact ⟨by first | rfl | (simp; done) | (simp [*]; done), by repeat (first | exact Drawn0.refl _ | apply Drawn0.step)⟩

end Go.Proofs.YtiidalhcmlhnmaaDoor.PA
