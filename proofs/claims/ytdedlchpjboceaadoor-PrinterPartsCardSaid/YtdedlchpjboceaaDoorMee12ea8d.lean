/- Texts of proofs: plain words, and walks through the program's functions. -/
import Derived.Test.YtdedlchpjboceaaDoorM42f36c79
import Derived.Test.YtdedlchpjboceaaDoorM4975789b
import Derived.Test.YtdedlchpjboceaaDoorM640aa9dd
import Derived.Test.YtdedlchpjboceaaDoorM2a446c07
import Derived.Test.YtdedlchpjboceaaDoorM8af3e4d9
import Derived.Test.YtdedlchpjboceaaDoorM0b01364f
import Derived.Test.YtdedlchpjboceaaDoorM873e7c23

section
namespace Go.Proofs.YtdedlchpjboceaaDoor.Qy
open Go.RowKit Go.Proofs.YtdedlchpjboceaaDoorW.PrintWords Go.Proofs.YtdedlchpjboceaaDoorW.PrintLast Go.Proofs.YtdedlchpjboceaaDoor.Lx Go.Proofs.YtdedlchpjboceaaDoor.Px Go.Proofs.YtdedlchpjboceaaDoor.Tx Go.Proofs.YtdedlchpjboceaaDoor.Qz Go.Proofs.YtdedlchpjboceaaDoor.PE
def few1 (x : S40) : Bool := decide (x.f2.length ≤ 20) && decide (x.f1.size ≤ 50)
def fewB (l : List S40) : Bool := l.all few1 && decide (l.length ≤ 310)
theorem few_loop (l : List S40) (hl : l.length ≤ 9223372036854775807) (d : Nat) : ∀ j : Nat, j ≤ l.length → l.length - j = d →
    Ev (fun k => slotmeshref02_Few.l0 k l (j : Int)) ((l.drop j).all few1 && decide (l.length ≤ 310)) := by
  induction d with
  | zero =>
    intro j hj hd
    refine Ev.step (f := _) (fun k => by rw [slotmeshref02_Few.l0]) ?_
    refine evNeg (by omega) ?_
    rw [List.drop_of_length_le (by omega)]
    refine evEq (Ev.now _) ?_
    simp only [List.all_nil, Bool.true_and]
    congr 1
    exact propext (by omega)
  | succ d ih =>
    intro j hj hd
    have hlt : j < l.length := by omega
    have hih := ih (j + 1) (by omega) (by omega)
    have hw : wrap64 ((j : Int) + 1) = ((j + 1 : Nat) : Int) := by rw [w64 (by omega) (by omega)]; omega
    refine Ev.step (f := _) (fun k => by rw [slotmeshref02_Few.l0]) ?_
    refine evPos (by omega) (evPos (by omega) ?_)
    rw [rd_at l j hlt, List.drop_eq_getElem_cons hlt, List.all_cons]
    by_cases h1 : l[j].f2.length ≤ 20
    · refine evNeg (by omega) ?_
      by_cases h2 : l[j].f1.size ≤ 50
      · refine evNeg (by omega) ?_
        rw [hw]
        have e : few1 l[j] = true := by unfold few1; simp [h1, h2]
        rw [e, Bool.true_and]
        exact hih
      · refine evPos (by omega) ?_
        have e : few1 l[j] = false := by unfold few1; simp [h2]
        rw [e]; exact Ev.now _
    · refine evPos (by omega) ?_
      have e : few1 l[j] = false := by unfold few1; simp [h1]
      rw [e]; exact Ev.now _
theorem few_ev (l : List S40) (hl : l.length ≤ 9223372036854775807) : Ev (fun k => slotmeshref02_Few.f k l) (fewB l) := few_loop l hl l.length 0 (Nat.zero_le _) rfl
theorem few_some {l : List S40} (h : fewB l = true) : l.length ≤ 310 ∧ ∀ x ∈ l, x.f2.length ≤ 20 ∧ x.f1.size ≤ 50 := by
  unfold fewB at h
  rw [Bool.and_eq_true, decide_eq_true_eq, List.all_eq_true] at h
  refine ⟨h.2, fun x hx => ?_⟩
  have := h.1 x hx
  unfold few1 at this
  simpa using this
end Go.Proofs.YtdedlchpjboceaaDoor.Qy
end

section
namespace Go.Proofs.YtdedlchpjboceaaDoor.PE
open Go.RowKit Go.Proofs.YtdedlchpjboceaaDoorW.PrintWords Go.Proofs.YtdedlchpjboceaaDoorW.PrintLast Go.Proofs.YtdedlchpjboceaaDoorW.PrintMore
attribute [local go_sem] max2_int min2_int max_two min_two max_three min_three max_four min_four   -- for this text's walks alone
def slotmeshlaw03_PrinterParts.j0 : Nat → List (S40) → Int → Int → Bool → Bool → Option (Bool)
  | 0, _, _, _, _, _ => none
  | k + 1, x0, x1, x2, x7, x32 => if x32 = true then (some x7) else (if (x0.length : Int) = 0 then (none) else (if (wrap64 ((wrap64 ((x0.length : Int) - (Int.tmod (wrap64 (x1)) (x0.length : Int)))) + 1)) = 0 then (none) else ((printer_Print.f x0).bind fun bt198 => (if 0 ≤ (Int.tmod (wrap64 (x1)) (x0.length : Int)) then (if (Int.tmod (wrap64 (x1)) (x0.length : Int)) ≤ (wrap64 ((Int.tmod (wrap64 (x1)) (x0.length : Int)) + (Int.tmod (wrap64 (x2)) (wrap64 ((wrap64 ((x0.length : Int) - (Int.tmod (wrap64 (x1)) (x0.length : Int)))) + 1))))) then (if (wrap64 ((Int.tmod (wrap64 (x1)) (x0.length : Int)) + (Int.tmod (wrap64 (x2)) (wrap64 ((wrap64 ((x0.length : Int) - (Int.tmod (wrap64 (x1)) (x0.length : Int)))) + 1))))) ≤ (x0.length : Int) then ((printer_Print.f ((x0.take ((wrap64 ((Int.tmod (wrap64 (x1)) (x0.length : Int)) + (Int.tmod (wrap64 (x2)) (wrap64 ((wrap64 ((x0.length : Int) - (Int.tmod (wrap64 (x1)) (x0.length : Int)))) + 1))))) : Int).toNat).drop ((Int.tmod (wrap64 (x1)) (x0.length : Int)) : Int).toNat)).bind fun bt204 => (if (Int.tmod (wrap64 (x1)) (x0.length : Int)) ≤ (wrap64 ((Int.tmod (wrap64 (x1)) (x0.length : Int)) + 1)) then (if (wrap64 ((Int.tmod (wrap64 (x1)) (x0.length : Int)) + 1)) ≤ (x0.length : Int) then ((printer_Print.f ((x0.take ((wrap64 ((Int.tmod (wrap64 (x1)) (x0.length : Int)) + 1)) : Int).toNat).drop ((Int.tmod (wrap64 (x1)) (x0.length : Int)) : Int).toNat)).bind fun bt210 => ((slotmeshref01_Lex.f k bt210.1).bind fun bt212 => (if x7 = true then (if bt198.2 = 2 then (if bt210.2 = 0 then (if bt212.2.1 = 0 then (if (bt212.1.length : Int) ≥ 3 then (some (decide ((bt212.1.length : Int) ≤ 12))) else (some false)) else (some false)) else (some false)) else (if bt198.2 = 0 then (if bt204.2 = 0 then (if bt210.2 = 0 then (if bt212.2.1 = 0 then (if (bt212.1.length : Int) ≥ 3 then (some (decide ((bt212.1.length : Int) ≤ 12))) else (some false)) else (some false)) else (some false)) else (some false)) else (some false))) else (some false)))) else (none)) else (none))) else (none)) else (none)) else (none)))))
def slotmeshlaw03_PrinterParts.f (k : Nat) (l0 : List (S40)) (a1 : Int) (a2 : Int) : Option (Bool) := (slotmeshlaw03_head.f).bind fun t195 => ((slotmeshref02_Few.f k l0).bind fun t196 => (if t196 = true then ((slotmeshref02_Valid.f k l0).bind fun t197 => (if t197 = true then (slotmeshlaw03_PrinterParts.j0 k l0 a1 a2 t195 ((l0.length : Int) == 0)) else (slotmeshlaw03_PrinterParts.j0 k l0 a1 a2 t195 true))) else (slotmeshlaw03_PrinterParts.j0 k l0 a1 a2 t195 true)))
theorem slotmeshlaw03_PrinterParts.mono_l : ∀ k, (∀ y0 y1 y2 y3 y4, LeO (slotmeshlaw03_PrinterParts.j0 k y0 y1 y2 y3 y4) (slotmeshlaw03_PrinterParts.j0 (k + 1) y0 y1 y2 y3 y4))
  | 0 => fun _ _ _ _ _ r h => by simp [slotmeshlaw03_PrinterParts.j0] at h
  | k + 1 => by
    have ih0 := slotmeshlaw03_PrinterParts.mono_l k
    · intro y0 y1 y2 y3 y4
      unfold slotmeshlaw03_PrinterParts.j0
      repeat' first
      | (with_reducible exact ih0 _ _ _ _ _)
      | (with_reducible exact slotmeshref01_Lex.mono _ _)
      | (with_reducible exact slotmeshref02_Few.mono _ _)
      | (with_reducible exact slotmeshref02_Valid.mono _ _)
      | (with_reducible exact LeO.refl _)
      | (with_reducible exact LeO.none _)
      | (with_reducible refine LeO.ite ?_ ?_)
      | (with_reducible refine LeO.bind ?_ (fun _ => ?_))
      | exact ih0 _ _ _ _ _
      | exact slotmeshref01_Lex.mono _ _
      | exact slotmeshref02_Few.mono _ _
      | exact slotmeshref02_Valid.mono _ _
      | exact LeO.none _
      | refine LeO.ite ?_ ?_
      | refine LeO.bind ?_ (fun _ => ?_)
theorem slotmeshlaw03_PrinterParts.mono : ∀ a0 a1 a2 k, LeO (slotmeshlaw03_PrinterParts.f k a0 a1 a2) (slotmeshlaw03_PrinterParts.f (k + 1) a0 a1 a2) := by
  intro a0 a1 a2 k
  have ih0 := slotmeshlaw03_PrinterParts.mono_l k
  unfold slotmeshlaw03_PrinterParts.f
  repeat' first
      | (with_reducible exact ih0 _ _ _ _ _)
      | (with_reducible exact slotmeshref01_Lex.mono _ _)
      | (with_reducible exact slotmeshref02_Few.mono _ _)
      | (with_reducible exact slotmeshref02_Valid.mono _ _)
      | (with_reducible exact LeO.refl _)
      | (with_reducible exact LeO.none _)
      | (with_reducible refine LeO.ite ?_ ?_)
      | (with_reducible refine LeO.bind ?_ (fun _ => ?_))
      | exact ih0 _ _ _ _ _
      | exact slotmeshref01_Lex.mono _ _
      | exact slotmeshref02_Few.mono _ _
      | exact slotmeshref02_Valid.mono _ _
      | exact LeO.none _
      | refine LeO.ite ?_ ?_
      | refine LeO.bind ?_ (fun _ => ?_)
set_option maxHeartbeats 8000000 in
set_option maxRecDepth 100000 in
theorem slotmeshlaw03_PrinterParts.calls (k : Nat) (A0 : Option Addr) (c0 : Nat) (l0 : List (S40)) (a1 : Int) (a2 : Int) (r : Bool) (w : World) (hG : Aside0 (Tx.GP w)) (hr0 : Kd.C k40 w A0 l0.length l0) (hc0 : l0.length ≤ c0) (h : slotmeshlaw03_PrinterParts.f k l0 a1 a2 = some r) (hr0_ : r = true) :
    Calls Tryd.prog 7 #[.slice A0 l0.length c0, .int .u16 a1, .int .u16 a2] w fun e w' => e = .returned (.bool r) ∧ Below w.heap.size w w' := by
  have hr_ := Aside0.mk hr0_
  clear hr0_
  have HR0 := Aside0.mk hr0
  have HC0 := Aside0.mk hc0
  clear hr0 hc0
  have HB := Aside0.mk (Below.refl w.heap.size w)
  have H : ((slotmeshlaw03_head.f).bind fun t195 => ((slotmeshref02_Few.f k l0).bind fun t196 => (if t196 = true then ((slotmeshref02_Valid.f k l0).bind fun t197 => (if t197 = true then (slotmeshlaw03_PrinterParts.j0 k l0 a1 a2 t195 ((l0.length : Int) == 0)) else (slotmeshlaw03_PrinterParts.j0 k l0 a1 a2 t195 true))) else (slotmeshlaw03_PrinterParts.j0 k l0 a1 a2 t195 true)))) = some r := h
  clear h
  replace H := Option.bind_eq_some_iff.mp H
  obtain ⟨t195, A40, H⟩ := H
  replace H : ((slotmeshref02_Few.f k l0).bind fun t196 => (if t196 = true then ((slotmeshref02_Valid.f k l0).bind fun t197 => (if t197 = true then (slotmeshlaw03_PrinterParts.j0 k l0 a1 a2 t195 ((l0.length : Int) == 0)) else (slotmeshlaw03_PrinterParts.j0 k l0 a1 a2 t195 true))) else (slotmeshlaw03_PrinterParts.j0 k l0 a1 a2 t195 true))) = some r := H
  have A4 := Aside0.mk A40
  clear A40
  have HC5 := Aside0.mk H
  clear H
  go_enter Tryd.func7, Tryd.ntmps7
  go_upto_region 2 with (first | ((with_reducible refine gate_callee (f := 29) rfl ?_); refine goesL_ (some 19) rfl rfl Tryd.func29 (by kernel_rfl) rfl #[] rfl (by (try simp only [List.map_toArray, List.map_nil]); first | done | rfl | (simp only [List.length_drop, List.length_take]; rfl) | (simp (disch := omega) only [IntWalk.wrap64_in]; done)) ?_; (with_reducible refine (slotmeshlaw03_head.calls  t195 _ ?side1 A4.out).mono ?_); (case side1 => exact Tx.GP.aside hG (by repeat (first | (with_reducible first | exact HB.out | apply below_alloc | apply pw_below_drewN | apply below_drew1) | exact HB.out))); rintro e w6 ⟨rfl, hb⟩; refine ⟨_, rfl, ?_⟩; have n0_ := Aside0.mk (below_step (by repeat (first | (with_reducible first | exact HB.out | apply below_alloc | apply pw_below_drewN | apply below_drew1) | exact HB.out)) hb); clear HB; have HB := n0_; clear n0_; (try clear hb); (try clear hb2); (try clear hk); (try clear hi)))
  (try simp only [Act.put, List.setIfInBounds_toArray, List.set_cons_zero, List.set_cons_succ])
  go_cut [32] (fun v32 wc => ∃ (kq : Nat) (x32_4 : Bool), v32 = .bool x32_4 ∧ Aside0 (slotmeshlaw03_PrinterParts.j0 kq l0 a1 a2 t195 x32_4 = some r) ∧ Aside0 (kq ≤ k) ∧ Aside0 (Below w.heap.size w wc))
  case first =>
    have H := HC5.out
    clear HC5
    replace H := Option.bind_eq_some_iff.mp H
    obtain ⟨t196, A70, H⟩ := H
    replace H : (if t196 = true then ((slotmeshref02_Valid.f k l0).bind fun t197 => (if t197 = true then (slotmeshlaw03_PrinterParts.j0 k l0 a1 a2 t195 ((l0.length : Int) == 0)) else (slotmeshlaw03_PrinterParts.j0 k l0 a1 a2 t195 true))) else (slotmeshlaw03_PrinterParts.j0 k l0 a1 a2 t195 true)) = some r := H
    have A7 := Aside0.mk A70
    clear A70
    by_cases c8 : t196 = true
    · subst c8
      have H1 : ((slotmeshref02_Valid.f k l0).bind fun t197 => (if t197 = true then (slotmeshlaw03_PrinterParts.j0 k l0 a1 a2 t195 ((l0.length : Int) == 0)) else (slotmeshlaw03_PrinterParts.j0 k l0 a1 a2 t195 true))) = some r := by rw [if_pos rfl] at H; exact H
      clear H
      have H := H1
      clear H1
      replace H := Option.bind_eq_some_iff.mp H
      obtain ⟨t197, A90, H⟩ := H
      replace H : (if t197 = true then (slotmeshlaw03_PrinterParts.j0 k l0 a1 a2 t195 ((l0.length : Int) == 0)) else (slotmeshlaw03_PrinterParts.j0 k l0 a1 a2 t195 true)) = some r := H
      have A9 := Aside0.mk A90
      clear A90
      by_cases c10 : t197 = true
      · subst c10
        have H1 : (slotmeshlaw03_PrinterParts.j0 k l0 a1 a2 t195 ((l0.length : Int) == 0)) = some r := by rw [if_pos rfl] at H; exact H
        clear H
        have H := H1
        clear H1
        have H' := Aside0.mk H
        clear H
        go_wp2_with (first | ((with_reducible refine gate_callee (f := 25) rfl ?_); refine goesL_ (some 21) rfl rfl Tryd.func25 (by kernel_rfl) rfl #[.slice A0 l0.length c0] rfl (by (try simp only [List.map_toArray, List.map_cons, List.map_nil]); first | done | rfl | (simp only [List.length_drop, List.length_take]; rfl) | (simp (disch := omega) only [IntWalk.wrap64_in]; done)) ?_; (with_reducible refine (slotmeshref02_Few.calls k _ _ l0 true _ ?side1 ?side2 A7.out).mono ?_); (case side1 => repeat (first | exact (Kd.C_below HR0.out HB.out) | (with_reducible refine Kd.C_alloc ?_ _) | (with_reducible refine Kd.C_drewN ?_ _) | (with_reducible refine Kd.C_drew ?_))); (case side2 => exact HC0.out); rintro e w' ⟨rfl, ⟨nd, rfl⟩⟩; refine ⟨_, rfl, ?_⟩) | (go_at_call 28; (with_reducible refine (slotmeshref02_Valid.calls k _ _ l0 true _ ?side1 ?side2 A9.out).mono ?_); (case side1 => repeat (first | exact (Kd.C_below HR0.out (by repeat (first | (with_reducible first | exact HB.out | apply below_alloc | apply pw_below_drewN | apply below_drew1) | exact HB.out))) | (with_reducible refine Kd.C_alloc ?_ _) | (with_reducible refine Kd.C_drewN ?_ _) | (with_reducible refine Kd.C_drew ?_))); (case side2 => exact HC0.out); rintro e w11 ⟨rfl, hb⟩; have n0_ := Aside0.mk (below_step (by repeat (first | (with_reducible first | exact HB.out | apply below_alloc | apply pw_below_drewN | apply below_drew1) | exact HB.out)) hb); clear HB; have HB := n0_; clear n0_; (try clear hb); (try clear hb2); (try clear hk); (try clear hi)))
        go_meet
        case rel => exact ⟨_, (((l0.length : Int) == 0)), (by first | rfl | (simp; done) | (simp [*]; done)), H', ⟨by first | omega | exact Nat.le_refl _⟩, ⟨by repeat (first | (with_reducible first | exact HB.out | apply below_alloc | apply pw_below_drewN | apply below_drew1) | exact HB.out)⟩⟩
      · replace c10 := Bool.eq_false_iff.mpr c10
        subst c10
        have H1 : (slotmeshlaw03_PrinterParts.j0 k l0 a1 a2 t195 true) = some r := by rw [if_neg (show ¬ (false = true) by decide)] at H; exact H
        clear H
        have H := H1
        clear H1
        have H' := Aside0.mk H
        clear H
        go_wp2_with (first | ((with_reducible refine gate_callee (f := 25) rfl ?_); refine goesL_ (some 21) rfl rfl Tryd.func25 (by kernel_rfl) rfl #[.slice A0 l0.length c0] rfl (by (try simp only [List.map_toArray, List.map_cons, List.map_nil]); first | done | rfl | (simp only [List.length_drop, List.length_take]; rfl) | (simp (disch := omega) only [IntWalk.wrap64_in]; done)) ?_; (with_reducible refine (slotmeshref02_Few.calls k _ _ l0 true _ ?side1 ?side2 A7.out).mono ?_); (case side1 => repeat (first | exact (Kd.C_below HR0.out HB.out) | (with_reducible refine Kd.C_alloc ?_ _) | (with_reducible refine Kd.C_drewN ?_ _) | (with_reducible refine Kd.C_drew ?_))); (case side2 => exact HC0.out); rintro e w' ⟨rfl, ⟨nd, rfl⟩⟩; refine ⟨_, rfl, ?_⟩) | (go_at_call 28; (with_reducible refine (slotmeshref02_Valid.calls k _ _ l0 false _ ?side1 ?side2 A9.out).mono ?_); (case side1 => repeat (first | exact (Kd.C_below HR0.out (by repeat (first | (with_reducible first | exact HB.out | apply below_alloc | apply pw_below_drewN | apply below_drew1) | exact HB.out))) | (with_reducible refine Kd.C_alloc ?_ _) | (with_reducible refine Kd.C_drewN ?_ _) | (with_reducible refine Kd.C_drew ?_))); (case side2 => exact HC0.out); rintro e w12 ⟨rfl, hb⟩; have n0_ := Aside0.mk (below_step (by repeat (first | (with_reducible first | exact HB.out | apply below_alloc | apply pw_below_drewN | apply below_drew1) | exact HB.out)) hb); clear HB; have HB := n0_; clear n0_; (try clear hb); (try clear hb2); (try clear hk); (try clear hi)))
        go_meet
        case rel => exact ⟨_, (true), (by first | rfl | (simp; done) | (simp [*]; done)), H', ⟨by first | omega | exact Nat.le_refl _⟩, ⟨by repeat (first | (with_reducible first | exact HB.out | apply below_alloc | apply pw_below_drewN | apply below_drew1) | exact HB.out)⟩⟩
    · replace c8 := Bool.eq_false_iff.mpr c8
      subst c8
      have H1 : (slotmeshlaw03_PrinterParts.j0 k l0 a1 a2 t195 true) = some r := by rw [if_neg (show ¬ (false = true) by decide)] at H; exact H
      clear H
      have H := H1
      clear H1
      have H' := Aside0.mk H
      clear H
      go_wp2_with (first | ((with_reducible refine gate_callee (f := 25) rfl ?_); refine goesL_ (some 21) rfl rfl Tryd.func25 (by kernel_rfl) rfl #[.slice A0 l0.length c0] rfl (by (try simp only [List.map_toArray, List.map_cons, List.map_nil]); first | done | rfl | (simp only [List.length_drop, List.length_take]; rfl) | (simp (disch := omega) only [IntWalk.wrap64_in]; done)) ?_; (with_reducible refine (slotmeshref02_Few.calls k _ _ l0 false _ ?side1 ?side2 A7.out).mono ?_); (case side1 => repeat (first | exact (Kd.C_below HR0.out HB.out) | (with_reducible refine Kd.C_alloc ?_ _) | (with_reducible refine Kd.C_drewN ?_ _) | (with_reducible refine Kd.C_drew ?_))); (case side2 => exact HC0.out); rintro e w' ⟨rfl, ⟨nd, rfl⟩⟩; refine ⟨_, rfl, ?_⟩))
      go_meet
      case rel => exact ⟨_, (true), (by first | rfl | (simp; done) | (simp [*]; done)), H', ⟨by first | omega | exact Nat.le_refl _⟩, ⟨by repeat (first | (with_reducible first | exact HB.out | apply below_alloc | apply pw_below_drewN | apply below_drew1) | exact HB.out)⟩⟩
  case rest =>
    clear HC5
    try clear c1
    try clear c2
    try clear p2
    try clear c7
    try clear c8
    try clear c10
    obtain ⟨kq, x32_4, rfl, HA, HJ4, HB⟩ := hcut
    cases kq with
    | zero => exact absurd HA.out (by simp [slotmeshlaw03_PrinterParts.j0])
    | succ kj4 =>
      have H := HA.out
      clear HA
      simp only [slotmeshlaw03_PrinterParts.j0] at H
      by_cases c13 : x32_4 = true
      · subst c13
        have H1 : (some t195) = some r := by rw [if_pos rfl] at H; exact H
        clear H
        have H := H1
        clear H1
        clear hr_
        obtain rfl := Option.some.inj H
        go_wp2
        go_ret
        exact ⟨by first | rfl | (simp [errW_none, errW_some] <;> rfl) | (simp [*, errW_none, errW_some] <;> rfl), by repeat (first | (with_reducible first | exact HB.out | apply below_alloc | apply pw_below_drewN | apply below_drew1) | exact HB.out)⟩
      · replace c13 := Bool.eq_false_iff.mpr c13
        subst c13
        have H1 : (if (l0.length : Int) = 0 then (none) else (if (wrap64 ((wrap64 ((l0.length : Int) - (Int.tmod (wrap64 (a1)) (l0.length : Int)))) + 1)) = 0 then (none) else ((printer_Print.f l0).bind fun bt198 => (if 0 ≤ (Int.tmod (wrap64 (a1)) (l0.length : Int)) then (if (Int.tmod (wrap64 (a1)) (l0.length : Int)) ≤ (wrap64 ((Int.tmod (wrap64 (a1)) (l0.length : Int)) + (Int.tmod (wrap64 (a2)) (wrap64 ((wrap64 ((l0.length : Int) - (Int.tmod (wrap64 (a1)) (l0.length : Int)))) + 1))))) then (if (wrap64 ((Int.tmod (wrap64 (a1)) (l0.length : Int)) + (Int.tmod (wrap64 (a2)) (wrap64 ((wrap64 ((l0.length : Int) - (Int.tmod (wrap64 (a1)) (l0.length : Int)))) + 1))))) ≤ (l0.length : Int) then ((printer_Print.f ((l0.take ((wrap64 ((Int.tmod (wrap64 (a1)) (l0.length : Int)) + (Int.tmod (wrap64 (a2)) (wrap64 ((wrap64 ((l0.length : Int) - (Int.tmod (wrap64 (a1)) (l0.length : Int)))) + 1))))) : Int).toNat).drop ((Int.tmod (wrap64 (a1)) (l0.length : Int)) : Int).toNat)).bind fun bt204 => (if (Int.tmod (wrap64 (a1)) (l0.length : Int)) ≤ (wrap64 ((Int.tmod (wrap64 (a1)) (l0.length : Int)) + 1)) then (if (wrap64 ((Int.tmod (wrap64 (a1)) (l0.length : Int)) + 1)) ≤ (l0.length : Int) then ((printer_Print.f ((l0.take ((wrap64 ((Int.tmod (wrap64 (a1)) (l0.length : Int)) + 1)) : Int).toNat).drop ((Int.tmod (wrap64 (a1)) (l0.length : Int)) : Int).toNat)).bind fun bt210 => ((slotmeshref01_Lex.f kj4 bt210.1).bind fun bt212 => (if t195 = true then (if bt198.2 = 2 then (if bt210.2 = 0 then (if bt212.2.1 = 0 then (if (bt212.1.length : Int) ≥ 3 then (some (decide ((bt212.1.length : Int) ≤ 12))) else (some false)) else (some false)) else (some false)) else (if bt198.2 = 0 then (if bt204.2 = 0 then (if bt210.2 = 0 then (if bt212.2.1 = 0 then (if (bt212.1.length : Int) ≥ 3 then (some (decide ((bt212.1.length : Int) ≤ 12))) else (some false)) else (some false)) else (some false)) else (some false)) else (some false))) else (some false)))) else (none)) else (none))) else (none)) else (none)) else (none))))) = some r := by rw [if_neg (show ¬ (false = true) by decide)] at H; exact H
        clear H
        have H := H1
        clear H1
        by_cases c14 : (l0.length : Int) = 0
        · rw [if_pos c14] at H
          exact absurd H (by simp)
        · rw [if_neg c14] at H
          have c14b0 : ((l0.length : Int) == 0) = false := beq_eq_false_iff_ne.mpr c14
          have c14b1 : ((l0.length : Int) != 0) = true := bne_iff_ne.mpr c14
          have c14b2 : ¬ (l0 = []) := fun h_ => c14 (by rw [h_]; rfl)
          by_cases c15 : (wrap64 ((wrap64 ((l0.length : Int) - (Int.tmod (wrap64 (a1)) (l0.length : Int)))) + 1)) = 0
          · rw [if_pos c15] at H
            exact absurd H (by simp)
          · rw [if_neg c15] at H
            have c15b0 : ((wrap64 ((wrap64 ((l0.length : Int) - (Int.tmod (wrap64 (a1)) (l0.length : Int)))) + 1)) == 0) = false := beq_eq_false_iff_ne.mpr c15
            have c15b1 : ((wrap64 ((wrap64 ((l0.length : Int) - (Int.tmod (wrap64 (a1)) (l0.length : Int)))) + 1)) != 0) = true := bne_iff_ne.mpr c15
            replace H := Option.bind_eq_some_iff.mp H
            obtain ⟨⟨t198, t199⟩, A160, H⟩ := H
            replace H : (if 0 ≤ (Int.tmod (wrap64 (a1)) (l0.length : Int)) then (if (Int.tmod (wrap64 (a1)) (l0.length : Int)) ≤ (wrap64 ((Int.tmod (wrap64 (a1)) (l0.length : Int)) + (Int.tmod (wrap64 (a2)) (wrap64 ((wrap64 ((l0.length : Int) - (Int.tmod (wrap64 (a1)) (l0.length : Int)))) + 1))))) then (if (wrap64 ((Int.tmod (wrap64 (a1)) (l0.length : Int)) + (Int.tmod (wrap64 (a2)) (wrap64 ((wrap64 ((l0.length : Int) - (Int.tmod (wrap64 (a1)) (l0.length : Int)))) + 1))))) ≤ (l0.length : Int) then ((printer_Print.f ((l0.take ((wrap64 ((Int.tmod (wrap64 (a1)) (l0.length : Int)) + (Int.tmod (wrap64 (a2)) (wrap64 ((wrap64 ((l0.length : Int) - (Int.tmod (wrap64 (a1)) (l0.length : Int)))) + 1))))) : Int).toNat).drop ((Int.tmod (wrap64 (a1)) (l0.length : Int)) : Int).toNat)).bind fun bt204 => (if (Int.tmod (wrap64 (a1)) (l0.length : Int)) ≤ (wrap64 ((Int.tmod (wrap64 (a1)) (l0.length : Int)) + 1)) then (if (wrap64 ((Int.tmod (wrap64 (a1)) (l0.length : Int)) + 1)) ≤ (l0.length : Int) then ((printer_Print.f ((l0.take ((wrap64 ((Int.tmod (wrap64 (a1)) (l0.length : Int)) + 1)) : Int).toNat).drop ((Int.tmod (wrap64 (a1)) (l0.length : Int)) : Int).toNat)).bind fun bt210 => ((slotmeshref01_Lex.f kj4 bt210.1).bind fun bt212 => (if t195 = true then (if t199 = 2 then (if bt210.2 = 0 then (if bt212.2.1 = 0 then (if (bt212.1.length : Int) ≥ 3 then (some (decide ((bt212.1.length : Int) ≤ 12))) else (some false)) else (some false)) else (some false)) else (if t199 = 0 then (if bt204.2 = 0 then (if bt210.2 = 0 then (if bt212.2.1 = 0 then (if (bt212.1.length : Int) ≥ 3 then (some (decide ((bt212.1.length : Int) ≤ 12))) else (some false)) else (some false)) else (some false)) else (some false)) else (some false))) else (some false)))) else (none)) else (none))) else (none)) else (none)) else (none)) = some r := H
            have A16 := Aside0.mk A160
            clear A160
            obtain ⟨ji17, hji17⟩ : ∃ j_ : Int, (Int.tmod (wrap64 (a1)) (l0.length : Int)) = j_ := ⟨_, rfl⟩
            replace H : (if 0 ≤ (ji17) then (if (ji17) ≤ (wrap64 ((ji17) + (Int.tmod (wrap64 (a2)) (wrap64 ((wrap64 ((l0.length : Int) - (ji17))) + 1))))) then (if (wrap64 ((ji17) + (Int.tmod (wrap64 (a2)) (wrap64 ((wrap64 ((l0.length : Int) - (ji17))) + 1))))) ≤ (l0.length : Int) then ((printer_Print.f ((l0.take ((wrap64 ((ji17) + (Int.tmod (wrap64 (a2)) (wrap64 ((wrap64 ((l0.length : Int) - (ji17))) + 1))))) : Int).toNat).drop ((ji17) : Int).toNat)).bind fun bt204 => (if (ji17) ≤ (wrap64 ((ji17) + 1)) then (if (wrap64 ((ji17) + 1)) ≤ (l0.length : Int) then ((printer_Print.f ((l0.take ((wrap64 ((ji17) + 1)) : Int).toNat).drop ((ji17) : Int).toNat)).bind fun bt210 => ((slotmeshref01_Lex.f kj4 bt210.1).bind fun bt212 => (if t195 = true then (if t199 = 2 then (if bt210.2 = 0 then (if bt212.2.1 = 0 then (if (bt212.1.length : Int) ≥ 3 then (some (decide ((bt212.1.length : Int) ≤ 12))) else (some false)) else (some false)) else (some false)) else (if t199 = 0 then (if bt204.2 = 0 then (if bt210.2 = 0 then (if bt212.2.1 = 0 then (if (bt212.1.length : Int) ≥ 3 then (some (decide ((bt212.1.length : Int) ≤ 12))) else (some false)) else (some false)) else (some false)) else (some false)) else (some false))) else (some false)))) else (none)) else (none))) else (none)) else (none)) else (none)) = some r := by first | (rw [hji17] at H; exact H) | (simp only [hji17] at H ⊢; exact H)
            (try rw [hji17] at c15b0)
            (try have c15nj := ne_of_beq_false c15b0)
            (try rw [hji17] at c15b1)
            (try rw [hji17] at A16)
            by_cases c18 : 0 ≤ (ji17)
            · rw [if_pos c18] at H
              have c18b0 := eq_true c18
              have c18b1 : decide (0 ≤ (ji17)) = true := decide_eq_true c18
              clear c18
              by_cases c19 : (ji17) ≤ (wrap64 ((ji17) + (Int.tmod (wrap64 (a2)) (wrap64 ((wrap64 ((l0.length : Int) - (ji17))) + 1)))))
              · rw [if_pos c19] at H
                have c19b0 := eq_true c19
                have c19b1 : decide ((ji17) ≤ (wrap64 ((ji17) + (Int.tmod (wrap64 (a2)) (wrap64 ((wrap64 ((l0.length : Int) - (ji17))) + 1)))))) = true := decide_eq_true c19
                by_cases c20 : (wrap64 ((ji17) + (Int.tmod (wrap64 (a2)) (wrap64 ((wrap64 ((l0.length : Int) - (ji17))) + 1))))) ≤ (l0.length : Int)
                · rw [if_pos c20] at H
                  have c20b0 := eq_true c20
                  have c20b1 : decide ((wrap64 ((ji17) + (Int.tmod (wrap64 (a2)) (wrap64 ((wrap64 ((l0.length : Int) - (ji17))) + 1))))) ≤ (l0.length : Int)) = true := decide_eq_true c20
                  obtain ⟨y200, hy200⟩ : ∃ y_ : List (S40), y_ = ((l0.take ((wrap64 ((ji17) + (Int.tmod (wrap64 (a2)) (wrap64 ((wrap64 ((l0.length : Int) - (ji17))) + 1))))) : Int).toNat).drop ((ji17) : Int).toNat) := ⟨_, rfl⟩
                  replace H : ((printer_Print.f y200).bind fun bt204 => (if (ji17) ≤ (wrap64 ((ji17) + 1)) then (if (wrap64 ((ji17) + 1)) ≤ (l0.length : Int) then ((printer_Print.f ((l0.take ((wrap64 ((ji17) + 1)) : Int).toNat).drop ((ji17) : Int).toNat)).bind fun bt210 => ((slotmeshref01_Lex.f kj4 bt210.1).bind fun bt212 => (if t195 = true then (if t199 = 2 then (if bt210.2 = 0 then (if bt212.2.1 = 0 then (if (bt212.1.length : Int) ≥ 3 then (some (decide ((bt212.1.length : Int) ≤ 12))) else (some false)) else (some false)) else (some false)) else (if t199 = 0 then (if bt204.2 = 0 then (if bt210.2 = 0 then (if bt212.2.1 = 0 then (if (bt212.1.length : Int) ≥ 3 then (some (decide ((bt212.1.length : Int) ≤ 12))) else (some false)) else (some false)) else (some false)) else (some false)) else (some false))) else (some false)))) else (none)) else (none))) = some r := by first | (rw [hy200]; with_reducible exact H) | (have H2_ := (Option.bind_some _ _).symm.trans H; rw [hy200]; with_reducible exact H2_) | (have H2_ := (Option.bind_some _ _).symm.trans H; with_reducible exact H2_) | with_reducible exact H | (rw [hy200]; exact H) | exact H
                  have Ny200 := Aside0.mk hy200
                  clear hy200
                  replace H := Option.bind_eq_some_iff.mp H
                  obtain ⟨⟨t204, t205⟩, A210, H⟩ := H
                  replace H : (if (ji17) ≤ (wrap64 ((ji17) + 1)) then (if (wrap64 ((ji17) + 1)) ≤ (l0.length : Int) then ((printer_Print.f ((l0.take ((wrap64 ((ji17) + 1)) : Int).toNat).drop ((ji17) : Int).toNat)).bind fun bt210 => ((slotmeshref01_Lex.f kj4 bt210.1).bind fun bt212 => (if t195 = true then (if t199 = 2 then (if bt210.2 = 0 then (if bt212.2.1 = 0 then (if (bt212.1.length : Int) ≥ 3 then (some (decide ((bt212.1.length : Int) ≤ 12))) else (some false)) else (some false)) else (some false)) else (if t199 = 0 then (if t205 = 0 then (if bt210.2 = 0 then (if bt212.2.1 = 0 then (if (bt212.1.length : Int) ≥ 3 then (some (decide ((bt212.1.length : Int) ≤ 12))) else (some false)) else (some false)) else (some false)) else (some false)) else (some false))) else (some false)))) else (none)) else (none)) = some r := H
                  have A21 := Aside0.mk A210
                  clear A210
                  have c22b0 := eq_true (of_decide_eq_true (by first | (with_reducible assumption) | assumption) : 0 ≤ (ji17))
                  by_cases c23 : (ji17) ≤ (wrap64 ((ji17) + 1))
                  · rw [if_pos c23] at H
                    have c23b0 := eq_true c23
                    have c23b1 : decide ((ji17) ≤ (wrap64 ((ji17) + 1))) = true := decide_eq_true c23
                    by_cases c24 : (wrap64 ((ji17) + 1)) ≤ (l0.length : Int)
                    · rw [if_pos c24] at H
                      have c24b0 := eq_true c24
                      have c24b1 : decide ((wrap64 ((ji17) + 1)) ≤ (l0.length : Int)) = true := decide_eq_true c24
                      obtain ⟨y206, hy206⟩ : ∃ y_ : List (S40), y_ = ((l0.take ((wrap64 ((ji17) + 1)) : Int).toNat).drop ((ji17) : Int).toNat) := ⟨_, rfl⟩
                      replace H : ((printer_Print.f y206).bind fun bt210 => ((slotmeshref01_Lex.f kj4 bt210.1).bind fun bt212 => (if t195 = true then (if t199 = 2 then (if bt210.2 = 0 then (if bt212.2.1 = 0 then (if (bt212.1.length : Int) ≥ 3 then (some (decide ((bt212.1.length : Int) ≤ 12))) else (some false)) else (some false)) else (some false)) else (if t199 = 0 then (if t205 = 0 then (if bt210.2 = 0 then (if bt212.2.1 = 0 then (if (bt212.1.length : Int) ≥ 3 then (some (decide ((bt212.1.length : Int) ≤ 12))) else (some false)) else (some false)) else (some false)) else (some false)) else (some false))) else (some false)))) = some r := by first | (rw [hy206]; with_reducible exact H) | (have H2_ := (Option.bind_some _ _).symm.trans H; rw [hy206]; with_reducible exact H2_) | (have H2_ := (Option.bind_some _ _).symm.trans H; with_reducible exact H2_) | with_reducible exact H | (rw [hy206]; exact H) | exact H
                      have Ny206 := Aside0.mk hy206
                      clear hy206
                      replace H := Option.bind_eq_some_iff.mp H
                      obtain ⟨⟨t210, t211⟩, A250, H⟩ := H
                      replace H : ((slotmeshref01_Lex.f kj4 t210).bind fun bt212 => (if t195 = true then (if t199 = 2 then (if t211 = 0 then (if bt212.2.1 = 0 then (if (bt212.1.length : Int) ≥ 3 then (some (decide ((bt212.1.length : Int) ≤ 12))) else (some false)) else (some false)) else (some false)) else (if t199 = 0 then (if t205 = 0 then (if t211 = 0 then (if bt212.2.1 = 0 then (if (bt212.1.length : Int) ≥ 3 then (some (decide ((bt212.1.length : Int) ≤ 12))) else (some false)) else (some false)) else (some false)) else (some false)) else (some false))) else (some false))) = some r := H
                      have A25 := Aside0.mk A250
                      clear A250
                      replace H := Option.bind_eq_some_iff.mp H
                      obtain ⟨⟨t212, t213, t214⟩, A260, H⟩ := H
                      replace H : (if t195 = true then (if t199 = 2 then (if t211 = 0 then (if t213 = 0 then (if (t212.length : Int) ≥ 3 then (some (decide ((t212.length : Int) ≤ 12))) else (some false)) else (some false)) else (some false)) else (if t199 = 0 then (if t205 = 0 then (if t211 = 0 then (if t213 = 0 then (if (t212.length : Int) ≥ 3 then (some (decide ((t212.length : Int) ≤ 12))) else (some false)) else (some false)) else (some false)) else (some false)) else (some false))) else (some false)) = some r := H
                      have A26 := Aside0.mk A260
                      clear A260
                      by_cases c27 : t195 = true
                      · subst c27
                        have H1 : (if t199 = 2 then (if t211 = 0 then (if t213 = 0 then (if (t212.length : Int) ≥ 3 then (some (decide ((t212.length : Int) ≤ 12))) else (some false)) else (some false)) else (some false)) else (if t199 = 0 then (if t205 = 0 then (if t211 = 0 then (if t213 = 0 then (if (t212.length : Int) ≥ 3 then (some (decide ((t212.length : Int) ≤ 12))) else (some false)) else (some false)) else (some false)) else (some false)) else (some false))) = some r := by rw [if_pos rfl] at H; exact H
                        clear H
                        have H := H1
                        clear H1
                        by_cases c28 : t199 = 2
                        · rw [if_pos c28] at H
                          have c28b0 : (t199 == 2) = true := beq_iff_eq.mpr c28
                          have c28b1 : (t199 != 2) = false := bne_eq_false_iff_eq.mpr c28
                          clear c28
                          by_cases c29 : t211 = 0
                          · rw [if_pos c29] at H
                            have c29b0 : (t211 == 0) = true := beq_iff_eq.mpr c29
                            have c29b1 : (t211 != 0) = false := bne_eq_false_iff_eq.mpr c29
                            clear c29
                            by_cases c30 : t213 = 0
                            · rw [if_pos c30] at H
                              have c30b0 : (t213 == 0) = true := beq_iff_eq.mpr c30
                              have c30b1 : (t213 != 0) = false := bne_eq_false_iff_eq.mpr c30
                              clear c30
                              by_cases c31 : (t212.length : Int) ≥ 3
                              · rw [if_pos c31] at H
                                have c31b0 : decide (3 ≤ (t212.length : Int)) = true := decide_eq_true c31
                                have c31b1 : decide (3 ≤ t212.length) = true := decide_eq_true (by omega)
                                clear c31
                                clear hr_
                                obtain rfl := Option.some.inj H
                                go_wp2_with (first | ((with_reducible refine gate_callee (f := 27) rfl ?_); refine goesL_ (some 51) rfl rfl Tryd.func27 (by kernel_rfl) rfl #[.slice A0 l0.length c0] rfl (by (try simp only [List.map_toArray, List.map_cons, List.map_nil]); first | done | rfl | (simp only [List.length_drop, List.length_take]; rfl) | (simp (disch := omega) only [IntWalk.wrap64_in]; done)) ?_; (with_reducible refine (printer_Print.calls _ _ l0 t198 t199 _ ?side3 ?side1 ?side2 A16.out).mono ?_); (case side1 => repeat (first | exact (Kd.C_below HR0.out HB.out) | (with_reducible refine Kd.C_alloc ?_ _) | (with_reducible refine Kd.C_drewN ?_ _) | (with_reducible refine Kd.C_drew ?_))); (case side2 => exact HC0.out); (case side3 => exact Tx.GP.aside hG (by repeat (first | (with_reducible first | exact HB.out | apply below_alloc | apply pw_below_drewN | apply below_drew1) | exact HB.out))); rintro e w32 ⟨rfl, hb⟩; refine ⟨_, rfl, ?_⟩; have n0_ := Aside0.mk (below_step (by repeat (first | (with_reducible first | exact HB.out | apply below_alloc | apply pw_below_drewN | apply below_drew1) | exact HB.out)) hb); clear HB; have HB := n0_; clear n0_; (try clear hb); (try clear hb2); (try clear hk); (try clear hi); have q33 : ((wrap64 ((ji17) + (Int.tmod (wrap64 (a2)) (wrap64 ((wrap64 ((l0.length : Int) - (ji17))) + 1))))) : Int) ≤ ((l0.length : Int) : Int) := of_decide_eq_true (by first | (with_reducible assumption) | assumption); obtain ⟨i033, hi033, _, hsz33, _⟩ := info_parts info40; have hroom33 : l0.length ≤ c0 := HC0.out; have hC33 : Kd.C k40 _ A0 l0.length l0 := HR0.out; have ql33 : ((ji17) : Int) ≤ ((wrap64 ((ji17) + (Int.tmod (wrap64 (a2)) (wrap64 ((wrap64 ((l0.length : Int) - (ji17))) + 1))))) : Int) := of_decide_eq_true (by first | (with_reducible assumption) | assumption); have q033 : (0 : Int) ≤ ((ji17) : Int) := of_decide_eq_true (by first | (with_reducible assumption) | assumption); have hcut33 := cut_mid (P := Tryd.prog) 25 40 .i64 .i64 Tryd.underlying25 hi033 4 hsz33 A0 l0.length c0 (ji17) (wrap64 ((ji17) + (Int.tmod (wrap64 (a2)) (wrap64 ((wrap64 ((l0.length : Int) - (ji17))) + 1))))) q033 ql33 q33 hroom33; have hr33 := Kd.C_mid (lo := ((ji17) : Int).toNat) (hi := ((wrap64 ((ji17) + (Int.tmod (wrap64 (a2)) (wrap64 ((wrap64 ((l0.length : Int) - (ji17))) + 1))))) : Int).toNat) (c := c0) hC33 (by omega) (by omega) hroom33; obtain ⟨A33, hA33⟩ : ∃ A1, A1 = (if c0 = ((ji17) : Int).toNat then A0 else (A0 : Option Addr).map (·.add (((ji17) : Int).toNat * 4))) := ⟨_, rfl⟩; obtain ⟨c33, hc33⟩ : ∃ c1, c1 = c0 - ((ji17) : Int).toNat := ⟨_, rfl⟩; have hy33 : y200.length = ((wrap64 ((ji17) + (Int.tmod (wrap64 (a2)) (wrap64 ((wrap64 ((l0.length : Int) - (ji17))) + 1))))) : Int).toNat - ((ji17) : Int).toNat := (by rw [Ny200.out, List.length_drop, List.length_take] <;> omega); rw [show ((l0).take ((wrap64 ((ji17) + (Int.tmod (wrap64 (a2)) (wrap64 ((wrap64 ((l0.length : Int) - (ji17))) + 1))))) : Int).toNat).drop ((ji17) : Int).toNat = y200 from Ny200.out.symm] at hr33; replace hr33 : Kd.C k40 _ A33 y200.length y200 := (by rw [hA33]; exact hr33); rw [← hy33, ← hA33, ← hc33] at hcut33; have HR203 := Aside0.mk hr33; have HC203 := Aside0.mk (show y200.length ≤ c33 from by rw [hy33, hc33]; exact Nat.sub_le_sub_right (Nat.le_trans (by omega) hroom33) _); clear hr33 hC33 hroom33 hi033 hsz33 hc33; have KY33 := Aside0.mk hy33; have KA33 := Aside0.mk hA33; clear hy33 hA33; replace q33 := eq_true q33) | ((with_reducible refine gate_callee (f := 27) rfl ?_); refine goesL_ (some 59) rfl rfl Tryd.func27 (by kernel_rfl) rfl #[.slice A33 y200.length c33] rfl (by (try simp only [List.map_toArray, List.map_cons, List.map_nil]); first | done | rfl | (simp only [List.length_drop, List.length_take]; rfl) | (simp (disch := omega) only [IntWalk.wrap64_in]; done)) ?_; (with_reducible refine (printer_Print.calls _ _ y200 t204 t205 _ ?side3 ?side1 ?side2 A21.out).mono ?_); (case side1 => repeat (first | exact (Kd.C_below HR203.out HB.out) | (with_reducible refine Kd.C_alloc ?_ _) | (with_reducible refine Kd.C_drewN ?_ _) | (with_reducible refine Kd.C_drew ?_))); (case side2 => exact HC203.out); (case side3 => exact Tx.GP.aside hG (by repeat (first | (with_reducible first | exact HB.out | apply below_alloc | apply pw_below_drewN | apply below_drew1) | exact HB.out))); rintro e w34 ⟨rfl, hb⟩; refine ⟨_, rfl, ?_⟩; have n0_ := Aside0.mk (below_step (by repeat (first | (with_reducible first | exact HB.out | apply below_alloc | apply pw_below_drewN | apply below_drew1) | exact HB.out)) hb); clear HB; have HB := n0_; clear n0_; (try clear hb); (try clear hb2); (try clear hk); (try clear hi); have q35 : ((wrap64 ((ji17) + 1)) : Int) ≤ ((l0.length : Int) : Int) := of_decide_eq_true (by first | (with_reducible assumption) | assumption); obtain ⟨i035, hi035, _, hsz35, _⟩ := info_parts info40; have hroom35 : l0.length ≤ c0 := HC0.out; have hC35 : Kd.C k40 _ A0 l0.length l0 := HR0.out; have ql35 : ((ji17) : Int) ≤ ((wrap64 ((ji17) + 1)) : Int) := of_decide_eq_true (by first | (with_reducible assumption) | assumption); have q035 : (0 : Int) ≤ ((ji17) : Int) := of_decide_eq_true (by first | (with_reducible assumption) | assumption); have hcut35 := cut_mid (P := Tryd.prog) 25 40 .i64 .i64 Tryd.underlying25 hi035 4 hsz35 A0 l0.length c0 (ji17) (wrap64 ((ji17) + 1)) q035 ql35 q35 hroom35; have hr35 := Kd.C_mid (lo := ((ji17) : Int).toNat) (hi := ((wrap64 ((ji17) + 1)) : Int).toNat) (c := c0) hC35 (by omega) (by omega) hroom35; obtain ⟨A35, hA35⟩ : ∃ A1, A1 = (if c0 = ((ji17) : Int).toNat then A0 else (A0 : Option Addr).map (·.add (((ji17) : Int).toNat * 4))) := ⟨_, rfl⟩; obtain ⟨c35, hc35⟩ : ∃ c1, c1 = c0 - ((ji17) : Int).toNat := ⟨_, rfl⟩; have hy35 : y206.length = ((wrap64 ((ji17) + 1)) : Int).toNat - ((ji17) : Int).toNat := (by rw [Ny206.out, List.length_drop, List.length_take] <;> omega); rw [show ((l0).take ((wrap64 ((ji17) + 1)) : Int).toNat).drop ((ji17) : Int).toNat = y206 from Ny206.out.symm] at hr35; replace hr35 : Kd.C k40 _ A35 y206.length y206 := (by rw [hA35]; exact hr35); rw [← hy35, ← hA35, ← hc35] at hcut35; have HR209 := Aside0.mk hr35; have HC209 := Aside0.mk (show y206.length ≤ c35 from by rw [hy35, hc35]; exact Nat.sub_le_sub_right (Nat.le_trans (by omega) hroom35) _); clear hr35 hC35 hroom35 hi035 hsz35 hc35; have KY35 := Aside0.mk hy35; have KA35 := Aside0.mk hA35; clear hy35 hA35; replace q35 := eq_true q35) | ((with_reducible refine gate_callee (f := 27) rfl ?_); refine goesL_ (some 68) rfl rfl Tryd.func27 (by kernel_rfl) rfl #[.slice A35 y206.length c35] rfl (by (try simp only [List.map_toArray, List.map_cons, List.map_nil]); first | done | rfl | (simp only [List.length_drop, List.length_take]; rfl) | (simp (disch := omega) only [IntWalk.wrap64_in]; done)) ?_; (with_reducible refine (printer_Print.calls _ _ y206 t210 t211 _ ?side3 ?side1 ?side2 A25.out).mono ?_); (case side1 => repeat (first | exact (Kd.C_below HR209.out HB.out) | (with_reducible refine Kd.C_alloc ?_ _) | (with_reducible refine Kd.C_drewN ?_ _) | (with_reducible refine Kd.C_drew ?_))); (case side2 => exact HC209.out); (case side3 => exact Tx.GP.aside hG (by repeat (first | (with_reducible first | exact HB.out | apply below_alloc | apply pw_below_drewN | apply below_drew1) | exact HB.out))); rintro e w36 ⟨rfl, hb⟩; refine ⟨_, rfl, ?_⟩; have n0_ := Aside0.mk (below_step (by repeat (first | (with_reducible first | exact HB.out | apply below_alloc | apply pw_below_drewN | apply below_drew1) | exact HB.out)) hb); clear HB; have HB := n0_; clear n0_; (try clear hb); (try clear hb2); (try clear hk); (try clear hi)) | ((with_reducible refine gate_callee (f := 31) rfl ?_); refine goesL_ (some 73) rfl rfl Tryd.func31 (by kernel_rfl) rfl #[.string t210] rfl (by (try simp only [List.map_toArray, List.map_cons, List.map_nil]); first | done | rfl | (simp only [List.length_drop, List.length_take]; rfl) | (simp (disch := omega) only [IntWalk.wrap64_in]; done)) ?_; (with_reducible refine (slotmeshref01_Lex.calls kj4 t210 t212 t213 t214 _ A26.out).mono ?_); rintro e w37 ⟨v215, rfl, ho0, hb⟩; refine ⟨_, rfl, ?_⟩; have n0_ := Aside0.mk (Kd.R_lower ho0 (below_size (by repeat (first | (with_reducible first | exact HB.out | apply below_alloc | apply pw_below_drewN | apply below_drew1) | exact HB.out)))); have n1_ := Aside0.mk (below_step (by repeat (first | (with_reducible first | exact HB.out | apply below_alloc | apply pw_below_drewN | apply below_drew1) | exact HB.out)) hb); clear HB; have HO216 := n0_; have HB := n1_; clear n0_ n1_; (try clear hb); (try clear hb2); (try clear hk); (try clear hi); (try clear ho0); obtain ⟨Ao38, co38, eo38⟩ := Kd.R_slice HO216.out; subst eo38))
                                go_ret
                                exact ⟨by first | rfl | (simp [errW_none, errW_some] <;> rfl) | (simp only [← hji17]; first | rfl | (simp [errW_none, errW_some] <;> rfl)) | (simp [*, errW_none, errW_some] <;> rfl), by repeat (first | (with_reducible first | exact HB.out | apply below_alloc | apply pw_below_drewN | apply below_drew1) | exact HB.out)⟩
                              · rw [if_neg c31] at H
                                have c31b0 : decide (3 ≤ (t212.length : Int)) = false := decide_eq_false c31
                                have c31b1 : decide (3 ≤ t212.length) = false := decide_eq_false (by omega)
                                clear c31
                                exact absurd ((Option.some.inj H).trans hr_.out) (by decide)
                            · rw [if_neg c30] at H
                              have c30b0 : (t213 == 0) = false := beq_eq_false_iff_ne.mpr c30
                              have c30b1 : (t213 != 0) = true := bne_iff_ne.mpr c30
                              exact absurd ((Option.some.inj H).trans hr_.out) (by decide)
                          · rw [if_neg c29] at H
                            have c29b0 : (t211 == 0) = false := beq_eq_false_iff_ne.mpr c29
                            have c29b1 : (t211 != 0) = true := bne_iff_ne.mpr c29
                            exact absurd ((Option.some.inj H).trans hr_.out) (by decide)
                        · rw [if_neg c28] at H
                          have c28b0 : (t199 == 2) = false := beq_eq_false_iff_ne.mpr c28
                          have c28b1 : (t199 != 2) = true := bne_iff_ne.mpr c28
                          by_cases c58 : t199 = 0
                          · rw [if_pos c58] at H
                            have c58b0 : (t199 == 0) = true := beq_iff_eq.mpr c58
                            have c58b1 : (t199 != 0) = false := bne_eq_false_iff_eq.mpr c58
                            clear c58
                            by_cases c59 : t205 = 0
                            · rw [if_pos c59] at H
                              have c59b0 : (t205 == 0) = true := beq_iff_eq.mpr c59
                              have c59b1 : (t205 != 0) = false := bne_eq_false_iff_eq.mpr c59
                              clear c59
                              by_cases c60 : t211 = 0
                              · rw [if_pos c60] at H
                                have c60b0 : (t211 == 0) = true := beq_iff_eq.mpr c60
                                have c60b1 : (t211 != 0) = false := bne_eq_false_iff_eq.mpr c60
                                clear c60
                                by_cases c61 : t213 = 0
                                · rw [if_pos c61] at H
                                  have c61b0 : (t213 == 0) = true := beq_iff_eq.mpr c61
                                  have c61b1 : (t213 != 0) = false := bne_eq_false_iff_eq.mpr c61
                                  clear c61
                                  by_cases c62 : (t212.length : Int) ≥ 3
                                  · rw [if_pos c62] at H
                                    have c62b0 : decide (3 ≤ (t212.length : Int)) = true := decide_eq_true c62
                                    have c62b1 : decide (3 ≤ t212.length) = true := decide_eq_true (by omega)
                                    clear c62
                                    clear hr_
                                    obtain rfl := Option.some.inj H
                                    go_wp2_with (first | ((with_reducible refine gate_callee (f := 27) rfl ?_); refine goesL_ (some 51) rfl rfl Tryd.func27 (by kernel_rfl) rfl #[.slice A0 l0.length c0] rfl (by (try simp only [List.map_toArray, List.map_cons, List.map_nil]); first | done | rfl | (simp only [List.length_drop, List.length_take]; rfl) | (simp (disch := omega) only [IntWalk.wrap64_in]; done)) ?_; (with_reducible refine (printer_Print.calls _ _ l0 t198 t199 _ ?side3 ?side1 ?side2 A16.out).mono ?_); (case side1 => repeat (first | exact (Kd.C_below HR0.out HB.out) | (with_reducible refine Kd.C_alloc ?_ _) | (with_reducible refine Kd.C_drewN ?_ _) | (with_reducible refine Kd.C_drew ?_))); (case side2 => exact HC0.out); (case side3 => exact Tx.GP.aside hG (by repeat (first | (with_reducible first | exact HB.out | apply below_alloc | apply pw_below_drewN | apply below_drew1) | exact HB.out))); rintro e w63 ⟨rfl, hb⟩; refine ⟨_, rfl, ?_⟩; have n0_ := Aside0.mk (below_step (by repeat (first | (with_reducible first | exact HB.out | apply below_alloc | apply pw_below_drewN | apply below_drew1) | exact HB.out)) hb); clear HB; have HB := n0_; clear n0_; (try clear hb); (try clear hb2); (try clear hk); (try clear hi); have q64 : ((wrap64 ((ji17) + (Int.tmod (wrap64 (a2)) (wrap64 ((wrap64 ((l0.length : Int) - (ji17))) + 1))))) : Int) ≤ ((l0.length : Int) : Int) := of_decide_eq_true (by first | (with_reducible assumption) | assumption); obtain ⟨i064, hi064, _, hsz64, _⟩ := info_parts info40; have hroom64 : l0.length ≤ c0 := HC0.out; have hC64 : Kd.C k40 _ A0 l0.length l0 := HR0.out; have ql64 : ((ji17) : Int) ≤ ((wrap64 ((ji17) + (Int.tmod (wrap64 (a2)) (wrap64 ((wrap64 ((l0.length : Int) - (ji17))) + 1))))) : Int) := of_decide_eq_true (by first | (with_reducible assumption) | assumption); have q064 : (0 : Int) ≤ ((ji17) : Int) := of_decide_eq_true (by first | (with_reducible assumption) | assumption); have hcut64 := cut_mid (P := Tryd.prog) 25 40 .i64 .i64 Tryd.underlying25 hi064 4 hsz64 A0 l0.length c0 (ji17) (wrap64 ((ji17) + (Int.tmod (wrap64 (a2)) (wrap64 ((wrap64 ((l0.length : Int) - (ji17))) + 1))))) q064 ql64 q64 hroom64; have hr64 := Kd.C_mid (lo := ((ji17) : Int).toNat) (hi := ((wrap64 ((ji17) + (Int.tmod (wrap64 (a2)) (wrap64 ((wrap64 ((l0.length : Int) - (ji17))) + 1))))) : Int).toNat) (c := c0) hC64 (by omega) (by omega) hroom64; obtain ⟨A64, hA64⟩ : ∃ A1, A1 = (if c0 = ((ji17) : Int).toNat then A0 else (A0 : Option Addr).map (·.add (((ji17) : Int).toNat * 4))) := ⟨_, rfl⟩; obtain ⟨c64, hc64⟩ : ∃ c1, c1 = c0 - ((ji17) : Int).toNat := ⟨_, rfl⟩; have hy64 : y200.length = ((wrap64 ((ji17) + (Int.tmod (wrap64 (a2)) (wrap64 ((wrap64 ((l0.length : Int) - (ji17))) + 1))))) : Int).toNat - ((ji17) : Int).toNat := (by rw [Ny200.out, List.length_drop, List.length_take] <;> omega); rw [show ((l0).take ((wrap64 ((ji17) + (Int.tmod (wrap64 (a2)) (wrap64 ((wrap64 ((l0.length : Int) - (ji17))) + 1))))) : Int).toNat).drop ((ji17) : Int).toNat = y200 from Ny200.out.symm] at hr64; replace hr64 : Kd.C k40 _ A64 y200.length y200 := (by rw [hA64]; exact hr64); rw [← hy64, ← hA64, ← hc64] at hcut64; have HR203 := Aside0.mk hr64; have HC203 := Aside0.mk (show y200.length ≤ c64 from by rw [hy64, hc64]; exact Nat.sub_le_sub_right (Nat.le_trans (by omega) hroom64) _); clear hr64 hC64 hroom64 hi064 hsz64 hc64; have KY64 := Aside0.mk hy64; have KA64 := Aside0.mk hA64; clear hy64 hA64; replace q64 := eq_true q64) | ((with_reducible refine gate_callee (f := 27) rfl ?_); refine goesL_ (some 59) rfl rfl Tryd.func27 (by kernel_rfl) rfl #[.slice A64 y200.length c64] rfl (by (try simp only [List.map_toArray, List.map_cons, List.map_nil]); first | done | rfl | (simp only [List.length_drop, List.length_take]; rfl) | (simp (disch := omega) only [IntWalk.wrap64_in]; done)) ?_; (with_reducible refine (printer_Print.calls _ _ y200 t204 t205 _ ?side3 ?side1 ?side2 A21.out).mono ?_); (case side1 => repeat (first | exact (Kd.C_below HR203.out HB.out) | (with_reducible refine Kd.C_alloc ?_ _) | (with_reducible refine Kd.C_drewN ?_ _) | (with_reducible refine Kd.C_drew ?_))); (case side2 => exact HC203.out); (case side3 => exact Tx.GP.aside hG (by repeat (first | (with_reducible first | exact HB.out | apply below_alloc | apply pw_below_drewN | apply below_drew1) | exact HB.out))); rintro e w65 ⟨rfl, hb⟩; refine ⟨_, rfl, ?_⟩; have n0_ := Aside0.mk (below_step (by repeat (first | (with_reducible first | exact HB.out | apply below_alloc | apply pw_below_drewN | apply below_drew1) | exact HB.out)) hb); clear HB; have HB := n0_; clear n0_; (try clear hb); (try clear hb2); (try clear hk); (try clear hi); have q66 : ((wrap64 ((ji17) + 1)) : Int) ≤ ((l0.length : Int) : Int) := of_decide_eq_true (by first | (with_reducible assumption) | assumption); obtain ⟨i066, hi066, _, hsz66, _⟩ := info_parts info40; have hroom66 : l0.length ≤ c0 := HC0.out; have hC66 : Kd.C k40 _ A0 l0.length l0 := HR0.out; have ql66 : ((ji17) : Int) ≤ ((wrap64 ((ji17) + 1)) : Int) := of_decide_eq_true (by first | (with_reducible assumption) | assumption); have q066 : (0 : Int) ≤ ((ji17) : Int) := of_decide_eq_true (by first | (with_reducible assumption) | assumption); have hcut66 := cut_mid (P := Tryd.prog) 25 40 .i64 .i64 Tryd.underlying25 hi066 4 hsz66 A0 l0.length c0 (ji17) (wrap64 ((ji17) + 1)) q066 ql66 q66 hroom66; have hr66 := Kd.C_mid (lo := ((ji17) : Int).toNat) (hi := ((wrap64 ((ji17) + 1)) : Int).toNat) (c := c0) hC66 (by omega) (by omega) hroom66; obtain ⟨A66, hA66⟩ : ∃ A1, A1 = (if c0 = ((ji17) : Int).toNat then A0 else (A0 : Option Addr).map (·.add (((ji17) : Int).toNat * 4))) := ⟨_, rfl⟩; obtain ⟨c66, hc66⟩ : ∃ c1, c1 = c0 - ((ji17) : Int).toNat := ⟨_, rfl⟩; have hy66 : y206.length = ((wrap64 ((ji17) + 1)) : Int).toNat - ((ji17) : Int).toNat := (by rw [Ny206.out, List.length_drop, List.length_take] <;> omega); rw [show ((l0).take ((wrap64 ((ji17) + 1)) : Int).toNat).drop ((ji17) : Int).toNat = y206 from Ny206.out.symm] at hr66; replace hr66 : Kd.C k40 _ A66 y206.length y206 := (by rw [hA66]; exact hr66); rw [← hy66, ← hA66, ← hc66] at hcut66; have HR209 := Aside0.mk hr66; have HC209 := Aside0.mk (show y206.length ≤ c66 from by rw [hy66, hc66]; exact Nat.sub_le_sub_right (Nat.le_trans (by omega) hroom66) _); clear hr66 hC66 hroom66 hi066 hsz66 hc66; have KY66 := Aside0.mk hy66; have KA66 := Aside0.mk hA66; clear hy66 hA66; replace q66 := eq_true q66) | ((with_reducible refine gate_callee (f := 27) rfl ?_); refine goesL_ (some 68) rfl rfl Tryd.func27 (by kernel_rfl) rfl #[.slice A66 y206.length c66] rfl (by (try simp only [List.map_toArray, List.map_cons, List.map_nil]); first | done | rfl | (simp only [List.length_drop, List.length_take]; rfl) | (simp (disch := omega) only [IntWalk.wrap64_in]; done)) ?_; (with_reducible refine (printer_Print.calls _ _ y206 t210 t211 _ ?side3 ?side1 ?side2 A25.out).mono ?_); (case side1 => repeat (first | exact (Kd.C_below HR209.out HB.out) | (with_reducible refine Kd.C_alloc ?_ _) | (with_reducible refine Kd.C_drewN ?_ _) | (with_reducible refine Kd.C_drew ?_))); (case side2 => exact HC209.out); (case side3 => exact Tx.GP.aside hG (by repeat (first | (with_reducible first | exact HB.out | apply below_alloc | apply pw_below_drewN | apply below_drew1) | exact HB.out))); rintro e w67 ⟨rfl, hb⟩; refine ⟨_, rfl, ?_⟩; have n0_ := Aside0.mk (below_step (by repeat (first | (with_reducible first | exact HB.out | apply below_alloc | apply pw_below_drewN | apply below_drew1) | exact HB.out)) hb); clear HB; have HB := n0_; clear n0_; (try clear hb); (try clear hb2); (try clear hk); (try clear hi)) | ((with_reducible refine gate_callee (f := 31) rfl ?_); refine goesL_ (some 73) rfl rfl Tryd.func31 (by kernel_rfl) rfl #[.string t210] rfl (by (try simp only [List.map_toArray, List.map_cons, List.map_nil]); first | done | rfl | (simp only [List.length_drop, List.length_take]; rfl) | (simp (disch := omega) only [IntWalk.wrap64_in]; done)) ?_; (with_reducible refine (slotmeshref01_Lex.calls kj4 t210 t212 t213 t214 _ A26.out).mono ?_); rintro e w68 ⟨v215, rfl, ho0, hb⟩; refine ⟨_, rfl, ?_⟩; have n0_ := Aside0.mk (Kd.R_lower ho0 (below_size (by repeat (first | (with_reducible first | exact HB.out | apply below_alloc | apply pw_below_drewN | apply below_drew1) | exact HB.out)))); have n1_ := Aside0.mk (below_step (by repeat (first | (with_reducible first | exact HB.out | apply below_alloc | apply pw_below_drewN | apply below_drew1) | exact HB.out)) hb); clear HB; have HO216 := n0_; have HB := n1_; clear n0_ n1_; (try clear hb); (try clear hb2); (try clear hk); (try clear hi); (try clear ho0); obtain ⟨Ao69, co69, eo69⟩ := Kd.R_slice HO216.out; subst eo69))
                                    go_ret
                                    exact ⟨by first | rfl | (simp [errW_none, errW_some] <;> rfl) | (simp only [← hji17]; first | rfl | (simp [errW_none, errW_some] <;> rfl)) | (simp [*, errW_none, errW_some] <;> rfl), by repeat (first | (with_reducible first | exact HB.out | apply below_alloc | apply pw_below_drewN | apply below_drew1) | exact HB.out)⟩
                                  · rw [if_neg c62] at H
                                    have c62b0 : decide (3 ≤ (t212.length : Int)) = false := decide_eq_false c62
                                    have c62b1 : decide (3 ≤ t212.length) = false := decide_eq_false (by omega)
                                    clear c62
                                    exact absurd ((Option.some.inj H).trans hr_.out) (by decide)
                                · rw [if_neg c61] at H
                                  have c61b0 : (t213 == 0) = false := beq_eq_false_iff_ne.mpr c61
                                  have c61b1 : (t213 != 0) = true := bne_iff_ne.mpr c61
                                  exact absurd ((Option.some.inj H).trans hr_.out) (by decide)
                              · rw [if_neg c60] at H
                                have c60b0 : (t211 == 0) = false := beq_eq_false_iff_ne.mpr c60
                                have c60b1 : (t211 != 0) = true := bne_iff_ne.mpr c60
                                exact absurd ((Option.some.inj H).trans hr_.out) (by decide)
                            · rw [if_neg c59] at H
                              have c59b0 : (t205 == 0) = false := beq_eq_false_iff_ne.mpr c59
                              have c59b1 : (t205 != 0) = true := bne_iff_ne.mpr c59
                              exact absurd ((Option.some.inj H).trans hr_.out) (by decide)
                          · rw [if_neg c58] at H
                            have c58b0 : (t199 == 0) = false := beq_eq_false_iff_ne.mpr c58
                            have c58b1 : (t199 != 0) = true := bne_iff_ne.mpr c58
                            exact absurd ((Option.some.inj H).trans hr_.out) (by decide)
                      · replace c27 := Bool.eq_false_iff.mpr c27
                        subst c27
                        have H1 : (some false) = some r := by rw [if_neg (show ¬ (false = true) by decide)] at H; exact H
                        clear H
                        have H := H1
                        clear H1
                        exact absurd ((Option.some.inj H).trans hr_.out) (by decide)
                    · rw [if_neg c24] at H
                      exact absurd H (by simp)
                  · rw [if_neg c23] at H
                    exact absurd H (by simp)
                · rw [if_neg c20] at H
                  exact absurd H (by simp)
              · rw [if_neg c19] at H
                exact absurd H (by simp)
            · rw [if_neg c18] at H
              exact absurd H (by simp)
end Go.Proofs.YtdedlchpjboceaaDoor.PE
end
