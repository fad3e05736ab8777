/- Texts of proofs: plain words, and walks through the program's functions. -/
import Derived.Test.YtdedlchpjboceaaDoorM5900f009
import Derived.Test.YtdedlchpjboceaaDoorM96cb92d6
import Derived.Test.YtdedlchpjboceaaDoorMf73a332c

section
/- The function slotmeshlaw03_PrinterLines: what it computes, and that it computes it. Written by a program of this session's, out of the translation. -/
namespace Go.Proofs.YtdedlchpjboceaaDoor.PE
open Go.RowKit Go.Proofs.YtdedlchpjboceaaDoorW.PrintWords Go.Proofs.YtdedlchpjboceaaDoorW.PrintLast Go.Proofs.YtdedlchpjboceaaDoorW.PrintMore
attribute [local go_sem] max2_int min2_int max_two min_two max_three min_three max_four min_four   -- for this text's walks alone

/-! ### slotmeshlaw03_PrinterLines: function 16 -/
mutual
def slotmeshlaw03_PrinterLines.j0 : Nat → List (S40) → Bool → ByteArray → List (S40) → Bool → Option (Bool)
  | 0, _, _, _, _, _ => none
  | k + 1, x0, x3, x4, x6, x41 => if x41 = true then (some false) else (slotmeshlaw03_PrinterLines.l0 k x0 x3 x4 x6 0 (x0.length : Int) 0)
def slotmeshlaw03_PrinterLines.l0 : Nat → List (S40) → Bool → ByteArray → List (S40) → Int → Int → Int → Option (Bool)
  | 0, _, _, _, _, _, _, _ => none
  | k + 1, x0, x3, x4, x6, x8, x43, x44 => if x44 < x43 then (if 0 ≤ x44 then (if x44 ≤ (wrap64 (x44 + 1)) then (if (wrap64 (x44 + 1)) ≤ (x0.length : Int) then ((printer_Print.f ((x0.take ((wrap64 (x44 + 1)) : Int).toNat).drop (x44 : Int).toNat)).bind fun bt231 => (if bt231.2 = 0 then (if bt231.1.toList = ([] : List UInt8) then (slotmeshlaw03_PrinterLines.j2 k x0 x3 x4 x6 x8 (wrap64 (x8 + (bt231.1.size : Int))) x43 x44 true) else (if (wrap64 (x8 + (bt231.1.size : Int))) > (x4.size : Int) then (slotmeshlaw03_PrinterLines.j2 k x0 x3 x4 x6 x8 (wrap64 (x8 + (bt231.1.size : Int))) x43 x44 true) else (if 0 ≤ x8 then (if x8 ≤ (wrap64 (x8 + (bt231.1.size : Int))) then (if (wrap64 (x8 + (bt231.1.size : Int))) ≤ (x4.size : Int) then (if (x4.extract (x8 : Int).toNat ((wrap64 (x8 + (bt231.1.size : Int))) : Int).toNat).toList = bt231.1.toList then (if x44 < (x6.length : Int) then (slotmeshlaw03_PrinterLines.j2 k x0 x3 x4 x6 x8 (wrap64 (x8 + (bt231.1.size : Int))) x43 x44 (((rd_T40 x6 x44).f3) != x8)) else (none)) else (slotmeshlaw03_PrinterLines.j2 k x0 x3 x4 x6 x8 (wrap64 (x8 + (bt231.1.size : Int))) x43 x44 true)) else (none)) else (none)) else (none)))) else (slotmeshlaw03_PrinterLines.j2 k x0 x3 x4 x6 x8 (wrap64 (x8 + (bt231.1.size : Int))) x43 x44 true))) else (none)) else (none)) else (none)) else (if x3 = true then (some (x8 == (x4.size : Int))) else (some false))
def slotmeshlaw03_PrinterLines.j2 : Nat → List (S40) → Bool → ByteArray → List (S40) → Int → Int → Int → Int → Bool → Option (Bool)
  | 0, _, _, _, _, _, _, _, _, _ => none
  | k + 1, x0, x3, x4, x6, x8, x12, x43, x44, x88 => if x88 = true then (some false) else (slotmeshlaw03_PrinterLines.l1 k x0 x3 x4 x6 x12 x8 x43 x44)
def slotmeshlaw03_PrinterLines.l1 : Nat → List (S40) → Bool → ByteArray → List (S40) → Int → Int → Int → Int → Option (Bool)
  | 0, _, _, _, _, _, _, _, _ => none
  | k + 1, x0, x3, x4, x6, x12, x13, x43, x44 => if x13 < x12 then (if 0 ≤ x13 then (if x13 < (x4.size : Int) then (if (((bt x4 x13) == 10) != (x13 == (wrap64 (x12 - 1)))) = true then (some false) else (slotmeshlaw03_PrinterLines.l1 k x0 x3 x4 x6 x12 (wrap64 (x13 + 1)) x43 x44)) else (none)) else (none)) else (slotmeshlaw03_PrinterLines.l0 k x0 x3 x4 x6 x12 x43 (wrap64 (x44 + 1)))
end
def slotmeshlaw03_PrinterLines.f (k : Nat) (l0 : List (S40)) : Option (Bool) := (slotmeshlaw03_head.f).bind fun t217 => ((slotmeshref02_Few.f k l0).bind fun t218 => (if t218 = true then ((printer_Print.f l0).bind fun bt219 => (if bt219.2 = 0 then ((parser_Parse.f bt219.1).bind fun bt221 => (if (bt221.2.length : Int) > 0 then (slotmeshlaw03_PrinterLines.j0 k l0 t217 bt219.1 bt221.1 true) else (slotmeshlaw03_PrinterLines.j0 k l0 t217 bt219.1 bt221.1 ((bt221.1.length : Int) != (l0.length : Int))))) else (some t217))) else (some t217)))
theorem slotmeshlaw03_PrinterLines.mono_l : ∀ k, (∀ y0 y1 y2 y3 y4, LeO (slotmeshlaw03_PrinterLines.j0 k y0 y1 y2 y3 y4) (slotmeshlaw03_PrinterLines.j0 (k + 1) y0 y1 y2 y3 y4)) ∧ (∀ y0 y1 y2 y3 y4 y5 y6, LeO (slotmeshlaw03_PrinterLines.l0 k y0 y1 y2 y3 y4 y5 y6) (slotmeshlaw03_PrinterLines.l0 (k + 1) y0 y1 y2 y3 y4 y5 y6)) ∧ (∀ y0 y1 y2 y3 y4 y5 y6 y7 y8, LeO (slotmeshlaw03_PrinterLines.j2 k y0 y1 y2 y3 y4 y5 y6 y7 y8) (slotmeshlaw03_PrinterLines.j2 (k + 1) y0 y1 y2 y3 y4 y5 y6 y7 y8)) ∧ (∀ y0 y1 y2 y3 y4 y5 y6 y7, LeO (slotmeshlaw03_PrinterLines.l1 k y0 y1 y2 y3 y4 y5 y6 y7) (slotmeshlaw03_PrinterLines.l1 (k + 1) y0 y1 y2 y3 y4 y5 y6 y7))
  | 0 => ⟨fun _ _ _ _ _ r h => by simp [slotmeshlaw03_PrinterLines.j0] at h, fun _ _ _ _ _ _ _ r h => by simp [slotmeshlaw03_PrinterLines.l0] at h, fun _ _ _ _ _ _ _ _ _ r h => by simp [slotmeshlaw03_PrinterLines.j2] at h, fun _ _ _ _ _ _ _ _ r h => by simp [slotmeshlaw03_PrinterLines.l1] at h⟩
  | k + 1 => by
    obtain ⟨ih0, ih1, ih2, ih3⟩ := slotmeshlaw03_PrinterLines.mono_l k
    refine ⟨?_, ?_, ?_, ?_⟩
    · intro y0 y1 y2 y3 y4
      unfold slotmeshlaw03_PrinterLines.j0
      repeat' first
      | (with_reducible exact ih0 _ _ _ _ _)
      | (with_reducible exact ih1 _ _ _ _ _ _ _)
      | (with_reducible exact ih2 _ _ _ _ _ _ _ _ _)
      | (with_reducible exact ih3 _ _ _ _ _ _ _ _)
      | (with_reducible exact slotmeshref02_Few.mono _ _)
      | (with_reducible exact LeO.refl _)
      | (with_reducible exact LeO.none _)
      | (with_reducible refine LeO.ite ?_ ?_)
      | (with_reducible refine LeO.bind ?_ (fun _ => ?_))
      | exact ih0 _ _ _ _ _
      | exact ih1 _ _ _ _ _ _ _
      | exact ih2 _ _ _ _ _ _ _ _ _
      | exact ih3 _ _ _ _ _ _ _ _
      | exact slotmeshref02_Few.mono _ _
      | exact LeO.none _
      | refine LeO.ite ?_ ?_
      | refine LeO.bind ?_ (fun _ => ?_)
    · intro y0 y1 y2 y3 y4 y5 y6
      unfold slotmeshlaw03_PrinterLines.l0
      repeat' first
      | (with_reducible exact ih0 _ _ _ _ _)
      | (with_reducible exact ih1 _ _ _ _ _ _ _)
      | (with_reducible exact ih2 _ _ _ _ _ _ _ _ _)
      | (with_reducible exact ih3 _ _ _ _ _ _ _ _)
      | (with_reducible exact slotmeshref02_Few.mono _ _)
      | (with_reducible exact LeO.refl _)
      | (with_reducible exact LeO.none _)
      | (with_reducible refine LeO.ite ?_ ?_)
      | (with_reducible refine LeO.bind ?_ (fun _ => ?_))
      | exact ih0 _ _ _ _ _
      | exact ih1 _ _ _ _ _ _ _
      | exact ih2 _ _ _ _ _ _ _ _ _
      | exact ih3 _ _ _ _ _ _ _ _
      | exact slotmeshref02_Few.mono _ _
      | exact LeO.none _
      | refine LeO.ite ?_ ?_
      | refine LeO.bind ?_ (fun _ => ?_)
    · intro y0 y1 y2 y3 y4 y5 y6 y7 y8
      unfold slotmeshlaw03_PrinterLines.j2
      repeat' first
      | (with_reducible exact ih0 _ _ _ _ _)
      | (with_reducible exact ih1 _ _ _ _ _ _ _)
      | (with_reducible exact ih2 _ _ _ _ _ _ _ _ _)
      | (with_reducible exact ih3 _ _ _ _ _ _ _ _)
      | (with_reducible exact slotmeshref02_Few.mono _ _)
      | (with_reducible exact LeO.refl _)
      | (with_reducible exact LeO.none _)
      | (with_reducible refine LeO.ite ?_ ?_)
      | (with_reducible refine LeO.bind ?_ (fun _ => ?_))
      | exact ih0 _ _ _ _ _
      | exact ih1 _ _ _ _ _ _ _
      | exact ih2 _ _ _ _ _ _ _ _ _
      | exact ih3 _ _ _ _ _ _ _ _
      | exact slotmeshref02_Few.mono _ _
      | exact LeO.none _
      | refine LeO.ite ?_ ?_
      | refine LeO.bind ?_ (fun _ => ?_)
    · intro y0 y1 y2 y3 y4 y5 y6 y7
      unfold slotmeshlaw03_PrinterLines.l1
      repeat' first
      | (with_reducible exact ih0 _ _ _ _ _)
      | (with_reducible exact ih1 _ _ _ _ _ _ _)
      | (with_reducible exact ih2 _ _ _ _ _ _ _ _ _)
      | (with_reducible exact ih3 _ _ _ _ _ _ _ _)
      | (with_reducible exact slotmeshref02_Few.mono _ _)
      | (with_reducible exact LeO.refl _)
      | (with_reducible exact LeO.none _)
      | (with_reducible refine LeO.ite ?_ ?_)
      | (with_reducible refine LeO.bind ?_ (fun _ => ?_))
      | exact ih0 _ _ _ _ _
      | exact ih1 _ _ _ _ _ _ _
      | exact ih2 _ _ _ _ _ _ _ _ _
      | exact ih3 _ _ _ _ _ _ _ _
      | exact slotmeshref02_Few.mono _ _
      | exact LeO.none _
      | refine LeO.ite ?_ ?_
      | refine LeO.bind ?_ (fun _ => ?_)
theorem slotmeshlaw03_PrinterLines.mono : ∀ a0 k, LeO (slotmeshlaw03_PrinterLines.f k a0) (slotmeshlaw03_PrinterLines.f (k + 1) a0) := by
  intro a0 k
  obtain ⟨ih0, ih1, ih2, ih3⟩ := slotmeshlaw03_PrinterLines.mono_l k
  unfold slotmeshlaw03_PrinterLines.f
  repeat' first
      | (with_reducible exact ih0 _ _ _ _ _)
      | (with_reducible exact ih1 _ _ _ _ _ _ _)
      | (with_reducible exact ih2 _ _ _ _ _ _ _ _ _)
      | (with_reducible exact ih3 _ _ _ _ _ _ _ _)
      | (with_reducible exact slotmeshref02_Few.mono _ _)
      | (with_reducible exact LeO.refl _)
      | (with_reducible exact LeO.none _)
      | (with_reducible refine LeO.ite ?_ ?_)
      | (with_reducible refine LeO.bind ?_ (fun _ => ?_))
      | exact ih0 _ _ _ _ _
      | exact ih1 _ _ _ _ _ _ _
      | exact ih2 _ _ _ _ _ _ _ _ _
      | exact ih3 _ _ _ _ _ _ _ _
      | exact slotmeshref02_Few.mono _ _
      | exact LeO.none _
      | refine LeO.ite ?_ ?_
      | refine LeO.bind ?_ (fun _ => ?_)
set_option maxHeartbeats 8000000 in
set_option maxRecDepth 100000 in
theorem slotmeshlaw03_PrinterLines.calls (k : Nat) (A0 : Option Addr) (c0 : Nat) (l0 : List (S40)) (r : Bool) (w : World) (hG : Aside0 (Tx.GP w)) (hr0 : Kd.C k40 w A0 l0.length l0) (hc0 : l0.length ≤ c0) (h : slotmeshlaw03_PrinterLines.f k l0 = some r) (hr0_ : r = true) :
    Calls Tryd.prog 16 #[.slice A0 l0.length c0] w fun e w' => e = .returned (.bool r) ∧ Below w.heap.size w w' := by
  have hr_ := Aside0.mk hr0_
  have HR0 := Aside0.mk hr0
  have HC0 := Aside0.mk hc0
  clear hr0 hc0
  have HB := Aside0.mk (Below.refl w.heap.size w)
  have H : ((slotmeshlaw03_head.f).bind fun t217 => ((slotmeshref02_Few.f k l0).bind fun t218 => (if t218 = true then ((printer_Print.f l0).bind fun bt219 => (if bt219.2 = 0 then ((parser_Parse.f bt219.1).bind fun bt221 => (if (bt221.2.length : Int) > 0 then (slotmeshlaw03_PrinterLines.j0 k l0 t217 bt219.1 bt221.1 true) else (slotmeshlaw03_PrinterLines.j0 k l0 t217 bt219.1 bt221.1 ((bt221.1.length : Int) != (l0.length : Int))))) else (some t217))) else (some t217)))) = some r := h
  clear h
  replace H := Option.bind_eq_some_iff.mp H
  obtain ⟨t217, A20, H⟩ := H
  replace H : ((slotmeshref02_Few.f k l0).bind fun t218 => (if t218 = true then ((printer_Print.f l0).bind fun bt219 => (if bt219.2 = 0 then ((parser_Parse.f bt219.1).bind fun bt221 => (if (bt221.2.length : Int) > 0 then (slotmeshlaw03_PrinterLines.j0 k l0 t217 bt219.1 bt221.1 true) else (slotmeshlaw03_PrinterLines.j0 k l0 t217 bt219.1 bt221.1 ((bt221.1.length : Int) != (l0.length : Int))))) else (some t217))) else (some t217))) = some r := H
  have A2 := Aside0.mk A20
  clear A20
  replace H := Option.bind_eq_some_iff.mp H
  obtain ⟨t218, A30, H⟩ := H
  replace H : (if t218 = true then ((printer_Print.f l0).bind fun bt219 => (if bt219.2 = 0 then ((parser_Parse.f bt219.1).bind fun bt221 => (if (bt221.2.length : Int) > 0 then (slotmeshlaw03_PrinterLines.j0 k l0 t217 bt219.1 bt221.1 true) else (slotmeshlaw03_PrinterLines.j0 k l0 t217 bt219.1 bt221.1 ((bt221.1.length : Int) != (l0.length : Int))))) else (some t217))) else (some t217)) = some r := H
  have A3 := Aside0.mk A30
  clear A30
  by_cases c4 : t218 = true
  · subst c4
    have H1 : ((printer_Print.f l0).bind fun bt219 => (if bt219.2 = 0 then ((parser_Parse.f bt219.1).bind fun bt221 => (if (bt221.2.length : Int) > 0 then (slotmeshlaw03_PrinterLines.j0 k l0 t217 bt219.1 bt221.1 true) else (slotmeshlaw03_PrinterLines.j0 k l0 t217 bt219.1 bt221.1 ((bt221.1.length : Int) != (l0.length : Int))))) else (some t217))) = some r := by rw [if_pos rfl] at H; exact H
    clear H
    have H := H1
    clear H1
    replace H := Option.bind_eq_some_iff.mp H
    obtain ⟨⟨t219, t220⟩, A50, H⟩ := H
    replace H : (if t220 = 0 then ((parser_Parse.f t219).bind fun bt221 => (if (bt221.2.length : Int) > 0 then (slotmeshlaw03_PrinterLines.j0 k l0 t217 t219 bt221.1 true) else (slotmeshlaw03_PrinterLines.j0 k l0 t217 t219 bt221.1 ((bt221.1.length : Int) != (l0.length : Int))))) else (some t217)) = some r := H
    have A5 := Aside0.mk A50
    clear A50
    by_cases c6 : t220 = 0
    · rw [if_pos c6] at H
      have c6b0 : (t220 == 0) = true := beq_iff_eq.mpr c6
      have c6b1 : (t220 != 0) = false := bne_eq_false_iff_eq.mpr c6
      clear c6
      replace H := Option.bind_eq_some_iff.mp H
      obtain ⟨⟨t221, t222⟩, A70, H⟩ := H
      replace H : (if (t222.length : Int) > 0 then (slotmeshlaw03_PrinterLines.j0 k l0 t217 t219 t221 true) else (slotmeshlaw03_PrinterLines.j0 k l0 t217 t219 t221 ((t221.length : Int) != (l0.length : Int)))) = some r := H
      have A7 := Aside0.mk A70
      clear A70
      have HC8 := Aside0.mk H
      clear H
      go_enter Tryd.func16, Tryd.ntmps16
      go_upto_region 8 with (first | ((with_reducible refine gate_callee (f := 29) rfl ?_); refine goesL_ (some 14) rfl rfl Tryd.func29 (by kernel_rfl) rfl #[] rfl (by (try simp only [List.map_toArray, List.map_cons, List.map_nil]); first | done | rfl | (simp only [List.length_drop, List.length_take]; rfl) | (simp (disch := omega) only [IntWalk.wrap64_in]; done)) ?_; (with_reducible refine (slotmeshlaw03_head.calls  t217 _ ?side1 A2.out).mono ?_); (case side1 => exact Tx.GP.aside hG (by repeat (first | (with_reducible first | exact HB.out | apply below_alloc | apply pw_below_drewN | apply below_drew1) | exact HB.out))); rintro e w9 ⟨rfl, hb⟩; refine ⟨_, rfl, ?_⟩; have n0_ := Aside0.mk (below_step (by repeat (first | (with_reducible first | exact HB.out | apply below_alloc | apply pw_below_drewN | apply below_drew1) | exact HB.out)) hb); clear HB; have HB := n0_; clear n0_; (try clear hb); (try clear hb2); (try clear hk); (try clear hi)) | ((with_reducible refine gate_callee (f := 25) rfl ?_); refine goesL_ (some 16) rfl rfl Tryd.func25 (by kernel_rfl) rfl #[.slice A0 l0.length c0] rfl (by (try simp only [List.map_toArray, List.map_cons, List.map_nil]); first | done | rfl | (simp only [List.length_drop, List.length_take]; rfl) | (simp (disch := omega) only [IntWalk.wrap64_in]; done)) ?_; (with_reducible refine (slotmeshref02_Few.calls k _ _ l0 true _ ?side1 ?side2 A3.out).mono ?_); (case side1 => repeat (first | exact (Kd.C_below HR0.out HB.out) | (with_reducible refine Kd.C_alloc ?_ _) | (with_reducible refine Kd.C_drewN ?_ _) | (with_reducible refine Kd.C_drew ?_))); (case side2 => exact HC0.out); rintro e w' ⟨rfl, ⟨nd, rfl⟩⟩; refine ⟨_, rfl, ?_⟩) | ((with_reducible refine gate_callee (f := 27) rfl ?_); refine goesL_ (some 21) rfl rfl Tryd.func27 (by kernel_rfl) rfl #[.slice A0 l0.length c0] rfl (by (try simp only [List.map_toArray, List.map_cons, List.map_nil]); first | done | rfl | (simp only [List.length_drop, List.length_take]; rfl) | (simp (disch := omega) only [IntWalk.wrap64_in]; done)) ?_; (with_reducible refine (printer_Print.calls _ _ l0 t219 t220 _ ?side3 ?side1 ?side2 A5.out).mono ?_); (case side1 => repeat (first | exact (Kd.C_below HR0.out (by repeat (first | (with_reducible first | exact HB.out | apply below_alloc | apply pw_below_drewN | apply below_drew1) | exact HB.out))) | (with_reducible refine Kd.C_alloc ?_ _) | (with_reducible refine Kd.C_drewN ?_ _) | (with_reducible refine Kd.C_drew ?_))); (case side2 => exact HC0.out); (case side3 => exact Tx.GP.aside hG (by repeat (first | (with_reducible first | exact HB.out | apply below_alloc | apply pw_below_drewN | apply below_drew1) | exact HB.out))); rintro e w10 ⟨rfl, hb⟩; refine ⟨_, rfl, ?_⟩; have n0_ := Aside0.mk (below_step (by repeat (first | (with_reducible first | exact HB.out | apply below_alloc | apply pw_below_drewN | apply below_drew1) | exact HB.out)) hb); clear HB; have HB := n0_; clear n0_; (try clear hb); (try clear hb2); (try clear hk); (try clear hi)) | ((with_reducible refine gate_callee (f := 20) rfl ?_); refine goesL_ (some 29) rfl rfl Tryd.func20 (by kernel_rfl) rfl #[.string t219] rfl (by (try simp only [List.map_toArray, List.map_cons, List.map_nil]); first | done | rfl | (simp only [List.length_drop, List.length_take]; rfl) | (simp (disch := omega) only [IntWalk.wrap64_in]; done)) ?_; (with_reducible refine (parser_Parse.calls t219 t221 t222 _ ?side1 A7.out).mono ?_); (case side1 => exact Tx.GP.aside hG (by repeat (first | (with_reducible first | exact HB.out | apply below_alloc | apply pw_below_drewN | apply below_drew1) | exact HB.out))); rintro e w11 ⟨v223, v225, rfl, ho0, ho1, hb⟩; refine ⟨_, rfl, ?_⟩; have n0_ := Aside0.mk (Kd.N_lower (Kd.N_mono (ok' := fun k_ => some k_ ≠ (v225 : Value).ownBlock) (Kd.R_N (Kd.R_bound (Kd.R_apart' ho0 (Kd.R_typed ho1) (by decide)))) (fun k_ hk_ => hk_.1.2)) (below_size (by repeat (first | (with_reducible first | exact HB.out | apply below_alloc | apply pw_below_drewN | apply below_drew1) | exact HB.out)))); have n1_ := Aside0.mk (Kd.R_lower ho1 (below_size (by repeat (first | (with_reducible first | exact HB.out | apply below_alloc | apply pw_below_drewN | apply below_drew1) | exact HB.out)))); have n2_ := Aside0.mk (below_step (by repeat (first | (with_reducible first | exact HB.out | apply below_alloc | apply pw_below_drewN | apply below_drew1) | exact HB.out)) hb); clear HB; have HO224 := n0_; have HO226 := n1_; have HB := n2_; clear n0_ n1_ n2_; (try clear hb); (try clear hb2); (try clear hk); (try clear hi); (try clear ho0); (try clear ho1)))
      (try simp only [Act.put, List.setIfInBounds_toArray, List.set_cons_zero, List.set_cons_succ])
      go_cut [41] (fun v41 wc => ∃ (kq : Nat) (x41_7 : Bool), v41 = .bool x41_7 ∧ Aside0 (slotmeshlaw03_PrinterLines.j0 kq l0 t217 t219 t221 x41_7 = some r) ∧ Aside0 (kq ≤ k) ∧ Aside0 (Kd.N k40 40 wc w.heap.size (fun _ => True) v223 t221) ∧ Aside0 (Below w.heap.size w wc))
      case first =>
        have H := HC8.out
        clear HC8
        by_cases c12 : (t222.length : Int) > 0
        · rw [if_pos c12] at H
          have c12b0 : decide (0 < (t222.length : Int)) = true := decide_eq_true c12
          have c12b1 : decide (0 < t222.length) = true := decide_eq_true (by omega)
          clear c12
          (first | rw [c12b0] | (simp only [i64_w, i32_w]; rw [c12b0]) | skip)
          have H' := Aside0.mk H
          clear H
          obtain ⟨Ao13, co13, eo13⟩ := Kd.R_slice HO226.out
          subst eo13
          go_wp2
          go_meet
          case rel => exact ⟨_, (true), (by first | rfl | (simp; done) | (simp [*]; done)), H', ⟨by first | omega | exact Nat.le_refl _⟩, ⟨by (with_reducible repeat (first | apply Kd.N_alloc | apply Kd.N_drewN | apply Kd.N_drew)); exact Kd.N_mono HO224.out (fun _ hk => trivial)⟩, ⟨by repeat (first | (with_reducible first | exact HB.out | apply below_alloc | apply pw_below_drewN | apply below_drew1) | exact HB.out)⟩⟩
        · rw [if_neg c12] at H
          have c12b0 : decide (0 < (t222.length : Int)) = false := decide_eq_false c12
          have c12b1 : decide (0 < t222.length) = false := decide_eq_false (by omega)
          clear c12
          (first | rw [c12b0] | (simp only [i64_w, i32_w]; rw [c12b0]) | skip)
          have H' := Aside0.mk H
          clear H
          obtain ⟨Ao14, co14, eo14⟩ := Kd.R_slice HO226.out
          subst eo14
          obtain ⟨Ao15, co15, eo15⟩ := Kd.N_slice HO224.out
          subst eo15
          go_wp2
          go_meet
          case rel => exact ⟨_, (((t221.length : Int) != (l0.length : Int))), (by first | rfl | (simp; done) | (simp [*]; done)), H', ⟨by first | omega | exact Nat.le_refl _⟩, ⟨by (with_reducible repeat (first | apply Kd.N_alloc | apply Kd.N_drewN | apply Kd.N_drew)); exact Kd.N_mono HO224.out (fun _ hk => trivial)⟩, ⟨by repeat (first | (with_reducible first | exact HB.out | apply below_alloc | apply pw_below_drewN | apply below_drew1) | exact HB.out)⟩⟩
      case rest =>
        clear HC8
        try clear c1
        try clear c2
        try clear p2
        try clear c4
        try clear c6
        try clear c6b0
        try clear c6b1
        try clear c12
        try clear c12b0
        try clear c12b1
        obtain ⟨kq, x41_7, rfl, HA, HJ7, HO_6, HB⟩ := hcut
        cases kq with
        | zero => exact absurd HA.out (by simp [slotmeshlaw03_PrinterLines.j0])
        | succ kj7 =>
          have H := HA.out
          clear HA
          simp only [slotmeshlaw03_PrinterLines.j0] at H
          by_cases c16 : x41_7 = true
          · subst c16
            have H1 : (some false) = some r := by rw [if_pos rfl] at H; exact H
            clear H
            have H := H1
            clear H1
            exact absurd ((Option.some.inj H).trans hr_.out) (by decide)
          · replace c16 := Bool.eq_false_iff.mpr c16
            subst c16
            have H1 : (slotmeshlaw03_PrinterLines.l0 kj7 l0 t217 t219 t221 0 (l0.length : Int) 0) = some r := by rw [if_neg (show ¬ (false = true) by decide)] at H; exact H
            clear H
            have H := H1
            clear H1
            have H' := Aside0.mk H
            clear H
            go_wp2
            go_loopg [8, 44] kj7 (fun kq v8 v44 w' => ∃ (x8_2 : Int) (x44_2 : Int), v8 = .int .i64 x8_2 ∧ v44 = .int .i64 x44_2 ∧ Aside0 (slotmeshlaw03_PrinterLines.l0 kq l0 t217 t219 t221 x8_2 (l0.length : Int) x44_2 = some r) ∧ Aside0 (kq ≤ kj7) ∧ Aside0 (Kd.N k40 40 w' w.heap.size (fun _ => True) v223 t221) ∧ Aside0 (Below w.heap.size w w'))
            case atStart => exact ⟨(0), (0), (by first | rfl | (simp; done) | (simp [*]; done)), (by first | rfl | (simp; done) | (simp [*]; done)), H', ⟨Nat.le_refl _⟩, ⟨by (with_reducible repeat (first | apply Kd.N_alloc | apply Kd.N_drewN | apply Kd.N_drew)); exact HO_6.out⟩, ⟨by repeat (first | (with_reducible first | exact HB.out | apply below_alloc | apply pw_below_drewN | apply below_drew1) | exact HB.out)⟩⟩
            case round =>
              clear H'
              try clear c1
              try clear c2
              try clear p2
              try clear c4
              try clear c6
              try clear c6b0
              try clear c6b1
              try clear c12
              try clear c12b0
              try clear c12b1
              try clear c16
              try clear p2
              obtain ⟨x8_2, x44_2, rfl, rfl, HA, HK2, HO_6, HB⟩ := hrel
              cases gk with
              | zero => exact absurd HA.out (by simp [slotmeshlaw03_PrinterLines.l0])
              | succ k2 =>
                have H := HA.out
                clear HA
                simp only [slotmeshlaw03_PrinterLines.l0] at H
                by_cases c17 : x44_2 < (l0.length : Int)
                · rw [if_pos c17] at H
                  have c17b0 : decide (x44_2 < (l0.length : Int)) = true := decide_eq_true c17
                  clear c17
                  by_cases c18 : 0 ≤ x44_2
                  · rw [if_pos c18] at H
                    have c18b0 := eq_true c18
                    have c18b1 : decide (0 ≤ x44_2) = true := decide_eq_true c18
                    clear c18
                    by_cases c19 : x44_2 ≤ (wrap64 (x44_2 + 1))
                    · rw [if_pos c19] at H
                      have c19b0 := eq_true c19
                      have c19b1 : decide (x44_2 ≤ (wrap64 (x44_2 + 1))) = true := decide_eq_true c19
                      by_cases c20 : (wrap64 (x44_2 + 1)) ≤ (l0.length : Int)
                      · rw [if_pos c20] at H
                        have c20b0 := eq_true c20
                        have c20b1 : decide ((wrap64 (x44_2 + 1)) ≤ (l0.length : Int)) = true := decide_eq_true c20
                        obtain ⟨y227, hy227⟩ : ∃ y_ : List (S40), y_ = ((l0.take ((wrap64 (x44_2 + 1)) : Int).toNat).drop (x44_2 : Int).toNat) := ⟨_, rfl⟩
                        replace H : ((printer_Print.f y227).bind fun bt231 => (if bt231.2 = 0 then (if bt231.1.toList = ([] : List UInt8) then (slotmeshlaw03_PrinterLines.j2 k2 l0 t217 t219 t221 x8_2 (wrap64 (x8_2 + (bt231.1.size : Int))) (l0.length : Int) x44_2 true) else (if (wrap64 (x8_2 + (bt231.1.size : Int))) > (t219.size : Int) then (slotmeshlaw03_PrinterLines.j2 k2 l0 t217 t219 t221 x8_2 (wrap64 (x8_2 + (bt231.1.size : Int))) (l0.length : Int) x44_2 true) else (if 0 ≤ x8_2 then (if x8_2 ≤ (wrap64 (x8_2 + (bt231.1.size : Int))) then (if (wrap64 (x8_2 + (bt231.1.size : Int))) ≤ (t219.size : Int) then (if (t219.extract (x8_2 : Int).toNat ((wrap64 (x8_2 + (bt231.1.size : Int))) : Int).toNat).toList = bt231.1.toList then (if x44_2 < (t221.length : Int) then (slotmeshlaw03_PrinterLines.j2 k2 l0 t217 t219 t221 x8_2 (wrap64 (x8_2 + (bt231.1.size : Int))) (l0.length : Int) x44_2 (((rd_T40 t221 x44_2).f3) != x8_2)) else (none)) else (slotmeshlaw03_PrinterLines.j2 k2 l0 t217 t219 t221 x8_2 (wrap64 (x8_2 + (bt231.1.size : Int))) (l0.length : Int) x44_2 true)) else (none)) else (none)) else (none)))) else (slotmeshlaw03_PrinterLines.j2 k2 l0 t217 t219 t221 x8_2 (wrap64 (x8_2 + (bt231.1.size : Int))) (l0.length : Int) x44_2 true))) = some r := by first | (rw [hy227]; with_reducible exact H) | (have H2_ := (Option.bind_some _ _).symm.trans H; rw [hy227]; with_reducible exact H2_) | (have H2_ := (Option.bind_some _ _).symm.trans H; with_reducible exact H2_) | with_reducible exact H | (rw [hy227]; exact H) | exact H
                        have Ny227 := Aside0.mk hy227
                        clear hy227
                        replace H := Option.bind_eq_some_iff.mp H
                        obtain ⟨⟨t231, t232⟩, A210, H⟩ := H
                        replace H : (if t232 = 0 then (if t231.toList = ([] : List UInt8) then (slotmeshlaw03_PrinterLines.j2 k2 l0 t217 t219 t221 x8_2 (wrap64 (x8_2 + (t231.size : Int))) (l0.length : Int) x44_2 true) else (if (wrap64 (x8_2 + (t231.size : Int))) > (t219.size : Int) then (slotmeshlaw03_PrinterLines.j2 k2 l0 t217 t219 t221 x8_2 (wrap64 (x8_2 + (t231.size : Int))) (l0.length : Int) x44_2 true) else (if 0 ≤ x8_2 then (if x8_2 ≤ (wrap64 (x8_2 + (t231.size : Int))) then (if (wrap64 (x8_2 + (t231.size : Int))) ≤ (t219.size : Int) then (if (t219.extract (x8_2 : Int).toNat ((wrap64 (x8_2 + (t231.size : Int))) : Int).toNat).toList = t231.toList then (if x44_2 < (t221.length : Int) then (slotmeshlaw03_PrinterLines.j2 k2 l0 t217 t219 t221 x8_2 (wrap64 (x8_2 + (t231.size : Int))) (l0.length : Int) x44_2 (((rd_T40 t221 x44_2).f3) != x8_2)) else (none)) else (slotmeshlaw03_PrinterLines.j2 k2 l0 t217 t219 t221 x8_2 (wrap64 (x8_2 + (t231.size : Int))) (l0.length : Int) x44_2 true)) else (none)) else (none)) else (none)))) else (slotmeshlaw03_PrinterLines.j2 k2 l0 t217 t219 t221 x8_2 (wrap64 (x8_2 + (t231.size : Int))) (l0.length : Int) x44_2 true)) = some r := H
                        have A21 := Aside0.mk A210
                        clear A210
                        have HC22 := Aside0.mk H
                        clear H
                        have q23 : ((wrap64 (x44_2 + 1)) : Int) ≤ ((l0.length : Int) : Int) := of_decide_eq_true (by first | (with_reducible assumption) | assumption)
                        obtain ⟨i023, hi023, _, hsz23, _⟩ := info_parts info40
                        have hroom23 : l0.length ≤ c0 := HC0.out
                        have hC23 : Kd.C k40 _ A0 l0.length l0 := HR0.out
                        have ql23 : (x44_2 : Int) ≤ ((wrap64 (x44_2 + 1)) : Int) := of_decide_eq_true (by first | (with_reducible assumption) | assumption)
                        have q023 : (0 : Int) ≤ (x44_2 : Int) := of_decide_eq_true (by first | (with_reducible assumption) | assumption)
                        have hcut23 := cut_mid (P := Tryd.prog) 25 40 .i64 .i64 Tryd.underlying25 hi023 4 hsz23 A0 l0.length c0 x44_2 (wrap64 (x44_2 + 1)) q023 ql23 q23 hroom23
                        have hr23 := Kd.C_mid (lo := (x44_2 : Int).toNat) (hi := ((wrap64 (x44_2 + 1)) : Int).toNat) (c := c0) hC23 (by omega) (by omega) hroom23
                        obtain ⟨A23, hA23⟩ : ∃ A1, A1 = (if c0 = (x44_2 : Int).toNat then A0 else (A0 : Option Addr).map (·.add ((x44_2 : Int).toNat * 4))) := ⟨_, rfl⟩
                        obtain ⟨c23, hc23⟩ : ∃ c1, c1 = c0 - (x44_2 : Int).toNat := ⟨_, rfl⟩
                        have hy23 : y227.length = ((wrap64 (x44_2 + 1)) : Int).toNat - (x44_2 : Int).toNat := (by rw [Ny227.out, List.length_drop, List.length_take] <;> omega)
                        rw [show ((l0).take ((wrap64 (x44_2 + 1)) : Int).toNat).drop (x44_2 : Int).toNat = y227 from Ny227.out.symm] at hr23
                        replace hr23 : Kd.C k40 _ A23 y227.length y227 := (by rw [hA23]; exact hr23)
                        rw [← hy23, ← hA23, ← hc23] at hcut23
                        have HR230 := Aside0.mk hr23
                        have HC230 := Aside0.mk (show y227.length ≤ c23 from by rw [hy23, hc23]; exact Nat.sub_le_sub_right (Nat.le_trans (by omega) hroom23) _)
                        clear hr23 hC23 hroom23 hi023 hsz23 hc23
                        have KY23 := Aside0.mk hy23
                        have KA23 := Aside0.mk hA23
                        clear hy23 hA23
                        replace q23 := eq_true q23
                        go_upto_region 16 with (first | ((with_reducible refine gate_callee (f := 27) rfl ?_); refine goesL_ (some 53) rfl rfl Tryd.func27 (by kernel_rfl) rfl #[.slice A23 y227.length c23] rfl (by (try simp only [List.map_toArray, List.map_cons, List.map_nil]); first | done | rfl | (simp only [List.length_drop, List.length_take]; rfl) | (simp (disch := omega) only [IntWalk.wrap64_in]; done)) ?_; (with_reducible refine (printer_Print.calls _ _ y227 t231 t232 _ ?side3 ?side1 ?side2 A21.out).mono ?_); (case side1 => repeat (first | exact (Kd.C_below HR230.out HB.out) | (with_reducible refine Kd.C_alloc ?_ _) | (with_reducible refine Kd.C_drewN ?_ _) | (with_reducible refine Kd.C_drew ?_))); (case side2 => exact HC230.out); (case side3 => exact Tx.GP.aside hG (by repeat (first | (with_reducible first | exact HB.out | apply below_alloc | apply pw_below_drewN | apply below_drew1) | exact HB.out))); rintro e w24 ⟨rfl, hb⟩; refine ⟨_, rfl, ?_⟩; have n0_ := Aside0.mk (Kd.N_below (by (with_reducible repeat (first | apply Kd.N_alloc | apply Kd.N_drewN | apply Kd.N_drew)); exact HO_6.out) hb); have n1_ := Aside0.mk (below_step (by repeat (first | (with_reducible first | exact HB.out | apply below_alloc | apply pw_below_drewN | apply below_drew1) | exact HB.out)) hb); clear HO_6; clear HB; have HO_6 := n0_; have HB := n1_; clear n0_ n1_; (try clear hb); (try clear hb2); (try clear hk); (try clear hi)))
                        (try simp only [Act.put, List.setIfInBounds_toArray, List.set_cons_zero, List.set_cons_succ])
                        go_cut [88] (fun v88 wc => ∃ (kq : Nat) (x88_21 : Bool), v88 = .bool x88_21 ∧ Aside0 (slotmeshlaw03_PrinterLines.j2 kq l0 t217 t219 t221 x8_2 (wrap64 (x8_2 + (t231.size : Int))) (l0.length : Int) x44_2 x88_21 = some r) ∧ Aside0 (kq ≤ k2) ∧ Aside0 (Kd.N k40 40 wc w.heap.size (fun _ => True) v223 t221) ∧ Aside0 (Below w.heap.size w wc))
                        case first =>
                          have H := HC22.out
                          clear HC22
                          by_cases c25 : t232 = 0
                          · rw [if_pos c25] at H
                            have c25b0 : (t232 == 0) = true := beq_iff_eq.mpr c25
                            have c25b1 : (t232 != 0) = false := bne_eq_false_iff_eq.mpr c25
                            clear c25
                            (first | rw [c25b0] | (simp only [i64_w, i32_w]; rw [c25b0]) | skip)
                            by_cases c26 : t231.toList = ([] : List UInt8)
                            · rw [if_pos c26] at H
                              have c26b0 : (t231.toList == ([] : List UInt8)) = true := beq_iff_eq.mpr c26
                              have c26b1 : (t231.toList != ([] : List UInt8)) = false := bne_eq_false_iff_eq.mpr c26
                              clear c26
                              have H' := Aside0.mk H
                              clear H
                              go_wp2
                              go_meet
                              case rel => exact ⟨_, (true), (by first | rfl | (simp; done) | (simp [*]; done)), H', ⟨by have := HJ7.out; have := HK2.out; first | omega | exact Nat.le_refl _⟩, ⟨by (with_reducible repeat (first | apply Kd.N_alloc | apply Kd.N_drewN | apply Kd.N_drew)); exact HO_6.out⟩, ⟨by repeat (first | (with_reducible first | exact HB.out | apply below_alloc | apply pw_below_drewN | apply below_drew1) | exact HB.out)⟩⟩
                            · rw [if_neg c26] at H
                              have c26b0 : (t231.toList == ([] : List UInt8)) = false := beq_eq_false_iff_ne.mpr c26
                              have c26b1 : (t231.toList != ([] : List UInt8)) = true := bne_iff_ne.mpr c26
                              by_cases c27 : (wrap64 (x8_2 + (t231.size : Int))) > (t219.size : Int)
                              · rw [if_pos c27] at H
                                have c27b0 : decide ((t219.size : Int) < (wrap64 (x8_2 + (t231.size : Int)))) = true := decide_eq_true c27
                                clear c27
                                have H' := Aside0.mk H
                                clear H
                                go_wp2
                                go_meet
                                case rel => exact ⟨_, (true), (by first | rfl | (simp; done) | (simp [*]; done)), H', ⟨by have := HJ7.out; have := HK2.out; first | omega | exact Nat.le_refl _⟩, ⟨by (with_reducible repeat (first | apply Kd.N_alloc | apply Kd.N_drewN | apply Kd.N_drew)); exact HO_6.out⟩, ⟨by repeat (first | (with_reducible first | exact HB.out | apply below_alloc | apply pw_below_drewN | apply below_drew1) | exact HB.out)⟩⟩
                              · rw [if_neg c27] at H
                                have c27b0 : decide ((t219.size : Int) < (wrap64 (x8_2 + (t231.size : Int)))) = false := decide_eq_false c27
                                clear c27
                                by_cases c28 : 0 ≤ x8_2
                                · rw [if_pos c28] at H
                                  have c28b0 := eq_true c28
                                  have c28b1 : decide (0 ≤ x8_2) = true := decide_eq_true c28
                                  clear c28
                                  by_cases c29 : x8_2 ≤ (wrap64 (x8_2 + (t231.size : Int)))
                                  · rw [if_pos c29] at H
                                    have c29b0 := eq_true c29
                                    have c29b1 : decide (x8_2 ≤ (wrap64 (x8_2 + (t231.size : Int)))) = true := decide_eq_true c29
                                    by_cases c30 : (wrap64 (x8_2 + (t231.size : Int))) ≤ (t219.size : Int)
                                    · rw [if_pos c30] at H
                                      have c30b0 := eq_true c30
                                      have c30b1 : decide ((wrap64 (x8_2 + (t231.size : Int))) ≤ (t219.size : Int)) = true := decide_eq_true c30
                                      by_cases c31 : (t219.extract (x8_2 : Int).toNat ((wrap64 (x8_2 + (t231.size : Int))) : Int).toNat).toList = t231.toList
                                      · rw [if_pos c31] at H
                                        have c31b0 : ((t219.extract (x8_2 : Int).toNat ((wrap64 (x8_2 + (t231.size : Int))) : Int).toNat).toList == t231.toList) = true := beq_iff_eq.mpr c31
                                        have c31b1 : ((t219.extract (x8_2 : Int).toNat ((wrap64 (x8_2 + (t231.size : Int))) : Int).toNat).toList != t231.toList) = false := bne_eq_false_iff_eq.mpr c31
                                        clear c31
                                        by_cases c32 : x44_2 < (t221.length : Int)
                                        · rw [if_pos c32] at H
                                          have c32b0 : decide (x44_2 < (t221.length : Int)) = true := decide_eq_true c32
                                          clear c32
                                          have H' := Aside0.mk H
                                          clear H
                                          obtain ⟨Ao33, co33, eo33⟩ := Kd.N_slice HO_6.out
                                          subst eo33
                                          have p233 : 0 ≤ (x44_2 : Int) := of_decide_eq_true (by first | (with_reducible assumption) | assumption)
                                          have q233 : x44_2 < (t221.length : Int) := of_decide_eq_true (by first | (with_reducible assumption) | assumption)
                                          obtain ⟨ad233, A233_2, c233_2, e233, hx233_0, hx233_1, hx233_2, hx233_3, hl233_2, hi233_2⟩ := at_T40 (Kd.N_reads' HO_6.out).2.2 x44_2 p233 q233
                                          cases e233
                                          obtain ⟨ce233, hce233, hMe233, hcc233⟩ := Kd.N_get HO_6.out z40 x44_2 p233 (by first | exact q233 | exact of_decide_eq_true (by first | (with_reducible assumption) | assumption) | (have e_ := (Kd.N_reads' HO_6.out).1; omega))
                                          obtain ⟨ua233_2, uc233_2, rfl, ul233_2, ge233_2⟩ := k40_openF hMe233
                                          have hv233_2 := hcc233 2 _ rfl
                                          rw [add_field _ _ 2 (by omega)] at hv233_2
                                          replace hv233_2 := Option.some.inj (hv233_2.symm.trans hx233_2)
                                          injection hv233_2 with hva_ hvn_ hvc_
                                          rw [hva_] at ge233_2
                                          rw [hvc_] at ul233_2
                                          have HL233_2 := Aside0.mk (show Kd.V (Kd.int .i64) 3 _ w.heap.size _ _ ((rd_T40 t221 x44_2).f2) from Kd.V_mk ul233_2 ge233_2)
                                          clear hva_ hvn_ hvc_ ge233_2 ul233_2
                                          clear hcc233 hce233
                                          have HR233_2 := Aside0.mk hi233_2
                                          have HC233_2 := Aside0.mk hl233_2
                                          clear hi233_2 hl233_2
                                          replace p233 := eq_true p233
                                          replace q233 := eq_true q233
                                          go_wp2
                                          go_meet
                                          case rel => exact ⟨_, ((((rd_T40 t221 x44_2).f3) != x8_2)), (by first | rfl | (simp; done) | (simp [*]; done)), H', ⟨by have := HJ7.out; have := HK2.out; first | omega | exact Nat.le_refl _⟩, ⟨by (with_reducible repeat (first | apply Kd.N_alloc | apply Kd.N_drewN | apply Kd.N_drew)); exact HO_6.out⟩, ⟨by repeat (first | (with_reducible first | exact HB.out | apply below_alloc | apply pw_below_drewN | apply below_drew1) | exact HB.out)⟩⟩
                                        · rw [if_neg c32] at H
                                          exact absurd H (by simp)
                                      · rw [if_neg c31] at H
                                        have c31b0 : ((t219.extract (x8_2 : Int).toNat ((wrap64 (x8_2 + (t231.size : Int))) : Int).toNat).toList == t231.toList) = false := beq_eq_false_iff_ne.mpr c31
                                        have c31b1 : ((t219.extract (x8_2 : Int).toNat ((wrap64 (x8_2 + (t231.size : Int))) : Int).toNat).toList != t231.toList) = true := bne_iff_ne.mpr c31
                                        have H' := Aside0.mk H
                                        clear H
                                        go_wp2
                                        go_meet
                                        case rel => exact ⟨_, (true), (by first | rfl | (simp; done) | (simp [*]; done)), H', ⟨by have := HJ7.out; have := HK2.out; first | omega | exact Nat.le_refl _⟩, ⟨by (with_reducible repeat (first | apply Kd.N_alloc | apply Kd.N_drewN | apply Kd.N_drew)); exact HO_6.out⟩, ⟨by repeat (first | (with_reducible first | exact HB.out | apply below_alloc | apply pw_below_drewN | apply below_drew1) | exact HB.out)⟩⟩
                                    · rw [if_neg c30] at H
                                      exact absurd H (by simp)
                                  · rw [if_neg c29] at H
                                    exact absurd H (by simp)
                                · rw [if_neg c28] at H
                                  exact absurd H (by simp)
                          · rw [if_neg c25] at H
                            have c25b0 : (t232 == 0) = false := beq_eq_false_iff_ne.mpr c25
                            have c25b1 : (t232 != 0) = true := bne_iff_ne.mpr c25
                            (first | rw [c25b0] | (simp only [i64_w, i32_w]; rw [c25b0]) | skip)
                            have H' := Aside0.mk H
                            clear H
                            go_wp2
                            go_meet
                            case rel => exact ⟨_, (true), (by first | rfl | (simp; done) | (simp [*]; done)), H', ⟨by have := HJ7.out; have := HK2.out; first | omega | exact Nat.le_refl _⟩, ⟨by (with_reducible repeat (first | apply Kd.N_alloc | apply Kd.N_drewN | apply Kd.N_drew)); exact HO_6.out⟩, ⟨by repeat (first | (with_reducible first | exact HB.out | apply below_alloc | apply pw_below_drewN | apply below_drew1) | exact HB.out)⟩⟩
                        case rest =>
                          clear HC22
                          try clear c1
                          try clear c2
                          try clear p2
                          try clear q2
                          try clear hx2
                          try clear c3
                          try clear c4
                          try clear c6
                          try clear c6b0
                          try clear c6b1
                          try clear p6
                          try clear c12
                          try clear c12b0
                          try clear c12b1
                          try clear c16
                          try clear c17
                          try clear c17b0
                          try clear c18
                          try clear c18b0
                          try clear c18b1
                          try clear c19
                          try clear c19b0
                          try clear c19b1
                          try clear c20
                          try clear c20b0
                          try clear c20b1
                          try clear c23
                          try clear p23
                          try clear q23
                          try clear hx23
                          try clear c25
                          try clear c25b0
                          try clear c25b1
                          try clear c26
                          try clear c26b0
                          try clear c26b1
                          try clear c27
                          try clear c27b0
                          try clear c28
                          try clear c28b0
                          try clear c28b1
                          try clear c29
                          try clear c29b0
                          try clear c29b1
                          try clear c30
                          try clear c30b0
                          try clear c30b1
                          try clear c31
                          try clear c31b0
                          try clear c31b1
                          try clear c32
                          try clear c32b0
                          try clear hx233_0
                          try clear hx233_1
                          try clear hx233_2
                          try clear hx233_3
                          try clear p2
                          try clear p233
                          try clear q023
                          try clear q23
                          try clear q233
                          obtain ⟨kq, x88_21, rfl, HA, HJ21, HO_6, HB⟩ := hcut
                          cases kq with
                          | zero => exact absurd HA.out (by simp [slotmeshlaw03_PrinterLines.j2])
                          | succ kj21 =>
                            have H := HA.out
                            clear HA
                            simp only [slotmeshlaw03_PrinterLines.j2] at H
                            by_cases c34 : x88_21 = true
                            · subst c34
                              have H1 : (some false) = some r := by rw [if_pos rfl] at H; exact H
                              clear H
                              have H := H1
                              clear H1
                              exact absurd ((Option.some.inj H).trans hr_.out) (by decide)
                            · replace c34 := Bool.eq_false_iff.mpr c34
                              subst c34
                              have H1 : (slotmeshlaw03_PrinterLines.l1 kj21 l0 t217 t219 t221 (wrap64 (x8_2 + (t231.size : Int))) x8_2 (l0.length : Int) x44_2) = some r := by rw [if_neg (show ¬ (false = true) by decide)] at H; exact H
                              clear H
                              have H := H1
                              clear H1
                              have H' := Aside0.mk H
                              clear H
                              go_wp2
                              go_loopg [13] kj21 (fun kq v13 w' => ∃ (x13_4 : Int), v13 = .int .i64 x13_4 ∧ Aside0 (slotmeshlaw03_PrinterLines.l1 kq l0 t217 t219 t221 (wrap64 (x8_2 + (t231.size : Int))) x13_4 (l0.length : Int) x44_2 = some r) ∧ Aside0 (kq ≤ kj21) ∧ Aside0 (Kd.N k40 40 w' w.heap.size (fun _ => True) v223 t221) ∧ Aside0 (Below w.heap.size w w'))
                              case atStart => exact ⟨(x8_2), (by first | rfl | (simp; done) | (simp [*]; done)), H', ⟨Nat.le_refl _⟩, ⟨by (with_reducible repeat (first | apply Kd.N_alloc | apply Kd.N_drewN | apply Kd.N_drew)); exact HO_6.out⟩, ⟨by repeat (first | (with_reducible first | exact HB.out | apply below_alloc | apply pw_below_drewN | apply below_drew1) | exact HB.out)⟩⟩
                              case round =>
                                clear H'
                                try clear c1
                                try clear c2
                                try clear p2
                                try clear q2
                                try clear hx2
                                try clear c3
                                try clear c4
                                try clear c6
                                try clear c6b0
                                try clear c6b1
                                try clear p6
                                try clear c12
                                try clear c12b0
                                try clear c12b1
                                try clear c16
                                try clear c17
                                try clear c17b0
                                try clear c18
                                try clear c18b0
                                try clear c18b1
                                try clear c19
                                try clear c19b0
                                try clear c19b1
                                try clear c20
                                try clear c20b0
                                try clear c20b1
                                try clear c23
                                try clear p23
                                try clear q23
                                try clear hx23
                                try clear c25
                                try clear c25b0
                                try clear c25b1
                                try clear c26
                                try clear c26b0
                                try clear c26b1
                                try clear c27
                                try clear c27b0
                                try clear c28
                                try clear c28b0
                                try clear c28b1
                                try clear c29
                                try clear c29b0
                                try clear c29b1
                                try clear c30
                                try clear c30b0
                                try clear c30b1
                                try clear c31
                                try clear c31b0
                                try clear c31b1
                                try clear c32
                                try clear c32b0
                                try clear c34
                                try clear hx233_0
                                try clear hx233_1
                                try clear hx233_2
                                try clear hx233_3
                                try clear p2
                                try clear p23
                                try clear p233
                                try clear p6
                                try clear q023
                                try clear q2
                                try clear q23
                                try clear q233
                                obtain ⟨x13_4, rfl, HA, HK4, HO_6, HB⟩ := hrel
                                cases gk with
                                | zero => exact absurd HA.out (by simp [slotmeshlaw03_PrinterLines.l1])
                                | succ k4 =>
                                  have H := HA.out
                                  clear HA
                                  simp only [slotmeshlaw03_PrinterLines.l1] at H
                                  by_cases c35 : x13_4 < (wrap64 (x8_2 + (t231.size : Int)))
                                  · rw [if_pos c35] at H
                                    have c35b0 : decide (x13_4 < (wrap64 (x8_2 + (t231.size : Int)))) = true := decide_eq_true c35
                                    clear c35
                                    by_cases c36 : 0 ≤ x13_4
                                    · rw [if_pos c36] at H
                                      have c36b0 : decide (0 ≤ x13_4) = true := decide_eq_true c36
                                      clear c36
                                      by_cases c37 : x13_4 < (t219.size : Int)
                                      · rw [if_pos c37] at H
                                        have c37b0 : decide (x13_4 < (t219.size : Int)) = true := decide_eq_true c37
                                        clear c37
                                        by_cases c39 : (((bt t219 x13_4) == 10) != (x13_4 == (wrap64 ((wrap64 (x8_2 + (t231.size : Int))) - 1)))) = true
                                        · rw [if_pos c39] at H
                                          have c39b0 : (((bt t219 x13_4) == 10) != (x13_4 == (wrap64 ((wrap64 (x8_2 + (t231.size : Int))) - 1)))) = true := c39
                                          (try (have c39b1 : decide (((bt t219 x13_4) == 10) = (x13_4 == (wrap64 ((wrap64 (x8_2 + (t231.size : Int))) - 1)))) = false := by simpa using c39))
                                          (try (have c39b2 : (((bt t219 x13_4) == 10) == (x13_4 == (wrap64 ((wrap64 (x8_2 + (t231.size : Int))) - 1)))) = false := by simpa using c39))
                                          (try (have c39b3 : ¬ (((bt t219 x13_4) == 10) = (x13_4 == (wrap64 ((wrap64 (x8_2 + (t231.size : Int))) - 1)))) := by simpa using c39))
                                          clear c39
                                          exact absurd ((Option.some.inj H).trans hr_.out) (by decide)
                                        · rw [if_neg c39] at H
                                          have c39b0 : (((bt t219 x13_4) == 10) != (x13_4 == (wrap64 ((wrap64 (x8_2 + (t231.size : Int))) - 1)))) = false := by simpa using c39
                                          (try (have c39b1 : decide (((bt t219 x13_4) == 10) = (x13_4 == (wrap64 ((wrap64 (x8_2 + (t231.size : Int))) - 1)))) = true := by simpa using c39))
                                          (try (have c39b2 : (((bt t219 x13_4) == 10) == (x13_4 == (wrap64 ((wrap64 (x8_2 + (t231.size : Int))) - 1)))) = true := by simpa using c39))
                                          clear c39
                                          have H' := Aside0.mk H
                                          clear H
                                          have p38 : 0 ≤ (x13_4 : Int) := of_decide_eq_true (by first | (with_reducible assumption) | assumption)
                                          have q38 : x13_4 < (t219.size : Int) := of_decide_eq_true (by first | (with_reducible assumption) | assumption)
                                          have hx38 := bt_at t219 x13_4
                                          replace p38 := eq_true p38
                                          replace q38 := eq_true q38
                                          go_wp2
                                          go_roundg k4
                                          case measure => have := HJ7.out; have := HK2.out; have := HJ21.out; have := HK4.out; omega
                                          case rel => exact ⟨(wrap64 (x13_4 + 1)), (by first | rfl | (simp; done) | (simp [*]; done)), H', ⟨by have := HJ7.out; have := HK2.out; have := HJ21.out; have := HK4.out; omega⟩, ⟨by (with_reducible repeat (first | apply Kd.N_alloc | apply Kd.N_drewN | apply Kd.N_drew)); exact HO_6.out⟩, ⟨by repeat (first | (with_reducible first | exact HB.out | apply below_alloc | apply pw_below_drewN | apply below_drew1) | exact HB.out)⟩⟩
                                      · rw [if_neg c37] at H
                                        exact absurd H (by simp)
                                    · rw [if_neg c36] at H
                                      exact absurd H (by simp)
                                  · rw [if_neg c35] at H
                                    have c35b0 : decide (x13_4 < (wrap64 (x8_2 + (t231.size : Int)))) = false := decide_eq_false c35
                                    clear c35
                                    have H' := Aside0.mk H
                                    clear H
                                    go_wp2
                                    go_roundg k4
                                    case measure => have := HJ7.out; have := HK2.out; have := HJ21.out; have := HK4.out; omega
                                    case rel => exact ⟨((wrap64 (x8_2 + (t231.size : Int)))), (wrap64 (x44_2 + 1)), (by first | rfl | (simp; done) | (simp [*]; done)), (by first | rfl | (simp; done) | (simp [*]; done)), H', ⟨by have := HJ7.out; have := HK2.out; have := HJ21.out; have := HK4.out; omega⟩, ⟨by (with_reducible repeat (first | apply Kd.N_alloc | apply Kd.N_drewN | apply Kd.N_drew)); exact HO_6.out⟩, ⟨by repeat (first | (with_reducible first | exact HB.out | apply below_alloc | apply pw_below_drewN | apply below_drew1) | exact HB.out)⟩⟩
                      · rw [if_neg c20] at H
                        exact absurd H (by simp)
                    · rw [if_neg c19] at H
                      exact absurd H (by simp)
                  · rw [if_neg c18] at H
                    exact absurd H (by simp)
                · rw [if_neg c17] at H
                  have c17b0 : decide (x44_2 < (l0.length : Int)) = false := decide_eq_false c17
                  clear c17
                  by_cases c40 : t217 = true
                  · subst c40
                    have H1 : (some (x8_2 == (t219.size : Int))) = some r := by rw [if_pos rfl] at H; exact H
                    clear H
                    have H := H1
                    clear H1
                    obtain rfl := Option.some.inj H
                    go_wp2
                    go_ret
                    exact ⟨by first | rfl | (simp [errW_none, errW_some] <;> rfl) | (simp [*, errW_none, errW_some] <;> rfl), by repeat (first | (with_reducible first | exact HB.out | apply below_alloc | apply pw_below_drewN | apply below_drew1) | exact HB.out)⟩
                  · replace c40 := Bool.eq_false_iff.mpr c40
                    subst c40
                    have H1 : (some false) = some r := by rw [if_neg (show ¬ (false = true) by decide)] at H; exact H
                    clear H
                    have H := H1
                    clear H1
                    exact absurd ((Option.some.inj H).trans hr_.out) (by decide)
    · rw [if_neg c6] at H
      have c6b0 : (t220 == 0) = false := beq_eq_false_iff_ne.mpr c6
      have c6b1 : (t220 != 0) = true := bne_iff_ne.mpr c6
      obtain rfl := Option.some.inj H
      go_enter Tryd.func16, Tryd.ntmps16
      go_wp2_with (first | ((with_reducible refine gate_callee (f := 29) rfl ?_); refine goesL_ (some 14) rfl rfl Tryd.func29 (by kernel_rfl) rfl #[] rfl (by (try simp only [List.map_toArray, List.map_cons, List.map_nil]); first | done | rfl | (simp only [List.length_drop, List.length_take]; rfl) | (simp (disch := omega) only [IntWalk.wrap64_in]; done)) ?_; (with_reducible refine (slotmeshlaw03_head.calls  t217 _ ?side1 A2.out).mono ?_); (case side1 => exact Tx.GP.aside hG (by repeat (first | (with_reducible first | exact HB.out | apply below_alloc | apply pw_below_drewN | apply below_drew1) | exact HB.out))); rintro e w41 ⟨rfl, hb⟩; refine ⟨_, rfl, ?_⟩; have n0_ := Aside0.mk (below_step (by repeat (first | (with_reducible first | exact HB.out | apply below_alloc | apply pw_below_drewN | apply below_drew1) | exact HB.out)) hb); clear HB; have HB := n0_; clear n0_; (try clear hb); (try clear hb2); (try clear hk); (try clear hi)) | ((with_reducible refine gate_callee (f := 25) rfl ?_); refine goesL_ (some 16) rfl rfl Tryd.func25 (by kernel_rfl) rfl #[.slice A0 l0.length c0] rfl (by (try simp only [List.map_toArray, List.map_cons, List.map_nil]); first | done | rfl | (simp only [List.length_drop, List.length_take]; rfl) | (simp (disch := omega) only [IntWalk.wrap64_in]; done)) ?_; (with_reducible refine (slotmeshref02_Few.calls k _ _ l0 true _ ?side1 ?side2 A3.out).mono ?_); (case side1 => repeat (first | exact (Kd.C_below HR0.out HB.out) | (with_reducible refine Kd.C_alloc ?_ _) | (with_reducible refine Kd.C_drewN ?_ _) | (with_reducible refine Kd.C_drew ?_))); (case side2 => exact HC0.out); rintro e w' ⟨rfl, ⟨nd, rfl⟩⟩; refine ⟨_, rfl, ?_⟩) | ((with_reducible refine gate_callee (f := 27) rfl ?_); refine goesL_ (some 21) rfl rfl Tryd.func27 (by kernel_rfl) rfl #[.slice A0 l0.length c0] rfl (by (try simp only [List.map_toArray, List.map_cons, List.map_nil]); first | done | rfl | (simp only [List.length_drop, List.length_take]; rfl) | (simp (disch := omega) only [IntWalk.wrap64_in]; done)) ?_; (with_reducible refine (printer_Print.calls _ _ l0 t219 t220 _ ?side3 ?side1 ?side2 A5.out).mono ?_); (case side1 => repeat (first | exact (Kd.C_below HR0.out (by repeat (first | (with_reducible first | exact HB.out | apply below_alloc | apply pw_below_drewN | apply below_drew1) | exact HB.out))) | (with_reducible refine Kd.C_alloc ?_ _) | (with_reducible refine Kd.C_drewN ?_ _) | (with_reducible refine Kd.C_drew ?_))); (case side2 => exact HC0.out); (case side3 => exact Tx.GP.aside hG (by repeat (first | (with_reducible first | exact HB.out | apply below_alloc | apply pw_below_drewN | apply below_drew1) | exact HB.out))); rintro e w42 ⟨rfl, hb⟩; refine ⟨_, rfl, ?_⟩; have n0_ := Aside0.mk (below_step (by repeat (first | (with_reducible first | exact HB.out | apply below_alloc | apply pw_below_drewN | apply below_drew1) | exact HB.out)) hb); clear HB; have HB := n0_; clear n0_; (try clear hb); (try clear hb2); (try clear hk); (try clear hi)))
      go_ret
      exact ⟨by first | rfl | (simp [errW_none, errW_some] <;> rfl) | (simp [*, errW_none, errW_some] <;> rfl), by repeat (first | (with_reducible first | exact HB.out | apply below_alloc | apply pw_below_drewN | apply below_drew1) | exact HB.out)⟩
  · replace c4 := Bool.eq_false_iff.mpr c4
    subst c4
    have H1 : (some t217) = some r := by rw [if_neg (show ¬ (false = true) by decide)] at H; exact H
    clear H
    have H := H1
    clear H1
    obtain rfl := Option.some.inj H
    go_enter Tryd.func16, Tryd.ntmps16
    go_wp2_with (first | ((with_reducible refine gate_callee (f := 29) rfl ?_); refine goesL_ (some 14) rfl rfl Tryd.func29 (by kernel_rfl) rfl #[] rfl (by (try simp only [List.map_toArray, List.map_cons, List.map_nil]); first | done | rfl | (simp only [List.length_drop, List.length_take]; rfl) | (simp (disch := omega) only [IntWalk.wrap64_in]; done)) ?_; (with_reducible refine (slotmeshlaw03_head.calls  t217 _ ?side1 A2.out).mono ?_); (case side1 => exact Tx.GP.aside hG (by repeat (first | (with_reducible first | exact HB.out | apply below_alloc | apply pw_below_drewN | apply below_drew1) | exact HB.out))); rintro e w43 ⟨rfl, hb⟩; refine ⟨_, rfl, ?_⟩; have n0_ := Aside0.mk (below_step (by repeat (first | (with_reducible first | exact HB.out | apply below_alloc | apply pw_below_drewN | apply below_drew1) | exact HB.out)) hb); clear HB; have HB := n0_; clear n0_; (try clear hb); (try clear hb2); (try clear hk); (try clear hi)) | ((with_reducible refine gate_callee (f := 25) rfl ?_); refine goesL_ (some 16) rfl rfl Tryd.func25 (by kernel_rfl) rfl #[.slice A0 l0.length c0] rfl (by (try simp only [List.map_toArray, List.map_cons, List.map_nil]); first | done | rfl | (simp only [List.length_drop, List.length_take]; rfl) | (simp (disch := omega) only [IntWalk.wrap64_in]; done)) ?_; (with_reducible refine (slotmeshref02_Few.calls k _ _ l0 false _ ?side1 ?side2 A3.out).mono ?_); (case side1 => repeat (first | exact (Kd.C_below HR0.out HB.out) | (with_reducible refine Kd.C_alloc ?_ _) | (with_reducible refine Kd.C_drewN ?_ _) | (with_reducible refine Kd.C_drew ?_))); (case side2 => exact HC0.out); rintro e w' ⟨rfl, ⟨nd, rfl⟩⟩; refine ⟨_, rfl, ?_⟩))
    go_ret
    exact ⟨by first | rfl | (simp [errW_none, errW_some] <;> rfl) | (simp [*, errW_none, errW_some] <;> rfl), by repeat (first | (with_reducible first | exact HB.out | apply below_alloc | apply pw_below_drewN | apply below_drew1) | exact HB.out)⟩

end Go.Proofs.YtdedlchpjboceaaDoor.PE
end
