/- Texts of the proof of the law PrinterDiffers, part 2: plain words, and walks through the program's functions. -/
import Derived.Test.YtdedlchpjboceaaDoorMPrinterDiffers1
import Derived.KernelRfl

section
/- The function slotmeshlaw03_head: what it computes, and that it computes it. Written by a program of this session's, out of the translation. -/
namespace Go.Proofs.YtdedlchpjboceaaDoor.PE
open Go.RowKit Go.Proofs.YtdedlchpjboceaaDoorW.PrintWords Go.Proofs.YtdedlchpjboceaaDoorW.PrintLast Go.Proofs.YtdedlchpjboceaaDoorW.PrintMore
attribute [local go_sem] max2_int min2_int max_two min_two max_three min_three max_four min_four   -- for this text's walks alone

/-! ### slotmeshlaw03_head: function 29 -/
def slotmeshlaw03_head.f  : Option (Bool) := (printer_Print.f (([(⟨3, (⟨#[97]⟩ : ByteArray), (([1, 2, (-30), 9] : List Int)), 0⟩ : S40), (⟨5, (⟨#[97]⟩ : ByteArray), (([7] : List Int)), 0⟩ : S40), (⟨8, (⟨#[]⟩ : ByteArray), (([5, 1, 2, 300, 4, 50] : List Int)), 0⟩ : S40)] : List (S40)))).bind fun bt160 => ((printer_Print.f ([] : List (S40))).bind fun bt162 => ((printer_Print.f (([(⟨5, (⟨#[114, 117, 110]⟩ : ByteArray), (([7] : List Int)), 0⟩ : S40)] : List (S40)))).bind fun bt170 => (if bt160.2 = 0 then (if bt162.2 = 0 then (if bt170.2 = 1 then (if bt162.1.toList = ([] : List UInt8) then (some (bt160.1.toList == ([110, 111, 100, 101, 32, 97, 32, 97, 116, 32, 49, 32, 50, 32, 115, 108, 111, 119, 32, 51, 48, 32, 98, 97, 116, 116, 101, 114, 121, 32, 57, 59, 10, 97, 116, 32, 55, 32, 102, 97, 105, 108, 32, 97, 59, 10, 97, 116, 32, 53, 32, 106, 97, 109, 32, 49, 32, 50, 32, 114, 97, 100, 105, 117, 115, 32, 51, 48, 48, 32, 99, 104, 97, 110, 110, 101, 108, 32, 52, 32, 102, 111, 114, 32, 53, 48, 59, 10] : List UInt8))) else (some false)) else (some false)) else (some false)) else (some false))))
set_option maxHeartbeats 8000000 in
set_option maxRecDepth 100000 in
theorem slotmeshlaw03_head.calls  (r : Bool) (w : World) (hG : Aside0 (Tx.GP w)) (h : slotmeshlaw03_head.f  = some r) :
    Calls Tryd.prog 29 #[] w fun e w' => e = .returned (.bool r) ∧ Below w.heap.size w w' := by
  have hu40 := Tryd.underlying40
  have HB := Aside0.mk (Below.refl w.heap.size w)
  have H : ((printer_Print.f (([(⟨3, (⟨#[97]⟩ : ByteArray), (([1, 2, (-30), 9] : List Int)), 0⟩ : S40), (⟨5, (⟨#[97]⟩ : ByteArray), (([7] : List Int)), 0⟩ : S40), (⟨8, (⟨#[]⟩ : ByteArray), (([5, 1, 2, 300, 4, 50] : List Int)), 0⟩ : S40)] : List (S40)))).bind fun bt160 => ((printer_Print.f ([] : List (S40))).bind fun bt162 => ((printer_Print.f (([(⟨5, (⟨#[114, 117, 110]⟩ : ByteArray), (([7] : List Int)), 0⟩ : S40)] : List (S40)))).bind fun bt170 => (if bt160.2 = 0 then (if bt162.2 = 0 then (if bt170.2 = 1 then (if bt162.1.toList = ([] : List UInt8) then (some (bt160.1.toList == ([110, 111, 100, 101, 32, 97, 32, 97, 116, 32, 49, 32, 50, 32, 115, 108, 111, 119, 32, 51, 48, 32, 98, 97, 116, 116, 101, 114, 121, 32, 57, 59, 10, 97, 116, 32, 55, 32, 102, 97, 105, 108, 32, 97, 59, 10, 97, 116, 32, 53, 32, 106, 97, 109, 32, 49, 32, 50, 32, 114, 97, 100, 105, 117, 115, 32, 51, 48, 48, 32, 99, 104, 97, 110, 110, 101, 108, 32, 52, 32, 102, 111, 114, 32, 53, 48, 59, 10] : List UInt8))) else (some false)) else (some false)) else (some false)) else (some false))))) = some r := h
  clear h
  obtain ⟨y148, hy148⟩ : ∃ y_ : List Int, y_ = (([1, 2, (-30), 9] : List Int)) := ⟨_, rfl⟩
  replace H : ((printer_Print.f (([(⟨3, (⟨#[97]⟩ : ByteArray), y148, 0⟩ : S40), (⟨5, (⟨#[97]⟩ : ByteArray), (([7] : List Int)), 0⟩ : S40), (⟨8, (⟨#[]⟩ : ByteArray), (([5, 1, 2, 300, 4, 50] : List Int)), 0⟩ : S40)] : List (S40)))).bind fun bt160 => ((printer_Print.f ([] : List (S40))).bind fun bt162 => ((printer_Print.f (([(⟨5, (⟨#[114, 117, 110]⟩ : ByteArray), (([7] : List Int)), 0⟩ : S40)] : List (S40)))).bind fun bt170 => (if bt160.2 = 0 then (if bt162.2 = 0 then (if bt170.2 = 1 then (if bt162.1.toList = ([] : List UInt8) then (some (bt160.1.toList == ([110, 111, 100, 101, 32, 97, 32, 97, 116, 32, 49, 32, 50, 32, 115, 108, 111, 119, 32, 51, 48, 32, 98, 97, 116, 116, 101, 114, 121, 32, 57, 59, 10, 97, 116, 32, 55, 32, 102, 97, 105, 108, 32, 97, 59, 10, 97, 116, 32, 53, 32, 106, 97, 109, 32, 49, 32, 50, 32, 114, 97, 100, 105, 117, 115, 32, 51, 48, 48, 32, 99, 104, 97, 110, 110, 101, 108, 32, 52, 32, 102, 111, 114, 32, 53, 48, 59, 10] : List UInt8))) else (some false)) else (some false)) else (some false)) else (some false))))) = some r := by first | (rw [hy148]; with_reducible exact H) | (have H2_ := (Option.bind_some _ _).symm.trans H; rw [hy148]; with_reducible exact H2_) | (have H2_ := (Option.bind_some _ _).symm.trans H; with_reducible exact H2_) | with_reducible exact H | (rw [hy148]; exact H) | exact H
  have Ny148 := Aside0.mk hy148
  clear hy148
  obtain ⟨y151, hy151⟩ : ∃ y_ : List Int, y_ = (([7] : List Int)) := ⟨_, rfl⟩
  replace H : ((printer_Print.f (([(⟨3, (⟨#[97]⟩ : ByteArray), y148, 0⟩ : S40), (⟨5, (⟨#[97]⟩ : ByteArray), y151, 0⟩ : S40), (⟨8, (⟨#[]⟩ : ByteArray), (([5, 1, 2, 300, 4, 50] : List Int)), 0⟩ : S40)] : List (S40)))).bind fun bt160 => ((printer_Print.f ([] : List (S40))).bind fun bt162 => ((printer_Print.f (([(⟨5, (⟨#[114, 117, 110]⟩ : ByteArray), (([7] : List Int)), 0⟩ : S40)] : List (S40)))).bind fun bt170 => (if bt160.2 = 0 then (if bt162.2 = 0 then (if bt170.2 = 1 then (if bt162.1.toList = ([] : List UInt8) then (some (bt160.1.toList == ([110, 111, 100, 101, 32, 97, 32, 97, 116, 32, 49, 32, 50, 32, 115, 108, 111, 119, 32, 51, 48, 32, 98, 97, 116, 116, 101, 114, 121, 32, 57, 59, 10, 97, 116, 32, 55, 32, 102, 97, 105, 108, 32, 97, 59, 10, 97, 116, 32, 53, 32, 106, 97, 109, 32, 49, 32, 50, 32, 114, 97, 100, 105, 117, 115, 32, 51, 48, 48, 32, 99, 104, 97, 110, 110, 101, 108, 32, 52, 32, 102, 111, 114, 32, 53, 48, 59, 10] : List UInt8))) else (some false)) else (some false)) else (some false)) else (some false))))) = some r := by first | (rw [hy151]; with_reducible exact H) | (have H2_ := (Option.bind_some _ _).symm.trans H; rw [hy151]; with_reducible exact H2_) | (have H2_ := (Option.bind_some _ _).symm.trans H; with_reducible exact H2_) | with_reducible exact H | (rw [hy151]; exact H) | exact H
  have Ny151 := Aside0.mk hy151
  clear hy151
  obtain ⟨y154, hy154⟩ : ∃ y_ : List Int, y_ = (([5, 1, 2, 300, 4, 50] : List Int)) := ⟨_, rfl⟩
  replace H : ((printer_Print.f (([(⟨3, (⟨#[97]⟩ : ByteArray), y148, 0⟩ : S40), (⟨5, (⟨#[97]⟩ : ByteArray), y151, 0⟩ : S40), (⟨8, (⟨#[]⟩ : ByteArray), y154, 0⟩ : S40)] : List (S40)))).bind fun bt160 => ((printer_Print.f ([] : List (S40))).bind fun bt162 => ((printer_Print.f (([(⟨5, (⟨#[114, 117, 110]⟩ : ByteArray), (([7] : List Int)), 0⟩ : S40)] : List (S40)))).bind fun bt170 => (if bt160.2 = 0 then (if bt162.2 = 0 then (if bt170.2 = 1 then (if bt162.1.toList = ([] : List UInt8) then (some (bt160.1.toList == ([110, 111, 100, 101, 32, 97, 32, 97, 116, 32, 49, 32, 50, 32, 115, 108, 111, 119, 32, 51, 48, 32, 98, 97, 116, 116, 101, 114, 121, 32, 57, 59, 10, 97, 116, 32, 55, 32, 102, 97, 105, 108, 32, 97, 59, 10, 97, 116, 32, 53, 32, 106, 97, 109, 32, 49, 32, 50, 32, 114, 97, 100, 105, 117, 115, 32, 51, 48, 48, 32, 99, 104, 97, 110, 110, 101, 108, 32, 52, 32, 102, 111, 114, 32, 53, 48, 59, 10] : List UInt8))) else (some false)) else (some false)) else (some false)) else (some false))))) = some r := by first | (rw [hy154]; with_reducible exact H) | (have H2_ := (Option.bind_some _ _).symm.trans H; rw [hy154]; with_reducible exact H2_) | (have H2_ := (Option.bind_some _ _).symm.trans H; with_reducible exact H2_) | with_reducible exact H | (rw [hy154]; exact H) | exact H
  have Ny154 := Aside0.mk hy154
  clear hy154
  obtain ⟨y157, hy157⟩ : ∃ y_ : List (S40), y_ = (([(⟨3, (⟨#[97]⟩ : ByteArray), y148, 0⟩ : S40), (⟨5, (⟨#[97]⟩ : ByteArray), y151, 0⟩ : S40), (⟨8, (⟨#[]⟩ : ByteArray), y154, 0⟩ : S40)] : List (S40))) := ⟨_, rfl⟩
  replace H : ((printer_Print.f y157).bind fun bt160 => ((printer_Print.f ([] : List (S40))).bind fun bt162 => ((printer_Print.f (([(⟨5, (⟨#[114, 117, 110]⟩ : ByteArray), (([7] : List Int)), 0⟩ : S40)] : List (S40)))).bind fun bt170 => (if bt160.2 = 0 then (if bt162.2 = 0 then (if bt170.2 = 1 then (if bt162.1.toList = ([] : List UInt8) then (some (bt160.1.toList == ([110, 111, 100, 101, 32, 97, 32, 97, 116, 32, 49, 32, 50, 32, 115, 108, 111, 119, 32, 51, 48, 32, 98, 97, 116, 116, 101, 114, 121, 32, 57, 59, 10, 97, 116, 32, 55, 32, 102, 97, 105, 108, 32, 97, 59, 10, 97, 116, 32, 53, 32, 106, 97, 109, 32, 49, 32, 50, 32, 114, 97, 100, 105, 117, 115, 32, 51, 48, 48, 32, 99, 104, 97, 110, 110, 101, 108, 32, 52, 32, 102, 111, 114, 32, 53, 48, 59, 10] : List UInt8))) else (some false)) else (some false)) else (some false)) else (some false))))) = some r := by first | (rw [hy157]; with_reducible exact H) | (have H2_ := (Option.bind_some _ _).symm.trans H; rw [hy157]; with_reducible exact H2_) | (have H2_ := (Option.bind_some _ _).symm.trans H; with_reducible exact H2_) | with_reducible exact H | (rw [hy157]; exact H) | exact H
  have Ny157 := Aside0.mk hy157
  clear hy157
  replace H := Option.bind_eq_some_iff.mp H
  obtain ⟨⟨t160, t161⟩, A10, H⟩ := H
  replace H : ((printer_Print.f ([] : List (S40))).bind fun bt162 => ((printer_Print.f (([(⟨5, (⟨#[114, 117, 110]⟩ : ByteArray), (([7] : List Int)), 0⟩ : S40)] : List (S40)))).bind fun bt170 => (if t161 = 0 then (if bt162.2 = 0 then (if bt170.2 = 1 then (if bt162.1.toList = ([] : List UInt8) then (some (t160.toList == ([110, 111, 100, 101, 32, 97, 32, 97, 116, 32, 49, 32, 50, 32, 115, 108, 111, 119, 32, 51, 48, 32, 98, 97, 116, 116, 101, 114, 121, 32, 57, 59, 10, 97, 116, 32, 55, 32, 102, 97, 105, 108, 32, 97, 59, 10, 97, 116, 32, 53, 32, 106, 97, 109, 32, 49, 32, 50, 32, 114, 97, 100, 105, 117, 115, 32, 51, 48, 48, 32, 99, 104, 97, 110, 110, 101, 108, 32, 52, 32, 102, 111, 114, 32, 53, 48, 59, 10] : List UInt8))) else (some false)) else (some false)) else (some false)) else (some false)))) = some r := H
  have A1 := Aside0.mk A10
  clear A10
  replace H := Option.bind_eq_some_iff.mp H
  obtain ⟨⟨t162, t163⟩, A20, H⟩ := H
  replace H : ((printer_Print.f (([(⟨5, (⟨#[114, 117, 110]⟩ : ByteArray), (([7] : List Int)), 0⟩ : S40)] : List (S40)))).bind fun bt170 => (if t161 = 0 then (if t163 = 0 then (if bt170.2 = 1 then (if t162.toList = ([] : List UInt8) then (some (t160.toList == ([110, 111, 100, 101, 32, 97, 32, 97, 116, 32, 49, 32, 50, 32, 115, 108, 111, 119, 32, 51, 48, 32, 98, 97, 116, 116, 101, 114, 121, 32, 57, 59, 10, 97, 116, 32, 55, 32, 102, 97, 105, 108, 32, 97, 59, 10, 97, 116, 32, 53, 32, 106, 97, 109, 32, 49, 32, 50, 32, 114, 97, 100, 105, 117, 115, 32, 51, 48, 48, 32, 99, 104, 97, 110, 110, 101, 108, 32, 52, 32, 102, 111, 114, 32, 53, 48, 59, 10] : List UInt8))) else (some false)) else (some false)) else (some false)) else (some false))) = some r := H
  have A2 := Aside0.mk A20
  clear A20
  obtain ⟨y164, hy164⟩ : ∃ y_ : List Int, y_ = (([7] : List Int)) := ⟨_, rfl⟩
  replace H : ((printer_Print.f (([(⟨5, (⟨#[114, 117, 110]⟩ : ByteArray), y164, 0⟩ : S40)] : List (S40)))).bind fun bt170 => (if t161 = 0 then (if t163 = 0 then (if bt170.2 = 1 then (if t162.toList = ([] : List UInt8) then (some (t160.toList == ([110, 111, 100, 101, 32, 97, 32, 97, 116, 32, 49, 32, 50, 32, 115, 108, 111, 119, 32, 51, 48, 32, 98, 97, 116, 116, 101, 114, 121, 32, 57, 59, 10, 97, 116, 32, 55, 32, 102, 97, 105, 108, 32, 97, 59, 10, 97, 116, 32, 53, 32, 106, 97, 109, 32, 49, 32, 50, 32, 114, 97, 100, 105, 117, 115, 32, 51, 48, 48, 32, 99, 104, 97, 110, 110, 101, 108, 32, 52, 32, 102, 111, 114, 32, 53, 48, 59, 10] : List UInt8))) else (some false)) else (some false)) else (some false)) else (some false))) = some r := by first | (rw [hy164]; with_reducible exact H) | (have H2_ := (Option.bind_some _ _).symm.trans H; rw [hy164]; with_reducible exact H2_) | (have H2_ := (Option.bind_some _ _).symm.trans H; with_reducible exact H2_) | with_reducible exact H | (rw [hy164]; exact H) | exact H
  have Ny164 := Aside0.mk hy164
  clear hy164
  obtain ⟨y167, hy167⟩ : ∃ y_ : List (S40), y_ = (([(⟨5, (⟨#[114, 117, 110]⟩ : ByteArray), y164, 0⟩ : S40)] : List (S40))) := ⟨_, rfl⟩
  replace H : ((printer_Print.f y167).bind fun bt170 => (if t161 = 0 then (if t163 = 0 then (if bt170.2 = 1 then (if t162.toList = ([] : List UInt8) then (some (t160.toList == ([110, 111, 100, 101, 32, 97, 32, 97, 116, 32, 49, 32, 50, 32, 115, 108, 111, 119, 32, 51, 48, 32, 98, 97, 116, 116, 101, 114, 121, 32, 57, 59, 10, 97, 116, 32, 55, 32, 102, 97, 105, 108, 32, 97, 59, 10, 97, 116, 32, 53, 32, 106, 97, 109, 32, 49, 32, 50, 32, 114, 97, 100, 105, 117, 115, 32, 51, 48, 48, 32, 99, 104, 97, 110, 110, 101, 108, 32, 52, 32, 102, 111, 114, 32, 53, 48, 59, 10] : List UInt8))) else (some false)) else (some false)) else (some false)) else (some false))) = some r := by first | (rw [hy167]; with_reducible exact H) | (have H2_ := (Option.bind_some _ _).symm.trans H; rw [hy167]; with_reducible exact H2_) | (have H2_ := (Option.bind_some _ _).symm.trans H; with_reducible exact H2_) | with_reducible exact H | (rw [hy167]; exact H) | exact H
  have Ny167 := Aside0.mk hy167
  clear hy167
  replace H := Option.bind_eq_some_iff.mp H
  obtain ⟨⟨t170, t171⟩, A30, H⟩ := H
  replace H : (if t161 = 0 then (if t163 = 0 then (if t171 = 1 then (if t162.toList = ([] : List UInt8) then (some (t160.toList == ([110, 111, 100, 101, 32, 97, 32, 97, 116, 32, 49, 32, 50, 32, 115, 108, 111, 119, 32, 51, 48, 32, 98, 97, 116, 116, 101, 114, 121, 32, 57, 59, 10, 97, 116, 32, 55, 32, 102, 97, 105, 108, 32, 97, 59, 10, 97, 116, 32, 53, 32, 106, 97, 109, 32, 49, 32, 50, 32, 114, 97, 100, 105, 117, 115, 32, 51, 48, 48, 32, 99, 104, 97, 110, 110, 101, 108, 32, 52, 32, 102, 111, 114, 32, 53, 48, 59, 10] : List UInt8))) else (some false)) else (some false)) else (some false)) else (some false)) = some r := H
  have A3 := Aside0.mk A30
  clear A30
  by_cases c4 : t161 = 0
  · rw [if_pos c4] at H
    have c4b0 : (t161 == 0) = true := beq_iff_eq.mpr c4
    have c4b1 : (t161 != 0) = false := bne_eq_false_iff_eq.mpr c4
    clear c4
    by_cases c5 : t163 = 0
    · rw [if_pos c5] at H
      have c5b0 : (t163 == 0) = true := beq_iff_eq.mpr c5
      have c5b1 : (t163 != 0) = false := bne_eq_false_iff_eq.mpr c5
      clear c5
      by_cases c6 : t171 = 1
      · rw [if_pos c6] at H
        have c6b0 : (t171 == 1) = true := beq_iff_eq.mpr c6
        have c6b1 : (t171 != 1) = false := bne_eq_false_iff_eq.mpr c6
        clear c6
        by_cases c7 : t162.toList = ([] : List UInt8)
        · rw [if_pos c7] at H
          have c7b0 : (t162.toList == ([] : List UInt8)) = true := beq_iff_eq.mpr c7
          have c7b1 : (t162.toList != ([] : List UInt8)) = false := bne_eq_false_iff_eq.mpr c7
          clear c7
          obtain rfl := Option.some.inj H
          go_enter Tryd.func29, Tryd.ntmps29
          go_wp2_with (first | ((with_reducible refine gate_dst (N := 8) rfl ?_); refine Kd.R_lit (Kd.int .i64) _ 3 ?hg (N := 8) ?hd (xs := ([1, 2, (-30), 9] : List Int)) (inner := [.int .i64 1, .int .i64 2, .int .i64 (-30), .int .i64 9]) (ok := fun _ => True) (okp := fun _ => True) ?hr ?hp (fun _ hk => hk) trivial (Below.refl _ _) (Nat.le_refl _) (by simp) ?_; (case hd => rfl); (case hg => rfl); (case hr => first | (go_simp; done) | (go_simp; rfl)); (case hp => exact (Reps.one (show Kd.M (Kd.int .i64) _ _ _ 1 [.int .i64 1] from rfl) (Reps.one (show Kd.M (Kd.int .i64) _ _ _ 2 [.int .i64 2] from rfl) (Reps.one (show Kd.M (Kd.int .i64) _ _ _ (-30) [.int .i64 (-30)] from rfl) (Reps.one (show Kd.M (Kd.int .i64) _ _ _ 9 [.int .i64 9] from rfl) (Reps.none _ _)))))); intro v149 w8 ho9 hb hg_ hnew_; clear hg_ hnew_; (first | rw [← Ny148.out] at ho9 | (simp only [Int.reduceToNat] at ho9; rw [← Ny148.out] at ho9)); have n0_ := Aside0.mk (Kd.R_lower ho9 (below_size (by repeat (first | (with_reducible first | exact HB.out | apply below_alloc | apply pw_below_drewN | apply below_drew1) | exact HB.out)))); have n1_ := Aside0.mk (below_step (by repeat (first | (with_reducible first | exact HB.out | apply below_alloc | apply pw_below_drewN | apply below_drew1) | exact HB.out)) hb); clear HB; have HO150 := n0_; have HB := n1_; clear n0_ n1_; clear hb ho9; obtain ⟨Ao10, co10, eo10⟩ := Kd.R_slice HO150.out; subst eo10) | ((with_reducible refine gate_dst (N := 10) rfl ?_); refine Kd.R_lit (Kd.int .i64) _ 3 ?hg (N := 10) ?hd (xs := ([7] : List Int)) (inner := [.int .i64 7]) (ok := fun _ => True) (okp := fun _ => True) ?hr ?hp (fun _ hk => hk) trivial (Below.refl _ _) (Nat.le_refl _) (by simp) ?_; (case hd => rfl); (case hg => rfl); (case hr => first | (go_simp; done) | (go_simp; rfl)); (case hp => exact (Reps.one (show Kd.M (Kd.int .i64) _ _ _ 7 [.int .i64 7] from rfl) (Reps.none _ _))); intro v152 w11 ho12 hb hg_ hnew_; clear hg_ hnew_; (first | rw [← Ny151.out] at ho12 | (simp only [Int.reduceToNat] at ho12; rw [← Ny151.out] at ho12)); have n0_ := Aside0.mk (Kd.R_elder' (by (with_reducible repeat (first | apply Kd.R_alloc | apply Kd.R_drewN | apply Kd.R_drew)); exact HO150.out) (Kd.R_base ho12) hb); have n1_ := Aside0.mk (Kd.R_lower (Kd.R_new' ho12 (Kd.R_lt (by (with_reducible repeat (first | apply Kd.R_alloc | apply Kd.R_drewN | apply Kd.R_drew)); exact HO150.out))) (below_size (by repeat (first | (with_reducible first | exact HB.out | apply below_alloc | apply pw_below_drewN | apply below_drew1) | exact HB.out)))); have n2_ := Aside0.mk (below_step (by repeat (first | (with_reducible first | exact HB.out | apply below_alloc | apply pw_below_drewN | apply below_drew1) | exact HB.out)) hb); clear HO150; clear HB; have HO150 := n0_; have HO153 := n1_; have HB := n2_; clear n0_ n1_ n2_; clear hb ho12; obtain ⟨Ao13, co13, eo13⟩ := Kd.R_slice HO153.out; subst eo13) | ((with_reducible refine gate_dst (N := 12) rfl ?_); refine Kd.R_lit (Kd.int .i64) _ 3 ?hg (N := 12) ?hd (xs := ([5, 1, 2, 300, 4, 50] : List Int)) (inner := [.int .i64 5, .int .i64 1, .int .i64 2, .int .i64 300, .int .i64 4, .int .i64 50]) (ok := fun _ => True) (okp := fun _ => True) ?hr ?hp (fun _ hk => hk) trivial (Below.refl _ _) (Nat.le_refl _) (by simp) ?_; (case hd => rfl); (case hg => rfl); (case hr => first | (go_simp; done) | (go_simp; rfl)); (case hp => exact (Reps.one (show Kd.M (Kd.int .i64) _ _ _ 5 [.int .i64 5] from rfl) (Reps.one (show Kd.M (Kd.int .i64) _ _ _ 1 [.int .i64 1] from rfl) (Reps.one (show Kd.M (Kd.int .i64) _ _ _ 2 [.int .i64 2] from rfl) (Reps.one (show Kd.M (Kd.int .i64) _ _ _ 300 [.int .i64 300] from rfl) (Reps.one (show Kd.M (Kd.int .i64) _ _ _ 4 [.int .i64 4] from rfl) (Reps.one (show Kd.M (Kd.int .i64) _ _ _ 50 [.int .i64 50] from rfl) (Reps.none _ _)))))))); intro v155 w14 ho15 hb hg_ hnew_; clear hg_ hnew_; (first | rw [← Ny154.out] at ho15 | (simp only [Int.reduceToNat] at ho15; rw [← Ny154.out] at ho15)); have n0_ := Aside0.mk (Kd.R_elder' (by (with_reducible repeat (first | apply Kd.R_alloc | apply Kd.R_drewN | apply Kd.R_drew)); exact HO150.out) (Kd.R_base ho15) hb); have n1_ := Aside0.mk (Kd.R_elder' (by (with_reducible repeat (first | apply Kd.R_alloc | apply Kd.R_drewN | apply Kd.R_drew)); exact HO153.out) (Kd.R_base ho15) hb); have n2_ := Aside0.mk (Kd.R_lower (Kd.R_new' (Kd.R_new' ho15 (Kd.R_lt (by (with_reducible repeat (first | apply Kd.R_alloc | apply Kd.R_drewN | apply Kd.R_drew)); exact HO150.out))) (Kd.R_lt (by (with_reducible repeat (first | apply Kd.R_alloc | apply Kd.R_drewN | apply Kd.R_drew)); exact HO153.out))) (below_size (by repeat (first | (with_reducible first | exact HB.out | apply below_alloc | apply pw_below_drewN | apply below_drew1) | exact HB.out)))); have n3_ := Aside0.mk (below_step (by repeat (first | (with_reducible first | exact HB.out | apply below_alloc | apply pw_below_drewN | apply below_drew1) | exact HB.out)) hb); clear HO150; clear HO153; clear HB; have HO150 := n0_; have HO153 := n1_; have HO156 := n2_; have HB := n3_; clear n0_ n1_ n2_ n3_; clear hb ho15; obtain ⟨Ao16, co16, eo16⟩ := Kd.R_slice HO156.out; subst eo16) | ((with_reducible refine gate_dst (N := 14) rfl ?_); refine Kd.N_lit k40 _ 40 ?hg (N' := 14) ?hd (xs := ([(⟨3, (⟨#[97]⟩ : ByteArray), y148, 0⟩ : S40), (⟨5, (⟨#[97]⟩ : ByteArray), y151, 0⟩ : S40), (⟨8, (⟨#[]⟩ : ByteArray), y154, 0⟩ : S40)] : List (S40))) (inner := [.int .i64 3, .string (⟨#[97]⟩ : ByteArray), .slice Ao10 y148.length co10, .int .i64 0, .int .i64 5, .string (⟨#[97]⟩ : ByteArray), .slice Ao13 y151.length co13, .int .i64 0, .int .i64 8, .string (⟨#[]⟩ : ByteArray), .slice Ao16 y154.length co16, .int .i64 0]) (ok := (fun _ => True)) (okp := (fun _ => True)) ?hr ?hp (fun _ hk => hk) ((show ∀ k_, w14.heap.size ≤ k_ → (fun _ => True) k_ from fun k_ hk => trivial) _ (Nat.le_refl _)) (Below.refl _ _) (Nat.le_refl _) (by simp) ?_; (case hd => rfl); (case hg => rfl); (case hr => first | (go_simp; done) | (go_simp; rfl)); (case hp => exact (Reps.c4 (show Kd.FK k40 _ _ (⟨3, (⟨#[97]⟩ : ByteArray), y148, 0⟩ : S40) [.int .i64 3, .string (⟨#[97]⟩ : ByteArray), .slice Ao10 y148.length co10, .int .i64 0] from (k40_mkF _ _ (⟨3, (⟨#[97]⟩ : ByteArray), y148, 0⟩ : S40) (Kd.R_reads' (Kd.R_mono (ok' := (fun _ => True)) (HO150.out) (fun k_ hk => trivial))).2.1 (Kd.R_F (Kd.R_mono (ok' := (fun _ => True)) (HO150.out) (fun k_ hk => trivial))))) (Reps.c4 (show Kd.FK k40 _ _ (⟨5, (⟨#[97]⟩ : ByteArray), y151, 0⟩ : S40) [.int .i64 5, .string (⟨#[97]⟩ : ByteArray), .slice Ao13 y151.length co13, .int .i64 0] from (k40_mkF _ _ (⟨5, (⟨#[97]⟩ : ByteArray), y151, 0⟩ : S40) (Kd.R_reads' (Kd.R_mono (ok' := (fun _ => True)) (HO153.out) (fun k_ hk => trivial))).2.1 (Kd.R_F (Kd.R_mono (ok' := (fun _ => True)) (HO153.out) (fun k_ hk => trivial))))) (Reps.c4 (show Kd.FK k40 _ _ (⟨8, (⟨#[]⟩ : ByteArray), y154, 0⟩ : S40) [.int .i64 8, .string (⟨#[]⟩ : ByteArray), .slice Ao16 y154.length co16, .int .i64 0] from (k40_mkF _ _ (⟨8, (⟨#[]⟩ : ByteArray), y154, 0⟩ : S40) (Kd.R_reads' (Kd.R_mono (ok' := (fun _ => True)) (HO156.out) (fun k_ hk => trivial))).2.1 (Kd.R_F (Kd.R_mono (ok' := (fun _ => True)) (HO156.out) (fun k_ hk => trivial))))) (Reps.none _ _))))); intro v158 w17 ho18 hb hg_ hnew_; clear hg_ hnew_; (first | rw [← Ny157.out] at ho18 | (simp only [Int.reduceToNat] at ho18; rw [← Ny157.out] at ho18)); have n0_ := Aside0.mk (Kd.N_lower ho18 (below_size (by repeat (first | (with_reducible first | exact HB.out | apply below_alloc | apply pw_below_drewN | apply below_drew1) | exact HB.out)))); have n1_ := Aside0.mk (below_step (by repeat (first | (with_reducible first | exact HB.out | apply below_alloc | apply pw_below_drewN | apply below_drew1) | exact HB.out)) hb); clear HB; clear HO150; clear HO153; clear HO156; have HO159 := n0_; have HB := n1_; clear n0_ n1_; clear hb ho18; obtain ⟨Ao19, co19, eo19⟩ := Kd.N_slice HO159.out; subst eo19) | ((with_reducible refine gate_callee (f := 27) rfl ?_); refine goesL_ (some 17) rfl rfl Tryd.func27 (by kernel_rfl) rfl #[.slice Ao19 y157.length co19] rfl (by (try simp only [List.map_toArray, List.map_cons, List.map_nil]); first | done | rfl | (simp only [List.length_drop, List.length_take]; rfl) | (simp (disch := omega) only [IntWalk.wrap64_in]; done)) ?_; (with_reducible refine (printer_Print.calls _ _ y157 t160 t161 _ ?side3 ?side1 ?side2 A1.out).mono ?_); (case side1 => repeat (first | exact (Kd.N_reads' HO159.out).2.2 | (with_reducible refine Kd.C_alloc ?_ _) | (with_reducible refine Kd.C_drewN ?_ _) | (with_reducible refine Kd.C_drew ?_))); (case side2 => exact (Kd.N_reads' HO159.out).2.1); (case side3 => exact Tx.GP.aside hG (by repeat (first | (with_reducible first | exact HB.out | apply below_alloc | apply pw_below_drewN | apply below_drew1) | exact HB.out))); rintro e w20 ⟨rfl, hb⟩; refine ⟨_, rfl, ?_⟩; have n0_ := Aside0.mk (Kd.N_below (by (with_reducible repeat (first | apply Kd.N_alloc | apply Kd.N_drewN | apply Kd.N_drew)); exact HO159.out) hb); have n1_ := Aside0.mk (below_step (by repeat (first | (with_reducible first | exact HB.out | apply below_alloc | apply pw_below_drewN | apply below_drew1) | exact HB.out)) hb); clear HO159; clear HB; have HO159 := n0_; have HB := n1_; clear n0_ n1_; (try clear hb); (try clear hb2); (try clear hk); (try clear hi)) | ((with_reducible refine gate_callee (f := 27) rfl ?_); refine goesL_ (some 21) rfl rfl Tryd.func27 (by kernel_rfl) rfl #[.slice none 0 0] rfl (by (try simp only [List.map_toArray, List.map_cons, List.map_nil]); first | done | rfl | (simp only [List.length_drop, List.length_take]; rfl) | (simp (disch := omega) only [IntWalk.wrap64_in]; done)) ?_; (refine (printer_Print.calls _ _ ([] : List (S40)) t162 t163 _ ?side3 ?side1 ?side2 A2.out).mono ?_); (case side1 => exact Kd.C_nil _ _); (case side2 => exact Nat.le_refl _); (case side3 => exact Tx.GP.aside hG (by repeat (first | (with_reducible first | exact HB.out | apply below_alloc | apply pw_below_drewN | apply below_drew1) | exact HB.out))); rintro e w21 ⟨rfl, hb⟩; refine ⟨_, rfl, ?_⟩; have n0_ := Aside0.mk (Kd.N_below (by (with_reducible repeat (first | apply Kd.N_alloc | apply Kd.N_drewN | apply Kd.N_drew)); exact HO159.out) hb); have n1_ := Aside0.mk (below_step (by repeat (first | (with_reducible first | exact HB.out | apply below_alloc | apply pw_below_drewN | apply below_drew1) | exact HB.out)) hb); clear HO159; clear HB; have HO159 := n0_; have HB := n1_; clear n0_ n1_; (try clear hb); (try clear hb2); (try clear hk); (try clear hi)) | ((with_reducible refine gate_dst (N := 25) rfl ?_); refine Kd.R_lit (Kd.int .i64) _ 3 ?hg (N := 25) ?hd (xs := ([7] : List Int)) (inner := [.int .i64 7]) (ok := fun _ => True) (okp := fun _ => True) ?hr ?hp (fun _ hk => hk) trivial (Below.refl _ _) (Nat.le_refl _) (by simp) ?_; (case hd => rfl); (case hg => rfl); (case hr => first | (go_simp; done) | (go_simp; rfl)); (case hp => exact (Reps.one (show Kd.M (Kd.int .i64) _ _ _ 7 [.int .i64 7] from rfl) (Reps.none _ _))); intro v165 w22 ho23 hb hg_ hnew_; clear hg_ hnew_; (first | rw [← Ny164.out] at ho23 | (simp only [Int.reduceToNat] at ho23; rw [← Ny164.out] at ho23)); have n0_ := Aside0.mk (Kd.N_elder' (by (with_reducible repeat (first | apply Kd.N_alloc | apply Kd.N_drewN | apply Kd.N_drew)); exact HO159.out) (Kd.R_base ho23) hb); have n1_ := Aside0.mk (Kd.R_lower ho23 (below_size (by repeat (first | (with_reducible first | exact HB.out | apply below_alloc | apply pw_below_drewN | apply below_drew1) | exact HB.out)))); have n2_ := Aside0.mk (below_step (by repeat (first | (with_reducible first | exact HB.out | apply below_alloc | apply pw_below_drewN | apply below_drew1) | exact HB.out)) hb); clear HO159; clear HB; have HO159 := n0_; have HO166 := n1_; have HB := n2_; clear n0_ n1_ n2_; clear hb ho23; obtain ⟨Ao24, co24, eo24⟩ := Kd.R_slice HO166.out; subst eo24) | ((with_reducible refine gate_dst (N := 27) rfl ?_); refine Kd.N_lit k40 _ 40 ?hg (N' := 27) ?hd (xs := ([(⟨5, (⟨#[114, 117, 110]⟩ : ByteArray), y164, 0⟩ : S40)] : List (S40))) (inner := [.int .i64 5, .string (⟨#[114, 117, 110]⟩ : ByteArray), .slice Ao24 y164.length co24, .int .i64 0]) (ok := (fun k_ => some k_ ≠ (.slice Ao19 y157.length co19 : Value).ownBlock)) (okp := (fun k_ => some k_ ≠ (.slice Ao19 y157.length co19 : Value).ownBlock)) ?hr ?hp (fun _ hk => hk) ((show ∀ k_, w22.heap.size ≤ k_ → (fun k_ => some k_ ≠ (.slice Ao19 y157.length co19 : Value).ownBlock) k_ from fun k_ hk => Kd.fresh' (Kd.N_lt (by (with_reducible repeat (first | apply Kd.N_alloc | apply Kd.N_drewN | apply Kd.N_drew)); exact HO159.out)) k_ hk) _ (Nat.le_refl _)) (Below.refl _ _) (Nat.le_refl _) (by simp) ?_; (case hd => rfl); (case hg => rfl); (case hr => first | (go_simp; done) | (go_simp; rfl)); (case hp => exact (Reps.c4 (show Kd.FK k40 _ _ (⟨5, (⟨#[114, 117, 110]⟩ : ByteArray), y164, 0⟩ : S40) [.int .i64 5, .string (⟨#[114, 117, 110]⟩ : ByteArray), .slice Ao24 y164.length co24, .int .i64 0] from (k40_mkF _ _ (⟨5, (⟨#[114, 117, 110]⟩ : ByteArray), y164, 0⟩ : S40) (Kd.R_reads' (Kd.R_mono (ok' := (fun k_ => some k_ ≠ (.slice Ao19 y157.length co19 : Value).ownBlock)) (Kd.R_apart' (HO166.out) (Kd.N_typed HO159.out) (by decide)) (fun k_ hk => hk.2))).2.1 (Kd.R_F (Kd.R_mono (ok' := (fun k_ => some k_ ≠ (.slice Ao19 y157.length co19 : Value).ownBlock)) (Kd.R_apart' (HO166.out) (Kd.N_typed HO159.out) (by decide)) (fun k_ hk => hk.2))))) (Reps.none _ _))); intro v168 w25 ho26 hb hg_ hnew_; clear hg_ hnew_; (first | rw [← Ny167.out] at ho26 | (simp only [Int.reduceToNat] at ho26; rw [← Ny167.out] at ho26)); have n0_ := Aside0.mk (Kd.N_elder' (by (with_reducible repeat (first | apply Kd.N_alloc | apply Kd.N_drewN | apply Kd.N_drew)); exact HO159.out) (Kd.N_base ho26) hb); have n1_ := Aside0.mk (Kd.N_lower ho26 (below_size (by repeat (first | (with_reducible first | exact HB.out | apply below_alloc | apply pw_below_drewN | apply below_drew1) | exact HB.out)))); have n2_ := Aside0.mk (below_step (by repeat (first | (with_reducible first | exact HB.out | apply below_alloc | apply pw_below_drewN | apply below_drew1) | exact HB.out)) hb); clear HO159; clear HB; clear HO166; have HO159 := n0_; have HO169 := n1_; have HB := n2_; clear n0_ n1_ n2_; clear hb ho26; obtain ⟨Ao27, co27, eo27⟩ := Kd.N_slice HO169.out; subst eo27) | ((with_reducible refine gate_callee (f := 27) rfl ?_); refine goesL_ (some 28) rfl rfl Tryd.func27 (by kernel_rfl) rfl #[.slice Ao27 y167.length co27] rfl (by (try simp only [List.map_toArray, List.map_cons, List.map_nil]); first | done | rfl | (simp only [List.length_drop, List.length_take]; rfl) | (simp (disch := omega) only [IntWalk.wrap64_in]; done)) ?_; (with_reducible refine (printer_Print.calls _ _ y167 t170 t171 _ ?side3 ?side1 ?side2 A3.out).mono ?_); (case side1 => repeat (first | exact (Kd.N_reads' HO169.out).2.2 | (with_reducible refine Kd.C_alloc ?_ _) | (with_reducible refine Kd.C_drewN ?_ _) | (with_reducible refine Kd.C_drew ?_))); (case side2 => exact (Kd.N_reads' HO169.out).2.1); (case side3 => exact Tx.GP.aside hG (by repeat (first | (with_reducible first | exact HB.out | apply below_alloc | apply pw_below_drewN | apply below_drew1) | exact HB.out))); rintro e w28 ⟨rfl, hb⟩; refine ⟨_, rfl, ?_⟩; have n0_ := Aside0.mk (Kd.N_below (by (with_reducible repeat (first | apply Kd.N_alloc | apply Kd.N_drewN | apply Kd.N_drew)); exact HO159.out) hb); have n1_ := Aside0.mk (Kd.N_below (by (with_reducible repeat (first | apply Kd.N_alloc | apply Kd.N_drewN | apply Kd.N_drew)); exact HO169.out) hb); have n2_ := Aside0.mk (below_step (by repeat (first | (with_reducible first | exact HB.out | apply below_alloc | apply pw_below_drewN | apply below_drew1) | exact HB.out)) hb); clear HO159; clear HO169; clear HB; have HO159 := n0_; have HO169 := n1_; have HB := n2_; clear n0_ n1_ n2_; (try clear hb); (try clear hb2); (try clear hk); (try clear hi)))
          go_ret
          exact ⟨by first | rfl | (simp [errW_none, errW_some] <;> rfl) | (simp [*, errW_none, errW_some] <;> rfl), by repeat (first | (with_reducible first | exact HB.out | apply below_alloc | apply pw_below_drewN | apply below_drew1) | exact HB.out)⟩
        · rw [if_neg c7] at H
          have c7b0 : (t162.toList == ([] : List UInt8)) = false := beq_eq_false_iff_ne.mpr c7
          have c7b1 : (t162.toList != ([] : List UInt8)) = true := bne_iff_ne.mpr c7
          obtain rfl := Option.some.inj H
          go_enter Tryd.func29, Tryd.ntmps29
          go_wp2_with (first | ((with_reducible refine gate_dst (N := 8) rfl ?_); refine Kd.R_lit (Kd.int .i64) _ 3 ?hg (N := 8) ?hd (xs := ([1, 2, (-30), 9] : List Int)) (inner := [.int .i64 1, .int .i64 2, .int .i64 (-30), .int .i64 9]) (ok := fun _ => True) (okp := fun _ => True) ?hr ?hp (fun _ hk => hk) trivial (Below.refl _ _) (Nat.le_refl _) (by simp) ?_; (case hd => rfl); (case hg => rfl); (case hr => first | (go_simp; done) | (go_simp; rfl)); (case hp => exact (Reps.one (show Kd.M (Kd.int .i64) _ _ _ 1 [.int .i64 1] from rfl) (Reps.one (show Kd.M (Kd.int .i64) _ _ _ 2 [.int .i64 2] from rfl) (Reps.one (show Kd.M (Kd.int .i64) _ _ _ (-30) [.int .i64 (-30)] from rfl) (Reps.one (show Kd.M (Kd.int .i64) _ _ _ 9 [.int .i64 9] from rfl) (Reps.none _ _)))))); intro v149 w29 ho30 hb hg_ hnew_; clear hg_ hnew_; (first | rw [← Ny148.out] at ho30 | (simp only [Int.reduceToNat] at ho30; rw [← Ny148.out] at ho30)); have n0_ := Aside0.mk (Kd.R_lower ho30 (below_size (by repeat (first | (with_reducible first | exact HB.out | apply below_alloc | apply pw_below_drewN | apply below_drew1) | exact HB.out)))); have n1_ := Aside0.mk (below_step (by repeat (first | (with_reducible first | exact HB.out | apply below_alloc | apply pw_below_drewN | apply below_drew1) | exact HB.out)) hb); clear HB; have HO150 := n0_; have HB := n1_; clear n0_ n1_; clear hb ho30; obtain ⟨Ao31, co31, eo31⟩ := Kd.R_slice HO150.out; subst eo31) | ((with_reducible refine gate_dst (N := 10) rfl ?_); refine Kd.R_lit (Kd.int .i64) _ 3 ?hg (N := 10) ?hd (xs := ([7] : List Int)) (inner := [.int .i64 7]) (ok := fun _ => True) (okp := fun _ => True) ?hr ?hp (fun _ hk => hk) trivial (Below.refl _ _) (Nat.le_refl _) (by simp) ?_; (case hd => rfl); (case hg => rfl); (case hr => first | (go_simp; done) | (go_simp; rfl)); (case hp => exact (Reps.one (show Kd.M (Kd.int .i64) _ _ _ 7 [.int .i64 7] from rfl) (Reps.none _ _))); intro v152 w32 ho33 hb hg_ hnew_; clear hg_ hnew_; (first | rw [← Ny151.out] at ho33 | (simp only [Int.reduceToNat] at ho33; rw [← Ny151.out] at ho33)); have n0_ := Aside0.mk (Kd.R_elder' (by (with_reducible repeat (first | apply Kd.R_alloc | apply Kd.R_drewN | apply Kd.R_drew)); exact HO150.out) (Kd.R_base ho33) hb); have n1_ := Aside0.mk (Kd.R_lower (Kd.R_new' ho33 (Kd.R_lt (by (with_reducible repeat (first | apply Kd.R_alloc | apply Kd.R_drewN | apply Kd.R_drew)); exact HO150.out))) (below_size (by repeat (first | (with_reducible first | exact HB.out | apply below_alloc | apply pw_below_drewN | apply below_drew1) | exact HB.out)))); have n2_ := Aside0.mk (below_step (by repeat (first | (with_reducible first | exact HB.out | apply below_alloc | apply pw_below_drewN | apply below_drew1) | exact HB.out)) hb); clear HO150; clear HB; have HO150 := n0_; have HO153 := n1_; have HB := n2_; clear n0_ n1_ n2_; clear hb ho33; obtain ⟨Ao34, co34, eo34⟩ := Kd.R_slice HO153.out; subst eo34) | ((with_reducible refine gate_dst (N := 12) rfl ?_); refine Kd.R_lit (Kd.int .i64) _ 3 ?hg (N := 12) ?hd (xs := ([5, 1, 2, 300, 4, 50] : List Int)) (inner := [.int .i64 5, .int .i64 1, .int .i64 2, .int .i64 300, .int .i64 4, .int .i64 50]) (ok := fun _ => True) (okp := fun _ => True) ?hr ?hp (fun _ hk => hk) trivial (Below.refl _ _) (Nat.le_refl _) (by simp) ?_; (case hd => rfl); (case hg => rfl); (case hr => first | (go_simp; done) | (go_simp; rfl)); (case hp => exact (Reps.one (show Kd.M (Kd.int .i64) _ _ _ 5 [.int .i64 5] from rfl) (Reps.one (show Kd.M (Kd.int .i64) _ _ _ 1 [.int .i64 1] from rfl) (Reps.one (show Kd.M (Kd.int .i64) _ _ _ 2 [.int .i64 2] from rfl) (Reps.one (show Kd.M (Kd.int .i64) _ _ _ 300 [.int .i64 300] from rfl) (Reps.one (show Kd.M (Kd.int .i64) _ _ _ 4 [.int .i64 4] from rfl) (Reps.one (show Kd.M (Kd.int .i64) _ _ _ 50 [.int .i64 50] from rfl) (Reps.none _ _)))))))); intro v155 w35 ho36 hb hg_ hnew_; clear hg_ hnew_; (first | rw [← Ny154.out] at ho36 | (simp only [Int.reduceToNat] at ho36; rw [← Ny154.out] at ho36)); have n0_ := Aside0.mk (Kd.R_elder' (by (with_reducible repeat (first | apply Kd.R_alloc | apply Kd.R_drewN | apply Kd.R_drew)); exact HO150.out) (Kd.R_base ho36) hb); have n1_ := Aside0.mk (Kd.R_elder' (by (with_reducible repeat (first | apply Kd.R_alloc | apply Kd.R_drewN | apply Kd.R_drew)); exact HO153.out) (Kd.R_base ho36) hb); have n2_ := Aside0.mk (Kd.R_lower (Kd.R_new' (Kd.R_new' ho36 (Kd.R_lt (by (with_reducible repeat (first | apply Kd.R_alloc | apply Kd.R_drewN | apply Kd.R_drew)); exact HO150.out))) (Kd.R_lt (by (with_reducible repeat (first | apply Kd.R_alloc | apply Kd.R_drewN | apply Kd.R_drew)); exact HO153.out))) (below_size (by repeat (first | (with_reducible first | exact HB.out | apply below_alloc | apply pw_below_drewN | apply below_drew1) | exact HB.out)))); have n3_ := Aside0.mk (below_step (by repeat (first | (with_reducible first | exact HB.out | apply below_alloc | apply pw_below_drewN | apply below_drew1) | exact HB.out)) hb); clear HO150; clear HO153; clear HB; have HO150 := n0_; have HO153 := n1_; have HO156 := n2_; have HB := n3_; clear n0_ n1_ n2_ n3_; clear hb ho36; obtain ⟨Ao37, co37, eo37⟩ := Kd.R_slice HO156.out; subst eo37) | ((with_reducible refine gate_dst (N := 14) rfl ?_); refine Kd.N_lit k40 _ 40 ?hg (N' := 14) ?hd (xs := ([(⟨3, (⟨#[97]⟩ : ByteArray), y148, 0⟩ : S40), (⟨5, (⟨#[97]⟩ : ByteArray), y151, 0⟩ : S40), (⟨8, (⟨#[]⟩ : ByteArray), y154, 0⟩ : S40)] : List (S40))) (inner := [.int .i64 3, .string (⟨#[97]⟩ : ByteArray), .slice Ao31 y148.length co31, .int .i64 0, .int .i64 5, .string (⟨#[97]⟩ : ByteArray), .slice Ao34 y151.length co34, .int .i64 0, .int .i64 8, .string (⟨#[]⟩ : ByteArray), .slice Ao37 y154.length co37, .int .i64 0]) (ok := (fun _ => True)) (okp := (fun _ => True)) ?hr ?hp (fun _ hk => hk) ((show ∀ k_, w35.heap.size ≤ k_ → (fun _ => True) k_ from fun k_ hk => trivial) _ (Nat.le_refl _)) (Below.refl _ _) (Nat.le_refl _) (by simp) ?_; (case hd => rfl); (case hg => rfl); (case hr => first | (go_simp; done) | (go_simp; rfl)); (case hp => exact (Reps.c4 (show Kd.FK k40 _ _ (⟨3, (⟨#[97]⟩ : ByteArray), y148, 0⟩ : S40) [.int .i64 3, .string (⟨#[97]⟩ : ByteArray), .slice Ao31 y148.length co31, .int .i64 0] from (k40_mkF _ _ (⟨3, (⟨#[97]⟩ : ByteArray), y148, 0⟩ : S40) (Kd.R_reads' (Kd.R_mono (ok' := (fun _ => True)) (HO150.out) (fun k_ hk => trivial))).2.1 (Kd.R_F (Kd.R_mono (ok' := (fun _ => True)) (HO150.out) (fun k_ hk => trivial))))) (Reps.c4 (show Kd.FK k40 _ _ (⟨5, (⟨#[97]⟩ : ByteArray), y151, 0⟩ : S40) [.int .i64 5, .string (⟨#[97]⟩ : ByteArray), .slice Ao34 y151.length co34, .int .i64 0] from (k40_mkF _ _ (⟨5, (⟨#[97]⟩ : ByteArray), y151, 0⟩ : S40) (Kd.R_reads' (Kd.R_mono (ok' := (fun _ => True)) (HO153.out) (fun k_ hk => trivial))).2.1 (Kd.R_F (Kd.R_mono (ok' := (fun _ => True)) (HO153.out) (fun k_ hk => trivial))))) (Reps.c4 (show Kd.FK k40 _ _ (⟨8, (⟨#[]⟩ : ByteArray), y154, 0⟩ : S40) [.int .i64 8, .string (⟨#[]⟩ : ByteArray), .slice Ao37 y154.length co37, .int .i64 0] from (k40_mkF _ _ (⟨8, (⟨#[]⟩ : ByteArray), y154, 0⟩ : S40) (Kd.R_reads' (Kd.R_mono (ok' := (fun _ => True)) (HO156.out) (fun k_ hk => trivial))).2.1 (Kd.R_F (Kd.R_mono (ok' := (fun _ => True)) (HO156.out) (fun k_ hk => trivial))))) (Reps.none _ _))))); intro v158 w38 ho39 hb hg_ hnew_; clear hg_ hnew_; (first | rw [← Ny157.out] at ho39 | (simp only [Int.reduceToNat] at ho39; rw [← Ny157.out] at ho39)); have n0_ := Aside0.mk (Kd.N_lower ho39 (below_size (by repeat (first | (with_reducible first | exact HB.out | apply below_alloc | apply pw_below_drewN | apply below_drew1) | exact HB.out)))); have n1_ := Aside0.mk (below_step (by repeat (first | (with_reducible first | exact HB.out | apply below_alloc | apply pw_below_drewN | apply below_drew1) | exact HB.out)) hb); clear HB; clear HO150; clear HO153; clear HO156; have HO159 := n0_; have HB := n1_; clear n0_ n1_; clear hb ho39; obtain ⟨Ao40, co40, eo40⟩ := Kd.N_slice HO159.out; subst eo40) | ((with_reducible refine gate_callee (f := 27) rfl ?_); refine goesL_ (some 17) rfl rfl Tryd.func27 (by kernel_rfl) rfl #[.slice Ao40 y157.length co40] rfl (by (try simp only [List.map_toArray, List.map_cons, List.map_nil]); first | done | rfl | (simp only [List.length_drop, List.length_take]; rfl) | (simp (disch := omega) only [IntWalk.wrap64_in]; done)) ?_; (with_reducible refine (printer_Print.calls _ _ y157 t160 t161 _ ?side3 ?side1 ?side2 A1.out).mono ?_); (case side1 => repeat (first | exact (Kd.N_reads' HO159.out).2.2 | (with_reducible refine Kd.C_alloc ?_ _) | (with_reducible refine Kd.C_drewN ?_ _) | (with_reducible refine Kd.C_drew ?_))); (case side2 => exact (Kd.N_reads' HO159.out).2.1); (case side3 => exact Tx.GP.aside hG (by repeat (first | (with_reducible first | exact HB.out | apply below_alloc | apply pw_below_drewN | apply below_drew1) | exact HB.out))); rintro e w41 ⟨rfl, hb⟩; refine ⟨_, rfl, ?_⟩; have n0_ := Aside0.mk (Kd.N_below (by (with_reducible repeat (first | apply Kd.N_alloc | apply Kd.N_drewN | apply Kd.N_drew)); exact HO159.out) hb); have n1_ := Aside0.mk (below_step (by repeat (first | (with_reducible first | exact HB.out | apply below_alloc | apply pw_below_drewN | apply below_drew1) | exact HB.out)) hb); clear HO159; clear HB; have HO159 := n0_; have HB := n1_; clear n0_ n1_; (try clear hb); (try clear hb2); (try clear hk); (try clear hi)) | ((with_reducible refine gate_callee (f := 27) rfl ?_); refine goesL_ (some 21) rfl rfl Tryd.func27 (by kernel_rfl) rfl #[.slice none 0 0] rfl (by (try simp only [List.map_toArray, List.map_cons, List.map_nil]); first | done | rfl | (simp only [List.length_drop, List.length_take]; rfl) | (simp (disch := omega) only [IntWalk.wrap64_in]; done)) ?_; (refine (printer_Print.calls _ _ ([] : List (S40)) t162 t163 _ ?side3 ?side1 ?side2 A2.out).mono ?_); (case side1 => exact Kd.C_nil _ _); (case side2 => exact Nat.le_refl _); (case side3 => exact Tx.GP.aside hG (by repeat (first | (with_reducible first | exact HB.out | apply below_alloc | apply pw_below_drewN | apply below_drew1) | exact HB.out))); rintro e w42 ⟨rfl, hb⟩; refine ⟨_, rfl, ?_⟩; have n0_ := Aside0.mk (Kd.N_below (by (with_reducible repeat (first | apply Kd.N_alloc | apply Kd.N_drewN | apply Kd.N_drew)); exact HO159.out) hb); have n1_ := Aside0.mk (below_step (by repeat (first | (with_reducible first | exact HB.out | apply below_alloc | apply pw_below_drewN | apply below_drew1) | exact HB.out)) hb); clear HO159; clear HB; have HO159 := n0_; have HB := n1_; clear n0_ n1_; (try clear hb); (try clear hb2); (try clear hk); (try clear hi)) | ((with_reducible refine gate_dst (N := 25) rfl ?_); refine Kd.R_lit (Kd.int .i64) _ 3 ?hg (N := 25) ?hd (xs := ([7] : List Int)) (inner := [.int .i64 7]) (ok := fun _ => True) (okp := fun _ => True) ?hr ?hp (fun _ hk => hk) trivial (Below.refl _ _) (Nat.le_refl _) (by simp) ?_; (case hd => rfl); (case hg => rfl); (case hr => first | (go_simp; done) | (go_simp; rfl)); (case hp => exact (Reps.one (show Kd.M (Kd.int .i64) _ _ _ 7 [.int .i64 7] from rfl) (Reps.none _ _))); intro v165 w43 ho44 hb hg_ hnew_; clear hg_ hnew_; (first | rw [← Ny164.out] at ho44 | (simp only [Int.reduceToNat] at ho44; rw [← Ny164.out] at ho44)); have n0_ := Aside0.mk (Kd.N_elder' (by (with_reducible repeat (first | apply Kd.N_alloc | apply Kd.N_drewN | apply Kd.N_drew)); exact HO159.out) (Kd.R_base ho44) hb); have n1_ := Aside0.mk (Kd.R_lower ho44 (below_size (by repeat (first | (with_reducible first | exact HB.out | apply below_alloc | apply pw_below_drewN | apply below_drew1) | exact HB.out)))); have n2_ := Aside0.mk (below_step (by repeat (first | (with_reducible first | exact HB.out | apply below_alloc | apply pw_below_drewN | apply below_drew1) | exact HB.out)) hb); clear HO159; clear HB; have HO159 := n0_; have HO166 := n1_; have HB := n2_; clear n0_ n1_ n2_; clear hb ho44; obtain ⟨Ao45, co45, eo45⟩ := Kd.R_slice HO166.out; subst eo45) | ((with_reducible refine gate_dst (N := 27) rfl ?_); refine Kd.N_lit k40 _ 40 ?hg (N' := 27) ?hd (xs := ([(⟨5, (⟨#[114, 117, 110]⟩ : ByteArray), y164, 0⟩ : S40)] : List (S40))) (inner := [.int .i64 5, .string (⟨#[114, 117, 110]⟩ : ByteArray), .slice Ao45 y164.length co45, .int .i64 0]) (ok := (fun k_ => some k_ ≠ (.slice Ao40 y157.length co40 : Value).ownBlock)) (okp := (fun k_ => some k_ ≠ (.slice Ao40 y157.length co40 : Value).ownBlock)) ?hr ?hp (fun _ hk => hk) ((show ∀ k_, w43.heap.size ≤ k_ → (fun k_ => some k_ ≠ (.slice Ao40 y157.length co40 : Value).ownBlock) k_ from fun k_ hk => Kd.fresh' (Kd.N_lt (by (with_reducible repeat (first | apply Kd.N_alloc | apply Kd.N_drewN | apply Kd.N_drew)); exact HO159.out)) k_ hk) _ (Nat.le_refl _)) (Below.refl _ _) (Nat.le_refl _) (by simp) ?_; (case hd => rfl); (case hg => rfl); (case hr => first | (go_simp; done) | (go_simp; rfl)); (case hp => exact (Reps.c4 (show Kd.FK k40 _ _ (⟨5, (⟨#[114, 117, 110]⟩ : ByteArray), y164, 0⟩ : S40) [.int .i64 5, .string (⟨#[114, 117, 110]⟩ : ByteArray), .slice Ao45 y164.length co45, .int .i64 0] from (k40_mkF _ _ (⟨5, (⟨#[114, 117, 110]⟩ : ByteArray), y164, 0⟩ : S40) (Kd.R_reads' (Kd.R_mono (ok' := (fun k_ => some k_ ≠ (.slice Ao40 y157.length co40 : Value).ownBlock)) (Kd.R_apart' (HO166.out) (Kd.N_typed HO159.out) (by decide)) (fun k_ hk => hk.2))).2.1 (Kd.R_F (Kd.R_mono (ok' := (fun k_ => some k_ ≠ (.slice Ao40 y157.length co40 : Value).ownBlock)) (Kd.R_apart' (HO166.out) (Kd.N_typed HO159.out) (by decide)) (fun k_ hk => hk.2))))) (Reps.none _ _))); intro v168 w46 ho47 hb hg_ hnew_; clear hg_ hnew_; (first | rw [← Ny167.out] at ho47 | (simp only [Int.reduceToNat] at ho47; rw [← Ny167.out] at ho47)); have n0_ := Aside0.mk (Kd.N_elder' (by (with_reducible repeat (first | apply Kd.N_alloc | apply Kd.N_drewN | apply Kd.N_drew)); exact HO159.out) (Kd.N_base ho47) hb); have n1_ := Aside0.mk (Kd.N_lower ho47 (below_size (by repeat (first | (with_reducible first | exact HB.out | apply below_alloc | apply pw_below_drewN | apply below_drew1) | exact HB.out)))); have n2_ := Aside0.mk (below_step (by repeat (first | (with_reducible first | exact HB.out | apply below_alloc | apply pw_below_drewN | apply below_drew1) | exact HB.out)) hb); clear HO159; clear HB; clear HO166; have HO159 := n0_; have HO169 := n1_; have HB := n2_; clear n0_ n1_ n2_; clear hb ho47; obtain ⟨Ao48, co48, eo48⟩ := Kd.N_slice HO169.out; subst eo48) | ((with_reducible refine gate_callee (f := 27) rfl ?_); refine goesL_ (some 28) rfl rfl Tryd.func27 (by kernel_rfl) rfl #[.slice Ao48 y167.length co48] rfl (by (try simp only [List.map_toArray, List.map_cons, List.map_nil]); first | done | rfl | (simp only [List.length_drop, List.length_take]; rfl) | (simp (disch := omega) only [IntWalk.wrap64_in]; done)) ?_; (with_reducible refine (printer_Print.calls _ _ y167 t170 t171 _ ?side3 ?side1 ?side2 A3.out).mono ?_); (case side1 => repeat (first | exact (Kd.N_reads' HO169.out).2.2 | (with_reducible refine Kd.C_alloc ?_ _) | (with_reducible refine Kd.C_drewN ?_ _) | (with_reducible refine Kd.C_drew ?_))); (case side2 => exact (Kd.N_reads' HO169.out).2.1); (case side3 => exact Tx.GP.aside hG (by repeat (first | (with_reducible first | exact HB.out | apply below_alloc | apply pw_below_drewN | apply below_drew1) | exact HB.out))); rintro e w49 ⟨rfl, hb⟩; refine ⟨_, rfl, ?_⟩; have n0_ := Aside0.mk (Kd.N_below (by (with_reducible repeat (first | apply Kd.N_alloc | apply Kd.N_drewN | apply Kd.N_drew)); exact HO159.out) hb); have n1_ := Aside0.mk (Kd.N_below (by (with_reducible repeat (first | apply Kd.N_alloc | apply Kd.N_drewN | apply Kd.N_drew)); exact HO169.out) hb); have n2_ := Aside0.mk (below_step (by repeat (first | (with_reducible first | exact HB.out | apply below_alloc | apply pw_below_drewN | apply below_drew1) | exact HB.out)) hb); clear HO159; clear HO169; clear HB; have HO159 := n0_; have HO169 := n1_; have HB := n2_; clear n0_ n1_ n2_; (try clear hb); (try clear hb2); (try clear hk); (try clear hi)))
          go_ret
          exact ⟨by first | rfl | (simp [errW_none, errW_some] <;> rfl) | (simp [*, errW_none, errW_some] <;> rfl), by repeat (first | (with_reducible first | exact HB.out | apply below_alloc | apply pw_below_drewN | apply below_drew1) | exact HB.out)⟩
      · rw [if_neg c6] at H
        have c6b0 : (t171 == 1) = false := beq_eq_false_iff_ne.mpr c6
        have c6b1 : (t171 != 1) = true := bne_iff_ne.mpr c6
        obtain rfl := Option.some.inj H
        go_enter Tryd.func29, Tryd.ntmps29
        go_wp2_with (first | ((with_reducible refine gate_dst (N := 8) rfl ?_); refine Kd.R_lit (Kd.int .i64) _ 3 ?hg (N := 8) ?hd (xs := ([1, 2, (-30), 9] : List Int)) (inner := [.int .i64 1, .int .i64 2, .int .i64 (-30), .int .i64 9]) (ok := fun _ => True) (okp := fun _ => True) ?hr ?hp (fun _ hk => hk) trivial (Below.refl _ _) (Nat.le_refl _) (by simp) ?_; (case hd => rfl); (case hg => rfl); (case hr => first | (go_simp; done) | (go_simp; rfl)); (case hp => exact (Reps.one (show Kd.M (Kd.int .i64) _ _ _ 1 [.int .i64 1] from rfl) (Reps.one (show Kd.M (Kd.int .i64) _ _ _ 2 [.int .i64 2] from rfl) (Reps.one (show Kd.M (Kd.int .i64) _ _ _ (-30) [.int .i64 (-30)] from rfl) (Reps.one (show Kd.M (Kd.int .i64) _ _ _ 9 [.int .i64 9] from rfl) (Reps.none _ _)))))); intro v149 w50 ho51 hb hg_ hnew_; clear hg_ hnew_; (first | rw [← Ny148.out] at ho51 | (simp only [Int.reduceToNat] at ho51; rw [← Ny148.out] at ho51)); have n0_ := Aside0.mk (Kd.R_lower ho51 (below_size (by repeat (first | (with_reducible first | exact HB.out | apply below_alloc | apply pw_below_drewN | apply below_drew1) | exact HB.out)))); have n1_ := Aside0.mk (below_step (by repeat (first | (with_reducible first | exact HB.out | apply below_alloc | apply pw_below_drewN | apply below_drew1) | exact HB.out)) hb); clear HB; have HO150 := n0_; have HB := n1_; clear n0_ n1_; clear hb ho51; obtain ⟨Ao52, co52, eo52⟩ := Kd.R_slice HO150.out; subst eo52) | ((with_reducible refine gate_dst (N := 10) rfl ?_); refine Kd.R_lit (Kd.int .i64) _ 3 ?hg (N := 10) ?hd (xs := ([7] : List Int)) (inner := [.int .i64 7]) (ok := fun _ => True) (okp := fun _ => True) ?hr ?hp (fun _ hk => hk) trivial (Below.refl _ _) (Nat.le_refl _) (by simp) ?_; (case hd => rfl); (case hg => rfl); (case hr => first | (go_simp; done) | (go_simp; rfl)); (case hp => exact (Reps.one (show Kd.M (Kd.int .i64) _ _ _ 7 [.int .i64 7] from rfl) (Reps.none _ _))); intro v152 w53 ho54 hb hg_ hnew_; clear hg_ hnew_; (first | rw [← Ny151.out] at ho54 | (simp only [Int.reduceToNat] at ho54; rw [← Ny151.out] at ho54)); have n0_ := Aside0.mk (Kd.R_elder' (by (with_reducible repeat (first | apply Kd.R_alloc | apply Kd.R_drewN | apply Kd.R_drew)); exact HO150.out) (Kd.R_base ho54) hb); have n1_ := Aside0.mk (Kd.R_lower (Kd.R_new' ho54 (Kd.R_lt (by (with_reducible repeat (first | apply Kd.R_alloc | apply Kd.R_drewN | apply Kd.R_drew)); exact HO150.out))) (below_size (by repeat (first | (with_reducible first | exact HB.out | apply below_alloc | apply pw_below_drewN | apply below_drew1) | exact HB.out)))); have n2_ := Aside0.mk (below_step (by repeat (first | (with_reducible first | exact HB.out | apply below_alloc | apply pw_below_drewN | apply below_drew1) | exact HB.out)) hb); clear HO150; clear HB; have HO150 := n0_; have HO153 := n1_; have HB := n2_; clear n0_ n1_ n2_; clear hb ho54; obtain ⟨Ao55, co55, eo55⟩ := Kd.R_slice HO153.out; subst eo55) | ((with_reducible refine gate_dst (N := 12) rfl ?_); refine Kd.R_lit (Kd.int .i64) _ 3 ?hg (N := 12) ?hd (xs := ([5, 1, 2, 300, 4, 50] : List Int)) (inner := [.int .i64 5, .int .i64 1, .int .i64 2, .int .i64 300, .int .i64 4, .int .i64 50]) (ok := fun _ => True) (okp := fun _ => True) ?hr ?hp (fun _ hk => hk) trivial (Below.refl _ _) (Nat.le_refl _) (by simp) ?_; (case hd => rfl); (case hg => rfl); (case hr => first | (go_simp; done) | (go_simp; rfl)); (case hp => exact (Reps.one (show Kd.M (Kd.int .i64) _ _ _ 5 [.int .i64 5] from rfl) (Reps.one (show Kd.M (Kd.int .i64) _ _ _ 1 [.int .i64 1] from rfl) (Reps.one (show Kd.M (Kd.int .i64) _ _ _ 2 [.int .i64 2] from rfl) (Reps.one (show Kd.M (Kd.int .i64) _ _ _ 300 [.int .i64 300] from rfl) (Reps.one (show Kd.M (Kd.int .i64) _ _ _ 4 [.int .i64 4] from rfl) (Reps.one (show Kd.M (Kd.int .i64) _ _ _ 50 [.int .i64 50] from rfl) (Reps.none _ _)))))))); intro v155 w56 ho57 hb hg_ hnew_; clear hg_ hnew_; (first | rw [← Ny154.out] at ho57 | (simp only [Int.reduceToNat] at ho57; rw [← Ny154.out] at ho57)); have n0_ := Aside0.mk (Kd.R_elder' (by (with_reducible repeat (first | apply Kd.R_alloc | apply Kd.R_drewN | apply Kd.R_drew)); exact HO150.out) (Kd.R_base ho57) hb); have n1_ := Aside0.mk (Kd.R_elder' (by (with_reducible repeat (first | apply Kd.R_alloc | apply Kd.R_drewN | apply Kd.R_drew)); exact HO153.out) (Kd.R_base ho57) hb); have n2_ := Aside0.mk (Kd.R_lower (Kd.R_new' (Kd.R_new' ho57 (Kd.R_lt (by (with_reducible repeat (first | apply Kd.R_alloc | apply Kd.R_drewN | apply Kd.R_drew)); exact HO150.out))) (Kd.R_lt (by (with_reducible repeat (first | apply Kd.R_alloc | apply Kd.R_drewN | apply Kd.R_drew)); exact HO153.out))) (below_size (by repeat (first | (with_reducible first | exact HB.out | apply below_alloc | apply pw_below_drewN | apply below_drew1) | exact HB.out)))); have n3_ := Aside0.mk (below_step (by repeat (first | (with_reducible first | exact HB.out | apply below_alloc | apply pw_below_drewN | apply below_drew1) | exact HB.out)) hb); clear HO150; clear HO153; clear HB; have HO150 := n0_; have HO153 := n1_; have HO156 := n2_; have HB := n3_; clear n0_ n1_ n2_ n3_; clear hb ho57; obtain ⟨Ao58, co58, eo58⟩ := Kd.R_slice HO156.out; subst eo58) | ((with_reducible refine gate_dst (N := 14) rfl ?_); refine Kd.N_lit k40 _ 40 ?hg (N' := 14) ?hd (xs := ([(⟨3, (⟨#[97]⟩ : ByteArray), y148, 0⟩ : S40), (⟨5, (⟨#[97]⟩ : ByteArray), y151, 0⟩ : S40), (⟨8, (⟨#[]⟩ : ByteArray), y154, 0⟩ : S40)] : List (S40))) (inner := [.int .i64 3, .string (⟨#[97]⟩ : ByteArray), .slice Ao52 y148.length co52, .int .i64 0, .int .i64 5, .string (⟨#[97]⟩ : ByteArray), .slice Ao55 y151.length co55, .int .i64 0, .int .i64 8, .string (⟨#[]⟩ : ByteArray), .slice Ao58 y154.length co58, .int .i64 0]) (ok := (fun _ => True)) (okp := (fun _ => True)) ?hr ?hp (fun _ hk => hk) ((show ∀ k_, w56.heap.size ≤ k_ → (fun _ => True) k_ from fun k_ hk => trivial) _ (Nat.le_refl _)) (Below.refl _ _) (Nat.le_refl _) (by simp) ?_; (case hd => rfl); (case hg => rfl); (case hr => first | (go_simp; done) | (go_simp; rfl)); (case hp => exact (Reps.c4 (show Kd.FK k40 _ _ (⟨3, (⟨#[97]⟩ : ByteArray), y148, 0⟩ : S40) [.int .i64 3, .string (⟨#[97]⟩ : ByteArray), .slice Ao52 y148.length co52, .int .i64 0] from (k40_mkF _ _ (⟨3, (⟨#[97]⟩ : ByteArray), y148, 0⟩ : S40) (Kd.R_reads' (Kd.R_mono (ok' := (fun _ => True)) (HO150.out) (fun k_ hk => trivial))).2.1 (Kd.R_F (Kd.R_mono (ok' := (fun _ => True)) (HO150.out) (fun k_ hk => trivial))))) (Reps.c4 (show Kd.FK k40 _ _ (⟨5, (⟨#[97]⟩ : ByteArray), y151, 0⟩ : S40) [.int .i64 5, .string (⟨#[97]⟩ : ByteArray), .slice Ao55 y151.length co55, .int .i64 0] from (k40_mkF _ _ (⟨5, (⟨#[97]⟩ : ByteArray), y151, 0⟩ : S40) (Kd.R_reads' (Kd.R_mono (ok' := (fun _ => True)) (HO153.out) (fun k_ hk => trivial))).2.1 (Kd.R_F (Kd.R_mono (ok' := (fun _ => True)) (HO153.out) (fun k_ hk => trivial))))) (Reps.c4 (show Kd.FK k40 _ _ (⟨8, (⟨#[]⟩ : ByteArray), y154, 0⟩ : S40) [.int .i64 8, .string (⟨#[]⟩ : ByteArray), .slice Ao58 y154.length co58, .int .i64 0] from (k40_mkF _ _ (⟨8, (⟨#[]⟩ : ByteArray), y154, 0⟩ : S40) (Kd.R_reads' (Kd.R_mono (ok' := (fun _ => True)) (HO156.out) (fun k_ hk => trivial))).2.1 (Kd.R_F (Kd.R_mono (ok' := (fun _ => True)) (HO156.out) (fun k_ hk => trivial))))) (Reps.none _ _))))); intro v158 w59 ho60 hb hg_ hnew_; clear hg_ hnew_; (first | rw [← Ny157.out] at ho60 | (simp only [Int.reduceToNat] at ho60; rw [← Ny157.out] at ho60)); have n0_ := Aside0.mk (Kd.N_lower ho60 (below_size (by repeat (first | (with_reducible first | exact HB.out | apply below_alloc | apply pw_below_drewN | apply below_drew1) | exact HB.out)))); have n1_ := Aside0.mk (below_step (by repeat (first | (with_reducible first | exact HB.out | apply below_alloc | apply pw_below_drewN | apply below_drew1) | exact HB.out)) hb); clear HB; clear HO150; clear HO153; clear HO156; have HO159 := n0_; have HB := n1_; clear n0_ n1_; clear hb ho60; obtain ⟨Ao61, co61, eo61⟩ := Kd.N_slice HO159.out; subst eo61) | ((with_reducible refine gate_callee (f := 27) rfl ?_); refine goesL_ (some 17) rfl rfl Tryd.func27 (by kernel_rfl) rfl #[.slice Ao61 y157.length co61] rfl (by (try simp only [List.map_toArray, List.map_cons, List.map_nil]); first | done | rfl | (simp only [List.length_drop, List.length_take]; rfl) | (simp (disch := omega) only [IntWalk.wrap64_in]; done)) ?_; (with_reducible refine (printer_Print.calls _ _ y157 t160 t161 _ ?side3 ?side1 ?side2 A1.out).mono ?_); (case side1 => repeat (first | exact (Kd.N_reads' HO159.out).2.2 | (with_reducible refine Kd.C_alloc ?_ _) | (with_reducible refine Kd.C_drewN ?_ _) | (with_reducible refine Kd.C_drew ?_))); (case side2 => exact (Kd.N_reads' HO159.out).2.1); (case side3 => exact Tx.GP.aside hG (by repeat (first | (with_reducible first | exact HB.out | apply below_alloc | apply pw_below_drewN | apply below_drew1) | exact HB.out))); rintro e w62 ⟨rfl, hb⟩; refine ⟨_, rfl, ?_⟩; have n0_ := Aside0.mk (Kd.N_below (by (with_reducible repeat (first | apply Kd.N_alloc | apply Kd.N_drewN | apply Kd.N_drew)); exact HO159.out) hb); have n1_ := Aside0.mk (below_step (by repeat (first | (with_reducible first | exact HB.out | apply below_alloc | apply pw_below_drewN | apply below_drew1) | exact HB.out)) hb); clear HO159; clear HB; have HO159 := n0_; have HB := n1_; clear n0_ n1_; (try clear hb); (try clear hb2); (try clear hk); (try clear hi)) | ((with_reducible refine gate_callee (f := 27) rfl ?_); refine goesL_ (some 21) rfl rfl Tryd.func27 (by kernel_rfl) rfl #[.slice none 0 0] rfl (by (try simp only [List.map_toArray, List.map_cons, List.map_nil]); first | done | rfl | (simp only [List.length_drop, List.length_take]; rfl) | (simp (disch := omega) only [IntWalk.wrap64_in]; done)) ?_; (refine (printer_Print.calls _ _ ([] : List (S40)) t162 t163 _ ?side3 ?side1 ?side2 A2.out).mono ?_); (case side1 => exact Kd.C_nil _ _); (case side2 => exact Nat.le_refl _); (case side3 => exact Tx.GP.aside hG (by repeat (first | (with_reducible first | exact HB.out | apply below_alloc | apply pw_below_drewN | apply below_drew1) | exact HB.out))); rintro e w63 ⟨rfl, hb⟩; refine ⟨_, rfl, ?_⟩; have n0_ := Aside0.mk (Kd.N_below (by (with_reducible repeat (first | apply Kd.N_alloc | apply Kd.N_drewN | apply Kd.N_drew)); exact HO159.out) hb); have n1_ := Aside0.mk (below_step (by repeat (first | (with_reducible first | exact HB.out | apply below_alloc | apply pw_below_drewN | apply below_drew1) | exact HB.out)) hb); clear HO159; clear HB; have HO159 := n0_; have HB := n1_; clear n0_ n1_; (try clear hb); (try clear hb2); (try clear hk); (try clear hi)) | ((with_reducible refine gate_dst (N := 25) rfl ?_); refine Kd.R_lit (Kd.int .i64) _ 3 ?hg (N := 25) ?hd (xs := ([7] : List Int)) (inner := [.int .i64 7]) (ok := fun _ => True) (okp := fun _ => True) ?hr ?hp (fun _ hk => hk) trivial (Below.refl _ _) (Nat.le_refl _) (by simp) ?_; (case hd => rfl); (case hg => rfl); (case hr => first | (go_simp; done) | (go_simp; rfl)); (case hp => exact (Reps.one (show Kd.M (Kd.int .i64) _ _ _ 7 [.int .i64 7] from rfl) (Reps.none _ _))); intro v165 w64 ho65 hb hg_ hnew_; clear hg_ hnew_; (first | rw [← Ny164.out] at ho65 | (simp only [Int.reduceToNat] at ho65; rw [← Ny164.out] at ho65)); have n0_ := Aside0.mk (Kd.N_elder' (by (with_reducible repeat (first | apply Kd.N_alloc | apply Kd.N_drewN | apply Kd.N_drew)); exact HO159.out) (Kd.R_base ho65) hb); have n1_ := Aside0.mk (Kd.R_lower ho65 (below_size (by repeat (first | (with_reducible first | exact HB.out | apply below_alloc | apply pw_below_drewN | apply below_drew1) | exact HB.out)))); have n2_ := Aside0.mk (below_step (by repeat (first | (with_reducible first | exact HB.out | apply below_alloc | apply pw_below_drewN | apply below_drew1) | exact HB.out)) hb); clear HO159; clear HB; have HO159 := n0_; have HO166 := n1_; have HB := n2_; clear n0_ n1_ n2_; clear hb ho65; obtain ⟨Ao66, co66, eo66⟩ := Kd.R_slice HO166.out; subst eo66) | ((with_reducible refine gate_dst (N := 27) rfl ?_); refine Kd.N_lit k40 _ 40 ?hg (N' := 27) ?hd (xs := ([(⟨5, (⟨#[114, 117, 110]⟩ : ByteArray), y164, 0⟩ : S40)] : List (S40))) (inner := [.int .i64 5, .string (⟨#[114, 117, 110]⟩ : ByteArray), .slice Ao66 y164.length co66, .int .i64 0]) (ok := (fun k_ => some k_ ≠ (.slice Ao61 y157.length co61 : Value).ownBlock)) (okp := (fun k_ => some k_ ≠ (.slice Ao61 y157.length co61 : Value).ownBlock)) ?hr ?hp (fun _ hk => hk) ((show ∀ k_, w64.heap.size ≤ k_ → (fun k_ => some k_ ≠ (.slice Ao61 y157.length co61 : Value).ownBlock) k_ from fun k_ hk => Kd.fresh' (Kd.N_lt (by (with_reducible repeat (first | apply Kd.N_alloc | apply Kd.N_drewN | apply Kd.N_drew)); exact HO159.out)) k_ hk) _ (Nat.le_refl _)) (Below.refl _ _) (Nat.le_refl _) (by simp) ?_; (case hd => rfl); (case hg => rfl); (case hr => first | (go_simp; done) | (go_simp; rfl)); (case hp => exact (Reps.c4 (show Kd.FK k40 _ _ (⟨5, (⟨#[114, 117, 110]⟩ : ByteArray), y164, 0⟩ : S40) [.int .i64 5, .string (⟨#[114, 117, 110]⟩ : ByteArray), .slice Ao66 y164.length co66, .int .i64 0] from (k40_mkF _ _ (⟨5, (⟨#[114, 117, 110]⟩ : ByteArray), y164, 0⟩ : S40) (Kd.R_reads' (Kd.R_mono (ok' := (fun k_ => some k_ ≠ (.slice Ao61 y157.length co61 : Value).ownBlock)) (Kd.R_apart' (HO166.out) (Kd.N_typed HO159.out) (by decide)) (fun k_ hk => hk.2))).2.1 (Kd.R_F (Kd.R_mono (ok' := (fun k_ => some k_ ≠ (.slice Ao61 y157.length co61 : Value).ownBlock)) (Kd.R_apart' (HO166.out) (Kd.N_typed HO159.out) (by decide)) (fun k_ hk => hk.2))))) (Reps.none _ _))); intro v168 w67 ho68 hb hg_ hnew_; clear hg_ hnew_; (first | rw [← Ny167.out] at ho68 | (simp only [Int.reduceToNat] at ho68; rw [← Ny167.out] at ho68)); have n0_ := Aside0.mk (Kd.N_elder' (by (with_reducible repeat (first | apply Kd.N_alloc | apply Kd.N_drewN | apply Kd.N_drew)); exact HO159.out) (Kd.N_base ho68) hb); have n1_ := Aside0.mk (Kd.N_lower ho68 (below_size (by repeat (first | (with_reducible first | exact HB.out | apply below_alloc | apply pw_below_drewN | apply below_drew1) | exact HB.out)))); have n2_ := Aside0.mk (below_step (by repeat (first | (with_reducible first | exact HB.out | apply below_alloc | apply pw_below_drewN | apply below_drew1) | exact HB.out)) hb); clear HO159; clear HB; clear HO166; have HO159 := n0_; have HO169 := n1_; have HB := n2_; clear n0_ n1_ n2_; clear hb ho68; obtain ⟨Ao69, co69, eo69⟩ := Kd.N_slice HO169.out; subst eo69) | ((with_reducible refine gate_callee (f := 27) rfl ?_); refine goesL_ (some 28) rfl rfl Tryd.func27 (by kernel_rfl) rfl #[.slice Ao69 y167.length co69] rfl (by (try simp only [List.map_toArray, List.map_cons, List.map_nil]); first | done | rfl | (simp only [List.length_drop, List.length_take]; rfl) | (simp (disch := omega) only [IntWalk.wrap64_in]; done)) ?_; (with_reducible refine (printer_Print.calls _ _ y167 t170 t171 _ ?side3 ?side1 ?side2 A3.out).mono ?_); (case side1 => repeat (first | exact (Kd.N_reads' HO169.out).2.2 | (with_reducible refine Kd.C_alloc ?_ _) | (with_reducible refine Kd.C_drewN ?_ _) | (with_reducible refine Kd.C_drew ?_))); (case side2 => exact (Kd.N_reads' HO169.out).2.1); (case side3 => exact Tx.GP.aside hG (by repeat (first | (with_reducible first | exact HB.out | apply below_alloc | apply pw_below_drewN | apply below_drew1) | exact HB.out))); rintro e w70 ⟨rfl, hb⟩; refine ⟨_, rfl, ?_⟩; have n0_ := Aside0.mk (Kd.N_below (by (with_reducible repeat (first | apply Kd.N_alloc | apply Kd.N_drewN | apply Kd.N_drew)); exact HO159.out) hb); have n1_ := Aside0.mk (Kd.N_below (by (with_reducible repeat (first | apply Kd.N_alloc | apply Kd.N_drewN | apply Kd.N_drew)); exact HO169.out) hb); have n2_ := Aside0.mk (below_step (by repeat (first | (with_reducible first | exact HB.out | apply below_alloc | apply pw_below_drewN | apply below_drew1) | exact HB.out)) hb); clear HO159; clear HO169; clear HB; have HO159 := n0_; have HO169 := n1_; have HB := n2_; clear n0_ n1_ n2_; (try clear hb); (try clear hb2); (try clear hk); (try clear hi)))
        go_ret
        exact ⟨by first | rfl | (simp [errW_none, errW_some] <;> rfl) | (simp [*, errW_none, errW_some] <;> rfl), by repeat (first | (with_reducible first | exact HB.out | apply below_alloc | apply pw_below_drewN | apply below_drew1) | exact HB.out)⟩
    · rw [if_neg c5] at H
      have c5b0 : (t163 == 0) = false := beq_eq_false_iff_ne.mpr c5
      have c5b1 : (t163 != 0) = true := bne_iff_ne.mpr c5
      obtain rfl := Option.some.inj H
      go_enter Tryd.func29, Tryd.ntmps29
      go_wp2_with (first | ((with_reducible refine gate_dst (N := 8) rfl ?_); refine Kd.R_lit (Kd.int .i64) _ 3 ?hg (N := 8) ?hd (xs := ([1, 2, (-30), 9] : List Int)) (inner := [.int .i64 1, .int .i64 2, .int .i64 (-30), .int .i64 9]) (ok := fun _ => True) (okp := fun _ => True) ?hr ?hp (fun _ hk => hk) trivial (Below.refl _ _) (Nat.le_refl _) (by simp) ?_; (case hd => rfl); (case hg => rfl); (case hr => first | (go_simp; done) | (go_simp; rfl)); (case hp => exact (Reps.one (show Kd.M (Kd.int .i64) _ _ _ 1 [.int .i64 1] from rfl) (Reps.one (show Kd.M (Kd.int .i64) _ _ _ 2 [.int .i64 2] from rfl) (Reps.one (show Kd.M (Kd.int .i64) _ _ _ (-30) [.int .i64 (-30)] from rfl) (Reps.one (show Kd.M (Kd.int .i64) _ _ _ 9 [.int .i64 9] from rfl) (Reps.none _ _)))))); intro v149 w71 ho72 hb hg_ hnew_; clear hg_ hnew_; (first | rw [← Ny148.out] at ho72 | (simp only [Int.reduceToNat] at ho72; rw [← Ny148.out] at ho72)); have n0_ := Aside0.mk (Kd.R_lower ho72 (below_size (by repeat (first | (with_reducible first | exact HB.out | apply below_alloc | apply pw_below_drewN | apply below_drew1) | exact HB.out)))); have n1_ := Aside0.mk (below_step (by repeat (first | (with_reducible first | exact HB.out | apply below_alloc | apply pw_below_drewN | apply below_drew1) | exact HB.out)) hb); clear HB; have HO150 := n0_; have HB := n1_; clear n0_ n1_; clear hb ho72; obtain ⟨Ao73, co73, eo73⟩ := Kd.R_slice HO150.out; subst eo73) | ((with_reducible refine gate_dst (N := 10) rfl ?_); refine Kd.R_lit (Kd.int .i64) _ 3 ?hg (N := 10) ?hd (xs := ([7] : List Int)) (inner := [.int .i64 7]) (ok := fun _ => True) (okp := fun _ => True) ?hr ?hp (fun _ hk => hk) trivial (Below.refl _ _) (Nat.le_refl _) (by simp) ?_; (case hd => rfl); (case hg => rfl); (case hr => first | (go_simp; done) | (go_simp; rfl)); (case hp => exact (Reps.one (show Kd.M (Kd.int .i64) _ _ _ 7 [.int .i64 7] from rfl) (Reps.none _ _))); intro v152 w74 ho75 hb hg_ hnew_; clear hg_ hnew_; (first | rw [← Ny151.out] at ho75 | (simp only [Int.reduceToNat] at ho75; rw [← Ny151.out] at ho75)); have n0_ := Aside0.mk (Kd.R_elder' (by (with_reducible repeat (first | apply Kd.R_alloc | apply Kd.R_drewN | apply Kd.R_drew)); exact HO150.out) (Kd.R_base ho75) hb); have n1_ := Aside0.mk (Kd.R_lower (Kd.R_new' ho75 (Kd.R_lt (by (with_reducible repeat (first | apply Kd.R_alloc | apply Kd.R_drewN | apply Kd.R_drew)); exact HO150.out))) (below_size (by repeat (first | (with_reducible first | exact HB.out | apply below_alloc | apply pw_below_drewN | apply below_drew1) | exact HB.out)))); have n2_ := Aside0.mk (below_step (by repeat (first | (with_reducible first | exact HB.out | apply below_alloc | apply pw_below_drewN | apply below_drew1) | exact HB.out)) hb); clear HO150; clear HB; have HO150 := n0_; have HO153 := n1_; have HB := n2_; clear n0_ n1_ n2_; clear hb ho75; obtain ⟨Ao76, co76, eo76⟩ := Kd.R_slice HO153.out; subst eo76) | ((with_reducible refine gate_dst (N := 12) rfl ?_); refine Kd.R_lit (Kd.int .i64) _ 3 ?hg (N := 12) ?hd (xs := ([5, 1, 2, 300, 4, 50] : List Int)) (inner := [.int .i64 5, .int .i64 1, .int .i64 2, .int .i64 300, .int .i64 4, .int .i64 50]) (ok := fun _ => True) (okp := fun _ => True) ?hr ?hp (fun _ hk => hk) trivial (Below.refl _ _) (Nat.le_refl _) (by simp) ?_; (case hd => rfl); (case hg => rfl); (case hr => first | (go_simp; done) | (go_simp; rfl)); (case hp => exact (Reps.one (show Kd.M (Kd.int .i64) _ _ _ 5 [.int .i64 5] from rfl) (Reps.one (show Kd.M (Kd.int .i64) _ _ _ 1 [.int .i64 1] from rfl) (Reps.one (show Kd.M (Kd.int .i64) _ _ _ 2 [.int .i64 2] from rfl) (Reps.one (show Kd.M (Kd.int .i64) _ _ _ 300 [.int .i64 300] from rfl) (Reps.one (show Kd.M (Kd.int .i64) _ _ _ 4 [.int .i64 4] from rfl) (Reps.one (show Kd.M (Kd.int .i64) _ _ _ 50 [.int .i64 50] from rfl) (Reps.none _ _)))))))); intro v155 w77 ho78 hb hg_ hnew_; clear hg_ hnew_; (first | rw [← Ny154.out] at ho78 | (simp only [Int.reduceToNat] at ho78; rw [← Ny154.out] at ho78)); have n0_ := Aside0.mk (Kd.R_elder' (by (with_reducible repeat (first | apply Kd.R_alloc | apply Kd.R_drewN | apply Kd.R_drew)); exact HO150.out) (Kd.R_base ho78) hb); have n1_ := Aside0.mk (Kd.R_elder' (by (with_reducible repeat (first | apply Kd.R_alloc | apply Kd.R_drewN | apply Kd.R_drew)); exact HO153.out) (Kd.R_base ho78) hb); have n2_ := Aside0.mk (Kd.R_lower (Kd.R_new' (Kd.R_new' ho78 (Kd.R_lt (by (with_reducible repeat (first | apply Kd.R_alloc | apply Kd.R_drewN | apply Kd.R_drew)); exact HO150.out))) (Kd.R_lt (by (with_reducible repeat (first | apply Kd.R_alloc | apply Kd.R_drewN | apply Kd.R_drew)); exact HO153.out))) (below_size (by repeat (first | (with_reducible first | exact HB.out | apply below_alloc | apply pw_below_drewN | apply below_drew1) | exact HB.out)))); have n3_ := Aside0.mk (below_step (by repeat (first | (with_reducible first | exact HB.out | apply below_alloc | apply pw_below_drewN | apply below_drew1) | exact HB.out)) hb); clear HO150; clear HO153; clear HB; have HO150 := n0_; have HO153 := n1_; have HO156 := n2_; have HB := n3_; clear n0_ n1_ n2_ n3_; clear hb ho78; obtain ⟨Ao79, co79, eo79⟩ := Kd.R_slice HO156.out; subst eo79) | ((with_reducible refine gate_dst (N := 14) rfl ?_); refine Kd.N_lit k40 _ 40 ?hg (N' := 14) ?hd (xs := ([(⟨3, (⟨#[97]⟩ : ByteArray), y148, 0⟩ : S40), (⟨5, (⟨#[97]⟩ : ByteArray), y151, 0⟩ : S40), (⟨8, (⟨#[]⟩ : ByteArray), y154, 0⟩ : S40)] : List (S40))) (inner := [.int .i64 3, .string (⟨#[97]⟩ : ByteArray), .slice Ao73 y148.length co73, .int .i64 0, .int .i64 5, .string (⟨#[97]⟩ : ByteArray), .slice Ao76 y151.length co76, .int .i64 0, .int .i64 8, .string (⟨#[]⟩ : ByteArray), .slice Ao79 y154.length co79, .int .i64 0]) (ok := (fun _ => True)) (okp := (fun _ => True)) ?hr ?hp (fun _ hk => hk) ((show ∀ k_, w77.heap.size ≤ k_ → (fun _ => True) k_ from fun k_ hk => trivial) _ (Nat.le_refl _)) (Below.refl _ _) (Nat.le_refl _) (by simp) ?_; (case hd => rfl); (case hg => rfl); (case hr => first | (go_simp; done) | (go_simp; rfl)); (case hp => exact (Reps.c4 (show Kd.FK k40 _ _ (⟨3, (⟨#[97]⟩ : ByteArray), y148, 0⟩ : S40) [.int .i64 3, .string (⟨#[97]⟩ : ByteArray), .slice Ao73 y148.length co73, .int .i64 0] from (k40_mkF _ _ (⟨3, (⟨#[97]⟩ : ByteArray), y148, 0⟩ : S40) (Kd.R_reads' (Kd.R_mono (ok' := (fun _ => True)) (HO150.out) (fun k_ hk => trivial))).2.1 (Kd.R_F (Kd.R_mono (ok' := (fun _ => True)) (HO150.out) (fun k_ hk => trivial))))) (Reps.c4 (show Kd.FK k40 _ _ (⟨5, (⟨#[97]⟩ : ByteArray), y151, 0⟩ : S40) [.int .i64 5, .string (⟨#[97]⟩ : ByteArray), .slice Ao76 y151.length co76, .int .i64 0] from (k40_mkF _ _ (⟨5, (⟨#[97]⟩ : ByteArray), y151, 0⟩ : S40) (Kd.R_reads' (Kd.R_mono (ok' := (fun _ => True)) (HO153.out) (fun k_ hk => trivial))).2.1 (Kd.R_F (Kd.R_mono (ok' := (fun _ => True)) (HO153.out) (fun k_ hk => trivial))))) (Reps.c4 (show Kd.FK k40 _ _ (⟨8, (⟨#[]⟩ : ByteArray), y154, 0⟩ : S40) [.int .i64 8, .string (⟨#[]⟩ : ByteArray), .slice Ao79 y154.length co79, .int .i64 0] from (k40_mkF _ _ (⟨8, (⟨#[]⟩ : ByteArray), y154, 0⟩ : S40) (Kd.R_reads' (Kd.R_mono (ok' := (fun _ => True)) (HO156.out) (fun k_ hk => trivial))).2.1 (Kd.R_F (Kd.R_mono (ok' := (fun _ => True)) (HO156.out) (fun k_ hk => trivial))))) (Reps.none _ _))))); intro v158 w80 ho81 hb hg_ hnew_; clear hg_ hnew_; (first | rw [← Ny157.out] at ho81 | (simp only [Int.reduceToNat] at ho81; rw [← Ny157.out] at ho81)); have n0_ := Aside0.mk (Kd.N_lower ho81 (below_size (by repeat (first | (with_reducible first | exact HB.out | apply below_alloc | apply pw_below_drewN | apply below_drew1) | exact HB.out)))); have n1_ := Aside0.mk (below_step (by repeat (first | (with_reducible first | exact HB.out | apply below_alloc | apply pw_below_drewN | apply below_drew1) | exact HB.out)) hb); clear HB; clear HO150; clear HO153; clear HO156; have HO159 := n0_; have HB := n1_; clear n0_ n1_; clear hb ho81; obtain ⟨Ao82, co82, eo82⟩ := Kd.N_slice HO159.out; subst eo82) | ((with_reducible refine gate_callee (f := 27) rfl ?_); refine goesL_ (some 17) rfl rfl Tryd.func27 (by kernel_rfl) rfl #[.slice Ao82 y157.length co82] rfl (by (try simp only [List.map_toArray, List.map_cons, List.map_nil]); first | done | rfl | (simp only [List.length_drop, List.length_take]; rfl) | (simp (disch := omega) only [IntWalk.wrap64_in]; done)) ?_; (with_reducible refine (printer_Print.calls _ _ y157 t160 t161 _ ?side3 ?side1 ?side2 A1.out).mono ?_); (case side1 => repeat (first | exact (Kd.N_reads' HO159.out).2.2 | (with_reducible refine Kd.C_alloc ?_ _) | (with_reducible refine Kd.C_drewN ?_ _) | (with_reducible refine Kd.C_drew ?_))); (case side2 => exact (Kd.N_reads' HO159.out).2.1); (case side3 => exact Tx.GP.aside hG (by repeat (first | (with_reducible first | exact HB.out | apply below_alloc | apply pw_below_drewN | apply below_drew1) | exact HB.out))); rintro e w83 ⟨rfl, hb⟩; refine ⟨_, rfl, ?_⟩; have n0_ := Aside0.mk (Kd.N_below (by (with_reducible repeat (first | apply Kd.N_alloc | apply Kd.N_drewN | apply Kd.N_drew)); exact HO159.out) hb); have n1_ := Aside0.mk (below_step (by repeat (first | (with_reducible first | exact HB.out | apply below_alloc | apply pw_below_drewN | apply below_drew1) | exact HB.out)) hb); clear HO159; clear HB; have HO159 := n0_; have HB := n1_; clear n0_ n1_; (try clear hb); (try clear hb2); (try clear hk); (try clear hi)) | ((with_reducible refine gate_callee (f := 27) rfl ?_); refine goesL_ (some 21) rfl rfl Tryd.func27 (by kernel_rfl) rfl #[.slice none 0 0] rfl (by (try simp only [List.map_toArray, List.map_cons, List.map_nil]); first | done | rfl | (simp only [List.length_drop, List.length_take]; rfl) | (simp (disch := omega) only [IntWalk.wrap64_in]; done)) ?_; (refine (printer_Print.calls _ _ ([] : List (S40)) t162 t163 _ ?side3 ?side1 ?side2 A2.out).mono ?_); (case side1 => exact Kd.C_nil _ _); (case side2 => exact Nat.le_refl _); (case side3 => exact Tx.GP.aside hG (by repeat (first | (with_reducible first | exact HB.out | apply below_alloc | apply pw_below_drewN | apply below_drew1) | exact HB.out))); rintro e w84 ⟨rfl, hb⟩; refine ⟨_, rfl, ?_⟩; have n0_ := Aside0.mk (Kd.N_below (by (with_reducible repeat (first | apply Kd.N_alloc | apply Kd.N_drewN | apply Kd.N_drew)); exact HO159.out) hb); have n1_ := Aside0.mk (below_step (by repeat (first | (with_reducible first | exact HB.out | apply below_alloc | apply pw_below_drewN | apply below_drew1) | exact HB.out)) hb); clear HO159; clear HB; have HO159 := n0_; have HB := n1_; clear n0_ n1_; (try clear hb); (try clear hb2); (try clear hk); (try clear hi)) | ((with_reducible refine gate_dst (N := 25) rfl ?_); refine Kd.R_lit (Kd.int .i64) _ 3 ?hg (N := 25) ?hd (xs := ([7] : List Int)) (inner := [.int .i64 7]) (ok := fun _ => True) (okp := fun _ => True) ?hr ?hp (fun _ hk => hk) trivial (Below.refl _ _) (Nat.le_refl _) (by simp) ?_; (case hd => rfl); (case hg => rfl); (case hr => first | (go_simp; done) | (go_simp; rfl)); (case hp => exact (Reps.one (show Kd.M (Kd.int .i64) _ _ _ 7 [.int .i64 7] from rfl) (Reps.none _ _))); intro v165 w85 ho86 hb hg_ hnew_; clear hg_ hnew_; (first | rw [← Ny164.out] at ho86 | (simp only [Int.reduceToNat] at ho86; rw [← Ny164.out] at ho86)); have n0_ := Aside0.mk (Kd.N_elder' (by (with_reducible repeat (first | apply Kd.N_alloc | apply Kd.N_drewN | apply Kd.N_drew)); exact HO159.out) (Kd.R_base ho86) hb); have n1_ := Aside0.mk (Kd.R_lower ho86 (below_size (by repeat (first | (with_reducible first | exact HB.out | apply below_alloc | apply pw_below_drewN | apply below_drew1) | exact HB.out)))); have n2_ := Aside0.mk (below_step (by repeat (first | (with_reducible first | exact HB.out | apply below_alloc | apply pw_below_drewN | apply below_drew1) | exact HB.out)) hb); clear HO159; clear HB; have HO159 := n0_; have HO166 := n1_; have HB := n2_; clear n0_ n1_ n2_; clear hb ho86; obtain ⟨Ao87, co87, eo87⟩ := Kd.R_slice HO166.out; subst eo87) | ((with_reducible refine gate_dst (N := 27) rfl ?_); refine Kd.N_lit k40 _ 40 ?hg (N' := 27) ?hd (xs := ([(⟨5, (⟨#[114, 117, 110]⟩ : ByteArray), y164, 0⟩ : S40)] : List (S40))) (inner := [.int .i64 5, .string (⟨#[114, 117, 110]⟩ : ByteArray), .slice Ao87 y164.length co87, .int .i64 0]) (ok := (fun k_ => some k_ ≠ (.slice Ao82 y157.length co82 : Value).ownBlock)) (okp := (fun k_ => some k_ ≠ (.slice Ao82 y157.length co82 : Value).ownBlock)) ?hr ?hp (fun _ hk => hk) ((show ∀ k_, w85.heap.size ≤ k_ → (fun k_ => some k_ ≠ (.slice Ao82 y157.length co82 : Value).ownBlock) k_ from fun k_ hk => Kd.fresh' (Kd.N_lt (by (with_reducible repeat (first | apply Kd.N_alloc | apply Kd.N_drewN | apply Kd.N_drew)); exact HO159.out)) k_ hk) _ (Nat.le_refl _)) (Below.refl _ _) (Nat.le_refl _) (by simp) ?_; (case hd => rfl); (case hg => rfl); (case hr => first | (go_simp; done) | (go_simp; rfl)); (case hp => exact (Reps.c4 (show Kd.FK k40 _ _ (⟨5, (⟨#[114, 117, 110]⟩ : ByteArray), y164, 0⟩ : S40) [.int .i64 5, .string (⟨#[114, 117, 110]⟩ : ByteArray), .slice Ao87 y164.length co87, .int .i64 0] from (k40_mkF _ _ (⟨5, (⟨#[114, 117, 110]⟩ : ByteArray), y164, 0⟩ : S40) (Kd.R_reads' (Kd.R_mono (ok' := (fun k_ => some k_ ≠ (.slice Ao82 y157.length co82 : Value).ownBlock)) (Kd.R_apart' (HO166.out) (Kd.N_typed HO159.out) (by decide)) (fun k_ hk => hk.2))).2.1 (Kd.R_F (Kd.R_mono (ok' := (fun k_ => some k_ ≠ (.slice Ao82 y157.length co82 : Value).ownBlock)) (Kd.R_apart' (HO166.out) (Kd.N_typed HO159.out) (by decide)) (fun k_ hk => hk.2))))) (Reps.none _ _))); intro v168 w88 ho89 hb hg_ hnew_; clear hg_ hnew_; (first | rw [← Ny167.out] at ho89 | (simp only [Int.reduceToNat] at ho89; rw [← Ny167.out] at ho89)); have n0_ := Aside0.mk (Kd.N_elder' (by (with_reducible repeat (first | apply Kd.N_alloc | apply Kd.N_drewN | apply Kd.N_drew)); exact HO159.out) (Kd.N_base ho89) hb); have n1_ := Aside0.mk (Kd.N_lower ho89 (below_size (by repeat (first | (with_reducible first | exact HB.out | apply below_alloc | apply pw_below_drewN | apply below_drew1) | exact HB.out)))); have n2_ := Aside0.mk (below_step (by repeat (first | (with_reducible first | exact HB.out | apply below_alloc | apply pw_below_drewN | apply below_drew1) | exact HB.out)) hb); clear HO159; clear HB; clear HO166; have HO159 := n0_; have HO169 := n1_; have HB := n2_; clear n0_ n1_ n2_; clear hb ho89; obtain ⟨Ao90, co90, eo90⟩ := Kd.N_slice HO169.out; subst eo90) | ((with_reducible refine gate_callee (f := 27) rfl ?_); refine goesL_ (some 28) rfl rfl Tryd.func27 (by kernel_rfl) rfl #[.slice Ao90 y167.length co90] rfl (by (try simp only [List.map_toArray, List.map_cons, List.map_nil]); first | done | rfl | (simp only [List.length_drop, List.length_take]; rfl) | (simp (disch := omega) only [IntWalk.wrap64_in]; done)) ?_; (with_reducible refine (printer_Print.calls _ _ y167 t170 t171 _ ?side3 ?side1 ?side2 A3.out).mono ?_); (case side1 => repeat (first | exact (Kd.N_reads' HO169.out).2.2 | (with_reducible refine Kd.C_alloc ?_ _) | (with_reducible refine Kd.C_drewN ?_ _) | (with_reducible refine Kd.C_drew ?_))); (case side2 => exact (Kd.N_reads' HO169.out).2.1); (case side3 => exact Tx.GP.aside hG (by repeat (first | (with_reducible first | exact HB.out | apply below_alloc | apply pw_below_drewN | apply below_drew1) | exact HB.out))); rintro e w91 ⟨rfl, hb⟩; refine ⟨_, rfl, ?_⟩; have n0_ := Aside0.mk (Kd.N_below (by (with_reducible repeat (first | apply Kd.N_alloc | apply Kd.N_drewN | apply Kd.N_drew)); exact HO159.out) hb); have n1_ := Aside0.mk (Kd.N_below (by (with_reducible repeat (first | apply Kd.N_alloc | apply Kd.N_drewN | apply Kd.N_drew)); exact HO169.out) hb); have n2_ := Aside0.mk (below_step (by repeat (first | (with_reducible first | exact HB.out | apply below_alloc | apply pw_below_drewN | apply below_drew1) | exact HB.out)) hb); clear HO159; clear HO169; clear HB; have HO159 := n0_; have HO169 := n1_; have HB := n2_; clear n0_ n1_ n2_; (try clear hb); (try clear hb2); (try clear hk); (try clear hi)))
      go_ret
      exact ⟨by first | rfl | (simp [errW_none, errW_some] <;> rfl) | (simp [*, errW_none, errW_some] <;> rfl), by repeat (first | (with_reducible first | exact HB.out | apply below_alloc | apply pw_below_drewN | apply below_drew1) | exact HB.out)⟩
  · rw [if_neg c4] at H
    have c4b0 : (t161 == 0) = false := beq_eq_false_iff_ne.mpr c4
    have c4b1 : (t161 != 0) = true := bne_iff_ne.mpr c4
    obtain rfl := Option.some.inj H
    go_enter Tryd.func29, Tryd.ntmps29
    go_wp2_with (first | ((with_reducible refine gate_dst (N := 8) rfl ?_); refine Kd.R_lit (Kd.int .i64) _ 3 ?hg (N := 8) ?hd (xs := ([1, 2, (-30), 9] : List Int)) (inner := [.int .i64 1, .int .i64 2, .int .i64 (-30), .int .i64 9]) (ok := fun _ => True) (okp := fun _ => True) ?hr ?hp (fun _ hk => hk) trivial (Below.refl _ _) (Nat.le_refl _) (by simp) ?_; (case hd => rfl); (case hg => rfl); (case hr => first | (go_simp; done) | (go_simp; rfl)); (case hp => exact (Reps.one (show Kd.M (Kd.int .i64) _ _ _ 1 [.int .i64 1] from rfl) (Reps.one (show Kd.M (Kd.int .i64) _ _ _ 2 [.int .i64 2] from rfl) (Reps.one (show Kd.M (Kd.int .i64) _ _ _ (-30) [.int .i64 (-30)] from rfl) (Reps.one (show Kd.M (Kd.int .i64) _ _ _ 9 [.int .i64 9] from rfl) (Reps.none _ _)))))); intro v149 w92 ho93 hb hg_ hnew_; clear hg_ hnew_; (first | rw [← Ny148.out] at ho93 | (simp only [Int.reduceToNat] at ho93; rw [← Ny148.out] at ho93)); have n0_ := Aside0.mk (Kd.R_lower ho93 (below_size (by repeat (first | (with_reducible first | exact HB.out | apply below_alloc | apply pw_below_drewN | apply below_drew1) | exact HB.out)))); have n1_ := Aside0.mk (below_step (by repeat (first | (with_reducible first | exact HB.out | apply below_alloc | apply pw_below_drewN | apply below_drew1) | exact HB.out)) hb); clear HB; have HO150 := n0_; have HB := n1_; clear n0_ n1_; clear hb ho93; obtain ⟨Ao94, co94, eo94⟩ := Kd.R_slice HO150.out; subst eo94) | ((with_reducible refine gate_dst (N := 10) rfl ?_); refine Kd.R_lit (Kd.int .i64) _ 3 ?hg (N := 10) ?hd (xs := ([7] : List Int)) (inner := [.int .i64 7]) (ok := fun _ => True) (okp := fun _ => True) ?hr ?hp (fun _ hk => hk) trivial (Below.refl _ _) (Nat.le_refl _) (by simp) ?_; (case hd => rfl); (case hg => rfl); (case hr => first | (go_simp; done) | (go_simp; rfl)); (case hp => exact (Reps.one (show Kd.M (Kd.int .i64) _ _ _ 7 [.int .i64 7] from rfl) (Reps.none _ _))); intro v152 w95 ho96 hb hg_ hnew_; clear hg_ hnew_; (first | rw [← Ny151.out] at ho96 | (simp only [Int.reduceToNat] at ho96; rw [← Ny151.out] at ho96)); have n0_ := Aside0.mk (Kd.R_elder' (by (with_reducible repeat (first | apply Kd.R_alloc | apply Kd.R_drewN | apply Kd.R_drew)); exact HO150.out) (Kd.R_base ho96) hb); have n1_ := Aside0.mk (Kd.R_lower (Kd.R_new' ho96 (Kd.R_lt (by (with_reducible repeat (first | apply Kd.R_alloc | apply Kd.R_drewN | apply Kd.R_drew)); exact HO150.out))) (below_size (by repeat (first | (with_reducible first | exact HB.out | apply below_alloc | apply pw_below_drewN | apply below_drew1) | exact HB.out)))); have n2_ := Aside0.mk (below_step (by repeat (first | (with_reducible first | exact HB.out | apply below_alloc | apply pw_below_drewN | apply below_drew1) | exact HB.out)) hb); clear HO150; clear HB; have HO150 := n0_; have HO153 := n1_; have HB := n2_; clear n0_ n1_ n2_; clear hb ho96; obtain ⟨Ao97, co97, eo97⟩ := Kd.R_slice HO153.out; subst eo97) | ((with_reducible refine gate_dst (N := 12) rfl ?_); refine Kd.R_lit (Kd.int .i64) _ 3 ?hg (N := 12) ?hd (xs := ([5, 1, 2, 300, 4, 50] : List Int)) (inner := [.int .i64 5, .int .i64 1, .int .i64 2, .int .i64 300, .int .i64 4, .int .i64 50]) (ok := fun _ => True) (okp := fun _ => True) ?hr ?hp (fun _ hk => hk) trivial (Below.refl _ _) (Nat.le_refl _) (by simp) ?_; (case hd => rfl); (case hg => rfl); (case hr => first | (go_simp; done) | (go_simp; rfl)); (case hp => exact (Reps.one (show Kd.M (Kd.int .i64) _ _ _ 5 [.int .i64 5] from rfl) (Reps.one (show Kd.M (Kd.int .i64) _ _ _ 1 [.int .i64 1] from rfl) (Reps.one (show Kd.M (Kd.int .i64) _ _ _ 2 [.int .i64 2] from rfl) (Reps.one (show Kd.M (Kd.int .i64) _ _ _ 300 [.int .i64 300] from rfl) (Reps.one (show Kd.M (Kd.int .i64) _ _ _ 4 [.int .i64 4] from rfl) (Reps.one (show Kd.M (Kd.int .i64) _ _ _ 50 [.int .i64 50] from rfl) (Reps.none _ _)))))))); intro v155 w98 ho99 hb hg_ hnew_; clear hg_ hnew_; (first | rw [← Ny154.out] at ho99 | (simp only [Int.reduceToNat] at ho99; rw [← Ny154.out] at ho99)); have n0_ := Aside0.mk (Kd.R_elder' (by (with_reducible repeat (first | apply Kd.R_alloc | apply Kd.R_drewN | apply Kd.R_drew)); exact HO150.out) (Kd.R_base ho99) hb); have n1_ := Aside0.mk (Kd.R_elder' (by (with_reducible repeat (first | apply Kd.R_alloc | apply Kd.R_drewN | apply Kd.R_drew)); exact HO153.out) (Kd.R_base ho99) hb); have n2_ := Aside0.mk (Kd.R_lower (Kd.R_new' (Kd.R_new' ho99 (Kd.R_lt (by (with_reducible repeat (first | apply Kd.R_alloc | apply Kd.R_drewN | apply Kd.R_drew)); exact HO150.out))) (Kd.R_lt (by (with_reducible repeat (first | apply Kd.R_alloc | apply Kd.R_drewN | apply Kd.R_drew)); exact HO153.out))) (below_size (by repeat (first | (with_reducible first | exact HB.out | apply below_alloc | apply pw_below_drewN | apply below_drew1) | exact HB.out)))); have n3_ := Aside0.mk (below_step (by repeat (first | (with_reducible first | exact HB.out | apply below_alloc | apply pw_below_drewN | apply below_drew1) | exact HB.out)) hb); clear HO150; clear HO153; clear HB; have HO150 := n0_; have HO153 := n1_; have HO156 := n2_; have HB := n3_; clear n0_ n1_ n2_ n3_; clear hb ho99; obtain ⟨Ao100, co100, eo100⟩ := Kd.R_slice HO156.out; subst eo100) | ((with_reducible refine gate_dst (N := 14) rfl ?_); refine Kd.N_lit k40 _ 40 ?hg (N' := 14) ?hd (xs := ([(⟨3, (⟨#[97]⟩ : ByteArray), y148, 0⟩ : S40), (⟨5, (⟨#[97]⟩ : ByteArray), y151, 0⟩ : S40), (⟨8, (⟨#[]⟩ : ByteArray), y154, 0⟩ : S40)] : List (S40))) (inner := [.int .i64 3, .string (⟨#[97]⟩ : ByteArray), .slice Ao94 y148.length co94, .int .i64 0, .int .i64 5, .string (⟨#[97]⟩ : ByteArray), .slice Ao97 y151.length co97, .int .i64 0, .int .i64 8, .string (⟨#[]⟩ : ByteArray), .slice Ao100 y154.length co100, .int .i64 0]) (ok := (fun _ => True)) (okp := (fun _ => True)) ?hr ?hp (fun _ hk => hk) ((show ∀ k_, w98.heap.size ≤ k_ → (fun _ => True) k_ from fun k_ hk => trivial) _ (Nat.le_refl _)) (Below.refl _ _) (Nat.le_refl _) (by simp) ?_; (case hd => rfl); (case hg => rfl); (case hr => first | (go_simp; done) | (go_simp; rfl)); (case hp => exact (Reps.c4 (show Kd.FK k40 _ _ (⟨3, (⟨#[97]⟩ : ByteArray), y148, 0⟩ : S40) [.int .i64 3, .string (⟨#[97]⟩ : ByteArray), .slice Ao94 y148.length co94, .int .i64 0] from (k40_mkF _ _ (⟨3, (⟨#[97]⟩ : ByteArray), y148, 0⟩ : S40) (Kd.R_reads' (Kd.R_mono (ok' := (fun _ => True)) (HO150.out) (fun k_ hk => trivial))).2.1 (Kd.R_F (Kd.R_mono (ok' := (fun _ => True)) (HO150.out) (fun k_ hk => trivial))))) (Reps.c4 (show Kd.FK k40 _ _ (⟨5, (⟨#[97]⟩ : ByteArray), y151, 0⟩ : S40) [.int .i64 5, .string (⟨#[97]⟩ : ByteArray), .slice Ao97 y151.length co97, .int .i64 0] from (k40_mkF _ _ (⟨5, (⟨#[97]⟩ : ByteArray), y151, 0⟩ : S40) (Kd.R_reads' (Kd.R_mono (ok' := (fun _ => True)) (HO153.out) (fun k_ hk => trivial))).2.1 (Kd.R_F (Kd.R_mono (ok' := (fun _ => True)) (HO153.out) (fun k_ hk => trivial))))) (Reps.c4 (show Kd.FK k40 _ _ (⟨8, (⟨#[]⟩ : ByteArray), y154, 0⟩ : S40) [.int .i64 8, .string (⟨#[]⟩ : ByteArray), .slice Ao100 y154.length co100, .int .i64 0] from (k40_mkF _ _ (⟨8, (⟨#[]⟩ : ByteArray), y154, 0⟩ : S40) (Kd.R_reads' (Kd.R_mono (ok' := (fun _ => True)) (HO156.out) (fun k_ hk => trivial))).2.1 (Kd.R_F (Kd.R_mono (ok' := (fun _ => True)) (HO156.out) (fun k_ hk => trivial))))) (Reps.none _ _))))); intro v158 w101 ho102 hb hg_ hnew_; clear hg_ hnew_; (first | rw [← Ny157.out] at ho102 | (simp only [Int.reduceToNat] at ho102; rw [← Ny157.out] at ho102)); have n0_ := Aside0.mk (Kd.N_lower ho102 (below_size (by repeat (first | (with_reducible first | exact HB.out | apply below_alloc | apply pw_below_drewN | apply below_drew1) | exact HB.out)))); have n1_ := Aside0.mk (below_step (by repeat (first | (with_reducible first | exact HB.out | apply below_alloc | apply pw_below_drewN | apply below_drew1) | exact HB.out)) hb); clear HB; clear HO150; clear HO153; clear HO156; have HO159 := n0_; have HB := n1_; clear n0_ n1_; clear hb ho102; obtain ⟨Ao103, co103, eo103⟩ := Kd.N_slice HO159.out; subst eo103) | ((with_reducible refine gate_callee (f := 27) rfl ?_); refine goesL_ (some 17) rfl rfl Tryd.func27 (by kernel_rfl) rfl #[.slice Ao103 y157.length co103] rfl (by (try simp only [List.map_toArray, List.map_cons, List.map_nil]); first | done | rfl | (simp only [List.length_drop, List.length_take]; rfl) | (simp (disch := omega) only [IntWalk.wrap64_in]; done)) ?_; (with_reducible refine (printer_Print.calls _ _ y157 t160 t161 _ ?side3 ?side1 ?side2 A1.out).mono ?_); (case side1 => repeat (first | exact (Kd.N_reads' HO159.out).2.2 | (with_reducible refine Kd.C_alloc ?_ _) | (with_reducible refine Kd.C_drewN ?_ _) | (with_reducible refine Kd.C_drew ?_))); (case side2 => exact (Kd.N_reads' HO159.out).2.1); (case side3 => exact Tx.GP.aside hG (by repeat (first | (with_reducible first | exact HB.out | apply below_alloc | apply pw_below_drewN | apply below_drew1) | exact HB.out))); rintro e w104 ⟨rfl, hb⟩; refine ⟨_, rfl, ?_⟩; have n0_ := Aside0.mk (Kd.N_below (by (with_reducible repeat (first | apply Kd.N_alloc | apply Kd.N_drewN | apply Kd.N_drew)); exact HO159.out) hb); have n1_ := Aside0.mk (below_step (by repeat (first | (with_reducible first | exact HB.out | apply below_alloc | apply pw_below_drewN | apply below_drew1) | exact HB.out)) hb); clear HO159; clear HB; have HO159 := n0_; have HB := n1_; clear n0_ n1_; (try clear hb); (try clear hb2); (try clear hk); (try clear hi)) | ((with_reducible refine gate_callee (f := 27) rfl ?_); refine goesL_ (some 21) rfl rfl Tryd.func27 (by kernel_rfl) rfl #[.slice none 0 0] rfl (by (try simp only [List.map_toArray, List.map_cons, List.map_nil]); first | done | rfl | (simp only [List.length_drop, List.length_take]; rfl) | (simp (disch := omega) only [IntWalk.wrap64_in]; done)) ?_; (refine (printer_Print.calls _ _ ([] : List (S40)) t162 t163 _ ?side3 ?side1 ?side2 A2.out).mono ?_); (case side1 => exact Kd.C_nil _ _); (case side2 => exact Nat.le_refl _); (case side3 => exact Tx.GP.aside hG (by repeat (first | (with_reducible first | exact HB.out | apply below_alloc | apply pw_below_drewN | apply below_drew1) | exact HB.out))); rintro e w105 ⟨rfl, hb⟩; refine ⟨_, rfl, ?_⟩; have n0_ := Aside0.mk (Kd.N_below (by (with_reducible repeat (first | apply Kd.N_alloc | apply Kd.N_drewN | apply Kd.N_drew)); exact HO159.out) hb); have n1_ := Aside0.mk (below_step (by repeat (first | (with_reducible first | exact HB.out | apply below_alloc | apply pw_below_drewN | apply below_drew1) | exact HB.out)) hb); clear HO159; clear HB; have HO159 := n0_; have HB := n1_; clear n0_ n1_; (try clear hb); (try clear hb2); (try clear hk); (try clear hi)) | ((with_reducible refine gate_dst (N := 25) rfl ?_); refine Kd.R_lit (Kd.int .i64) _ 3 ?hg (N := 25) ?hd (xs := ([7] : List Int)) (inner := [.int .i64 7]) (ok := fun _ => True) (okp := fun _ => True) ?hr ?hp (fun _ hk => hk) trivial (Below.refl _ _) (Nat.le_refl _) (by simp) ?_; (case hd => rfl); (case hg => rfl); (case hr => first | (go_simp; done) | (go_simp; rfl)); (case hp => exact (Reps.one (show Kd.M (Kd.int .i64) _ _ _ 7 [.int .i64 7] from rfl) (Reps.none _ _))); intro v165 w106 ho107 hb hg_ hnew_; clear hg_ hnew_; (first | rw [← Ny164.out] at ho107 | (simp only [Int.reduceToNat] at ho107; rw [← Ny164.out] at ho107)); have n0_ := Aside0.mk (Kd.N_elder' (by (with_reducible repeat (first | apply Kd.N_alloc | apply Kd.N_drewN | apply Kd.N_drew)); exact HO159.out) (Kd.R_base ho107) hb); have n1_ := Aside0.mk (Kd.R_lower ho107 (below_size (by repeat (first | (with_reducible first | exact HB.out | apply below_alloc | apply pw_below_drewN | apply below_drew1) | exact HB.out)))); have n2_ := Aside0.mk (below_step (by repeat (first | (with_reducible first | exact HB.out | apply below_alloc | apply pw_below_drewN | apply below_drew1) | exact HB.out)) hb); clear HO159; clear HB; have HO159 := n0_; have HO166 := n1_; have HB := n2_; clear n0_ n1_ n2_; clear hb ho107; obtain ⟨Ao108, co108, eo108⟩ := Kd.R_slice HO166.out; subst eo108) | ((with_reducible refine gate_dst (N := 27) rfl ?_); refine Kd.N_lit k40 _ 40 ?hg (N' := 27) ?hd (xs := ([(⟨5, (⟨#[114, 117, 110]⟩ : ByteArray), y164, 0⟩ : S40)] : List (S40))) (inner := [.int .i64 5, .string (⟨#[114, 117, 110]⟩ : ByteArray), .slice Ao108 y164.length co108, .int .i64 0]) (ok := (fun k_ => some k_ ≠ (.slice Ao103 y157.length co103 : Value).ownBlock)) (okp := (fun k_ => some k_ ≠ (.slice Ao103 y157.length co103 : Value).ownBlock)) ?hr ?hp (fun _ hk => hk) ((show ∀ k_, w106.heap.size ≤ k_ → (fun k_ => some k_ ≠ (.slice Ao103 y157.length co103 : Value).ownBlock) k_ from fun k_ hk => Kd.fresh' (Kd.N_lt (by (with_reducible repeat (first | apply Kd.N_alloc | apply Kd.N_drewN | apply Kd.N_drew)); exact HO159.out)) k_ hk) _ (Nat.le_refl _)) (Below.refl _ _) (Nat.le_refl _) (by simp) ?_; (case hd => rfl); (case hg => rfl); (case hr => first | (go_simp; done) | (go_simp; rfl)); (case hp => exact (Reps.c4 (show Kd.FK k40 _ _ (⟨5, (⟨#[114, 117, 110]⟩ : ByteArray), y164, 0⟩ : S40) [.int .i64 5, .string (⟨#[114, 117, 110]⟩ : ByteArray), .slice Ao108 y164.length co108, .int .i64 0] from (k40_mkF _ _ (⟨5, (⟨#[114, 117, 110]⟩ : ByteArray), y164, 0⟩ : S40) (Kd.R_reads' (Kd.R_mono (ok' := (fun k_ => some k_ ≠ (.slice Ao103 y157.length co103 : Value).ownBlock)) (Kd.R_apart' (HO166.out) (Kd.N_typed HO159.out) (by decide)) (fun k_ hk => hk.2))).2.1 (Kd.R_F (Kd.R_mono (ok' := (fun k_ => some k_ ≠ (.slice Ao103 y157.length co103 : Value).ownBlock)) (Kd.R_apart' (HO166.out) (Kd.N_typed HO159.out) (by decide)) (fun k_ hk => hk.2))))) (Reps.none _ _))); intro v168 w109 ho110 hb hg_ hnew_; clear hg_ hnew_; (first | rw [← Ny167.out] at ho110 | (simp only [Int.reduceToNat] at ho110; rw [← Ny167.out] at ho110)); have n0_ := Aside0.mk (Kd.N_elder' (by (with_reducible repeat (first | apply Kd.N_alloc | apply Kd.N_drewN | apply Kd.N_drew)); exact HO159.out) (Kd.N_base ho110) hb); have n1_ := Aside0.mk (Kd.N_lower ho110 (below_size (by repeat (first | (with_reducible first | exact HB.out | apply below_alloc | apply pw_below_drewN | apply below_drew1) | exact HB.out)))); have n2_ := Aside0.mk (below_step (by repeat (first | (with_reducible first | exact HB.out | apply below_alloc | apply pw_below_drewN | apply below_drew1) | exact HB.out)) hb); clear HO159; clear HB; clear HO166; have HO159 := n0_; have HO169 := n1_; have HB := n2_; clear n0_ n1_ n2_; clear hb ho110; obtain ⟨Ao111, co111, eo111⟩ := Kd.N_slice HO169.out; subst eo111) | ((with_reducible refine gate_callee (f := 27) rfl ?_); refine goesL_ (some 28) rfl rfl Tryd.func27 (by kernel_rfl) rfl #[.slice Ao111 y167.length co111] rfl (by (try simp only [List.map_toArray, List.map_cons, List.map_nil]); first | done | rfl | (simp only [List.length_drop, List.length_take]; rfl) | (simp (disch := omega) only [IntWalk.wrap64_in]; done)) ?_; (with_reducible refine (printer_Print.calls _ _ y167 t170 t171 _ ?side3 ?side1 ?side2 A3.out).mono ?_); (case side1 => repeat (first | exact (Kd.N_reads' HO169.out).2.2 | (with_reducible refine Kd.C_alloc ?_ _) | (with_reducible refine Kd.C_drewN ?_ _) | (with_reducible refine Kd.C_drew ?_))); (case side2 => exact (Kd.N_reads' HO169.out).2.1); (case side3 => exact Tx.GP.aside hG (by repeat (first | (with_reducible first | exact HB.out | apply below_alloc | apply pw_below_drewN | apply below_drew1) | exact HB.out))); rintro e w112 ⟨rfl, hb⟩; refine ⟨_, rfl, ?_⟩; have n0_ := Aside0.mk (Kd.N_below (by (with_reducible repeat (first | apply Kd.N_alloc | apply Kd.N_drewN | apply Kd.N_drew)); exact HO159.out) hb); have n1_ := Aside0.mk (Kd.N_below (by (with_reducible repeat (first | apply Kd.N_alloc | apply Kd.N_drewN | apply Kd.N_drew)); exact HO169.out) hb); have n2_ := Aside0.mk (below_step (by repeat (first | (with_reducible first | exact HB.out | apply below_alloc | apply pw_below_drewN | apply below_drew1) | exact HB.out)) hb); clear HO159; clear HO169; clear HB; have HO159 := n0_; have HO169 := n1_; have HB := n2_; clear n0_ n1_ n2_; (try clear hb); (try clear hb2); (try clear hk); (try clear hi)))
    go_ret
    exact ⟨by first | rfl | (simp [errW_none, errW_some] <;> rfl) | (simp [*, errW_none, errW_some] <;> rfl), by repeat (first | (with_reducible first | exact HB.out | apply below_alloc | apply pw_below_drewN | apply below_drew1) | exact HB.out)⟩

end Go.Proofs.YtdedlchpjboceaaDoor.PE
end

section
/- The function slotmeshref02_Same: what it computes, and that it computes it. Written by a program of this session's, out of the translation. -/
namespace Go.Proofs.YtdedlchpjboceaaDoor.PE
open Go.RowKit Go.Proofs.YtdedlchpjboceaaDoorW.PrintWords Go.Proofs.YtdedlchpjboceaaDoorW.PrintLast Go.Proofs.YtdedlchpjboceaaDoorW.PrintMore
attribute [local go_sem] max2_int min2_int max_two min_two max_three min_three max_four min_four   -- for this text's walks alone

/-! ### slotmeshref02_Same: function 22 -/
mutual
def slotmeshref02_Same.l0 : Nat → List (S40) → List (S40) → Int → Option (Bool)
  | 0, _, _, _ => none
  | k + 1, x0, x1, x5 => if x5 < (x0.length : Int) then (if 0 ≤ x5 then (if x5 < (x1.length : Int) then (if ((rd_T40 x0 x5).f0) = ((rd_T40 x1 x5).f0) then (if ((rd_T40 x0 x5).f1).toList = ((rd_T40 x1 x5).f1).toList then (if ((rd_T40 x0 x5).f3) = ((rd_T40 x1 x5).f3) then (slotmeshref02_Same.j1 k x0 x1 x5 ((((rd_T40 x0 x5).f2).length : Int) != (((rd_T40 x1 x5).f2).length : Int))) else (slotmeshref02_Same.j1 k x0 x1 x5 true)) else (slotmeshref02_Same.j1 k x0 x1 x5 true)) else (slotmeshref02_Same.j1 k x0 x1 x5 true)) else (none)) else (none)) else (some true)
def slotmeshref02_Same.j1 : Nat → List (S40) → List (S40) → Int → Bool → Option (Bool)
  | 0, _, _, _, _ => none
  | k + 1, x0, x1, x5, x69 => if x69 = true then (some false) else (slotmeshref02_Same.l1 k x0 x1 x5 0)
def slotmeshref02_Same.l1 : Nat → List (S40) → List (S40) → Int → Int → Option (Bool)
  | 0, _, _, _, _ => none
  | k + 1, x0, x1, x5, x6 => if 0 ≤ x5 then (if x5 < (x0.length : Int) then (if x6 < (((rd_T40 x0 x5).f2).length : Int) then (if 0 ≤ x6 then (if x5 < (x1.length : Int) then (if x6 < (((rd_T40 x1 x5).f2).length : Int) then (if (rd ((rd_T40 x0 x5).f2) x6) = (rd ((rd_T40 x1 x5).f2) x6) then (slotmeshref02_Same.l1 k x0 x1 x5 (wrap64 (x6 + 1))) else (some false)) else (none)) else (none)) else (none)) else (slotmeshref02_Same.l0 k x0 x1 (wrap64 (x5 + 1)))) else (none)) else (none)
end
def slotmeshref02_Same.f (k : Nat) (l0 : List (S40)) (l1 : List (S40)) : Option (Bool) := if (l0.length : Int) = (l1.length : Int) then (slotmeshref02_Same.l0 k l0 l1 0) else (some false)
theorem slotmeshref02_Same.mono_l : ∀ k, (∀ y0 y1 y2, LeO (slotmeshref02_Same.l0 k y0 y1 y2) (slotmeshref02_Same.l0 (k + 1) y0 y1 y2)) ∧ (∀ y0 y1 y2 y3, LeO (slotmeshref02_Same.j1 k y0 y1 y2 y3) (slotmeshref02_Same.j1 (k + 1) y0 y1 y2 y3)) ∧ (∀ y0 y1 y2 y3, LeO (slotmeshref02_Same.l1 k y0 y1 y2 y3) (slotmeshref02_Same.l1 (k + 1) y0 y1 y2 y3))
  | 0 => ⟨fun _ _ _ r h => by simp [slotmeshref02_Same.l0] at h, fun _ _ _ _ r h => by simp [slotmeshref02_Same.j1] at h, fun _ _ _ _ r h => by simp [slotmeshref02_Same.l1] at h⟩
  | k + 1 => by
    obtain ⟨ih0, ih1, ih2⟩ := slotmeshref02_Same.mono_l k
    refine ⟨?_, ?_, ?_⟩
    · intro y0 y1 y2
      unfold slotmeshref02_Same.l0
      repeat' first
      | (with_reducible exact ih0 _ _ _)
      | (with_reducible exact ih1 _ _ _ _)
      | (with_reducible exact ih2 _ _ _ _)
      | (with_reducible exact LeO.refl _)
      | (with_reducible exact LeO.none _)
      | (with_reducible refine LeO.ite ?_ ?_)
      | (with_reducible refine LeO.bind ?_ (fun _ => ?_))
      | exact ih0 _ _ _
      | exact ih1 _ _ _ _
      | exact ih2 _ _ _ _
      | exact LeO.none _
      | refine LeO.ite ?_ ?_
      | refine LeO.bind ?_ (fun _ => ?_)
    · intro y0 y1 y2 y3
      unfold slotmeshref02_Same.j1
      repeat' first
      | (with_reducible exact ih0 _ _ _)
      | (with_reducible exact ih1 _ _ _ _)
      | (with_reducible exact ih2 _ _ _ _)
      | (with_reducible exact LeO.refl _)
      | (with_reducible exact LeO.none _)
      | (with_reducible refine LeO.ite ?_ ?_)
      | (with_reducible refine LeO.bind ?_ (fun _ => ?_))
      | exact ih0 _ _ _
      | exact ih1 _ _ _ _
      | exact ih2 _ _ _ _
      | exact LeO.none _
      | refine LeO.ite ?_ ?_
      | refine LeO.bind ?_ (fun _ => ?_)
    · intro y0 y1 y2 y3
      unfold slotmeshref02_Same.l1
      repeat' first
      | (with_reducible exact ih0 _ _ _)
      | (with_reducible exact ih1 _ _ _ _)
      | (with_reducible exact ih2 _ _ _ _)
      | (with_reducible exact LeO.refl _)
      | (with_reducible exact LeO.none _)
      | (with_reducible refine LeO.ite ?_ ?_)
      | (with_reducible refine LeO.bind ?_ (fun _ => ?_))
      | exact ih0 _ _ _
      | exact ih1 _ _ _ _
      | exact ih2 _ _ _ _
      | exact LeO.none _
      | refine LeO.ite ?_ ?_
      | refine LeO.bind ?_ (fun _ => ?_)
theorem slotmeshref02_Same.mono : ∀ a0 a1 k, LeO (slotmeshref02_Same.f k a0 a1) (slotmeshref02_Same.f (k + 1) a0 a1) := by
  intro a0 a1 k
  obtain ⟨ih0, ih1, ih2⟩ := slotmeshref02_Same.mono_l k
  unfold slotmeshref02_Same.f
  repeat' first
      | (with_reducible exact ih0 _ _ _)
      | (with_reducible exact ih1 _ _ _ _)
      | (with_reducible exact ih2 _ _ _ _)
      | (with_reducible exact LeO.refl _)
      | (with_reducible exact LeO.none _)
      | (with_reducible refine LeO.ite ?_ ?_)
      | (with_reducible refine LeO.bind ?_ (fun _ => ?_))
      | exact ih0 _ _ _
      | exact ih1 _ _ _ _
      | exact ih2 _ _ _ _
      | exact LeO.none _
      | refine LeO.ite ?_ ?_
      | refine LeO.bind ?_ (fun _ => ?_)
set_option maxHeartbeats 8000000 in
set_option maxRecDepth 100000 in
theorem slotmeshref02_Same.calls (k : Nat) (A0 : Option Addr) (c0 : Nat) (l0 : List (S40)) (A1 : Option Addr) (c1 : Nat) (l1 : List (S40)) (r : Bool) (w : World) (hr0 : Kd.C k40 w A0 l0.length l0) (hc0 : l0.length ≤ c0) (hr1 : Kd.C k40 w A1 l1.length l1) (hc1 : l1.length ≤ c1) (h : slotmeshref02_Same.f k l0 l1 = some r) :
    Calls Tryd.prog 22 #[.slice A0 l0.length c0, .slice A1 l1.length c1] w fun e w' => e = .returned (.bool r) ∧ Drawn0 w w' := by
  have HR0 := Aside0.mk hr0
  have HC0 := Aside0.mk hc0
  clear hr0 hc0
  have HR1 := Aside0.mk hr1
  have HC1 := Aside0.mk hc1
  clear hr1 hc1
  have H : (if (l0.length : Int) = (l1.length : Int) then (slotmeshref02_Same.l0 k l0 l1 0) else (some false)) = some r := h
  clear h
  by_cases c3 : (l0.length : Int) = (l1.length : Int)
  · rw [if_pos c3] at H
    have c3b0 : ((l0.length : Int) == (l1.length : Int)) = true := beq_iff_eq.mpr c3
    have c3b1 : ((l0.length : Int) != (l1.length : Int)) = false := bne_eq_false_iff_eq.mpr c3
    have c3b2 : (l0.length == l1.length) = true := by first | simpa using c3 | (simp at c3 ⊢; omega)
    clear c3
    have H' := Aside0.mk H
    clear H
    go_enter Tryd.func22, Tryd.ntmps22
    go_wp2
    repeat (go_quiet (fail); try go_wp2)
    go_loopg [5] k (fun kq v5 w' => ∃ (x5_1 : Int), v5 = .int .i64 x5_1 ∧ Aside0 (slotmeshref02_Same.l0 kq l0 l1 x5_1 = some r) ∧ Aside0 (kq ≤ k) ∧ Drawn0 w w')
    case atStart => exact ⟨(0), (by first | rfl | (simp; done) | (simp [*]; done)), H', ⟨Nat.le_refl _⟩, by repeat (first | exact Drawn0.refl _ | apply Drawn0.step)⟩
    case round =>
      clear H'
      try clear c1
      try clear c2
      try clear p2
      try clear c3
      try clear c3b0
      try clear c3b1
      try clear c3b2
      obtain ⟨x5_1, rfl, HA, HK1, ⟨m1, rfl⟩⟩ := hrel
      cases gk with
      | zero => exact absurd HA.out (by simp [slotmeshref02_Same.l0])
      | succ k1 =>
        have H := HA.out
        clear HA
        simp only [slotmeshref02_Same.l0] at H
        by_cases c4 : x5_1 < (l0.length : Int)
        · rw [if_pos c4] at H
          have c4b0 : decide (x5_1 < (l0.length : Int)) = true := decide_eq_true c4
          clear c4
          have HC5 := Aside0.mk H
          clear H
          go_upto_region 6 with (fail)
          repeat (go_quiet (fail); go_upto_region 6 with (fail))
          go_cut [69] (fun v69 wc => ∃ (kq : Nat) (x69_4 : Bool), v69 = .bool x69_4 ∧ Aside0 (slotmeshref02_Same.j1 kq l0 l1 x5_1 x69_4 = some r) ∧ Aside0 (kq ≤ k1) ∧ Drawn0 w wc)
          case first =>
            have H := HC5.out
            clear HC5
            by_cases c6 : 0 ≤ x5_1
            · rw [if_pos c6] at H
              have c6b0 : decide (0 ≤ x5_1) = true := decide_eq_true c6
              clear c6
              (first | rw [c6b0] | (simp only [i64_w, i32_w]; rw [c6b0]) | skip)
              by_cases c7 : x5_1 < (l1.length : Int)
              · rw [if_pos c7] at H
                have c7b0 : decide (x5_1 < (l1.length : Int)) = true := decide_eq_true c7
                clear c7
                by_cases c8 : ((rd_T40 l0 x5_1).f0) = ((rd_T40 l1 x5_1).f0)
                · rw [if_pos c8] at H
                  have c8b0 : (((rd_T40 l0 x5_1).f0) == ((rd_T40 l1 x5_1).f0)) = true := beq_iff_eq.mpr c8
                  have c8b1 : (((rd_T40 l0 x5_1).f0) != ((rd_T40 l1 x5_1).f0)) = false := bne_eq_false_iff_eq.mpr c8
                  clear c8
                  by_cases c9 : ((rd_T40 l0 x5_1).f1).toList = ((rd_T40 l1 x5_1).f1).toList
                  · rw [if_pos c9] at H
                    have c9b0 : (((rd_T40 l0 x5_1).f1).toList == ((rd_T40 l1 x5_1).f1).toList) = true := beq_iff_eq.mpr c9
                    have c9b1 : (((rd_T40 l0 x5_1).f1).toList != ((rd_T40 l1 x5_1).f1).toList) = false := bne_eq_false_iff_eq.mpr c9
                    clear c9
                    by_cases c10 : ((rd_T40 l0 x5_1).f3) = ((rd_T40 l1 x5_1).f3)
                    · rw [if_pos c10] at H
                      have c10b0 : (((rd_T40 l0 x5_1).f3) == ((rd_T40 l1 x5_1).f3)) = true := beq_iff_eq.mpr c10
                      have c10b1 : (((rd_T40 l0 x5_1).f3) != ((rd_T40 l1 x5_1).f3)) = false := bne_eq_false_iff_eq.mpr c10
                      clear c10
                      have H' := Aside0.mk H
                      clear H
                      have p282 : 0 ≤ (x5_1 : Int) := of_decide_eq_true (by first | (with_reducible assumption) | assumption)
                      have q282 : x5_1 < (l0.length : Int) := of_decide_eq_true (by first | (with_reducible assumption) | assumption)
                      obtain ⟨ad282, A282_2, c282_2, e282, hx282_0, hx282_1, hx282_2, hx282_3, hl282_2, hi282_2⟩ := at_T40 HR0.out x5_1 p282 q282
                      cases e282
                      have HR282_2 := Aside0.mk hi282_2
                      have HC282_2 := Aside0.mk hl282_2
                      clear hi282_2 hl282_2
                      replace p282 := eq_true p282
                      replace q282 := eq_true q282
                      have p283 : 0 ≤ (x5_1 : Int) := of_decide_eq_true (by first | (with_reducible assumption) | assumption)
                      have q283 : x5_1 < (l1.length : Int) := of_decide_eq_true (by first | (with_reducible assumption) | assumption)
                      obtain ⟨ad283, A283_2, c283_2, e283, hx283_0, hx283_1, hx283_2, hx283_3, hl283_2, hi283_2⟩ := at_T40 HR1.out x5_1 p283 q283
                      cases e283
                      have HR283_2 := Aside0.mk hi283_2
                      have HC283_2 := Aside0.mk hl283_2
                      clear hi283_2 hl283_2
                      replace p283 := eq_true p283
                      replace q283 := eq_true q283
                      have p284 : 0 ≤ (x5_1 : Int) := of_decide_eq_true (by first | (with_reducible assumption) | assumption)
                      have q284 : x5_1 < (l0.length : Int) := of_decide_eq_true (by first | (with_reducible assumption) | assumption)
                      obtain ⟨ad284, A284_2, c284_2, e284, hx284_0, hx284_1, hx284_2, hx284_3, hl284_2, hi284_2⟩ := at_T40 HR0.out x5_1 p284 q284
                      obtain rfl : ad282 = ad284 := (by injection e284)
                      have HR284_2 := Aside0.mk hi284_2
                      have HC284_2 := Aside0.mk hl284_2
                      clear hi284_2 hl284_2
                      replace p284 := eq_true p284
                      replace q284 := eq_true q284
                      have ea_ := Option.some.inj (hx282_2.symm.trans hx284_2)
                      injection ea_ with ea_ en_ ec_
                      subst ea_
                      subst ec_
                      clear en_
                      have p285 : 0 ≤ (x5_1 : Int) := of_decide_eq_true (by first | (with_reducible assumption) | assumption)
                      have q285 : x5_1 < (l1.length : Int) := of_decide_eq_true (by first | (with_reducible assumption) | assumption)
                      obtain ⟨ad285, A285_2, c285_2, e285, hx285_0, hx285_1, hx285_2, hx285_3, hl285_2, hi285_2⟩ := at_T40 HR1.out x5_1 p285 q285
                      obtain rfl : ad283 = ad285 := (by injection e285)
                      have HR285_2 := Aside0.mk hi285_2
                      have HC285_2 := Aside0.mk hl285_2
                      clear hi285_2 hl285_2
                      replace p285 := eq_true p285
                      replace q285 := eq_true q285
                      have ea_ := Option.some.inj (hx283_2.symm.trans hx285_2)
                      injection ea_ with ea_ en_ ec_
                      subst ea_
                      subst ec_
                      clear en_
                      have p286 : 0 ≤ (x5_1 : Int) := of_decide_eq_true (by first | (with_reducible assumption) | assumption)
                      have q286 : x5_1 < (l0.length : Int) := of_decide_eq_true (by first | (with_reducible assumption) | assumption)
                      obtain ⟨ad286, A286_2, c286_2, e286, hx286_0, hx286_1, hx286_2, hx286_3, hl286_2, hi286_2⟩ := at_T40 HR0.out x5_1 p286 q286
                      obtain rfl : ad282 = ad286 := (by injection e286)
                      have HR286_2 := Aside0.mk hi286_2
                      have HC286_2 := Aside0.mk hl286_2
                      clear hi286_2 hl286_2
                      replace p286 := eq_true p286
                      replace q286 := eq_true q286
                      have ea_ := Option.some.inj (hx282_2.symm.trans hx286_2)
                      injection ea_ with ea_ en_ ec_
                      subst ea_
                      subst ec_
                      clear en_
                      have p287 : 0 ≤ (x5_1 : Int) := of_decide_eq_true (by first | (with_reducible assumption) | assumption)
                      have q287 : x5_1 < (l1.length : Int) := of_decide_eq_true (by first | (with_reducible assumption) | assumption)
                      obtain ⟨ad287, A287_2, c287_2, e287, hx287_0, hx287_1, hx287_2, hx287_3, hl287_2, hi287_2⟩ := at_T40 HR1.out x5_1 p287 q287
                      obtain rfl : ad283 = ad287 := (by injection e287)
                      have HR287_2 := Aside0.mk hi287_2
                      have HC287_2 := Aside0.mk hl287_2
                      clear hi287_2 hl287_2
                      replace p287 := eq_true p287
                      replace q287 := eq_true q287
                      have ea_ := Option.some.inj (hx283_2.symm.trans hx287_2)
                      injection ea_ with ea_ en_ ec_
                      subst ea_
                      subst ec_
                      clear en_
                      have p288 : 0 ≤ (x5_1 : Int) := of_decide_eq_true (by first | (with_reducible assumption) | assumption)
                      have q288 : x5_1 < (l0.length : Int) := of_decide_eq_true (by first | (with_reducible assumption) | assumption)
                      obtain ⟨ad288, A288_2, c288_2, e288, hx288_0, hx288_1, hx288_2, hx288_3, hl288_2, hi288_2⟩ := at_T40 HR0.out x5_1 p288 q288
                      obtain rfl : ad282 = ad288 := (by injection e288)
                      have HR288_2 := Aside0.mk hi288_2
                      have HC288_2 := Aside0.mk hl288_2
                      clear hi288_2 hl288_2
                      replace p288 := eq_true p288
                      replace q288 := eq_true q288
                      have ea_ := Option.some.inj (hx282_2.symm.trans hx288_2)
                      injection ea_ with ea_ en_ ec_
                      subst ea_
                      subst ec_
                      clear en_
                      have p289 : 0 ≤ (x5_1 : Int) := of_decide_eq_true (by first | (with_reducible assumption) | assumption)
                      have q289 : x5_1 < (l1.length : Int) := of_decide_eq_true (by first | (with_reducible assumption) | assumption)
                      obtain ⟨ad289, A289_2, c289_2, e289, hx289_0, hx289_1, hx289_2, hx289_3, hl289_2, hi289_2⟩ := at_T40 HR1.out x5_1 p289 q289
                      obtain rfl : ad283 = ad289 := (by injection e289)
                      have HR289_2 := Aside0.mk hi289_2
                      have HC289_2 := Aside0.mk hl289_2
                      clear hi289_2 hl289_2
                      replace p289 := eq_true p289
                      replace q289 := eq_true q289
                      have ea_ := Option.some.inj (hx283_2.symm.trans hx289_2)
                      injection ea_ with ea_ en_ ec_
                      subst ea_
                      subst ec_
                      clear en_
                      go_wp2
                      repeat (go_quiet (fail); try go_wp2)
                      go_meet
                      case rel => exact ⟨_, (((((rd_T40 l0 x5_1).f2).length : Int) != (((rd_T40 l1 x5_1).f2).length : Int))), (by first | rfl | (simp; done) | (simp [*]; done)), H', ⟨by have := HK1.out; first | omega | exact Nat.le_refl _⟩, by repeat (first | exact Drawn0.refl _ | apply Drawn0.step)⟩
                    · rw [if_neg c10] at H
                      have c10b0 : (((rd_T40 l0 x5_1).f3) == ((rd_T40 l1 x5_1).f3)) = false := beq_eq_false_iff_ne.mpr c10
                      have c10b1 : (((rd_T40 l0 x5_1).f3) != ((rd_T40 l1 x5_1).f3)) = true := bne_iff_ne.mpr c10
                      have H' := Aside0.mk H
                      clear H
                      have p282 : 0 ≤ (x5_1 : Int) := of_decide_eq_true (by first | (with_reducible assumption) | assumption)
                      have q282 : x5_1 < (l0.length : Int) := of_decide_eq_true (by first | (with_reducible assumption) | assumption)
                      obtain ⟨ad282, A282_2, c282_2, e282, hx282_0, hx282_1, hx282_2, hx282_3, hl282_2, hi282_2⟩ := at_T40 HR0.out x5_1 p282 q282
                      cases e282
                      have HR282_2 := Aside0.mk hi282_2
                      have HC282_2 := Aside0.mk hl282_2
                      clear hi282_2 hl282_2
                      replace p282 := eq_true p282
                      replace q282 := eq_true q282
                      have p283 : 0 ≤ (x5_1 : Int) := of_decide_eq_true (by first | (with_reducible assumption) | assumption)
                      have q283 : x5_1 < (l1.length : Int) := of_decide_eq_true (by first | (with_reducible assumption) | assumption)
                      obtain ⟨ad283, A283_2, c283_2, e283, hx283_0, hx283_1, hx283_2, hx283_3, hl283_2, hi283_2⟩ := at_T40 HR1.out x5_1 p283 q283
                      cases e283
                      have HR283_2 := Aside0.mk hi283_2
                      have HC283_2 := Aside0.mk hl283_2
                      clear hi283_2 hl283_2
                      replace p283 := eq_true p283
                      replace q283 := eq_true q283
                      have p284 : 0 ≤ (x5_1 : Int) := of_decide_eq_true (by first | (with_reducible assumption) | assumption)
                      have q284 : x5_1 < (l0.length : Int) := of_decide_eq_true (by first | (with_reducible assumption) | assumption)
                      obtain ⟨ad284, A284_2, c284_2, e284, hx284_0, hx284_1, hx284_2, hx284_3, hl284_2, hi284_2⟩ := at_T40 HR0.out x5_1 p284 q284
                      obtain rfl : ad282 = ad284 := (by injection e284)
                      have HR284_2 := Aside0.mk hi284_2
                      have HC284_2 := Aside0.mk hl284_2
                      clear hi284_2 hl284_2
                      replace p284 := eq_true p284
                      replace q284 := eq_true q284
                      have ea_ := Option.some.inj (hx282_2.symm.trans hx284_2)
                      injection ea_ with ea_ en_ ec_
                      subst ea_
                      subst ec_
                      clear en_
                      have p285 : 0 ≤ (x5_1 : Int) := of_decide_eq_true (by first | (with_reducible assumption) | assumption)
                      have q285 : x5_1 < (l1.length : Int) := of_decide_eq_true (by first | (with_reducible assumption) | assumption)
                      obtain ⟨ad285, A285_2, c285_2, e285, hx285_0, hx285_1, hx285_2, hx285_3, hl285_2, hi285_2⟩ := at_T40 HR1.out x5_1 p285 q285
                      obtain rfl : ad283 = ad285 := (by injection e285)
                      have HR285_2 := Aside0.mk hi285_2
                      have HC285_2 := Aside0.mk hl285_2
                      clear hi285_2 hl285_2
                      replace p285 := eq_true p285
                      replace q285 := eq_true q285
                      have ea_ := Option.some.inj (hx283_2.symm.trans hx285_2)
                      injection ea_ with ea_ en_ ec_
                      subst ea_
                      subst ec_
                      clear en_
                      have p286 : 0 ≤ (x5_1 : Int) := of_decide_eq_true (by first | (with_reducible assumption) | assumption)
                      have q286 : x5_1 < (l0.length : Int) := of_decide_eq_true (by first | (with_reducible assumption) | assumption)
                      obtain ⟨ad286, A286_2, c286_2, e286, hx286_0, hx286_1, hx286_2, hx286_3, hl286_2, hi286_2⟩ := at_T40 HR0.out x5_1 p286 q286
                      obtain rfl : ad282 = ad286 := (by injection e286)
                      have HR286_2 := Aside0.mk hi286_2
                      have HC286_2 := Aside0.mk hl286_2
                      clear hi286_2 hl286_2
                      replace p286 := eq_true p286
                      replace q286 := eq_true q286
                      have ea_ := Option.some.inj (hx282_2.symm.trans hx286_2)
                      injection ea_ with ea_ en_ ec_
                      subst ea_
                      subst ec_
                      clear en_
                      have p287 : 0 ≤ (x5_1 : Int) := of_decide_eq_true (by first | (with_reducible assumption) | assumption)
                      have q287 : x5_1 < (l1.length : Int) := of_decide_eq_true (by first | (with_reducible assumption) | assumption)
                      obtain ⟨ad287, A287_2, c287_2, e287, hx287_0, hx287_1, hx287_2, hx287_3, hl287_2, hi287_2⟩ := at_T40 HR1.out x5_1 p287 q287
                      obtain rfl : ad283 = ad287 := (by injection e287)
                      have HR287_2 := Aside0.mk hi287_2
                      have HC287_2 := Aside0.mk hl287_2
                      clear hi287_2 hl287_2
                      replace p287 := eq_true p287
                      replace q287 := eq_true q287
                      have ea_ := Option.some.inj (hx283_2.symm.trans hx287_2)
                      injection ea_ with ea_ en_ ec_
                      subst ea_
                      subst ec_
                      clear en_
                      go_wp2
                      repeat (go_quiet (fail); try go_wp2)
                      go_meet
                      case rel => exact ⟨_, (true), (by first | rfl | (simp; done) | (simp [*]; done)), H', ⟨by have := HK1.out; first | omega | exact Nat.le_refl _⟩, by repeat (first | exact Drawn0.refl _ | apply Drawn0.step)⟩
                  · rw [if_neg c9] at H
                    have c9b0 : (((rd_T40 l0 x5_1).f1).toList == ((rd_T40 l1 x5_1).f1).toList) = false := beq_eq_false_iff_ne.mpr c9
                    have c9b1 : (((rd_T40 l0 x5_1).f1).toList != ((rd_T40 l1 x5_1).f1).toList) = true := bne_iff_ne.mpr c9
                    have H' := Aside0.mk H
                    clear H
                    have p282 : 0 ≤ (x5_1 : Int) := of_decide_eq_true (by first | (with_reducible assumption) | assumption)
                    have q282 : x5_1 < (l0.length : Int) := of_decide_eq_true (by first | (with_reducible assumption) | assumption)
                    obtain ⟨ad282, A282_2, c282_2, e282, hx282_0, hx282_1, hx282_2, hx282_3, hl282_2, hi282_2⟩ := at_T40 HR0.out x5_1 p282 q282
                    cases e282
                    have HR282_2 := Aside0.mk hi282_2
                    have HC282_2 := Aside0.mk hl282_2
                    clear hi282_2 hl282_2
                    replace p282 := eq_true p282
                    replace q282 := eq_true q282
                    have p283 : 0 ≤ (x5_1 : Int) := of_decide_eq_true (by first | (with_reducible assumption) | assumption)
                    have q283 : x5_1 < (l1.length : Int) := of_decide_eq_true (by first | (with_reducible assumption) | assumption)
                    obtain ⟨ad283, A283_2, c283_2, e283, hx283_0, hx283_1, hx283_2, hx283_3, hl283_2, hi283_2⟩ := at_T40 HR1.out x5_1 p283 q283
                    cases e283
                    have HR283_2 := Aside0.mk hi283_2
                    have HC283_2 := Aside0.mk hl283_2
                    clear hi283_2 hl283_2
                    replace p283 := eq_true p283
                    replace q283 := eq_true q283
                    have p284 : 0 ≤ (x5_1 : Int) := of_decide_eq_true (by first | (with_reducible assumption) | assumption)
                    have q284 : x5_1 < (l0.length : Int) := of_decide_eq_true (by first | (with_reducible assumption) | assumption)
                    obtain ⟨ad284, A284_2, c284_2, e284, hx284_0, hx284_1, hx284_2, hx284_3, hl284_2, hi284_2⟩ := at_T40 HR0.out x5_1 p284 q284
                    obtain rfl : ad282 = ad284 := (by injection e284)
                    have HR284_2 := Aside0.mk hi284_2
                    have HC284_2 := Aside0.mk hl284_2
                    clear hi284_2 hl284_2
                    replace p284 := eq_true p284
                    replace q284 := eq_true q284
                    have ea_ := Option.some.inj (hx282_2.symm.trans hx284_2)
                    injection ea_ with ea_ en_ ec_
                    subst ea_
                    subst ec_
                    clear en_
                    have p285 : 0 ≤ (x5_1 : Int) := of_decide_eq_true (by first | (with_reducible assumption) | assumption)
                    have q285 : x5_1 < (l1.length : Int) := of_decide_eq_true (by first | (with_reducible assumption) | assumption)
                    obtain ⟨ad285, A285_2, c285_2, e285, hx285_0, hx285_1, hx285_2, hx285_3, hl285_2, hi285_2⟩ := at_T40 HR1.out x5_1 p285 q285
                    obtain rfl : ad283 = ad285 := (by injection e285)
                    have HR285_2 := Aside0.mk hi285_2
                    have HC285_2 := Aside0.mk hl285_2
                    clear hi285_2 hl285_2
                    replace p285 := eq_true p285
                    replace q285 := eq_true q285
                    have ea_ := Option.some.inj (hx283_2.symm.trans hx285_2)
                    injection ea_ with ea_ en_ ec_
                    subst ea_
                    subst ec_
                    clear en_
                    go_wp2
                    repeat (go_quiet (fail); try go_wp2)
                    go_meet
                    case rel => exact ⟨_, (true), (by first | rfl | (simp; done) | (simp [*]; done)), H', ⟨by have := HK1.out; first | omega | exact Nat.le_refl _⟩, by repeat (first | exact Drawn0.refl _ | apply Drawn0.step)⟩
                · rw [if_neg c8] at H
                  have c8b0 : (((rd_T40 l0 x5_1).f0) == ((rd_T40 l1 x5_1).f0)) = false := beq_eq_false_iff_ne.mpr c8
                  have c8b1 : (((rd_T40 l0 x5_1).f0) != ((rd_T40 l1 x5_1).f0)) = true := bne_iff_ne.mpr c8
                  have H' := Aside0.mk H
                  clear H
                  have p282 : 0 ≤ (x5_1 : Int) := of_decide_eq_true (by first | (with_reducible assumption) | assumption)
                  have q282 : x5_1 < (l0.length : Int) := of_decide_eq_true (by first | (with_reducible assumption) | assumption)
                  obtain ⟨ad282, A282_2, c282_2, e282, hx282_0, hx282_1, hx282_2, hx282_3, hl282_2, hi282_2⟩ := at_T40 HR0.out x5_1 p282 q282
                  cases e282
                  have HR282_2 := Aside0.mk hi282_2
                  have HC282_2 := Aside0.mk hl282_2
                  clear hi282_2 hl282_2
                  replace p282 := eq_true p282
                  replace q282 := eq_true q282
                  have p283 : 0 ≤ (x5_1 : Int) := of_decide_eq_true (by first | (with_reducible assumption) | assumption)
                  have q283 : x5_1 < (l1.length : Int) := of_decide_eq_true (by first | (with_reducible assumption) | assumption)
                  obtain ⟨ad283, A283_2, c283_2, e283, hx283_0, hx283_1, hx283_2, hx283_3, hl283_2, hi283_2⟩ := at_T40 HR1.out x5_1 p283 q283
                  cases e283
                  have HR283_2 := Aside0.mk hi283_2
                  have HC283_2 := Aside0.mk hl283_2
                  clear hi283_2 hl283_2
                  replace p283 := eq_true p283
                  replace q283 := eq_true q283
                  go_wp2
                  repeat (go_quiet (fail); try go_wp2)
                  go_meet
                  case rel => exact ⟨_, (true), (by first | rfl | (simp; done) | (simp [*]; done)), H', ⟨by have := HK1.out; first | omega | exact Nat.le_refl _⟩, by repeat (first | exact Drawn0.refl _ | apply Drawn0.step)⟩
              · rw [if_neg c7] at H
                exact absurd H (by simp)
            · rw [if_neg c6] at H
              exact absurd H (by simp)
          case rest =>
            clear HC5
            try clear c1
            try clear c2
            try clear p2
            try clear q2
            try clear hx2
            try clear c3
            try clear c3b0
            try clear c3b1
            try clear c3b2
            try clear c4
            try clear c4b0
            try clear c6
            try clear c6b0
            try clear c7
            try clear c7b0
            try clear c8
            try clear c8b0
            try clear c8b1
            try clear c9
            try clear c9b0
            try clear c9b1
            try clear c10
            try clear c10b0
            try clear c10b1
            try clear hx282_0
            try clear hx282_1
            try clear hx282_2
            try clear hx282_3
            try clear hx283_0
            try clear hx283_1
            try clear hx283_2
            try clear hx283_3
            try clear hx284_0
            try clear hx284_1
            try clear hx284_2
            try clear hx284_3
            try clear hx285_0
            try clear hx285_1
            try clear hx285_2
            try clear hx285_3
            try clear hx286_0
            try clear hx286_1
            try clear hx286_2
            try clear hx286_3
            try clear hx287_0
            try clear hx287_1
            try clear hx287_2
            try clear hx287_3
            try clear hx288_0
            try clear hx288_1
            try clear hx288_2
            try clear hx288_3
            try clear hx289_0
            try clear hx289_1
            try clear hx289_2
            try clear hx289_3
            try clear p2
            try clear p282
            try clear p283
            try clear p284
            try clear p285
            try clear p286
            try clear p287
            try clear p288
            try clear p289
            try clear q282
            try clear q283
            try clear q284
            try clear q285
            try clear q286
            try clear q287
            try clear q288
            try clear q289
            obtain ⟨kq, x69_4, rfl, HA, HJ4, ⟨mc4, rfl⟩⟩ := hcut
            cases kq with
            | zero => exact absurd HA.out (by simp [slotmeshref02_Same.j1])
            | succ kj4 =>
              have H := HA.out
              clear HA
              simp only [slotmeshref02_Same.j1] at H
              by_cases c11 : x69_4 = true
              · subst c11
                have H1 : (some false) = some r := by rw [if_pos rfl] at H; exact H
                clear H
                have H := H1
                clear H1
                obtain rfl := Option.some.inj H
                go_wp2
                repeat (go_quiet (fail); try go_wp2)
                go_ret
                exact ⟨by first | rfl | (simp; done) | (simp [*]; done), by repeat (first | exact Drawn0.refl _ | apply Drawn0.step)⟩
              · replace c11 := Bool.eq_false_iff.mpr c11
                subst c11
                have H1 : (slotmeshref02_Same.l1 kj4 l0 l1 x5_1 0) = some r := by rw [if_neg (show ¬ (false = true) by decide)] at H; exact H
                clear H
                have H := H1
                clear H1
                have H' := Aside0.mk H
                clear H
                go_wp2
                repeat (go_quiet (fail); try go_wp2)
                go_loopg [6] kj4 (fun kq v6 w' => ∃ (x6_3 : Int), v6 = .int .i64 x6_3 ∧ Aside0 (slotmeshref02_Same.l1 kq l0 l1 x5_1 x6_3 = some r) ∧ Aside0 (kq ≤ kj4) ∧ Drawn0 w w')
                case atStart => exact ⟨(0), (by first | rfl | (simp; done) | (simp [*]; done)), H', ⟨Nat.le_refl _⟩, by repeat (first | exact Drawn0.refl _ | apply Drawn0.step)⟩
                case round =>
                  clear H'
                  try clear c1
                  try clear c2
                  try clear p2
                  try clear q2
                  try clear hx2
                  try clear c3
                  try clear c3b0
                  try clear c3b1
                  try clear c3b2
                  try clear c4
                  try clear c4b0
                  try clear c6
                  try clear c6b0
                  try clear c7
                  try clear c7b0
                  try clear c8
                  try clear c8b0
                  try clear c8b1
                  try clear c9
                  try clear c9b0
                  try clear c9b1
                  try clear c10
                  try clear c10b0
                  try clear c10b1
                  try clear c11
                  try clear hx282_0
                  try clear hx282_1
                  try clear hx282_2
                  try clear hx282_3
                  try clear hx283_0
                  try clear hx283_1
                  try clear hx283_2
                  try clear hx283_3
                  try clear hx284_0
                  try clear hx284_1
                  try clear hx284_2
                  try clear hx284_3
                  try clear hx285_0
                  try clear hx285_1
                  try clear hx285_2
                  try clear hx285_3
                  try clear hx286_0
                  try clear hx286_1
                  try clear hx286_2
                  try clear hx286_3
                  try clear hx287_0
                  try clear hx287_1
                  try clear hx287_2
                  try clear hx287_3
                  try clear hx288_0
                  try clear hx288_1
                  try clear hx288_2
                  try clear hx288_3
                  try clear hx289_0
                  try clear hx289_1
                  try clear hx289_2
                  try clear hx289_3
                  try clear p2
                  try clear p282
                  try clear p283
                  try clear p284
                  try clear p285
                  try clear p286
                  try clear p287
                  try clear p288
                  try clear p289
                  try clear q2
                  try clear q282
                  try clear q283
                  try clear q284
                  try clear q285
                  try clear q286
                  try clear q287
                  try clear q288
                  try clear q289
                  obtain ⟨x6_3, rfl, HA, HK3, ⟨m3, rfl⟩⟩ := hrel
                  cases gk with
                  | zero => exact absurd HA.out (by simp [slotmeshref02_Same.l1])
                  | succ k3 =>
                    have H := HA.out
                    clear HA
                    simp only [slotmeshref02_Same.l1] at H
                    by_cases c12 : 0 ≤ x5_1
                    · rw [if_pos c12] at H
                      have c12b0 : decide (0 ≤ x5_1) = true := decide_eq_true c12
                      clear c12
                      by_cases c13 : x5_1 < (l0.length : Int)
                      · rw [if_pos c13] at H
                        have c13b0 : decide (x5_1 < (l0.length : Int)) = true := decide_eq_true c13
                        clear c13
                        by_cases c14 : x6_3 < (((rd_T40 l0 x5_1).f2).length : Int)
                        · rw [if_pos c14] at H
                          have c14b0 : decide (x6_3 < (((rd_T40 l0 x5_1).f2).length : Int)) = true := decide_eq_true c14
                          clear c14
                          by_cases c15 : 0 ≤ x6_3
                          · rw [if_pos c15] at H
                            have c15b0 : decide (0 ≤ x6_3) = true := decide_eq_true c15
                            clear c15
                            by_cases c16 : x5_1 < (l1.length : Int)
                            · rw [if_pos c16] at H
                              have c16b0 : decide (x5_1 < (l1.length : Int)) = true := decide_eq_true c16
                              clear c16
                              by_cases c17 : x6_3 < (((rd_T40 l1 x5_1).f2).length : Int)
                              · rw [if_pos c17] at H
                                have c17b0 : decide (x6_3 < (((rd_T40 l1 x5_1).f2).length : Int)) = true := decide_eq_true c17
                                clear c17
                                by_cases c18 : (rd ((rd_T40 l0 x5_1).f2) x6_3) = (rd ((rd_T40 l1 x5_1).f2) x6_3)
                                · rw [if_pos c18] at H
                                  have c18b0 : ((rd ((rd_T40 l0 x5_1).f2) x6_3) == (rd ((rd_T40 l1 x5_1).f2) x6_3)) = true := beq_iff_eq.mpr c18
                                  have c18b1 : ((rd ((rd_T40 l0 x5_1).f2) x6_3) != (rd ((rd_T40 l1 x5_1).f2) x6_3)) = false := bne_eq_false_iff_eq.mpr c18
                                  clear c18
                                  have H' := Aside0.mk H
                                  clear H
                                  have p290 : 0 ≤ (x5_1 : Int) := of_decide_eq_true (by first | (with_reducible assumption) | assumption)
                                  have q290 : x5_1 < (l0.length : Int) := of_decide_eq_true (by first | (with_reducible assumption) | assumption)
                                  obtain ⟨ad290, A290_2, c290_2, e290, hx290_0, hx290_1, hx290_2, hx290_3, hl290_2, hi290_2⟩ := at_T40 HR0.out x5_1 p290 q290
                                  cases e290
                                  have HR290_2 := Aside0.mk hi290_2
                                  have HC290_2 := Aside0.mk hl290_2
                                  clear hi290_2 hl290_2
                                  replace p290 := eq_true p290
                                  replace q290 := eq_true q290
                                  have p291 : 0 ≤ (x5_1 : Int) := of_decide_eq_true (by first | (with_reducible assumption) | assumption)
                                  have q291 : x5_1 < (l0.length : Int) := of_decide_eq_true (by first | (with_reducible assumption) | assumption)
                                  obtain ⟨ad291, A291_2, c291_2, e291, hx291_0, hx291_1, hx291_2, hx291_3, hl291_2, hi291_2⟩ := at_T40 HR0.out x5_1 p291 q291
                                  obtain rfl : ad290 = ad291 := (by injection e291)
                                  have HR291_2 := Aside0.mk hi291_2
                                  have HC291_2 := Aside0.mk hl291_2
                                  clear hi291_2 hl291_2
                                  replace p291 := eq_true p291
                                  replace q291 := eq_true q291
                                  have ea_ := Option.some.inj (hx290_2.symm.trans hx291_2)
                                  injection ea_ with ea_ en_ ec_
                                  subst ea_
                                  subst ec_
                                  clear en_
                                  have p292 : 0 ≤ (x6_3 : Int) := of_decide_eq_true (by first | (with_reducible assumption) | assumption)
                                  have q292 : x6_3 < (((rd_T40 l0 x5_1).f2).length : Int) := of_decide_eq_true (by first | (with_reducible assumption) | assumption)
                                  obtain ⟨ad292, e292, hx292_0⟩ := Kd.at_int HR291_2.out x6_3 p292 q292
                                  cases e292
                                  replace p292 := eq_true p292
                                  replace q292 := eq_true q292
                                  have p293 : 0 ≤ (x5_1 : Int) := of_decide_eq_true (by first | (with_reducible assumption) | assumption)
                                  have q293 : x5_1 < (l1.length : Int) := of_decide_eq_true (by first | (with_reducible assumption) | assumption)
                                  obtain ⟨ad293, A293_2, c293_2, e293, hx293_0, hx293_1, hx293_2, hx293_3, hl293_2, hi293_2⟩ := at_T40 HR1.out x5_1 p293 q293
                                  cases e293
                                  have HR293_2 := Aside0.mk hi293_2
                                  have HC293_2 := Aside0.mk hl293_2
                                  clear hi293_2 hl293_2
                                  replace p293 := eq_true p293
                                  replace q293 := eq_true q293
                                  have p294 : 0 ≤ (x6_3 : Int) := of_decide_eq_true (by first | (with_reducible assumption) | assumption)
                                  have q294 : x6_3 < (((rd_T40 l1 x5_1).f2).length : Int) := of_decide_eq_true (by first | (with_reducible assumption) | assumption)
                                  obtain ⟨ad294, e294, hx294_0⟩ := Kd.at_int HR293_2.out x6_3 p294 q294
                                  cases e294
                                  replace p294 := eq_true p294
                                  replace q294 := eq_true q294
                                  go_wp2
                                  repeat (go_quiet (fail); try go_wp2)
                                  go_roundg k3
                                  case measure => have := HK1.out; have := HJ4.out; have := HK3.out; omega
                                  case rel => exact ⟨(wrap64 (x6_3 + 1)), (by first | rfl | (simp; done) | (simp [*]; done)), H', ⟨by have := HK1.out; have := HJ4.out; have := HK3.out; omega⟩, by repeat (first | exact Drawn0.refl _ | apply Drawn0.step)⟩
                                · rw [if_neg c18] at H
                                  have c18b0 : ((rd ((rd_T40 l0 x5_1).f2) x6_3) == (rd ((rd_T40 l1 x5_1).f2) x6_3)) = false := beq_eq_false_iff_ne.mpr c18
                                  have c18b1 : ((rd ((rd_T40 l0 x5_1).f2) x6_3) != (rd ((rd_T40 l1 x5_1).f2) x6_3)) = true := bne_iff_ne.mpr c18
                                  obtain rfl := Option.some.inj H
                                  have p290 : 0 ≤ (x5_1 : Int) := of_decide_eq_true (by first | (with_reducible assumption) | assumption)
                                  have q290 : x5_1 < (l0.length : Int) := of_decide_eq_true (by first | (with_reducible assumption) | assumption)
                                  obtain ⟨ad290, A290_2, c290_2, e290, hx290_0, hx290_1, hx290_2, hx290_3, hl290_2, hi290_2⟩ := at_T40 HR0.out x5_1 p290 q290
                                  cases e290
                                  have HR290_2 := Aside0.mk hi290_2
                                  have HC290_2 := Aside0.mk hl290_2
                                  clear hi290_2 hl290_2
                                  replace p290 := eq_true p290
                                  replace q290 := eq_true q290
                                  have p291 : 0 ≤ (x5_1 : Int) := of_decide_eq_true (by first | (with_reducible assumption) | assumption)
                                  have q291 : x5_1 < (l0.length : Int) := of_decide_eq_true (by first | (with_reducible assumption) | assumption)
                                  obtain ⟨ad291, A291_2, c291_2, e291, hx291_0, hx291_1, hx291_2, hx291_3, hl291_2, hi291_2⟩ := at_T40 HR0.out x5_1 p291 q291
                                  obtain rfl : ad290 = ad291 := (by injection e291)
                                  have HR291_2 := Aside0.mk hi291_2
                                  have HC291_2 := Aside0.mk hl291_2
                                  clear hi291_2 hl291_2
                                  replace p291 := eq_true p291
                                  replace q291 := eq_true q291
                                  have ea_ := Option.some.inj (hx290_2.symm.trans hx291_2)
                                  injection ea_ with ea_ en_ ec_
                                  subst ea_
                                  subst ec_
                                  clear en_
                                  have p292 : 0 ≤ (x6_3 : Int) := of_decide_eq_true (by first | (with_reducible assumption) | assumption)
                                  have q292 : x6_3 < (((rd_T40 l0 x5_1).f2).length : Int) := of_decide_eq_true (by first | (with_reducible assumption) | assumption)
                                  obtain ⟨ad292, e292, hx292_0⟩ := Kd.at_int HR291_2.out x6_3 p292 q292
                                  cases e292
                                  replace p292 := eq_true p292
                                  replace q292 := eq_true q292
                                  have p293 : 0 ≤ (x5_1 : Int) := of_decide_eq_true (by first | (with_reducible assumption) | assumption)
                                  have q293 : x5_1 < (l1.length : Int) := of_decide_eq_true (by first | (with_reducible assumption) | assumption)
                                  obtain ⟨ad293, A293_2, c293_2, e293, hx293_0, hx293_1, hx293_2, hx293_3, hl293_2, hi293_2⟩ := at_T40 HR1.out x5_1 p293 q293
                                  cases e293
                                  have HR293_2 := Aside0.mk hi293_2
                                  have HC293_2 := Aside0.mk hl293_2
                                  clear hi293_2 hl293_2
                                  replace p293 := eq_true p293
                                  replace q293 := eq_true q293
                                  have p294 : 0 ≤ (x6_3 : Int) := of_decide_eq_true (by first | (with_reducible assumption) | assumption)
                                  have q294 : x6_3 < (((rd_T40 l1 x5_1).f2).length : Int) := of_decide_eq_true (by first | (with_reducible assumption) | assumption)
                                  obtain ⟨ad294, e294, hx294_0⟩ := Kd.at_int HR293_2.out x6_3 p294 q294
                                  cases e294
                                  replace p294 := eq_true p294
                                  replace q294 := eq_true q294
                                  go_wp2
                                  repeat (go_quiet (fail); try go_wp2)
                                  go_ret
                                  exact ⟨by first | rfl | (simp; done) | (simp [*]; done), by repeat (first | exact Drawn0.refl _ | apply Drawn0.step)⟩
                              · rw [if_neg c17] at H
                                exact absurd H (by simp)
                            · rw [if_neg c16] at H
                              exact absurd H (by simp)
                          · rw [if_neg c15] at H
                            exact absurd H (by simp)
                        · rw [if_neg c14] at H
                          have c14b0 : decide (x6_3 < (((rd_T40 l0 x5_1).f2).length : Int)) = false := decide_eq_false c14
                          clear c14
                          have H' := Aside0.mk H
                          clear H
                          have p290 : 0 ≤ (x5_1 : Int) := of_decide_eq_true (by first | (with_reducible assumption) | assumption)
                          have q290 : x5_1 < (l0.length : Int) := of_decide_eq_true (by first | (with_reducible assumption) | assumption)
                          obtain ⟨ad290, A290_2, c290_2, e290, hx290_0, hx290_1, hx290_2, hx290_3, hl290_2, hi290_2⟩ := at_T40 HR0.out x5_1 p290 q290
                          cases e290
                          have HR290_2 := Aside0.mk hi290_2
                          have HC290_2 := Aside0.mk hl290_2
                          clear hi290_2 hl290_2
                          replace p290 := eq_true p290
                          replace q290 := eq_true q290
                          go_wp2
                          repeat (go_quiet (fail); try go_wp2)
                          go_roundg k3
                          case measure => have := HK1.out; have := HJ4.out; have := HK3.out; omega
                          case rel => exact ⟨(wrap64 (x5_1 + 1)), (by first | rfl | (simp; done) | (simp [*]; done)), H', ⟨by have := HK1.out; have := HJ4.out; have := HK3.out; omega⟩, by repeat (first | exact Drawn0.refl _ | apply Drawn0.step)⟩
                      · rw [if_neg c13] at H
                        exact absurd H (by simp)
                    · rw [if_neg c12] at H
                      exact absurd H (by simp)
        · rw [if_neg c4] at H
          have c4b0 : decide (x5_1 < (l0.length : Int)) = false := decide_eq_false c4
          clear c4
          obtain rfl := Option.some.inj H
          go_wp2
          repeat (go_quiet (fail); try go_wp2)
          go_ret
          exact ⟨by first | rfl | (simp; done) | (simp [*]; done), by repeat (first | exact Drawn0.refl _ | apply Drawn0.step)⟩
  · rw [if_neg c3] at H
    have c3b0 : ((l0.length : Int) == (l1.length : Int)) = false := beq_eq_false_iff_ne.mpr c3
    have c3b1 : ((l0.length : Int) != (l1.length : Int)) = true := bne_iff_ne.mpr c3
    have c3b2 : (l0.length == l1.length) = false := by first | simpa using c3 | (simp at c3 ⊢; omega)
    obtain rfl := Option.some.inj H
    go_enter Tryd.func22, Tryd.ntmps22
    go_wp2
    repeat (go_quiet (fail); try go_wp2)
    go_ret
    exact ⟨by first | rfl | (simp; done) | (simp [*]; done), by repeat (first | exact Drawn0.refl _ | apply Drawn0.step)⟩

end Go.Proofs.YtdedlchpjboceaaDoor.PE
end

section
/- The function parser_Strip: what it computes, and that it computes it. Written by a program of this session's, out of the translation. -/
namespace Go.Proofs.YtdedlchpjboceaaDoor.PE
open Go.RowKit Go.Proofs.YtdedlchpjboceaaDoorW.PrintWords Go.Proofs.YtdedlchpjboceaaDoorW.PrintLast Go.Proofs.YtdedlchpjboceaaDoorW.PrintMore
attribute [local go_sem] max2_int min2_int max_two min_two max_three min_three max_four min_four   -- for this text's walks alone

/-! ### parser_Strip: function 23 -/
def stripS (x : S40) : S40 := ⟨x.f0, x.f1, x.f2, 0⟩
def toCmdS (x : S40) : Px.Cmd := ⟨x.f0, x.f1, x.f2, x.f3⟩
def ofCmdS (x : Px.Cmd) : S40 := ⟨x.f0, x.f1, x.f2, x.f3⟩
/-- What Strip answers. -/
def parser_Strip.f (l0 : List (S40)) : Option (List (S40)) := if l0.length ≤ 1000000 then some (l0.map stripS) else none
theorem parser_Strip.calls (A0 : Option Addr) (c0 : Nat) (l0 : List (S40)) (r : List (S40)) (w : World) (hr0 : Kd.C k40 w A0 l0.length l0) (hc0 : l0.length ≤ c0) (h : parser_Strip.f l0 = some r) :
    Calls Tryd.prog 23 #[.slice A0 l0.length c0] w fun e w' => ∃ v0_ : Value, e = .returned v0_ ∧ Kd.N k40 40 w' w.heap.size (fun _ => True) v0_ r ∧ Below w.heap.size w w' := by
  unfold parser_Strip.f at h
  by_cases hl : l0.length ≤ 1000000
  · rw [if_pos hl] at h
    have h' : l0.map stripS = r := Option.some.inj h
    subst h'
    have hC : Kd.C Px.kC w A0 (l0.map toCmdS).length (l0.map toCmdS) := by rw [List.length_map]; exact Tx.C_iso2 (h := toCmdS) (fun _ => rfl) hr0
    have hp := Px.strip_any A0 c0 (l0.map toCmdS) w hC (by rw [List.length_map]; exact hl)
    rw [List.length_map] at hp
    refine hp.mono ?_
    rintro x w' ⟨hb, v, rfl, hN⟩
    refine ⟨v, rfl, ?_, hb⟩
    have := Tx.N_iso2 (h := ofCmdS) (g := fun x : S40 => (x.f0, x.f1, x.f2, x.f3)) (fun _ => rfl) hN
    rw [List.map_map, List.map_map] at this
    exact this
  · rw [if_neg hl] at h; cases h

end Go.Proofs.YtdedlchpjboceaaDoor.PE
end

section
/- The function slotmeshlaw03_PrinterDiffers: what it computes, and that it computes it. Written by a program of this session's, out of the translation. -/
namespace Go.Proofs.YtdedlchpjboceaaDoor.PE
open Go.RowKit Go.Proofs.YtdedlchpjboceaaDoorW.PrintWords Go.Proofs.YtdedlchpjboceaaDoorW.PrintLast Go.Proofs.YtdedlchpjboceaaDoorW.PrintMore
attribute [local go_sem] max2_int min2_int max_two min_two max_three min_three max_four min_four   -- for this text's walks alone

/-! ### slotmeshlaw03_PrinterDiffers: function 8 -/
mutual
def slotmeshlaw03_PrinterDiffers.j0 : Nat → List (S40) → List (S40) → Bool → Bool → Option (Bool)
  | 0, _, _, _, _ => none
  | k + 1, x0, x1, x5, x18 => if x18 = true then (some x5) else ((printer_Print.f x0).bind fun bt315 => ((printer_Print.f x1).bind fun bt317 => (if bt315.2 = 0 then (slotmeshlaw03_PrinterDiffers.j1 k x0 x1 x5 bt315.1 bt317.1 (bt317.2 != 0)) else (slotmeshlaw03_PrinterDiffers.j1 k x0 x1 x5 bt315.1 bt317.1 true))))
def slotmeshlaw03_PrinterDiffers.j1 : Nat → List (S40) → List (S40) → Bool → ByteArray → ByteArray → Bool → Option (Bool)
  | 0, _, _, _, _, _, _ => none
  | k + 1, x0, x1, x5, x6, x8, x35 => if x35 = true then (some x5) else (if x5 = true then ((parser_Strip.f x0).bind fun t319 => ((parser_Strip.f x1).bind fun t322 => ((slotmeshref02_Same.f k t319 t322).bind fun t325 => (some ((x6.toList == x8.toList) == t325))))) else (some false))
end
def slotmeshlaw03_PrinterDiffers.f (k : Nat) (l0 : List (S40)) (l1 : List (S40)) : Option (Bool) := (slotmeshlaw03_head.f).bind fun t312 => ((slotmeshref02_Few.f k l0).bind fun t313 => (if t313 = true then ((slotmeshref02_Few.f k l1).bind fun t314 => (slotmeshlaw03_PrinterDiffers.j0 k l0 l1 t312 (!t314))) else (slotmeshlaw03_PrinterDiffers.j0 k l0 l1 t312 true)))
theorem slotmeshlaw03_PrinterDiffers.mono_l : ∀ k, (∀ y0 y1 y2 y3, LeO (slotmeshlaw03_PrinterDiffers.j0 k y0 y1 y2 y3) (slotmeshlaw03_PrinterDiffers.j0 (k + 1) y0 y1 y2 y3)) ∧ (∀ y0 y1 y2 y3 y4 y5, LeO (slotmeshlaw03_PrinterDiffers.j1 k y0 y1 y2 y3 y4 y5) (slotmeshlaw03_PrinterDiffers.j1 (k + 1) y0 y1 y2 y3 y4 y5))
  | 0 => ⟨fun _ _ _ _ r h => by simp [slotmeshlaw03_PrinterDiffers.j0] at h, fun _ _ _ _ _ _ r h => by simp [slotmeshlaw03_PrinterDiffers.j1] at h⟩
  | k + 1 => by
    obtain ⟨ih0, ih1⟩ := slotmeshlaw03_PrinterDiffers.mono_l k
    refine ⟨?_, ?_⟩
    · intro y0 y1 y2 y3
      unfold slotmeshlaw03_PrinterDiffers.j0
      repeat' first
      | (with_reducible exact ih0 _ _ _ _)
      | (with_reducible exact ih1 _ _ _ _ _ _)
      | (with_reducible exact slotmeshref02_Few.mono _ _)
      | (with_reducible exact slotmeshref02_Same.mono _ _ _)
      | (with_reducible exact LeO.refl _)
      | (with_reducible exact LeO.none _)
      | (with_reducible refine LeO.ite ?_ ?_)
      | (with_reducible refine LeO.bind ?_ (fun _ => ?_))
      | exact ih0 _ _ _ _
      | exact ih1 _ _ _ _ _ _
      | exact slotmeshref02_Few.mono _ _
      | exact slotmeshref02_Same.mono _ _ _
      | exact LeO.none _
      | refine LeO.ite ?_ ?_
      | refine LeO.bind ?_ (fun _ => ?_)
    · intro y0 y1 y2 y3 y4 y5
      unfold slotmeshlaw03_PrinterDiffers.j1
      repeat' first
      | (with_reducible exact ih0 _ _ _ _)
      | (with_reducible exact ih1 _ _ _ _ _ _)
      | (with_reducible exact slotmeshref02_Few.mono _ _)
      | (with_reducible exact slotmeshref02_Same.mono _ _ _)
      | (with_reducible exact LeO.refl _)
      | (with_reducible exact LeO.none _)
      | (with_reducible refine LeO.ite ?_ ?_)
      | (with_reducible refine LeO.bind ?_ (fun _ => ?_))
      | exact ih0 _ _ _ _
      | exact ih1 _ _ _ _ _ _
      | exact slotmeshref02_Few.mono _ _
      | exact slotmeshref02_Same.mono _ _ _
      | exact LeO.none _
      | refine LeO.ite ?_ ?_
      | refine LeO.bind ?_ (fun _ => ?_)
theorem slotmeshlaw03_PrinterDiffers.mono : ∀ a0 a1 k, LeO (slotmeshlaw03_PrinterDiffers.f k a0 a1) (slotmeshlaw03_PrinterDiffers.f (k + 1) a0 a1) := by
  intro a0 a1 k
  obtain ⟨ih0, ih1⟩ := slotmeshlaw03_PrinterDiffers.mono_l k
  unfold slotmeshlaw03_PrinterDiffers.f
  repeat' first
      | (with_reducible exact ih0 _ _ _ _)
      | (with_reducible exact ih1 _ _ _ _ _ _)
      | (with_reducible exact slotmeshref02_Few.mono _ _)
      | (with_reducible exact slotmeshref02_Same.mono _ _ _)
      | (with_reducible exact LeO.refl _)
      | (with_reducible exact LeO.none _)
      | (with_reducible refine LeO.ite ?_ ?_)
      | (with_reducible refine LeO.bind ?_ (fun _ => ?_))
      | exact ih0 _ _ _ _
      | exact ih1 _ _ _ _ _ _
      | exact slotmeshref02_Few.mono _ _
      | exact slotmeshref02_Same.mono _ _ _
      | exact LeO.none _
      | refine LeO.ite ?_ ?_
      | refine LeO.bind ?_ (fun _ => ?_)
set_option maxHeartbeats 8000000 in
set_option maxRecDepth 100000 in
theorem slotmeshlaw03_PrinterDiffers.calls (k : Nat) (A0 : Option Addr) (c0 : Nat) (l0 : List (S40)) (A1 : Option Addr) (c1 : Nat) (l1 : List (S40)) (r : Bool) (w : World) (hG : Aside0 (Tx.GP w)) (hr0 : Kd.C k40 w A0 l0.length l0) (hc0 : l0.length ≤ c0) (hr1 : Kd.C k40 w A1 l1.length l1) (hc1 : l1.length ≤ c1) (h : slotmeshlaw03_PrinterDiffers.f k l0 l1 = some r) :
    Calls Tryd.prog 8 #[.slice A0 l0.length c0, .slice A1 l1.length c1] w fun e w' => e = .returned (.bool r) ∧ Below w.heap.size w w' := by
  have HR0 := Aside0.mk hr0
  have HC0 := Aside0.mk hc0
  clear hr0 hc0
  have HR1 := Aside0.mk hr1
  have HC1 := Aside0.mk hc1
  clear hr1 hc1
  have HB := Aside0.mk (Below.refl w.heap.size w)
  have H : ((slotmeshlaw03_head.f).bind fun t312 => ((slotmeshref02_Few.f k l0).bind fun t313 => (if t313 = true then ((slotmeshref02_Few.f k l1).bind fun t314 => (slotmeshlaw03_PrinterDiffers.j0 k l0 l1 t312 (!t314))) else (slotmeshlaw03_PrinterDiffers.j0 k l0 l1 t312 true)))) = some r := h
  clear h
  replace H := Option.bind_eq_some_iff.mp H
  obtain ⟨t312, A30, H⟩ := H
  replace H : ((slotmeshref02_Few.f k l0).bind fun t313 => (if t313 = true then ((slotmeshref02_Few.f k l1).bind fun t314 => (slotmeshlaw03_PrinterDiffers.j0 k l0 l1 t312 (!t314))) else (slotmeshlaw03_PrinterDiffers.j0 k l0 l1 t312 true))) = some r := H
  have A3 := Aside0.mk A30
  clear A30
  have HC4 := Aside0.mk H
  clear H
  go_enter Tryd.func8, Tryd.ntmps8
  go_upto_region 2 with (first | ((with_reducible refine gate_callee (f := 29) rfl ?_); refine goesL_ (some 10) rfl rfl Tryd.func29 (by kernel_rfl) rfl #[] rfl (by (try simp only [List.map_toArray, List.map_cons, List.map_nil]); first | done | rfl | (simp only [List.length_drop, List.length_take]; rfl) | (simp (disch := omega) only [IntWalk.wrap64_in]; done)) ?_; (with_reducible refine (slotmeshlaw03_head.calls  t312 _ ?side1 A3.out).mono ?_); (case side1 => exact Tx.GP.aside hG (by repeat (first | (with_reducible first | exact HB.out | apply below_alloc | apply pw_below_drewN | apply below_drew1) | exact HB.out))); rintro e w5 ⟨rfl, hb⟩; refine ⟨_, rfl, ?_⟩; have n0_ := Aside0.mk (below_step (by repeat (first | (with_reducible first | exact HB.out | apply below_alloc | apply pw_below_drewN | apply below_drew1) | exact HB.out)) hb); clear HB; have HB := n0_; clear n0_; (try clear hb); (try clear hb2); (try clear hk); (try clear hi)))
  (try simp only [Act.put, List.setIfInBounds_toArray, List.set_cons_zero, List.set_cons_succ])
  go_cut [18] (fun v18 wc => ∃ (kq : Nat) (x18_3 : Bool), v18 = .bool x18_3 ∧ Aside0 (slotmeshlaw03_PrinterDiffers.j0 kq l0 l1 t312 x18_3 = some r) ∧ Aside0 (kq ≤ k) ∧ Aside0 (Below w.heap.size w wc))
  case first =>
    have H := HC4.out
    clear HC4
    replace H := Option.bind_eq_some_iff.mp H
    obtain ⟨t313, A60, H⟩ := H
    replace H : (if t313 = true then ((slotmeshref02_Few.f k l1).bind fun t314 => (slotmeshlaw03_PrinterDiffers.j0 k l0 l1 t312 (!t314))) else (slotmeshlaw03_PrinterDiffers.j0 k l0 l1 t312 true)) = some r := H
    have A6 := Aside0.mk A60
    clear A60
    by_cases c7 : t313 = true
    · subst c7
      have H1 : ((slotmeshref02_Few.f k l1).bind fun t314 => (slotmeshlaw03_PrinterDiffers.j0 k l0 l1 t312 (!t314))) = some r := by rw [if_pos rfl] at H; exact H
      clear H
      have H := H1
      clear H1
      replace H := Option.bind_eq_some_iff.mp H
      obtain ⟨t314, A80, H⟩ := H
      replace H : (slotmeshlaw03_PrinterDiffers.j0 k l0 l1 t312 (!t314)) = some r := H
      have A8 := Aside0.mk A80
      clear A80
      have H' := Aside0.mk H
      clear H
      go_wp2_with (first | ((with_reducible refine gate_callee (f := 25) rfl ?_); refine goesL_ (some 12) rfl rfl Tryd.func25 (by kernel_rfl) rfl #[.slice A0 l0.length c0] rfl (by (try simp only [List.map_toArray, List.map_cons, List.map_nil]); first | done | rfl | (simp only [List.length_drop, List.length_take]; rfl) | (simp (disch := omega) only [IntWalk.wrap64_in]; done)) ?_; (with_reducible refine (slotmeshref02_Few.calls k _ _ l0 true _ ?side1 ?side2 A6.out).mono ?_); (case side1 => repeat (first | exact (Kd.C_below HR0.out HB.out) | (with_reducible refine Kd.C_alloc ?_ _) | (with_reducible refine Kd.C_drewN ?_ _) | (with_reducible refine Kd.C_drew ?_))); (case side2 => exact HC0.out); rintro e w' ⟨rfl, ⟨nd, rfl⟩⟩; refine ⟨_, rfl, ?_⟩) | (go_at_call 25; (with_reducible refine (slotmeshref02_Few.calls k _ _ l1 t314 _ ?side1 ?side2 A8.out).mono ?_); (case side1 => repeat (first | exact (Kd.C_below HR1.out (by repeat (first | (with_reducible first | exact HB.out | apply below_alloc | apply pw_below_drewN | apply below_drew1) | exact HB.out))) | (with_reducible refine Kd.C_alloc ?_ _) | (with_reducible refine Kd.C_drewN ?_ _) | (with_reducible refine Kd.C_drew ?_))); (case side2 => exact HC1.out); rintro e w' ⟨rfl, ⟨nd, rfl⟩⟩))
      go_meet
      case rel => exact ⟨_, (!t314), (by first | rfl | (simp; done) | (simp [*]; done)), H', ⟨by first | omega | exact Nat.le_refl _⟩, ⟨by repeat (first | (with_reducible first | exact HB.out | apply below_alloc | apply pw_below_drewN | apply below_drew1) | exact HB.out)⟩⟩
    · replace c7 := Bool.eq_false_iff.mpr c7
      subst c7
      have H1 : (slotmeshlaw03_PrinterDiffers.j0 k l0 l1 t312 true) = some r := by rw [if_neg (show ¬ (false = true) by decide)] at H; exact H
      clear H
      have H := H1
      clear H1
      have H' := Aside0.mk H
      clear H
      go_wp2_with (first | ((with_reducible refine gate_callee (f := 25) rfl ?_); refine goesL_ (some 12) rfl rfl Tryd.func25 (by kernel_rfl) rfl #[.slice A0 l0.length c0] rfl (by (try simp only [List.map_toArray, List.map_cons, List.map_nil]); first | done | rfl | (simp only [List.length_drop, List.length_take]; rfl) | (simp (disch := omega) only [IntWalk.wrap64_in]; done)) ?_; (with_reducible refine (slotmeshref02_Few.calls k _ _ l0 false _ ?side1 ?side2 A6.out).mono ?_); (case side1 => repeat (first | exact (Kd.C_below HR0.out HB.out) | (with_reducible refine Kd.C_alloc ?_ _) | (with_reducible refine Kd.C_drewN ?_ _) | (with_reducible refine Kd.C_drew ?_))); (case side2 => exact HC0.out); rintro e w' ⟨rfl, ⟨nd, rfl⟩⟩; refine ⟨_, rfl, ?_⟩))
      go_meet
      case rel => exact ⟨_, (true), (by first | rfl | (simp; done) | (simp [*]; done)), H', ⟨by first | omega | exact Nat.le_refl _⟩, ⟨by repeat (first | (with_reducible first | exact HB.out | apply below_alloc | apply pw_below_drewN | apply below_drew1) | exact HB.out)⟩⟩
  case rest =>
    clear HC4
    try clear c1
    try clear c2
    try clear p2
    try clear c7
    try clear c8
    obtain ⟨kq, x18_3, rfl, HA, HJ3, HB⟩ := hcut
    cases kq with
    | zero => exact absurd HA.out (by simp [slotmeshlaw03_PrinterDiffers.j0])
    | succ kj3 =>
      have H := HA.out
      clear HA
      simp only [slotmeshlaw03_PrinterDiffers.j0] at H
      by_cases c9 : x18_3 = true
      · subst c9
        have H1 : (some t312) = some r := by rw [if_pos rfl] at H; exact H
        clear H
        have H := H1
        clear H1
        obtain rfl := Option.some.inj H
        go_wp2
        go_ret
        exact ⟨by first | rfl | (simp [errW_none, errW_some] <;> rfl) | (simp [*, errW_none, errW_some] <;> rfl), by repeat (first | (with_reducible first | exact HB.out | apply below_alloc | apply pw_below_drewN | apply below_drew1) | exact HB.out)⟩
      · replace c9 := Bool.eq_false_iff.mpr c9
        subst c9
        have H1 : ((printer_Print.f l0).bind fun bt315 => ((printer_Print.f l1).bind fun bt317 => (if bt315.2 = 0 then (slotmeshlaw03_PrinterDiffers.j1 kj3 l0 l1 t312 bt315.1 bt317.1 (bt317.2 != 0)) else (slotmeshlaw03_PrinterDiffers.j1 kj3 l0 l1 t312 bt315.1 bt317.1 true)))) = some r := by rw [if_neg (show ¬ (false = true) by decide)] at H; exact H
        clear H
        have H := H1
        clear H1
        replace H := Option.bind_eq_some_iff.mp H
        obtain ⟨⟨t315, t316⟩, A100, H⟩ := H
        replace H : ((printer_Print.f l1).bind fun bt317 => (if t316 = 0 then (slotmeshlaw03_PrinterDiffers.j1 kj3 l0 l1 t312 t315 bt317.1 (bt317.2 != 0)) else (slotmeshlaw03_PrinterDiffers.j1 kj3 l0 l1 t312 t315 bt317.1 true))) = some r := H
        have A10 := Aside0.mk A100
        clear A100
        replace H := Option.bind_eq_some_iff.mp H
        obtain ⟨⟨t317, t318⟩, A110, H⟩ := H
        replace H : (if t316 = 0 then (slotmeshlaw03_PrinterDiffers.j1 kj3 l0 l1 t312 t315 t317 (t318 != 0)) else (slotmeshlaw03_PrinterDiffers.j1 kj3 l0 l1 t312 t315 t317 true)) = some r := H
        have A11 := Aside0.mk A110
        clear A110
        have HC12 := Aside0.mk H
        clear H
        go_upto_region 6 with (first | ((with_reducible refine gate_callee (f := 27) rfl ?_); refine goesL_ (some 22) rfl rfl Tryd.func27 (by kernel_rfl) rfl #[.slice A0 l0.length c0] rfl (by (try simp only [List.map_toArray, List.map_cons, List.map_nil]); first | done | rfl | (simp only [List.length_drop, List.length_take]; rfl) | (simp (disch := omega) only [IntWalk.wrap64_in]; done)) ?_; (with_reducible refine (printer_Print.calls _ _ l0 t315 t316 _ ?side3 ?side1 ?side2 A10.out).mono ?_); (case side1 => repeat (first | exact (Kd.C_below HR0.out HB.out) | (with_reducible refine Kd.C_alloc ?_ _) | (with_reducible refine Kd.C_drewN ?_ _) | (with_reducible refine Kd.C_drew ?_))); (case side2 => exact HC0.out); (case side3 => exact Tx.GP.aside hG (by repeat (first | (with_reducible first | exact HB.out | apply below_alloc | apply pw_below_drewN | apply below_drew1) | exact HB.out))); rintro e w13 ⟨rfl, hb⟩; refine ⟨_, rfl, ?_⟩; have n0_ := Aside0.mk (below_step (by repeat (first | (with_reducible first | exact HB.out | apply below_alloc | apply pw_below_drewN | apply below_drew1) | exact HB.out)) hb); clear HB; have HB := n0_; clear n0_; (try clear hb); (try clear hb2); (try clear hk); (try clear hi)) | ((with_reducible refine gate_callee (f := 27) rfl ?_); refine goesL_ (some 27) rfl rfl Tryd.func27 (by kernel_rfl) rfl #[.slice A1 l1.length c1] rfl (by (try simp only [List.map_toArray, List.map_cons, List.map_nil]); first | done | rfl | (simp only [List.length_drop, List.length_take]; rfl) | (simp (disch := omega) only [IntWalk.wrap64_in]; done)) ?_; (with_reducible refine (printer_Print.calls _ _ l1 t317 t318 _ ?side3 ?side1 ?side2 A11.out).mono ?_); (case side1 => repeat (first | exact (Kd.C_below HR1.out HB.out) | (with_reducible refine Kd.C_alloc ?_ _) | (with_reducible refine Kd.C_drewN ?_ _) | (with_reducible refine Kd.C_drew ?_))); (case side2 => exact HC1.out); (case side3 => exact Tx.GP.aside hG (by repeat (first | (with_reducible first | exact HB.out | apply below_alloc | apply pw_below_drewN | apply below_drew1) | exact HB.out))); rintro e w14 ⟨rfl, hb⟩; refine ⟨_, rfl, ?_⟩; have n0_ := Aside0.mk (below_step (by repeat (first | (with_reducible first | exact HB.out | apply below_alloc | apply pw_below_drewN | apply below_drew1) | exact HB.out)) hb); clear HB; have HB := n0_; clear n0_; (try clear hb); (try clear hb2); (try clear hk); (try clear hi)))
        (try simp only [Act.put, List.setIfInBounds_toArray, List.set_cons_zero, List.set_cons_succ])
        go_cut [35] (fun v35 wc => ∃ (kq : Nat) (x35_11 : Bool), v35 = .bool x35_11 ∧ Aside0 (slotmeshlaw03_PrinterDiffers.j1 kq l0 l1 t312 t315 t317 x35_11 = some r) ∧ Aside0 (kq ≤ kj3) ∧ Aside0 (Below w.heap.size w wc))
        case first =>
          have H := HC12.out
          clear HC12
          by_cases c15 : t316 = 0
          · rw [if_pos c15] at H
            have c15b0 : (t316 == 0) = true := beq_iff_eq.mpr c15
            have c15b1 : (t316 != 0) = false := bne_eq_false_iff_eq.mpr c15
            clear c15
            (first | rw [c15b0] | (simp only [i64_w, i32_w]; rw [c15b0]) | skip)
            have H' := Aside0.mk H
            clear H
            go_wp2
            go_meet
            case rel => exact ⟨_, ((t318 != 0)), (by first | rfl | (simp; done) | (simp [*]; done)), H', ⟨by have := HJ3.out; first | omega | exact Nat.le_refl _⟩, ⟨by repeat (first | (with_reducible first | exact HB.out | apply below_alloc | apply pw_below_drewN | apply below_drew1) | exact HB.out)⟩⟩
          · rw [if_neg c15] at H
            have c15b0 : (t316 == 0) = false := beq_eq_false_iff_ne.mpr c15
            have c15b1 : (t316 != 0) = true := bne_iff_ne.mpr c15
            (first | rw [c15b0] | (simp only [i64_w, i32_w]; rw [c15b0]) | skip)
            have H' := Aside0.mk H
            clear H
            go_wp2
            go_meet
            case rel => exact ⟨_, (true), (by first | rfl | (simp; done) | (simp [*]; done)), H', ⟨by have := HJ3.out; first | omega | exact Nat.le_refl _⟩, ⟨by repeat (first | (with_reducible first | exact HB.out | apply below_alloc | apply pw_below_drewN | apply below_drew1) | exact HB.out)⟩⟩
        case rest =>
          clear HC12
          try clear c1
          try clear c2
          try clear p2
          try clear c7
          try clear c8
          try clear c9
          try clear c15
          try clear c15b0
          try clear c15b1
          try clear p2
          obtain ⟨kq, x35_11, rfl, HA, HJ11, HB⟩ := hcut
          cases kq with
          | zero => exact absurd HA.out (by simp [slotmeshlaw03_PrinterDiffers.j1])
          | succ kj11 =>
            have H := HA.out
            clear HA
            simp only [slotmeshlaw03_PrinterDiffers.j1] at H
            by_cases c16 : x35_11 = true
            · subst c16
              have H1 : (some t312) = some r := by rw [if_pos rfl] at H; exact H
              clear H
              have H := H1
              clear H1
              obtain rfl := Option.some.inj H
              go_wp2
              go_ret
              exact ⟨by first | rfl | (simp [errW_none, errW_some] <;> rfl) | (simp [*, errW_none, errW_some] <;> rfl), by repeat (first | (with_reducible first | exact HB.out | apply below_alloc | apply pw_below_drewN | apply below_drew1) | exact HB.out)⟩
            · replace c16 := Bool.eq_false_iff.mpr c16
              subst c16
              have H1 : (if t312 = true then ((parser_Strip.f l0).bind fun t319 => ((parser_Strip.f l1).bind fun t322 => ((slotmeshref02_Same.f kj11 t319 t322).bind fun t325 => (some ((t315.toList == t317.toList) == t325))))) else (some false)) = some r := by rw [if_neg (show ¬ (false = true) by decide)] at H; exact H
              clear H
              have H := H1
              clear H1
              by_cases c17 : t312 = true
              · subst c17
                have H1 : ((parser_Strip.f l0).bind fun t319 => ((parser_Strip.f l1).bind fun t322 => ((slotmeshref02_Same.f kj11 t319 t322).bind fun t325 => (some ((t315.toList == t317.toList) == t325))))) = some r := by rw [if_pos rfl] at H; exact H
                clear H
                have H := H1
                clear H1
                replace H := Option.bind_eq_some_iff.mp H
                obtain ⟨t319, A180, H⟩ := H
                replace H : ((parser_Strip.f l1).bind fun t322 => ((slotmeshref02_Same.f kj11 t319 t322).bind fun t325 => (some ((t315.toList == t317.toList) == t325)))) = some r := H
                have A18 := Aside0.mk A180
                clear A180
                replace H := Option.bind_eq_some_iff.mp H
                obtain ⟨t322, A190, H⟩ := H
                replace H : ((slotmeshref02_Same.f kj11 t319 t322).bind fun t325 => (some ((t315.toList == t317.toList) == t325))) = some r := H
                have A19 := Aside0.mk A190
                clear A190
                replace H := Option.bind_eq_some_iff.mp H
                obtain ⟨t325, A200, H⟩ := H
                replace H : (some ((t315.toList == t317.toList) == t325)) = some r := H
                have A20 := Aside0.mk A200
                clear A200
                obtain rfl := Option.some.inj H
                go_wp2_with (first | (go_at_call 23; (with_reducible refine (parser_Strip.calls _ _ l0 t319 _ ?side1 ?side2 A18.out).mono ?_); (case side1 => repeat (first | exact (Kd.C_below HR0.out HB.out) | (with_reducible refine Kd.C_alloc ?_ _) | (with_reducible refine Kd.C_drewN ?_ _) | (with_reducible refine Kd.C_drew ?_))); (case side2 => exact HC0.out); rintro e w21 ⟨v320, rfl, ho0, hb⟩; have n0_ := Aside0.mk (Kd.N_lower ho0 (below_size (by repeat (first | (with_reducible first | exact HB.out | apply below_alloc | apply pw_below_drewN | apply below_drew1) | exact HB.out)))); have n1_ := Aside0.mk (below_step (by repeat (first | (with_reducible first | exact HB.out | apply below_alloc | apply pw_below_drewN | apply below_drew1) | exact HB.out)) hb); clear HB; have HO321 := n0_; have HB := n1_; clear n0_ n1_; (try clear hb); (try clear hb2); (try clear hk); (try clear hi); (try clear ho0)) | (go_at_call 23; (with_reducible refine (parser_Strip.calls _ _ l1 t322 _ ?side1 ?side2 A19.out).mono ?_); (case side1 => repeat (first | exact (Kd.C_below HR1.out HB.out) | (with_reducible refine Kd.C_alloc ?_ _) | (with_reducible refine Kd.C_drewN ?_ _) | (with_reducible refine Kd.C_drew ?_))); (case side2 => exact HC1.out); rintro e w22 ⟨v323, rfl, ho0, hb⟩; have n0_ := Aside0.mk (Kd.N_elder' (by (with_reducible repeat (first | apply Kd.N_alloc | apply Kd.N_drewN | apply Kd.N_drew)); exact HO321.out) (Kd.N_base ho0) hb); have n1_ := Aside0.mk (Kd.N_lower ho0 (below_size (by repeat (first | (with_reducible first | exact HB.out | apply below_alloc | apply pw_below_drewN | apply below_drew1) | exact HB.out)))); have n2_ := Aside0.mk (below_step (by repeat (first | (with_reducible first | exact HB.out | apply below_alloc | apply pw_below_drewN | apply below_drew1) | exact HB.out)) hb); clear HO321; clear HB; have HO321 := n0_; have HO324 := n1_; have HB := n2_; clear n0_ n1_ n2_; (try clear hb); (try clear hb2); (try clear hk); (try clear hi); (try clear ho0); obtain ⟨Ao23, co23, eo23⟩ := Kd.N_slice HO321.out; subst eo23; obtain ⟨Ao24, co24, eo24⟩ := Kd.N_slice HO324.out; subst eo24) | (go_at_call 22; (with_reducible refine (slotmeshref02_Same.calls kj11 _ _ t319 _ _ t322 t325 _ ?side1 ?side2 ?side3 ?side4 A20.out).mono ?_); (case side1 => repeat (first | exact (Kd.N_reads' HO321.out).2.2 | (with_reducible refine Kd.C_alloc ?_ _) | (with_reducible refine Kd.C_drewN ?_ _) | (with_reducible refine Kd.C_drew ?_))); (case side2 => exact (Kd.N_reads' HO321.out).2.1); (case side3 => repeat (first | exact (Kd.N_reads' HO324.out).2.2 | (with_reducible refine Kd.C_alloc ?_ _) | (with_reducible refine Kd.C_drewN ?_ _) | (with_reducible refine Kd.C_drew ?_))); (case side4 => exact (Kd.N_reads' HO324.out).2.1); rintro e w' ⟨rfl, ⟨nd, rfl⟩⟩))
                go_ret
                exact ⟨by first | rfl | (simp [errW_none, errW_some] <;> rfl) | (simp [*, errW_none, errW_some] <;> rfl), by repeat (first | (with_reducible first | exact HB.out | apply below_alloc | apply pw_below_drewN | apply below_drew1) | exact HB.out)⟩
              · replace c17 := Bool.eq_false_iff.mpr c17
                subst c17
                have H1 : (some false) = some r := by rw [if_neg (show ¬ (false = true) by decide)] at H; exact H
                clear H
                have H := H1
                clear H1
                obtain rfl := Option.some.inj H
                go_wp2
                go_ret
                exact ⟨by first | rfl | (simp [errW_none, errW_some] <;> rfl) | (simp [*, errW_none, errW_some] <;> rfl), by repeat (first | (with_reducible first | exact HB.out | apply below_alloc | apply pw_below_drewN | apply below_drew1) | exact HB.out)⟩

end Go.Proofs.YtdedlchpjboceaaDoor.PE
end

section
/-
  Plain words: where a script may be cut, and what its tokens are then.
-/
namespace Go.Proofs.YtdedlchpjboceaaDoor.Lx

/-- The class of the last span; 0 where there is none. -/
def lastK (xs : List Sp) : Int := match xs.getLast? with | some x => x.k | none => 0
theorem lastK_nil : lastK [] = 0 := rfl
theorem lastK_one (x : Sp) : lastK [x] = x.k := rfl
theorem lastK_cons (x y : Sp) (xs : List Sp) : lastK (x :: y :: xs) = lastK (y :: xs) := by simp [lastK, List.getLast?_cons_cons]
theorem lastK_append (xs : List Sp) (y : Sp) (ys : List Sp) : lastK (xs ++ y :: ys) = lastK (y :: ys) := by
  induction xs with
  | nil => rfl
  | cons x xs ih => cases xs with
    | nil => exact lastK_cons _ _ _
    | cons z zs => rw [List.cons_append, List.cons_append, lastK_cons]; exact ih

/-- Where q may stand behind p: its first byte does not go on with p's last span. -/
def CutOk (k : Int) (q : List UInt8) : Prop := ∀ c, q.head? = some c → cont k c = false
theorem cut_nil (k : Int) : CutOk k [] := fun c h => by simp at h

theorem tw_all {P : UInt8 → Bool} {a q : List UInt8} (ha : ∀ x ∈ a, P x = true) (hq : ∀ c, q.head? = some c → P c = false) : (a ++ q).takeWhile P = a ∧ (a ++ q).dropWhile P = q := by
  induction a with
  | nil =>
    cases q with
    | nil => simp
    | cons c q => have := hq c rfl; simp [this]
  | cons x a ih =>
    have h1 := ih (fun y hy => ha y (List.mem_cons_of_mem _ hy))
    have h2 := ha x List.mem_cons_self
    simp [h2, h1.1, h1.2]
theorem tw_split (P : UInt8 → Bool) (t : List UInt8) : ∃ a b, t = a ++ b ∧ t.takeWhile P = a ∧ t.dropWhile P = b ∧ (∀ x ∈ a, P x = true) ∧ (∀ c, b.head? = some c → P c = false) := by
  refine ⟨t.takeWhile P, t.dropWhile P, List.takeWhile_append_dropWhile.symm, rfl, rfl, mem_tw t, ?_⟩
  induction t with
  | nil => intro c h; simp at h
  | cons x t ih =>
    intro c h
    by_cases hx : P x = true
    · rw [List.dropWhile_cons_of_pos hx] at h; exact ih c h
    · rw [List.dropWhile_cons_of_neg hx] at h; simp at h; subst h; simpa using hx

theorem spans_one (c : UInt8) (a : List UInt8) (o : Nat) (ha : ∀ x ∈ a, cont (cls c) x = true) : spans (c :: a) o = [⟨o, cls c, c :: a⟩] := by
  have h := tw_all (q := []) ha (fun c h => by simp at h)
  rw [List.append_nil] at h
  rw [spans_cons, h.1, h.2, spans_nil]
theorem spans_head (c : UInt8) (a b : List UInt8) (o : Nat) (ha : ∀ x ∈ a, cont (cls c) x = true) (hb : CutOk (cls c) b) : spans (c :: (a ++ b)) o = ⟨o, cls c, c :: a⟩ :: spans b (o + 1 + a.length) := by
  have h := tw_all ha hb
  rw [spans_cons, h.1, h.2]

theorem spans_append (p : List UInt8) : ∀ (q : List UInt8) (o : Nat), CutOk (lastK (spans p o)) q → spans (p ++ q) o = spans p o ++ spans q (o + p.length) := by
  induction hn : p.length using Nat.strongRecOn generalizing p with
  | _ n ih =>
    intro q o h
    cases p with
    | nil => simp [spans_nil]; simp at hn; subst hn; rfl
    | cons c t =>
      obtain ⟨a, b, rfl, h1, h2, ha, hb⟩ := tw_split (cont (cls c)) t
      cases b with
      | nil =>
        rw [List.append_nil] at h ⊢
        rw [spans_one c a o ha] at h ⊢
        rw [lastK_one] at h
        rw [List.cons_append, spans_head c a q o ha h]
        simp only [List.length_cons, List.length_append, List.length_nil] at hn
        subst hn
        simp only [List.singleton_append]
        rw [show o + 1 + a.length = o + (a.length + 0 + 1) by omega]
      | cons d b =>
        have e1 : spans (c :: (a ++ d :: b)) o = ⟨o, cls c, c :: a⟩ :: spans (d :: b) (o + 1 + a.length) := spans_head c a (d :: b) o ha hb
        have e2 : spans (d :: b) (o + 1 + a.length) = ⟨o + 1 + a.length, cls d, d :: b.takeWhile (cont (cls d))⟩ :: spans (b.dropWhile (cont (cls d))) (o + 1 + a.length + 1 + (b.takeWhile (cont (cls d))).length) := spans_cons _ _ _
        have e3 : lastK (spans (c :: (a ++ d :: b)) o) = lastK (spans (d :: b) (o + 1 + a.length)) := by rw [e1, e2, lastK_cons]
        rw [e3] at h
        simp only [List.length_cons, List.length_append] at hn
        have := ih (d :: b).length (by simp only [List.length_cons]; omega) (d :: b) rfl q (o + 1 + a.length) h
        rw [e1, List.cons_append, List.append_assoc, spans_head c a (d :: b ++ q) o ha (fun x hx => hb x (by simpa using hx)), this, List.cons_append]
        simp only [List.length_cons]
        rw [show o + 1 + a.length + (b.length + 1) = o + n by omega]

def shiftS (d : Nat) (x : Sp) : Sp := ⟨x.o + d, x.k, x.t⟩
theorem spans_shift (l : List UInt8) : ∀ (o d : Nat), spans l (o + d) = (spans l o).map (shiftS d) := by
  induction hn : l.length using Nat.strongRecOn generalizing l with
  | _ n ih =>
    intro o d
    cases l with
    | nil => simp [spans_nil]
    | cons c t =>
      have h1 := dw_le (cont (cls c)) t
      simp only [List.length_cons] at hn
      rw [spans_cons, spans_cons, List.map_cons, ← ih _ (by omega) _ rfl]
      rw [show o + d + 1 + (t.takeWhile (cont (cls c))).length = o + 1 + (t.takeWhile (cont (cls c))).length + d by omega]
      rfl

/-- Spans parted are bytes parted. -/
theorem spans_split (A : List Sp) : ∀ (l : List UInt8) (o : Nat) (B : List Sp), spans l o = A ++ B → ∃ p q, l = p ++ q ∧ spans p o = A ∧ spans q (o + p.length) = B ∧ CutOk (lastK A) q := by
  induction A with
  | nil => intro l o B h; exact ⟨[], l, rfl, spans_nil _, by simpa using h, fun c _ => cont_other (by decide) (by decide) (by decide) c⟩
  | cons x A ih =>
    intro l o B h
    cases l with
    | nil => rw [spans_nil] at h; cases h
    | cons c t =>
      obtain ⟨a, b, rfl, h1, h2, ha, hb⟩ := tw_split (cont (cls c)) t
      rw [spans_head c a b o ha hb, List.cons_append] at h
      obtain ⟨hx, hr⟩ := List.cons.inj h
      obtain ⟨p, q, rfl, e1, e2, e3⟩ := ih b _ B hr
      have hpq : CutOk (cls c) p := fun y hy => hb y (by cases p with | nil => simp at hy | cons z p => simpa using hy)
      refine ⟨c :: (a ++ p), q, by simp, ?_, ?_, ?_⟩
      · rw [spans_head c a p o ha hpq, e1, hx]
      · simp only [List.length_cons, List.length_append]; rw [show o + (a.length + p.length + 1) = o + 1 + a.length + p.length by omega]; exact e2
      · cases A with
        | nil =>
          have : p = [] := by
            cases p with
            | nil => rfl
            | cons z p => rw [spans_cons] at e1; cases e1
          subst this
          rw [lastK_one, ← hx]
          exact fun y hy => hb y (by simpa using hy)
        | cons y A => rw [lastK_cons]; exact e3

/-- Where spans begin. -/
theorem spans_bytes (l : List UInt8) : ∀ o, (spans l o).flatMap (·.t) = l := by
  induction hn : l.length using Nat.strongRecOn generalizing l with
  | _ n ih =>
    intro o
    cases l with
    | nil => simp [spans_nil]
    | cons c t =>
      have h1 := dw_le (cont (cls c)) t
      simp only [List.length_cons] at hn
      rw [spans_cons, List.flatMap_cons, ih _ (by omega) _ rfl]
      simp [List.takeWhile_append_dropWhile]

/-! ### Tokens -/
def gapB (x : Sp) : Bool := decide (x.k = 1 ∨ x.k = 2)
def tokB (x : Sp) : Option Tk := if gapB x then none else match tokOf x.k x.t x.o with | .ok t => some t | .error _ => none
def goodB (x : Sp) : Prop := gapB x = true ∨ (x.k ≠ 0 ∧ ∃ t, tokOf x.k x.t x.o = .ok t)
def toks (xs : List Sp) : List Tk := xs.filterMap tokB
theorem toks_append (A B : List Sp) : toks (A ++ B) = toks A ++ toks B := by simp [toks]
theorem toks_cons (x : Sp) (B : List Sp) : toks (x :: B) = toks [x] ++ toks B := by rw [← toks_append]; rfl
theorem toks_gap {x : Sp} (h : gapB x = true) : toks [x] = [] := by simp [toks, tokB, h]
theorem toks_tok {x : Sp} {t : Tk} (h : gapB x = false) (ht : tokOf x.k x.t x.o = .ok t) : toks [x] = [t] := by simp [toks, tokB, h, ht]
theorem pstep_gap {x : Sp} (h : gapB x = true) (ts : List Tk) : pstep (.ok ts) x = .ok ts := by
  simp only [gapB, decide_eq_true_eq] at h; simp [pstep, h]
theorem pstep_tok {x : Sp} {t : Tk} (h : gapB x = false) (h0 : x.k ≠ 0) (ht : tokOf x.k x.t x.o = .ok t) (ts : List Tk) (hl : ts.length ≠ 2000) : pstep (.ok ts) x = .ok (ts ++ [t]) := by
  simp only [gapB, decide_eq_false_iff_not] at h; simp only [pstep]; rw [if_neg h, if_neg h0, if_neg hl, ht]

theorem fold_ok (xs : List Sp) : ∀ ts, (∀ x ∈ xs, goodB x) → ts.length + (toks xs).length ≤ 2000 → xs.foldl pstep (.ok ts) = .ok (ts ++ toks xs) := by
  induction xs with
  | nil => intro ts _ _; simp [toks]
  | cons x xs ih =>
    intro ts hg hl
    rw [toks_cons, List.length_append] at hl
    rw [List.foldl_cons, toks_cons]
    rcases hg x List.mem_cons_self with h | ⟨h0, t, ht⟩
    · rw [pstep_gap h, ih ts (fun y hy => hg y (List.mem_cons_of_mem _ hy)) (by omega), toks_gap h, List.nil_append]
    · by_cases h : gapB x = true
      · rw [pstep_gap h, ih ts (fun y hy => hg y (List.mem_cons_of_mem _ hy)) (by omega), toks_gap h, List.nil_append]
      · have h' : gapB x = false := by simpa using h
        rw [toks_tok h' ht] at hl ⊢
        simp only [List.length_cons, List.length_nil] at hl
        rw [pstep_tok h' h0 ht ts (by omega), ih (ts ++ [t]) (fun y hy => hg y (List.mem_cons_of_mem _ hy)) (by simp only [List.length_append, List.length_cons, List.length_nil]; omega), List.append_assoc]
theorem fold_ok_inv (xs : List Sp) : ∀ ts us, ts.length ≤ 2000 → xs.foldl pstep (.ok ts) = .ok us → (∀ x ∈ xs, goodB x) ∧ us = ts ++ toks xs ∧ us.length ≤ 2000 := by
  induction xs with
  | nil => intro ts us hl h; simp at h; subst h; exact ⟨fun x hx => by simp at hx, by simp [toks], hl⟩
  | cons x xs ih =>
    intro ts us hl h
    rw [List.foldl_cons] at h
    by_cases hg : gapB x = true
    · rw [pstep_gap hg] at h
      obtain ⟨a, b, c⟩ := ih ts us hl h
      exact ⟨fun y hy => by rcases List.mem_cons.1 hy with rfl | hy; exact .inl hg; exact a y hy, by rw [toks_cons, toks_gap hg]; exact b, c⟩
    · have h' : gapB x = false := by simpa using hg
      have h'' := h'
      simp only [gapB, decide_eq_false_iff_not] at h''
      simp only [pstep] at h
      rw [if_neg h''] at h
      split at h
      · rw [foldl_error] at h; cases h
      · rename_i h0
        split at h
        · rw [foldl_error] at h; cases h
        · rename_i h2
          split at h
          · rw [foldl_error] at h; cases h
          · rename_i t ht
            obtain ⟨a, b, c⟩ := ih (ts ++ [t]) us (by simp only [List.length_append, List.length_cons, List.length_nil]; omega) h
            refine ⟨fun y hy => ?_, ?_, c⟩
            · rcases List.mem_cons.1 hy with rfl | hy
              · exact .inr ⟨h0, t, ht⟩
              · exact a y hy
            · rw [toks_cons, toks_tok h' ht, b, List.append_assoc]
/-- A script lexes to its tokens: just where all is good and there are not too many. -/
theorem procF_ok_iff (xs : List Sp) (us : List Tk) : procF xs = .ok us ↔ (∀ x ∈ xs, goodB x) ∧ us = toks xs ∧ (toks xs).length ≤ 2000 := by
  constructor
  · intro h
    obtain ⟨a, b, c⟩ := fold_ok_inv xs [] us (by simp) h
    rw [List.nil_append] at b
    subst b
    exact ⟨a, rfl, c⟩
  · rintro ⟨a, rfl, c⟩
    exact fold_ok xs [] a (by simpa using c)
/-- The first error. -/
theorem fold_err_inv (xs : List Sp) : ∀ ts e, ts.length ≤ 2000 → xs.foldl pstep (.ok ts) = .error e → ∃ A x B, xs = A ++ x :: B ∧ (∀ y ∈ A, goodB y) ∧ ts.length + (toks A).length ≤ 2000 ∧ gapB x = false ∧ pstep (.ok (ts ++ toks A)) x = .error e := by
  induction xs with
  | nil => intro ts e _ h; simp at h
  | cons x xs ih =>
    intro ts e hl h
    rw [List.foldl_cons] at h
    cases hp : pstep (.ok ts) x with
    | error e' =>
      rw [hp, foldl_error] at h
      refine ⟨[], x, xs, rfl, fun y hy => by simp at hy, by simpa [toks] using hl, ?_, by simpa [toks, hp] using h⟩
      cases hg : gapB x with
      | false => rfl
      | true => rw [pstep_gap hg] at hp; cases hp
    | ok us =>
      rw [hp] at h
      have h1 := fold_ok_inv [x] ts us hl (by simpa using hp)
      obtain ⟨A, y, B, rfl, a, b, c, d⟩ := ih us e h1.2.2 h
      refine ⟨x :: A, y, B, rfl, fun z hz => ?_, ?_, c, ?_⟩
      · rcases List.mem_cons.1 hz with rfl | hz
        · exact h1.1 z (by simp)
        · exact a z hz
      · have e1 := congrArg List.length h1.2.1
        rw [toks_cons, List.length_append]; rw [List.length_append] at e1; omega
      · rw [toks_cons, ← List.append_assoc, ← h1.2.1]; exact d

theorem tokOf_shift {k : Int} {t : List UInt8} {o : Nat} (d : Nat) : tokOf k t (o + d) = (match tokOf k t o with | .ok x => .ok ⟨x.kind, x.t, x.n, x.o + d⟩ | .error e => .error e) := by
  unfold tokOf
  by_cases h3 : k = 3
  · simp only [h3, if_true]; split <;> rfl
  · by_cases h4 : k = 4
    · rw [if_neg h3, if_neg h3, if_pos h4, if_pos h4]; split
      · rfl
      · split <;> rfl
    · rw [if_neg h3, if_neg h3, if_neg h4, if_neg h4]
def shiftT (d : Nat) (x : Tk) : Tk := ⟨x.kind, x.t, x.n, x.o + d⟩
theorem goodB_shift (d : Nat) (x : Sp) : goodB (shiftS d x) ↔ goodB x := by
  unfold goodB gapB shiftS
  simp only [tokOf_shift]
  constructor
  · rintro (h | ⟨h0, t, h⟩)
    · exact .inl h
    · refine .inr ⟨h0, ?_⟩
      split at h
      · rename_i y hy; exact ⟨y, hy⟩
      · cases h
  · rintro (h | ⟨h0, t, h⟩)
    · exact .inl h
    · exact .inr ⟨h0, _, by rw [h]⟩
theorem tokB_shift (d : Nat) (x : Sp) : tokB (shiftS d x) = (tokB x).map (shiftT d) := by
  unfold tokB gapB shiftS
  simp only [tokOf_shift]
  split
  · rfl
  · cases tokOf x.k x.t x.o <;> rfl
theorem toks_shift (d : Nat) (xs : List Sp) : toks (xs.map (shiftS d)) = (toks xs).map (shiftT d) := by
  induction xs with
  | nil => rfl
  | cons x xs ih =>
    rw [List.map_cons, toks_cons, toks_cons x xs, ih, List.map_append]
    congr 1
    unfold toks
    rw [List.filterMap_cons, List.filterMap_cons, tokB_shift]
    cases tokB x <;> rfl

end Go.Proofs.YtdedlchpjboceaaDoor.Lx
end

section
/-
  Plain words, to be reckoned: spans, numerals, lines; what the lexer, the parser and the printer answer to what is given.
-/
namespace Go.Proofs.YtdedlchpjboceaaDoor.Qz
open Go.RowKit Go.Proofs.YtdedlchpjboceaaDoorW.PrintWords Go.Proofs.YtdedlchpjboceaaDoorW.PrintLast Go.Proofs.YtdedlchpjboceaaDoor.Lx Go.Proofs.YtdedlchpjboceaaDoor.Px Go.Proofs.YtdedlchpjboceaaDoor.Tx

/-- Spans, to be reckoned. -/
def spansF : Nat → List UInt8 → Nat → List Sp
  | 0, _, _ => []
  | _ + 1, [], _ => []
  | n + 1, c :: t, o => ⟨o, cls c, c :: t.takeWhile (cont (cls c))⟩ :: spansF n (t.dropWhile (cont (cls c))) (o + 1 + (t.takeWhile (cont (cls c))).length)
theorem spansF_eq (n : Nat) : ∀ (l : List UInt8) (o : Nat), l.length ≤ n → spansF n l o = spans l o := by
  induction n with
  | zero => intro l o h; obtain rfl := List.eq_nil_of_length_eq_zero (Nat.le_zero.1 h); rw [spans_nil]; rfl
  | succ n ih =>
    intro l o h
    cases l with
    | nil => rw [spans_nil]; rfl
    | cons c t =>
      have := dw_le (cont (cls c)) t
      simp only [List.length_cons] at h
      rw [spans_cons]; simp only [spansF]; rw [ih _ _ (by omega)]
def lexF (s : List UInt8) : Except (Int × Nat) (List Tk) := if 8000 < s.length then .error (2, 0) else procF (spansF s.length s 0)
theorem lex_eq (s : List UInt8) : Lx.lex s = lexF s := by unfold Lx.lex lexF; rw [spansF_eq _ _ _ (Nat.le_refl _)]
/-- Digits, to be reckoned. -/
def decF : Nat → Nat → List UInt8
  | 0, _ => []
  | n + 1, u => if u < 10 then [UInt8.ofNat (48 + u)] else decF n (u / 10) ++ [UInt8.ofNat (48 + u % 10)]
theorem decF_eq : ∀ (n u : Nat), u < 10 ^ n → 1 ≤ n → Lib.decDigits u = decF n u
  | 0, _, _, h => absurd h (by decide)
  | n + 1, u, h, _ => by
    rw [Lib.decDigits]
    unfold decF
    by_cases h10 : u < 10
    · rw [dif_pos h10, if_pos h10]
    · rw [dif_neg h10, if_neg h10]
      have hn : 1 ≤ n := by
        cases n with
        | zero => simp at h; omega
        | succ n => omega
      rw [decF_eq n (u / 10) (by rw [Nat.pow_succ] at h; omega) hn]
theorem itoa_nat (u : Nat) : Lib.itoa (u : Int) = Lib.decDigits u := by unfold Lib.itoa; rw [if_neg (by omega)]; simp
theorem absI_nat (n : Int) : absI n = ((absI n).toNat : Int) := by unfold absI; omega
theorem itoa_abs {n : Int} (h1 : -1000000000 ≤ n) (h2 : n ≤ 1000000000) : Lib.itoa (absI n) = decF 10 (absI n).toNat := by
  have := absI_le h1 h2
  rw [absI_nat n, itoa_nat]
  simp only [Int.toNat_natCast]
  exact decF_eq 10 _ (by have : absI n ≤ 1000000000 := this.2; omega) (by decide)
/-- A form laid in, to be reckoned. -/
def rendF : List UInt8 → List UInt8 → List Int → Option (List UInt8)
  | [], _, _ => some []
  | c :: t, nm, ns =>
    if c = 78 then (rendF t nm ns).map (fun x => nm ++ x)
    else if c = 37 then (if ns = [] then none else (rendF t nm ns.tail).map (fun x => (if ns.headD 0 < 0 then slowW else fastW) ++ (decF 10 (absI (ns.headD 0)).toNat ++ x)))
    else if c = 35 then (if ns = [] then none else (rendF t nm ns.tail).map (fun x => decF 10 (absI (ns.headD 0)).toNat ++ x))
    else (rendF t nm ns).map (fun x => c :: x)
theorem rendF_eq : ∀ (fm nm : List UInt8) (ns : List Int), (∀ n ∈ ns, -1000000000 ≤ n ∧ n ≤ 1000000000) → rend fm nm ns = rendF fm nm ns
  | [], _, _, _ => rfl
  | c :: t, nm, ns, h => by
    unfold rend rendF
    rw [rendF_eq t nm ns h, rendF_eq t nm ns.tail (fun n hn => h n (List.mem_of_mem_tail hn))]
    cases ns with
    | nil => rfl
    | cons n ns =>
      have hn := h n (by simp)
      rw [show (n :: ns).headD 0 = n from rfl, itoa_abs hn.1 hn.2]
def lineF (c : Cmd) : List UInt8 := (rendF (formB c.f0) c.f1.data.toList c.f2).getD []
theorem lineF_eq {c : Cmd} (h : cB c = true) : lineT c = lineF c := by
  unfold lineT lineF
  rw [rendF_eq _ _ _ (valid_kind h).2.2.2.2]
def printF (l : List Cmd) : List UInt8 := l.flatMap (fun c => lineF c ++ [59, 10])
theorem printF_eq : ∀ {l : List Cmd}, (∀ c ∈ l, cB c = true) → printB l = printF l
  | [], _ => rfl
  | c :: l, h => by
    have h1 := lineF_eq (h c (by simp))
    have h2 := printF_eq (l := l) (fun d hd => h d (List.mem_cons_of_mem _ hd))
    show (lineT c ++ [59, 10]) ++ printB l = (lineF c ++ [59, 10]) ++ printF l
    rw [h1, h2]
theorem validB_mem {l : List Cmd} (h : validB l = true) : l.length ≤ 300 ∧ ∀ c ∈ l, cB c = true := by
  unfold validB at h
  rw [Bool.and_eq_true, decide_eq_true_eq] at h
  exact ⟨by omega, fun c hc => List.all_eq_true.1 h.2 c hc⟩
/-- What Print answers, to be reckoned. -/
def printRF (l : List Cmd) : ByteArray × Int :=
  if validB l = true then (match lexF (printF l) with | .ok _ => (⟨(printF l).toArray⟩, 0) | .error _ => (⟨#[]⟩, 2)) else (⟨#[]⟩, 1)
theorem printRF_eq (l : List Cmd) : printR l = printRF l := by
  unfold printR printRF
  by_cases h : validB l = true
  · rw [if_pos h, if_pos h, printF_eq (validB_mem h).2, lex_eq]
    rfl
  · rw [if_neg h, if_neg h]
/-- What Parse answers, to be reckoned. -/
def parseRF (s : ByteArray) : List Cmd × List Dg :=
  match lexF s.data.toList with
  | .error e => ([], [⟨e.1, (e.2 : Nat)⟩])
  | .ok ts => pEnd (pLoop s.size ts.length (ts.map toTk) [] []).1 (pLoop s.size ts.length (ts.map toTk) [] []).2
theorem parseRF_eq (s : ByteArray) : parseR s = parseRF s := by unfold parseR parseRF; rw [lex_eq]; rfl

end Go.Proofs.YtdedlchpjboceaaDoor.Qz
end

section
/-
  Plain words: a script that is written out of words with gaps behind them; its tokens.
-/
namespace Go.Proofs.YtdedlchpjboceaaDoor.Qz
open Go.RowKit Go.Proofs.YtdedlchpjboceaaDoorW.PrintWords Go.Proofs.YtdedlchpjboceaaDoorW.PrintLast Go.Proofs.YtdedlchpjboceaaDoor.Lx Go.Proofs.YtdedlchpjboceaaDoor.Px Go.Proofs.YtdedlchpjboceaaDoor.Tx

/-! ### numerals -/
theorem val_snoc (l : List UInt8) (c : UInt8) : val (l ++ [c]) = 10 * val l + (c.toNat - 48) := by simp [val]
theorem dig_toNat {u : Nat} (h : u < 10) : (UInt8.ofNat (48 + u)).toNat = 48 + u := by
  simp only [UInt8.toNat_ofNat']; omega
theorem cls_digit {c : UInt8} (h : 48 ≤ c.toNat ∧ c.toNat ≤ 57) : cls c = 4 := by
  unfold cls clsI
  rw [if_neg (by omega), if_neg (by omega), if_neg (by omega), if_pos (by omega)]
theorem dec_facts (u : Nat) : Lib.decDigits u ≠ [] ∧ (∀ c ∈ Lib.decDigits u, 48 ≤ c.toNat ∧ c.toNat ≤ 57) ∧ val (Lib.decDigits u) = u ∧ (1 ≤ u → (Lib.decDigits u).head? ≠ some 48) := by
  induction u using Nat.strongRecOn with
  | _ u ih =>
    by_cases h : u < 10
    · rw [Lib.decDigits_one h]
      refine ⟨by simp, ?_, ?_, ?_⟩
      · intro c hc
        obtain rfl := List.mem_singleton.1 hc
        rw [dig_toNat h]; omega
      · show 10 * 0 + ((UInt8.ofNat (48 + u)).toNat - 48) = u
        rw [dig_toNat h]; omega
      · intro hu he
        have : UInt8.ofNat (48 + u) = 48 := by simpa using he
        have := congrArg UInt8.toNat this
        rw [dig_toNat h] at this
        have h48 : (48 : UInt8).toNat = 48 := rfl
        omega
    · rw [Lib.decDigits, dif_neg h]
      obtain ⟨h1, h2, h3, h4⟩ := ih (u / 10) (by omega)
      have hd : u % 10 < 10 := Nat.mod_lt _ (by decide)
      refine ⟨by simp, ?_, ?_, ?_⟩
      · intro c hc
        rcases List.mem_append.1 hc with hc | hc
        · exact h2 c hc
        · obtain rfl := List.mem_singleton.1 hc
          rw [dig_toNat hd]; omega
      · rw [val_snoc, h3, dig_toNat hd]; omega
      · intro _
        rw [List.head?_append]
        cases hl : Lib.decDigits (u / 10) with
        | nil => exact absurd hl h1
        | cons c t =>
          have := h4 (by omega)
          rw [hl] at this
          simpa using this

/-! ### words -/
inductive Wd where
  | nm (t : List UInt8)
  | num (u : Nat)
  | semi
def Wd.txt : Wd → List UInt8
  | .nm t => t
  | .num u => Lib.decDigits u
  | .semi => [59]
def Wd.tk (o : Nat) : Wd → Tk
  | .nm t => ⟨1, t, 0, o⟩
  | .num u => ⟨2, [], (u : Int), o⟩
  | .semi => ⟨3, [59], 0, o⟩
def nameW (t : List UInt8) : Prop := t.length ≤ 12 ∧ ∃ c a, t = c :: a ∧ cls c = 3 ∧ ∀ y ∈ a, cont 3 y = true
def Wd.ok : Wd → Prop
  | .nm t => nameW t
  | .num u => u ≤ 1000000000
  | .semi => True
/-- A word's text is one span; its token. -/
theorem Wd.span {x : Wd} (h : x.ok) : ∃ c a, x.txt = c :: a ∧ (∀ y ∈ a, cont (cls c) y = true) ∧ (cls c = 3 ∨ cls c = 4 ∨ cls c = 5) ∧ ∀ o, tokOf (cls c) x.txt o = .ok (x.tk o) := by
  cases x with
  | nm t =>
    obtain ⟨h1, c, a, rfl, h3, h4⟩ := h
    refine ⟨c, a, rfl, by rw [h3]; exact h4, .inl h3, fun o => ?_⟩
    rw [h3]
    show tokOf 3 (c :: a) o = .ok ⟨1, c :: a, 0, o⟩
    unfold tokOf
    rw [if_pos rfl, if_neg (by omega)]
  | num u =>
    have hu : u ≤ 1000000000 := h
    obtain ⟨h1, h2, h3, h4⟩ := dec_facts u
    cases hl : Lib.decDigits u with
    | nil => exact absurd hl h1
    | cons c a =>
      rw [hl] at h2 h3 h4
      have hc := cls_digit (h2 c (by simp))
      refine ⟨c, a, hl, fun y hy => ?_, .inr (.inl hc), fun o => ?_⟩
      · rw [hc, cont_four]
        unfold pDigit
        have := cls_digit (h2 y (List.mem_cons_of_mem _ hy))
        unfold cls at this
        simp [this]
      · rw [hc]
        show tokOf 4 (Lib.decDigits u) o = .ok ⟨2, [], (u : Int), o⟩
        rw [hl]
        unfold tokOf
        rw [if_neg (by decide), if_pos rfl, if_neg, if_neg (by rw [h3]; omega), h3]
        rintro ⟨g1, g2⟩
        by_cases hu1 : 1 ≤ u
        · exact h4 hu1 g2
        · have hu0 : u = 0 := by omega
          subst hu0
          rw [Lib.decDigits_one (by decide)] at hl
          injection hl with _ hl
          subst hl
          simp at g1
  | semi =>
    refine ⟨59, [], rfl, by simp, .inr (.inr (by decide)), fun o => ?_⟩
    show tokOf (cls 59) [59] o = .ok ⟨3, [59], 0, o⟩
    rfl

/-! ### words with gaps -/
abbrev Pcs := List (Wd × List UInt8)
def flat (ps : Pcs) : List UInt8 := ps.flatMap (fun p => p.1.txt ++ p.2)
theorem flat_cons (x : Wd) (g : List UInt8) (ps : Pcs) : flat ((x, g) :: ps) = x.txt ++ (g ++ flat ps) := by simp [flat]
theorem flat_append (a b : Pcs) : flat (a ++ b) = flat a ++ flat b := by simp [flat]
def pTk : Pcs → Nat → List Tk
  | [], _ => []
  | (x, g) :: ps, o => x.tk o :: pTk ps (o + x.txt.length + g.length)
theorem pTk_length : ∀ (ps : Pcs) (o : Nat), (pTk ps o).length = ps.length
  | [], _ => rfl
  | (_, _) :: ps, o => by show (pTk ps _).length + 1 = ps.length + 1; rw [pTk_length ps]
theorem pTk_append : ∀ (a b : Pcs) (o : Nat), pTk (a ++ b) o = pTk a o ++ pTk b (o + (flat a).length)
  | [], b, o => by simp [pTk, flat]
  | (x, g) :: a, b, o => by
    show x.tk o :: pTk (a ++ b) _ = x.tk o :: (pTk a _ ++ pTk b _)
    rw [pTk_append a b, flat_cons, List.length_append, List.length_append]
    congr 3; omega
/-- A gap: nothing but gaps, and nothing goes on with its last span. -/
def GapL (g : List UInt8) : Prop := (∀ o, ∀ x ∈ spans g o, gapB x = true) ∧ ∀ o c, cont (lastK (spans g o)) c = false
theorem gapL_nil : GapL [] := ⟨fun o x hx => (by rw [spans_nil] at hx; cases hx), fun o c => by rw [spans_nil, lastK_nil]; exact cont_other (by decide) (by decide) (by decide) c⟩
theorem spans_single (c : UInt8) (o : Nat) : spans [c] o = [⟨o, cls c, [c]⟩] := spans_one c [] o (by simp)
theorem gapL_blank {c : UInt8} (h : cls c = 1) : GapL [c] := by
  refine ⟨fun o x hx => ?_, fun o d => ?_⟩
  · rw [spans_single] at hx
    obtain rfl := List.mem_singleton.1 hx
    simp [gapB, h]
  · rw [spans_single, lastK_one, show (⟨o, cls c, [c]⟩ : Sp).k = 1 from h]
    exact cont_other (by decide) (by decide) (by decide) d
/-- Each word is one, the gaps are gaps, and no word goes on behind. -/
def PsOk : Pcs → Prop
  | [] => True
  | (x, g) :: ps => x.ok ∧ GapL g ∧ (x = .semi ∨ ∀ c, (g ++ flat ps).head? = some c → cls c ≠ 3 ∧ cls c ≠ 4 ∧ c ≠ 95) ∧ PsOk ps
theorem cont_low {k : Int} (h : k = 3 ∨ k = 4) {c : UInt8} (hc : cls c ≠ 3 ∧ cls c ≠ 4 ∧ c ≠ 95) : cont k c = false := by
  rcases h with rfl | rfl
  · rw [cont_three]; unfold pName
    have h1 := hc.1; have h2 := hc.2.1
    unfold cls at h1 h2
    simp only [decide_eq_false_iff_not, not_or]
    refine ⟨h1, h2, fun e => hc.2.2 ?_⟩
    have : c.toNat = 95 := by exact_mod_cast e
    exact UInt8.toNat_inj.1 this
  · rw [cont_four]; unfold pDigit
    have h2 := hc.2.1
    unfold cls at h2
    simpa using h2
theorem flat_spans : ∀ (ps : Pcs) (o : Nat), PsOk ps → (∀ y ∈ spans (flat ps) o, goodB y) ∧ toks (spans (flat ps) o) = pTk ps o
  | [], o, _ => by
    show (∀ y ∈ spans [] o, goodB y) ∧ toks (spans [] o) = []
    rw [spans_nil]; exact ⟨by simp, rfl⟩
  | (x, g) :: ps, o, h => by
    obtain ⟨h1, h2, h3, h4⟩ := h
    obtain ⟨c, a, e1, e2, e3, e4⟩ := Wd.span h1
    have hcut : CutOk (cls c) (g ++ flat ps) := by
      intro d hd
      rcases h3 with h3 | h3
      · subst h3
        have : c = 59 := by have := e1; simp [Wd.txt] at this; exact this.1.symm
        subst this
        exact cont_other (by decide) (by decide) (by decide) d
      · have hd' := h3 d hd
        rcases e3 with e3 | e3 | e3
        · rw [e3]; exact cont_low (.inl rfl) hd'
        · rw [e3]; exact cont_low (.inr rfl) hd'
        · rw [e3]; exact cont_other (by decide) (by decide) (by decide) d
    rw [flat_cons, e1, List.cons_append, spans_head c a (g ++ flat ps) o e2 hcut, spans_append g (flat ps) _ (fun d _ => h2.2 _ d)]
    have hlen : o + 1 + a.length + g.length = o + x.txt.length + g.length := by rw [e1]; simp only [List.length_cons]; omega
    obtain ⟨i1, i2⟩ := flat_spans ps (o + 1 + a.length + g.length) h4
    have hg := h2.1 (o + 1 + a.length)
    have ht : tokOf (cls c) (c :: a) o = .ok (x.tk o) := by rw [← e1]; exact e4 o
    have hgap : gapB ⟨o, cls c, c :: a⟩ = false := by
      unfold gapB
      rcases e3 with e3 | e3 | e3 <;> simp [e3]
    refine ⟨fun y hy => ?_, ?_⟩
    · rcases List.mem_cons.1 hy with rfl | hy
      · exact .inr ⟨by rcases e3 with e3 | e3 | e3 <;> simp [e3], _, ht⟩
      · rcases List.mem_append.1 hy with hy | hy
        · exact .inl (hg y hy)
        · exact i1 y hy
    · rw [toks_cons, toks_append, i2, toks_tok hgap ht]
      have hz : toks (spans g (o + 1 + a.length)) = [] := by
        unfold toks
        rw [List.filterMap_eq_nil_iff]
        intro y hy
        simp [tokB, hg y hy]
      rw [hz, hlen]; rfl
theorem flat_lex {ps : Pcs} (h : PsOk ps) (hl : (flat ps).length ≤ 8000) (hc : ps.length ≤ 2000) : Lx.lex (flat ps) = .ok (pTk ps 0) := by
  obtain ⟨h1, h2⟩ := flat_spans ps 0 h
  unfold Lx.lex
  rw [if_neg (by omega)]
  exact (procF_ok_iff _ _).2 ⟨h1, h2.symm, by rw [h2, pTk_length]; exact hc⟩
theorem flat_lex_ok {ps : Pcs} (h : PsOk ps) {ts : List Tk} (hl : Lx.lex (flat ps) = .ok ts) : (flat ps).length ≤ 8000 ∧ ps.length ≤ 2000 ∧ ts = pTk ps 0 := by
  obtain ⟨h1, h2⟩ := flat_spans ps 0 h
  unfold Lx.lex at hl
  split at hl
  · cases hl
  · rename_i h8
    obtain ⟨a, b, c⟩ := (procF_ok_iff _ _).1 hl
    rw [h2, pTk_length] at c
    exact ⟨by omega, c, by rw [b, h2]⟩

end Go.Proofs.YtdedlchpjboceaaDoor.Qz
end

section
/-
  Plain words: a printed line is words with gaps; what the parser makes of them.
-/
namespace Go.Proofs.YtdedlchpjboceaaDoor.Qz
open Go.RowKit Go.Proofs.YtdedlchpjboceaaDoorW.PrintWords Go.Proofs.YtdedlchpjboceaaDoorW.PrintLast Go.Proofs.YtdedlchpjboceaaDoor.Lx Go.Proofs.YtdedlchpjboceaaDoor.Px Go.Proofs.YtdedlchpjboceaaDoor.Tx

/-- Words of a form: key words, the name, a number, a drift. -/
inductive Fw where
  | K (t : List UInt8)
  | N
  | H
  | D
def formsW : List (List Fw) := [
  [],
  [.K [109, 101, 115, 104], .K [100, 97, 116, 97], .H, .K [114, 97, 110, 103, 101], .H],
  [.K [114, 111, 111, 116], .N, .K [97, 116], .H, .H],
  [.K [110, 111, 100, 101], .N, .K [97, 116], .H, .H, .D, .K [98, 97, 116, 116, 101, 114, 121], .H],
  [.K [97, 116], .H, .K [109, 111, 118, 101], .N, .H, .H],
  [.K [97, 116], .H, .K [102, 97, 105, 108], .N],
  [.K [97, 116], .H, .K [115, 116, 97, 114, 116], .N],
  [.K [97, 116], .H, .K [114, 101, 97, 100], .N, .H],
  [.K [97, 116], .H, .K [106, 97, 109], .H, .H, .K [114, 97, 100, 105, 117, 115], .H, .K [99, 104, 97, 110, 110, 101, 108], .H, .K [102, 111, 114], .H],
  [.K [97, 116], .H, .K [114, 101, 112, 108, 97, 121], .H, .K [97, 116], .H, .H],
  [.K [97, 116], .H, .K [112, 114, 111, 103, 114, 97, 109], .H, .K [115, 105, 122, 101], .H],
  [.K [114, 117, 110], .H]]
def formW (k : Int) : List Fw := formsW.getD k.toNat []
/-- The words of a command, without the semicolon. -/
def wds : List Fw → List UInt8 → List Int → List Wd
  | [], _, _ => []
  | .K t :: r, nm, ns => .nm t :: wds r nm ns
  | .N :: r, nm, ns => .nm nm :: wds r nm ns
  | .H :: r, nm, ns => .num (absI (ns.headD 0)).toNat :: wds r nm ns.tail
  | .D :: r, nm, ns => .nm (if ns.headD 0 < 0 then [115, 108, 111, 119] else [102, 97, 115, 116]) :: .num (absI (ns.headD 0)).toNat :: wds r nm ns.tail
/-- The words with their gaps: a blank between two, a line feed at the end. -/
def gapped : List Wd → Pcs
  | [] => [(.semi, [10])]
  | [x] => [(x, []), (.semi, [10])]
  | x :: y :: r => (x, [32]) :: gapped (y :: r)
def cWds (c : Cmd) : List Wd := wds (formW c.f0) c.f1.data.toList c.f2
def cPs (c : Cmd) : Pcs := gapped (cWds c)
theorem gapped_length : ∀ ws : List Wd, (gapped ws).length = ws.length + 1
  | [] => rfl
  | [_] => rfl
  | _ :: y :: r => by show (gapped (y :: r)).length + 1 = _; rw [gapped_length (y :: r)]; rfl

/-! ### a valid command's parts -/
theorem kinds {k : Int} (h1 : 1 ≤ k) (h2 : k ≤ 11) : k = 1 ∨ k = 2 ∨ k = 3 ∨ k = 4 ∨ k = 5 ∨ k = 6 ∨ k = 7 ∨ k = 8 ∨ k = 9 ∨ k = 10 ∨ k = 11 := by omega
theorem len1 {l : List Int} (h : (l.length : Int) = 1) : ∃ a, l = [a] := by
  match l, h with
  | [a], _ => exact ⟨a, rfl⟩
  | [], h => simp at h
  | _ :: _ :: _, h => simp at h; omega
theorem len2 {l : List Int} (h : (l.length : Int) = 2) : ∃ a b, l = [a, b] := by
  match l, h with
  | [a, b], _ => exact ⟨a, b, rfl⟩
  | [], h => simp at h
  | [_], h => simp at h
  | _ :: _ :: _ :: _, h => simp at h; omega
theorem len3 {l : List Int} (h : (l.length : Int) = 3) : ∃ a b c, l = [a, b, c] := by
  match l, h with
  | a :: l, h => obtain ⟨b, c, rfl⟩ := len2 (l := l) (by simp at h; omega); exact ⟨a, b, c, rfl⟩
  | [], h => simp at h
theorem len4 {l : List Int} (h : (l.length : Int) = 4) : ∃ a b c d, l = [a, b, c, d] := by
  match l, h with
  | a :: l, h => obtain ⟨b, c, d, rfl⟩ := len3 (l := l) (by simp at h; omega); exact ⟨a, b, c, d, rfl⟩
  | [], h => simp at h
theorem len6 {l : List Int} (h : (l.length : Int) = 6) : ∃ a b c d e f, l = [a, b, c, d, e, f] := by
  match l, h with
  | a :: b :: l, h => obtain ⟨c, d, e, f, rfl⟩ := len4 (l := l) (by simp at h; omega); exact ⟨a, b, c, d, e, f, rfl⟩
  | [], h => simp at h
  | [_], h => simp at h
theorem itoa_dec {n : Int} : Lib.itoa (absI n) = Lib.decDigits (absI n).toNat := by
  conv => lhs; rw [absI_nat n]
  exact itoa_nat _
/-- A line is the text of its words. -/
theorem line_flat {c : Cmd} (h : cB c = true) : lineT c ++ [59, 10] = flat (cPs c) := by
  obtain ⟨h1, h2, h3, _, _⟩ := valid_kind h
  obtain ⟨k, nm, ns, at_⟩ := c
  simp only at h1 h2 h3
  unfold lineT cPs cWds
  simp only
  generalize nm.data.toList = nm
  clear h
  rcases kinds h1 h2 with rfl | rfl | rfl | rfl | rfl | rfl | rfl | rfl | rfl | rfl | rfl
  · obtain ⟨a, b, rfl⟩ := len2 h3
    simp [formB, formsL, formW, formsW, rend, wds, gapped, flat, Wd.txt, itoa_dec]
  · obtain ⟨a, b, rfl⟩ := len2 h3
    simp [formB, formsL, formW, formsW, rend, wds, gapped, flat, Wd.txt, itoa_dec]
  · obtain ⟨a, b, c, d, rfl⟩ := len4 h3
    by_cases hc : c < 0 <;> simp [formB, formsL, formW, formsW, rend, wds, gapped, flat, Wd.txt, itoa_dec, slowW, fastW, hc]
  · obtain ⟨a, b, c, rfl⟩ := len3 h3
    simp [formB, formsL, formW, formsW, rend, wds, gapped, flat, Wd.txt, itoa_dec]
  · obtain ⟨a, rfl⟩ := len1 h3
    simp [formB, formsL, formW, formsW, rend, wds, gapped, flat, Wd.txt, itoa_dec]
  · obtain ⟨a, rfl⟩ := len1 h3
    simp [formB, formsL, formW, formsW, rend, wds, gapped, flat, Wd.txt, itoa_dec]
  · obtain ⟨a, b, rfl⟩ := len2 h3
    simp [formB, formsL, formW, formsW, rend, wds, gapped, flat, Wd.txt, itoa_dec]
  · obtain ⟨a, b, c, d, e, f, rfl⟩ := len6 h3
    simp [formB, formsL, formW, formsW, rend, wds, gapped, flat, Wd.txt, itoa_dec]
  · obtain ⟨a, b, c, d, rfl⟩ := len4 h3
    simp [formB, formsL, formW, formsW, rend, wds, gapped, flat, Wd.txt, itoa_dec]
  · obtain ⟨a, b, c, rfl⟩ := len3 h3
    simp [formB, formsL, formW, formsW, rend, wds, gapped, flat, Wd.txt, itoa_dec]
  · obtain ⟨a, rfl⟩ := len1 h3
    simp [formB, formsL, formW, formsW, rend, wds, gapped, flat, Wd.txt, itoa_dec]
/-! ### the words are words -/
theorem chk_name : ∀ {f : Bool} {l : List UInt8}, chk f l = true → (∀ c, l.head? = some c → f = true → cls c = 3) ∧ ∀ y ∈ (if f then l.tail else l), cont 3 y = true
  | f, [], _ => ⟨by simp, by cases f <;> simp⟩
  | f, c :: t, h => by
    have h' : (nameC f c.toNat && chk false t) = true := h
    rw [Bool.and_eq_true] at h'
    obtain ⟨h1, h2⟩ := h'
    have ih := (chk_name h2).2
    simp only [Bool.false_eq_true, if_false] at ih
    refine ⟨?_, ?_⟩
    · intro d hd hf
      have : c = d := by simpa using hd
      subst this
      subst hf
      unfold nameC at h1
      simp at h1
      unfold cls clsI
      rw [if_neg (by omega), if_neg (by omega), if_pos (by omega)]
    · cases f with
      | true => simpa using ih
      | false =>
        intro y hy
        simp only [Bool.false_eq_true, if_false] at hy
        rcases List.mem_cons.1 hy with rfl | hy
        · unfold nameC at h1
          rw [cont_three]; unfold pName clsI
          simp at h1
          simp only [decide_eq_true_eq]
          rcases h1 with h1 | h1 | h1
          · left; rw [if_neg (by omega), if_neg (by omega), if_pos (by omega)]
          · right; right; omega
          · right; left; rw [if_neg (by omega), if_neg (by omega), if_neg (by omega), if_pos (by omega)]
        · exact ih y hy
theorem nameW_of {t : List UInt8} (h : nameB t = true) : nameW t := by
  unfold nameB at h
  simp only [Bool.and_eq_true, decide_eq_true_eq] at h
  obtain ⟨⟨⟨h1, h2⟩, _⟩, h4⟩ := h
  refine ⟨h2, ?_⟩
  cases t with
  | nil => simp at h1
  | cons c a =>
    obtain ⟨g1, g2⟩ := chk_name h4
    exact ⟨c, a, rfl, g1 c rfl rfl, by simpa using g2⟩
theorem absI_toNat {n : Int} (h1 : -1000000000 ≤ n) (h2 : n ≤ 1000000000) : (absI n).toNat ≤ 1000000000 := by have := absI_le h1 h2; omega
def fwOk : Fw → Prop
  | .K t => nameW t
  | _ => True
theorem wds_ok : ∀ (fs : List Fw) (nm : List UInt8) (ns : List Int), (∀ f ∈ fs, fwOk f) → (.N ∈ fs → nameW nm) → (∀ n ∈ ns, -1000000000 ≤ n ∧ n ≤ 1000000000) → ∀ x ∈ wds fs nm ns, x.ok
  | [], _, _, _, _, _, x, hx => by cases hx
  | f :: r, nm, ns, h1, h2, h3, x, hx => by
    have ih := fun ns' hns => wds_ok r nm ns' (fun g hg => h1 g (List.mem_cons_of_mem _ hg)) (fun hN => h2 (List.mem_cons_of_mem _ hN)) hns
    have hh : -1000000000 ≤ ns.headD 0 ∧ ns.headD 0 ≤ 1000000000 := by
      cases ns with
      | nil => simp
      | cons n ns => exact h3 n (by simp)
    have ht : ∀ n ∈ ns.tail, -1000000000 ≤ n ∧ n ≤ 1000000000 := fun n hn => h3 n (List.mem_of_mem_tail hn)
    cases f with
    | K t =>
      rcases List.mem_cons.1 hx with rfl | hx
      · exact h1 (.K t) (by simp)
      · exact ih ns h3 x hx
    | N =>
      rcases List.mem_cons.1 hx with rfl | hx
      · exact h2 (by simp)
      · exact ih ns h3 x hx
    | H =>
      rcases List.mem_cons.1 hx with rfl | hx
      · exact absI_toNat hh.1 hh.2
      · exact ih ns.tail ht x hx
    | D =>
      rcases List.mem_cons.1 hx with rfl | hx
      · show nameW _
        split
        · exact ⟨by decide, 115, [108, 111, 119], rfl, by decide, by decide⟩
        · exact ⟨by decide, 102, [97, 115, 116], rfl, by decide, by decide⟩
      · rcases List.mem_cons.1 hx with rfl | hx
        · exact absI_toNat hh.1 hh.2
        · exact ih ns.tail ht x hx

end Go.Proofs.YtdedlchpjboceaaDoor.Qz
end

section
/-
  Plain words: the text of valid commands, lexed and parsed.
-/
namespace Go.Proofs.YtdedlchpjboceaaDoor.Qz
open Go.RowKit Go.Proofs.YtdedlchpjboceaaDoorW.PrintWords Go.Proofs.YtdedlchpjboceaaDoorW.PrintLast Go.Proofs.YtdedlchpjboceaaDoor.Lx Go.Proofs.YtdedlchpjboceaaDoor.Px Go.Proofs.YtdedlchpjboceaaDoor.Tx

theorem gapped_ok : ∀ (ws : List Wd), (∀ x ∈ ws, x.ok) → ∀ rest, PsOk rest → PsOk (gapped ws ++ rest)
  | [], _, rest, hr => ⟨trivial, gapL_blank (by decide), .inl rfl, hr⟩
  | [x], h, rest, hr => ⟨h x (by simp), gapL_nil, .inr (fun c hc => by
      have : (59 : UInt8) = c := by simpa [flat_cons, Wd.txt] using hc
      subst this; decide), trivial, gapL_blank (by decide), .inl rfl, hr⟩
  | x :: y :: r, h, rest, hr => ⟨h x (by simp), gapL_blank (by decide), .inr (fun c hc => by
      have : (32 : UInt8) = c := by simpa using hc
      subst this; decide), gapped_ok (y :: r) (fun z hz => h z (List.mem_cons_of_mem _ hz)) rest hr⟩
theorem forms_ok {k : Int} (h1 : 1 ≤ k) (h2 : k ≤ 11) : ∀ f ∈ formW k, fwOk f := by
  have hn : ∀ t : List UInt8, (decide (t.length ≤ 12) && (match t with | [] => false | c :: a => decide (cls c = 3) && a.all (cont 3))) = true → nameW t := by
    intro t ht
    rw [Bool.and_eq_true, decide_eq_true_eq] at ht
    refine ⟨ht.1, ?_⟩
    cases t with
    | nil => cases ht.2
    | cons c a =>
      have h3 := ht.2
      rw [Bool.and_eq_true, decide_eq_true_eq, List.all_eq_true] at h3
      exact ⟨c, a, rfl, h3.1, h3.2⟩
  intro f hf
  cases f with
  | K t =>
    refine hn t ?_
    have : ∀ k : Nat, 1 ≤ k → k ≤ 11 → ∀ t, Fw.K t ∈ formsW.getD k [] → (decide (t.length ≤ 12) && (match t with | [] => false | c :: a => decide (cls c = 3) && a.all (cont 3))) = true := by
      intro k h1 h2 t ht
      rcases (by omega : k = 1 ∨ k = 2 ∨ k = 3 ∨ k = 4 ∨ k = 5 ∨ k = 6 ∨ k = 7 ∨ k = 8 ∨ k = 9 ∨ k = 10 ∨ k = 11) with rfl | rfl | rfl | rfl | rfl | rfl | rfl | rfl | rfl | rfl | rfl <;>
        simp [formsW] at ht <;> (repeat' (first | (rcases ht with rfl | ht) | subst ht)) <;> decide
    exact this k.toNat (by omega) (by omega) t hf
  | N => trivial
  | H => trivial
  | D => trivial
theorem forms_name {k : Int} (h1 : 1 ≤ k) (h2 : k ≤ 11) (hN : Fw.N ∈ formW k) : (shp k).1 = true := by
  rcases kinds h1 h2 with rfl | rfl | rfl | rfl | rfl | rfl | rfl | rfl | rfl | rfl | rfl <;> first | rfl | (simp [formW, formsW] at hN)
theorem cmdB_parts {c : Cmd} (h : cB c = true) : ((shp c.f0).1 = decide (c.f1.data.toList ≠ [])) ∧ ((shp c.f0).1 = true → nameB c.f1.data.toList = true) ∧ numsB c.f0 0 c.f2 = true := by
  unfold cB cmdB at h
  simp only [Bool.and_eq_true] at h
  obtain ⟨⟨⟨_, h2⟩, h3⟩, h4⟩ := h
  refine ⟨by simpa using h2, fun hs => ?_, h4⟩
  rw [hs] at h3
  simpa using h3
theorem cWds_ok {c : Cmd} (h : cB c = true) : ∀ x ∈ cWds c, x.ok := by
  obtain ⟨h1, h2, _, _, h5⟩ := valid_kind h
  exact wds_ok _ _ _ (forms_ok h1 h2) (fun hN => nameW_of ((cmdB_parts h).2.1 (forms_name h1 h2 hN))) h5
def lPs (l : List Cmd) : Pcs := l.flatMap cPs
theorem lPs_cons (c : Cmd) (l : List Cmd) : lPs (c :: l) = cPs c ++ lPs l := rfl
theorem lPs_append (a b : List Cmd) : lPs (a ++ b) = lPs a ++ lPs b := by simp [lPs]
theorem lPs_ok : ∀ {l : List Cmd}, (∀ c ∈ l, cB c = true) → PsOk (lPs l)
  | [], _ => trivial
  | c :: l, h => gapped_ok _ (cWds_ok (h c (by simp))) _ (lPs_ok (fun d hd => h d (List.mem_cons_of_mem _ hd)))
theorem printB_flat : ∀ {l : List Cmd}, (∀ c ∈ l, cB c = true) → printB l = flat (lPs l)
  | [], _ => rfl
  | c :: l, h => by
    have h1 := line_flat (h c (by simp))
    have h2 := printB_flat (l := l) (fun d hd => h d (List.mem_cons_of_mem _ hd))
    show (lineT c ++ [59, 10]) ++ printB l = _
    rw [h1, h2, lPs_cons, flat_append]
/-- What Print answers, by the limits. -/
theorem print_cases (l : List Cmd) : (validB l = false ∧ printR l = (⟨#[]⟩, 1)) ∨
    (validB l = true ∧ (printB l).length ≤ 8000 ∧ (lPs l).length ≤ 2000 ∧ printR l = (⟨(printB l).toArray⟩, 0) ∧ Lx.lex (printB l) = .ok (pTk (lPs l) 0)) ∨
    (validB l = true ∧ ¬ ((printB l).length ≤ 8000 ∧ (lPs l).length ≤ 2000) ∧ printR l = (⟨#[]⟩, 2)) := by
  by_cases hv : validB l = true
  · have hva := (validB_mem hv).2
    have hok := lPs_ok hva
    by_cases hl : (printB l).length ≤ 8000 ∧ (lPs l).length ≤ 2000
    · have hlex : Lx.lex (printB l) = .ok (pTk (lPs l) 0) := by
        have h1 := hl.1
        rw [printB_flat hva] at h1 ⊢
        exact flat_lex hok h1 hl.2
      refine .inr (.inl ⟨hv, hl.1, hl.2, ?_, hlex⟩)
      unfold printR
      rw [if_pos hv, hlex]
    · refine .inr (.inr ⟨hv, hl, ?_⟩)
      unfold printR
      rw [if_pos hv]
      cases hlex : Lx.lex (printB l) with
      | error e => rfl
      | ok ts =>
        rw [printB_flat hva] at hlex
        obtain ⟨h1, h2, _⟩ := flat_lex_ok hok hlex
        rw [← printB_flat hva] at h1
        exact absurd ⟨h1, h2⟩ hl
  · exact .inl ⟨by simpa using hv, by unfold printR; rw [if_neg hv]⟩

end Go.Proofs.YtdedlchpjboceaaDoor.Qz
end

section
/-
  Plain words: the words of a valid command, parsed.
-/
namespace Go.Proofs.YtdedlchpjboceaaDoor.Qz
open Go.RowKit Go.Proofs.YtdedlchpjboceaaDoorW.PrintWords Go.Proofs.YtdedlchpjboceaaDoorW.PrintLast Go.Proofs.YtdedlchpjboceaaDoor.Lx Go.Proofs.YtdedlchpjboceaaDoor.Px Go.Proofs.YtdedlchpjboceaaDoor.Tx

theorem num_pos {k : Int} {i : Nat} {n : Int} (h : numB k i n = true) (hk : ¬ (k = 3 ∧ i = 2)) : ((absI n).toNat : Int) = n := by
  unfold numB at h
  rw [decide_eq_true_eq] at h
  unfold absI
  omega
theorem num_drift {n : Int} (h : numB 3 2 n = true) : (if n < 0 then IntKind.i64.wrap (-((absI n).toNat : Int)) else ((absI n).toNat : Int)) = n := by
  unfold numB at h
  rw [decide_eq_true_eq] at h
  split
  · rw [show -((absI n).toNat : Int) = n by unfold absI; omega]
    simp [IntKind.wrap, IntKind.signed, IntKind.bits]
    omega
  · unfold absI; omega
theorem text_back (s : ByteArray) : (⟨s.data.toList.toArray⟩ : ByteArray) = s := by simp
set_option maxHeartbeats 4000000 in
theorem cmd_parse {c : Cmd} (h : cB c = true) (e : Int) (o : Nat) (rest : List Tok) : cmdR e ((pTk (cPs c) o).map toTk ++ rest) = .ok (rest, { c with f3 := (o : Int) }) := by
  obtain ⟨h1, h2, h3, _, _⟩ := valid_kind h
  obtain ⟨g1, g2, g3⟩ := cmdB_parts h
  obtain ⟨k, nm, ns, at_⟩ := c
  simp only at h1 h2 h3 g1 g2 g3
  unfold cPs cWds
  simp only
  have ht := text_back nm
  have hempty : (shp k).1 = false → nm = ⟨#[]⟩ := fun hs => by
    rw [hs] at g1
    have : nm.data.toList = [] := by simpa using g1.symm
    rw [← ht, this]
  clear h
  rcases kinds h1 h2 with rfl | rfl | rfl | rfl | rfl | rfl | rfl | rfl | rfl | rfl | rfl
  · obtain ⟨a, b, rfl⟩ := len2 h3
    have hn := hempty rfl
    subst hn
    simp only [numsB, Bool.and_eq_true] at g3
    have e1 := num_pos g3.1 (by omega)
    have e2 := num_pos g3.2.1 (by omega)
    simp [formW, formsW, wds, gapped, pTk, Wd.tk, toTk, cmdR, tailR, formC, nextT, runIt, stepIt, its_mesh, prs, cmd0, atT, semiT, e1, e2]
  · obtain ⟨a, b, rfl⟩ := len2 h3
    have gn := g2 rfl
    clear g1 g2 hempty
    simp only [numsB, Bool.and_eq_true] at g3
    have e1 := num_pos g3.1 (by omega)
    have e2 := num_pos g3.2.1 (by omega)
    simp [formW, formsW, wds, gapped, pTk, Wd.tk, toTk, cmdR, tailR, formC, formE, nextT, runIt, stepIt, its_mesh, its_root, its_node, its_run, its_named, its_jam, its_replay, its_program, nums_, prs, cmd0, atT, semiT, gn, e1, e2]
  · obtain ⟨a, b, c, d, rfl⟩ := len4 h3
    have gn := g2 rfl
    clear g1 g2 hempty
    simp only [numsB, Bool.and_eq_true] at g3
    have e1 := num_pos g3.1 (by omega)
    have e2 := num_pos g3.2.1 (by omega)
    have e3 := num_drift g3.2.2.1
    have e4 := num_pos g3.2.2.2.1 (by omega)
    by_cases hc : c < 0
    · rw [if_pos hc] at e3
      have e5 := e3
      simp only [Int.ofNat_toNat] at e5
      simp [slowT, fastT, e5, formW, formsW, wds, gapped, pTk, Wd.tk, toTk, cmdR, tailR, formC, formE, nextT, runIt, stepIt, its_mesh, its_root, its_node, its_run, its_named, its_jam, its_replay, its_program, nums_, prs, cmd0, atT, semiT, hc, gn, e1, e2, e4, e3]
    · rw [if_neg hc] at e3
      simp [slowT, fastT, formW, formsW, wds, gapped, pTk, Wd.tk, toTk, cmdR, tailR, formC, formE, nextT, runIt, stepIt, its_mesh, its_root, its_node, its_run, its_named, its_jam, its_replay, its_program, nums_, prs, cmd0, atT, semiT, hc, gn, e1, e2, e4, e3]
  · obtain ⟨a, b, c, rfl⟩ := len3 h3
    have gn := g2 rfl
    clear g1 g2 hempty
    simp only [numsB, Bool.and_eq_true] at g3
    have e1 := num_pos g3.1 (by omega)
    have e2 := num_pos g3.2.1 (by omega)
    have e3 := num_pos g3.2.2.1 (by omega)
    simp [formW, formsW, wds, gapped, pTk, Wd.tk, toTk, cmdR, tailR, formC, formE, nextT, runIt, stepIt, its_mesh, its_root, its_node, its_run, its_named, its_jam, its_replay, its_program, nums_, prs, cmd0, atT, semiT, gn, e1, e2, e3]
  · obtain ⟨a, rfl⟩ := len1 h3
    have gn := g2 rfl
    clear g1 g2 hempty
    simp only [numsB, Bool.and_eq_true] at g3
    have e1 := num_pos g3.1 (by omega)
    simp [formW, formsW, wds, gapped, pTk, Wd.tk, toTk, cmdR, tailR, formC, formE, nextT, runIt, stepIt, its_mesh, its_root, its_node, its_run, its_named, its_jam, its_replay, its_program, nums_, prs, cmd0, atT, semiT, gn, e1]
  · obtain ⟨a, rfl⟩ := len1 h3
    have gn := g2 rfl
    clear g1 g2 hempty
    simp only [numsB, Bool.and_eq_true] at g3
    have e1 := num_pos g3.1 (by omega)
    simp [formW, formsW, wds, gapped, pTk, Wd.tk, toTk, cmdR, tailR, formC, formE, nextT, runIt, stepIt, its_mesh, its_root, its_node, its_run, its_named, its_jam, its_replay, its_program, nums_, prs, cmd0, atT, semiT, gn, e1]
  · obtain ⟨a, b, rfl⟩ := len2 h3
    have gn := g2 rfl
    clear g1 g2 hempty
    simp only [numsB, Bool.and_eq_true] at g3
    have e1 := num_pos g3.1 (by omega)
    have e2 := num_pos g3.2.1 (by omega)
    simp [formW, formsW, wds, gapped, pTk, Wd.tk, toTk, cmdR, tailR, formC, formE, nextT, runIt, stepIt, its_mesh, its_root, its_node, its_run, its_named, its_jam, its_replay, its_program, nums_, prs, cmd0, atT, semiT, gn, e1, e2]
  · obtain ⟨a, b, c, d, f, g, rfl⟩ := len6 h3
    have hn := hempty rfl
    subst hn
    simp only [numsB, Bool.and_eq_true] at g3
    have e1 := num_pos g3.1 (by omega)
    have e2 := num_pos g3.2.1 (by omega)
    have e3 := num_pos g3.2.2.1 (by omega)
    have e4 := num_pos g3.2.2.2.1 (by omega)
    have e5 := num_pos g3.2.2.2.2.1 (by omega)
    have e6 := num_pos g3.2.2.2.2.2.1 (by omega)
    simp [formW, formsW, wds, gapped, pTk, Wd.tk, toTk, cmdR, tailR, formC, formE, nextT, runIt, stepIt, its_mesh, its_root, its_node, its_run, its_named, its_jam, its_replay, its_program, nums_, prs, cmd0, atT, semiT, e1, e2, e3, e4, e5, e6]
  · obtain ⟨a, b, c, d, rfl⟩ := len4 h3
    have hn := hempty rfl
    subst hn
    simp only [numsB, Bool.and_eq_true] at g3
    have e1 := num_pos g3.1 (by omega)
    have e2 := num_pos g3.2.1 (by omega)
    have e3 := num_pos g3.2.2.1 (by omega)
    have e4 := num_pos g3.2.2.2.1 (by omega)
    simp [formW, formsW, wds, gapped, pTk, Wd.tk, toTk, cmdR, tailR, formC, formE, nextT, runIt, stepIt, its_mesh, its_root, its_node, its_run, its_named, its_jam, its_replay, its_program, nums_, prs, cmd0, atT, semiT, e1, e2, e3, e4]
  · obtain ⟨a, b, c, rfl⟩ := len3 h3
    have hn := hempty rfl
    subst hn
    simp only [numsB, Bool.and_eq_true] at g3
    have e1 := num_pos g3.1 (by omega)
    have e2 := num_pos g3.2.1 (by omega)
    have e3 := num_pos g3.2.2.1 (by omega)
    simp [formW, formsW, wds, gapped, pTk, Wd.tk, toTk, cmdR, tailR, formC, formE, nextT, runIt, stepIt, its_mesh, its_root, its_node, its_run, its_named, its_jam, its_replay, its_program, nums_, prs, cmd0, atT, semiT, e1, e2, e3]
  · obtain ⟨a, rfl⟩ := len1 h3
    have hn := hempty rfl
    subst hn
    simp only [numsB, Bool.and_eq_true] at g3
    have e1 := num_pos g3.1 (by omega)
    simp [formW, formsW, wds, gapped, pTk, Wd.tk, toTk, cmdR, tailR, formC, formE, nextT, runIt, stepIt, its_mesh, its_root, its_node, its_run, its_named, its_jam, its_replay, its_program, nums_, prs, cmd0, atT, semiT, e1]

end Go.Proofs.YtdedlchpjboceaaDoor.Qz
end

section
/-
  Plain words: a canonical text is parsed to its commands, each at the beginning of its line.
-/
namespace Go.Proofs.YtdedlchpjboceaaDoor.Qz
open Go.RowKit Go.Proofs.YtdedlchpjboceaaDoorW.PrintWords Go.Proofs.YtdedlchpjboceaaDoorW.PrintLast Go.Proofs.YtdedlchpjboceaaDoor.Lx Go.Proofs.YtdedlchpjboceaaDoor.Px Go.Proofs.YtdedlchpjboceaaDoor.Tx

/-- Commands at the beginnings of their lines. -/
def locs : List Cmd → Nat → List Cmd
  | [], _ => []
  | c :: l, o => { c with f3 := (o : Int) } :: locs l (o + (lineT c ++ [59, 10]).length)
theorem locs_length : ∀ (l : List Cmd) (o : Nat), (locs l o).length = l.length
  | [], _ => rfl
  | c :: l, o => by show (locs l _).length + 1 = l.length + 1; rw [locs_length l]
theorem locs_strip : ∀ (l : List Cmd) (o : Nat), (locs l o).map strip0 = l.map strip0
  | [], _ => rfl
  | c :: l, o => by show strip0 _ :: (locs l _).map strip0 = strip0 c :: l.map strip0; rw [locs_strip l]; rfl
theorem pLoop_nil (e : Int) (n : Nat) (o : List Cmd) (d : List Dg) : pLoop e n [] o d = (o, d) := by cases n <;> simp [pLoop]
theorem cPs_pos (c : Cmd) : 1 ≤ (cPs c).length := by unfold cPs; rw [gapped_length]; omega
theorem pLoop_print (e : Int) : ∀ (l : List Cmd) (n o : Nat) (out : List Cmd), (∀ c ∈ l, cB c = true) → (lPs l).length ≤ n → pLoop e n ((pTk (lPs l) o).map toTk) out [] = (out ++ locs l o, [])
  | [], n, o, out, _, _ => by
    show pLoop e n [] out [] = _
    rw [pLoop_nil]; simp [locs]
  | c :: l, n, o, out, h, hn => by
    have hc := h c (by simp)
    have hp := cPs_pos c
    rw [lPs_cons, List.length_append] at hn
    obtain ⟨m, rfl⟩ : ∃ m, n = m + 1 := ⟨n - 1, by omega⟩
    rw [lPs_cons, pTk_append, List.map_append]
    have hlen : ((pTk (cPs c) o).map toTk ++ (pTk (lPs l) (o + (flat (cPs c)).length)).map toTk).length ≠ 0 := by
      rw [List.length_append, List.length_map, pTk_length]; omega
    unfold pLoop
    rw [if_neg (by simp only [List.length_nil, not_or]; exact ⟨hlen, by decide⟩), cmd_parse hc]
    show pLoop e m ((pTk (lPs l) (o + (flat (cPs c)).length)).map toTk) (out ++ [_]) [] = _
    rw [pLoop_print e l m _ _ (fun d hd => h d (List.mem_cons_of_mem _ hd)) (by omega), ← line_flat hc]
    simp [locs]
theorem data_back (l : List UInt8) : (⟨l.toArray⟩ : ByteArray).data.toList = l := by simp
/-- A canonical text, parsed. -/
theorem parse_print {l : List Cmd} {s : ByteArray} (h : printR l = (s, 0)) : validB l = true ∧ s = ⟨(printB l).toArray⟩ ∧ (printB l).length ≤ 8000 ∧ (lPs l).length ≤ 2000 ∧ Lx.lex s.data.toList = .ok (pTk (lPs l) 0) ∧ parseR s = (locs l 0, []) := by
  rcases print_cases l with ⟨_, h1⟩ | ⟨hv, h2, h3, h1, h4⟩ | ⟨_, _, h1⟩
  · rw [h1] at h; cases h
  · rw [h1] at h
    have hs : (⟨(printB l).toArray⟩ : ByteArray) = s := congrArg Prod.fst h
    subst hs
    rw [data_back]
    refine ⟨hv, rfl, h2, h3, h4, ?_⟩
    obtain ⟨hl, hva⟩ := validB_mem hv
    unfold parseR
    rw [data_back, h4]
    simp only
    rw [pLoop_print _ l _ 0 [] hva (by rw [pTk_length]; exact Nat.le_refl _)]
    simp only [List.nil_append]
    unfold pEnd
    rw [if_neg (by simp), if_neg (by rw [locs_length]; omega)]
  · rw [h1] at h; cases h
/-- The text forgets nothing but the offsets. -/
theorem line_strip (c : Cmd) : lineT (strip0 c) = lineT c := rfl
theorem printB_strip (l : List Cmd) : printB (l.map strip0) = printB l := by simp [printB, List.flatMap_map, line_strip]
theorem validB_strip (l : List Cmd) : validB (l.map strip0) = validB l := by
  unfold validB
  rw [List.length_map, List.all_map]
  rfl
theorem printR_strip (l : List Cmd) : printR (l.map strip0) = printR l := by
  unfold printR
  rw [validB_strip, printB_strip]
theorem print_inj {a b : List Cmd} {s : ByteArray} (h1 : printR a = (s, 0)) (h2 : printR b = (s, 0)) : a.map strip0 = b.map strip0 := by
  have g1 := (parse_print h1).2.2.2.2.2
  have g2 := (parse_print h2).2.2.2.2.2
  rw [g1] at g2
  have := congrArg Prod.fst g2
  rw [← locs_strip a 0, ← locs_strip b 0, show locs a 0 = locs b 0 from this]
theorem print_congr {a b : List Cmd} (h : a.map strip0 = b.map strip0) : printR a = printR b := by rw [← printR_strip a, ← printR_strip b, h]

end Go.Proofs.YtdedlchpjboceaaDoor.Qz
end

section
/-
  Plain laws on what the reference's small functions compute (printed as Lean functions with a number of rounds): few commands; equal lists of commands. The fixed examples.
-/
namespace Go.Proofs.YtdedlchpjboceaaDoor.Qy
open Go.RowKit Go.Proofs.YtdedlchpjboceaaDoorW.PrintWords Go.Proofs.YtdedlchpjboceaaDoorW.PrintLast Go.Proofs.YtdedlchpjboceaaDoor.Lx Go.Proofs.YtdedlchpjboceaaDoor.Px Go.Proofs.YtdedlchpjboceaaDoor.Tx Go.Proofs.YtdedlchpjboceaaDoor.Qz Go.Proofs.YtdedlchpjboceaaDoor.PE

/-! ### Rounds -/
section
variable {α β : Type}
theorem evPos {c : Prop} [Decidable c] {f g : Nat → Option α} {r : α} (h : c) (e : Ev f r) : Ev (fun k => if c then f k else g k) r := Ev.congr (fun _ => if_pos h) e
theorem evNeg {c : Prop} [Decidable c] {f g : Nat → Option α} {r : α} (h : ¬ c) (e : Ev g r) : Ev (fun k => if c then f k else g k) r := Ev.congr (fun _ => if_neg h) e
theorem evBind {o : Option α} {a : α} {f : Nat → α → Option β} {r : β} (h : o = some a) (e : Ev (fun k => f k a) r) : Ev (fun k => o.bind (f k)) r := Ev.congr (fun k => by rw [h]; rfl) e
theorem evNow {o : Option α} {r : α} (h : o = some r) : Ev (fun _ => o) r := by rw [h]; exact Ev.now r
theorem evEq {f : Nat → Option α} {r r' : α} (e : Ev f r) (h : r = r') : Ev f r' := h ▸ e
end
theorem w64 {x : Int} (h0 : -9223372036854775808 ≤ x) (h1 : x ≤ 9223372036854775807) : wrap64 x = x := by unfold wrap64; omega
theorem rd_at (l : List S40) (j : Nat) (h : j < l.length) : rd_T40 l (j : Int) = l[j] := by
  unfold rd_T40
  rw [Int.toNat_natCast, List.getD_eq_getElem?_getD, List.getElem?_eq_getElem h]; rfl
theorem rd_int (l : List Int) (j : Nat) (h : j < l.length) : rd l (j : Int) = l[j] := by
  unfold rd
  rw [Int.toNat_natCast, List.getD_eq_getElem?_getD, List.getElem?_eq_getElem h]; rfl
theorem print_f (l : List S40) : printer_Print.f l = some (printR (l.map toCmd)) := rfl
set_option maxRecDepth 100000 in
theorem head3 : slotmeshlaw03_head.f = some true := by
  unfold slotmeshlaw03_head.f printer_Print.f
  simp only [printRF_eq]
  kernel_rfl

/-! ### Few -/
def few1 (x : S40) : Bool := decide (x.f2.length ≤ 20) && decide (x.f1.size ≤ 50)
def fewB (l : List S40) : Bool := l.all few1 && decide (l.length ≤ 310)
theorem few_loop (l : List S40) (hl : l.length ≤ 9223372036854775807) (d : Nat) : ∀ j : Nat, j ≤ l.length → l.length - j = d →
    Ev (fun k => slotmeshref02_Few.l0 k l (j : Int)) ((l.drop j).all few1 && decide (l.length ≤ 310)) := by
  induction d with
  | zero =>
    intro j hj hd
    refine Ev.step (f := _) (fun k => by rw [slotmeshref02_Few.l0]) ?_
    refine evNeg (by omega) ?_
    rw [List.drop_of_length_le (by omega)]
    refine evEq (Ev.now _) ?_
    simp only [List.all_nil, Bool.true_and]
    congr 1
    exact propext (by omega)
  | succ d ih =>
    intro j hj hd
    have hlt : j < l.length := by omega
    have hih := ih (j + 1) (by omega) (by omega)
    have hw : wrap64 ((j : Int) + 1) = ((j + 1 : Nat) : Int) := by rw [w64 (by omega) (by omega)]; omega
    refine Ev.step (f := _) (fun k => by rw [slotmeshref02_Few.l0]) ?_
    refine evPos (by omega) (evPos (by omega) ?_)
    rw [rd_at l j hlt, List.drop_eq_getElem_cons hlt, List.all_cons]
    by_cases h1 : l[j].f2.length ≤ 20
    · refine evNeg (by omega) ?_
      by_cases h2 : l[j].f1.size ≤ 50
      · refine evNeg (by omega) ?_
        rw [hw]
        have e : few1 l[j] = true := by unfold few1; simp [h1, h2]
        rw [e, Bool.true_and]
        exact hih
      · refine evPos (by omega) ?_
        have e : few1 l[j] = false := by unfold few1; simp [h2]
        rw [e]; exact Ev.now _
    · refine evPos (by omega) ?_
      have e : few1 l[j] = false := by unfold few1; simp [h1]
      rw [e]; exact Ev.now _
theorem few_ev (l : List S40) (hl : l.length ≤ 9223372036854775807) : Ev (fun k => slotmeshref02_Few.f k l) (fewB l) := few_loop l hl l.length 0 (Nat.zero_le _) rfl
theorem few_some {l : List S40} (h : fewB l = true) : l.length ≤ 310 ∧ ∀ x ∈ l, x.f2.length ≤ 20 ∧ x.f1.size ≤ 50 := by
  unfold fewB at h
  rw [Bool.and_eq_true, decide_eq_true_eq, List.all_eq_true] at h
  refine ⟨h.2, fun x hx => ?_⟩
  have := h.1 x hx
  unfold few1 at this
  simpa using this

/-! ### Same -/
def eqS (x y : S40) : Bool := decide (x.f0 = y.f0) && decide (x.f1.toList = y.f1.toList) && decide (x.f3 = y.f3) && decide (x.f2 = y.f2)
def allS : List S40 → List S40 → Bool
  | x :: xs, y :: ys => eqS x y && allS xs ys
  | [], [] => true
  | [], _ :: _ => false
  | _ :: _, [] => false
theorem eqS_iff (x y : S40) : eqS x y = true ↔ x = y := by
  unfold eqS
  simp only [Bool.and_eq_true, decide_eq_true_eq]
  constructor
  · rintro ⟨⟨⟨h0, h1⟩, h3⟩, h2⟩
    obtain ⟨a, b, c, d⟩ := x
    obtain ⟨a', b', c', d'⟩ := y
    simp only at h0 h1 h2 h3
    subst h0; subst h2; subst h3
    rw [ByteArray.toList_eq, ByteArray.toList_eq] at h1
    have : b = b' := by
      obtain ⟨⟨l⟩⟩ := b
      obtain ⟨⟨l'⟩⟩ := b'
      simp at h1
      rw [h1]
    rw [this]
  · rintro rfl; exact ⟨⟨⟨rfl, rfl⟩, rfl⟩, rfl⟩
theorem allS_iff : ∀ a b : List S40, allS a b = true ↔ a = b
  | [], [] => by simp [allS]
  | [], _ :: _ => by simp [allS]
  | _ :: _, [] => by simp [allS]
  | x :: xs, y :: ys => by
    show (eqS x y && allS xs ys) = true ↔ _
    rw [Bool.and_eq_true, eqS_iff, allS_iff xs ys]
    simp
theorem same_in (a b : List S40) (j : Nat) (hja : j < a.length) (hjb : j < b.length) (hb : ∀ x ∈ a, x.f2.length ≤ 1000000) (hl : a.length ≤ 1000000) (hlen : a[j].f2.length = b[j].f2.length) (R : Bool)
    (hR : Ev (fun k => slotmeshref02_Same.l0 k a b ((j + 1 : Nat) : Int)) R) (d : Nat) : ∀ i : Nat, i ≤ a[j].f2.length → a[j].f2.length - i = d →
    Ev (fun k => slotmeshref02_Same.l1 k a b (j : Int) (i : Int)) (decide (a[j].f2.drop i = b[j].f2.drop i) && R) := by
  have hm := hb a[j] (List.getElem_mem _)
  induction d with
  | zero =>
    intro i hi hd
    refine Ev.step (f := _) (fun k => by rw [slotmeshref02_Same.l1]) ?_
    refine evPos (by omega) (evPos (by omega) ?_)
    rw [rd_at a j hja]
    refine evNeg (by omega) ?_
    rw [show wrap64 ((j : Int) + 1) = ((j + 1 : Nat) : Int) by rw [w64 (by omega) (by omega)]; omega]
    rw [List.drop_of_length_le (by omega), List.drop_of_length_le (by omega), decide_eq_true rfl, Bool.true_and]
    exact hR
  | succ d ih =>
    intro i hi hd
    have hlt : i < a[j].f2.length := by omega
    have hih := ih (i + 1) (by omega) (by omega)
    refine Ev.step (f := _) (fun k => by rw [slotmeshref02_Same.l1]) ?_
    refine evPos (by omega) (evPos (by omega) ?_)
    rw [rd_at a j hja, rd_at b j hjb]
    refine evPos (by omega) (evPos (by omega) (evPos (by omega) (evPos (by omega) ?_)))
    rw [rd_int _ i hlt, rd_int _ i (by omega), List.drop_eq_getElem_cons hlt, List.drop_eq_getElem_cons (show i < b[j].f2.length by omega)]
    by_cases he : a[j].f2[i] = b[j].f2[i]
    · refine evPos he ?_
      rw [show wrap64 ((i : Int) + 1) = ((i + 1 : Nat) : Int) by rw [w64 (by omega) (by omega)]; omega]
      refine evEq hih ?_
      congr 1
      exact decide_eq_decide.2 ⟨fun h => by rw [h, he], fun h => (List.cons.inj h).2⟩
    · refine evNeg he (evEq (Ev.now _) ?_)
      rw [decide_eq_false (fun h => he (List.cons.inj h).1)]; rfl
theorem same_loop (a b : List S40) (hlen : a.length = b.length) (hb : ∀ x ∈ a, x.f2.length ≤ 1000000) (hl : a.length ≤ 1000000) (d : Nat) : ∀ j : Nat, j ≤ a.length → a.length - j = d →
    Ev (fun k => slotmeshref02_Same.l0 k a b (j : Int)) (allS (a.drop j) (b.drop j)) := by
  induction d with
  | zero =>
    intro j hj hd
    refine Ev.step (f := _) (fun k => by rw [slotmeshref02_Same.l0]) ?_
    refine evNeg (by omega) ?_
    rw [List.drop_of_length_le (by omega), List.drop_of_length_le (by omega)]
    exact Ev.now _
  | succ d ih =>
    intro j hj hd
    have hja : j < a.length := by omega
    have hjb : j < b.length := by omega
    have hih := ih (j + 1) (by omega) (by omega)
    refine Ev.step (f := _) (fun k => by rw [slotmeshref02_Same.l0]) ?_
    refine evPos (by omega) (evPos (by omega) (evPos (by omega) ?_))
    rw [rd_at a j hja, rd_at b j hjb, List.drop_eq_getElem_cons hja, List.drop_eq_getElem_cons hjb]
    show Ev _ (eqS a[j] b[j] && allS (a.drop (j + 1)) (b.drop (j + 1)))
    have no : ∀ {x y : S40}, (¬ x = y) → eqS x y = false := fun h => by
      rw [← Bool.not_eq_true]; intro e; exact h ((eqS_iff _ _).1 e)
    have bad : ∀ R : Bool, Ev (fun k => slotmeshref02_Same.j1 k a b (j : Int) true) (false && R) := fun R => by
      refine Ev.step (f := _) (fun k => by rw [slotmeshref02_Same.j1]) ?_
      exact evPos rfl (Ev.now _)
    by_cases h0 : a[j].f0 = b[j].f0
    · refine evPos h0 ?_
      by_cases h1 : a[j].f1.toList = b[j].f1.toList
      · refine evPos h1 ?_
        by_cases h3 : a[j].f3 = b[j].f3
        · refine evPos h3 ?_
          by_cases h2 : a[j].f2.length = b[j].f2.length
          · rw [show (((a[j].f2.length : Int)) != (b[j].f2.length : Int)) = false by rw [h2]; simp]
            refine Ev.step (f := _) (fun k => by rw [slotmeshref02_Same.j1]) ?_
            refine evNeg (by decide) ?_
            refine evEq (same_in a b j hja hjb hb hl h2 _ hih a[j].f2.length 0 (Nat.zero_le _) rfl) ?_
            rw [List.drop_zero, List.drop_zero]
            unfold eqS
            rw [decide_eq_true h0, decide_eq_true h1, decide_eq_true h3]
            simp
          · rw [show (((a[j].f2.length : Int)) != (b[j].f2.length : Int)) = true by rw [bne_iff_ne]; omega, no (fun e => h2 (by rw [e]))]
            exact bad _
        · refine evNeg h3 ?_
          rw [no (fun e => h3 (by rw [e]))]
          exact bad _
      · refine evNeg h1 ?_
        rw [no (fun e => h1 (by rw [e]))]
        exact bad _
    · refine evNeg h0 ?_
      rw [no (fun e => h0 (by rw [e]))]
      exact bad _
theorem same_ev (a b : List S40) (hb : ∀ x ∈ a, x.f2.length ≤ 1000000) (hl : a.length ≤ 1000000) : Ev (fun k => slotmeshref02_Same.f k a b) (allS a b) := by
  by_cases h : a.length = b.length
  · refine evPos (by omega) ?_
    have := same_loop a b h hb hl a.length 0 (Nat.zero_le _) rfl
    exact this
  · refine evNeg (by omega) ?_
    have : allS a b = false := by
      rw [← Bool.not_eq_true]; intro e; exact h (by rw [(allS_iff _ _).1 e])
    rw [this]; exact Ev.now _

/-! ### commands under their two names -/
def ofC (x : Px.Cmd) : S40 := ⟨x.f0, x.f1, x.f2, x.f3⟩
theorem of_to (x : S40) : ofC (toCmd x) = x := rfl
theorem to_of (x : Px.Cmd) : toCmd (ofC x) = x := rfl
theorem strip_map (l : List S40) : (l.map stripS).map toCmd = (l.map toCmd).map strip0 := by simp [List.map_map]; intro x _; rfl
theorem toCmd_inj {a b : List S40} (h : a.map toCmd = b.map toCmd) : a = b := by
  have := congrArg (List.map ofC) h
  simpa [List.map_map, Function.comp_def, of_to] using this

end Go.Proofs.YtdedlchpjboceaaDoor.Qy
end

section
/- The function parser_Parse: what it computes, and that it computes it. Written by a program of this session's, out of the translation. -/
namespace Go.Proofs.YtdedlchpjboceaaDoor.PE
open Go.RowKit Go.Proofs.YtdedlchpjboceaaDoorW.PrintWords Go.Proofs.YtdedlchpjboceaaDoorW.PrintLast Go.Proofs.YtdedlchpjboceaaDoorW.PrintMore
attribute [local go_sem] max2_int min2_int max_two min_two max_three min_three max_four min_four   -- for this text's walks alone

/-! ### parser_Parse: function 20 -/
def ofCmd (x : Px.Cmd) : S40 := ⟨x.f0, x.f1, x.f2, x.f3⟩
def ofDg (x : Px.Dg) : S54 := ⟨x.f0, x.f1⟩
/-- What Parse answers. -/
def parser_Parse.f (a0 : ByteArray) : Option ((List (S40)) × (List (S54))) := some ((Px.parseR a0).1.map ofCmd, (Px.parseR a0).2.map ofDg)
theorem parser_Parse.calls (a0 : ByteArray) (r1 : List (S40)) (r2 : List (S54)) (w : World) (hG : Aside0 (Tx.GP w)) (h : parser_Parse.f a0 = some (r1, r2)) :
    Calls Tryd.prog 20 #[.string a0] w fun e w' => ∃ v0_ v1_ : Value, e = .returned (.tuple #[v0_, v1_]) ∧ Kd.R k40 40 w' w.heap.size (fun _ => True) v0_ r1 ∧ Kd.R k54 54 w' w.heap.size (fun _ => True) v1_ r2 ∧ Below w.heap.size w w' := by
  simp only [parser_Parse.f, Option.some.injEq, Prod.mk.injEq] at h
  obtain ⟨rfl, rfl⟩ := h
  refine (Px.parse_any a0 w hG.out.gok).mono ?_
  rintro e w' ⟨hb, v0, v1, rfl, h0, h1⟩
  exact ⟨v0, v1, rfl, Tx.R_iso2 (h := ofCmd) (fun _ => rfl) h0, Tx.R_iso2 (h := ofDg) (fun _ => rfl) h1, hb⟩

end Go.Proofs.YtdedlchpjboceaaDoor.PE
end

section
/- The function slotmeshlaw03_PrinterInverse: what it computes, and that it computes it. Written by a program of this session's, out of the translation. -/
namespace Go.Proofs.YtdedlchpjboceaaDoor.PE
open Go.RowKit Go.Proofs.YtdedlchpjboceaaDoorW.PrintWords Go.Proofs.YtdedlchpjboceaaDoorW.PrintLast Go.Proofs.YtdedlchpjboceaaDoorW.PrintMore
attribute [local go_sem] max2_int min2_int max_two min_two max_three min_three max_four min_four   -- for this text's walks alone

/-! ### slotmeshlaw03_PrinterInverse: function 17 -/
def slotmeshlaw03_PrinterInverse.f (k : Nat) (l0 : List (S40)) : Option (Bool) := (slotmeshlaw03_head.f).bind fun t295 => ((slotmeshref02_Few.f k l0).bind fun t296 => (if t296 = true then ((printer_Print.f l0).bind fun bt297 => (if bt297.2 = 0 then ((parser_Parse.f bt297.1).bind fun bt299 => (if t295 = true then (if (bt299.2.length : Int) = 0 then ((parser_Strip.f bt299.1).bind fun t305 => ((parser_Strip.f l0).bind fun t308 => ((slotmeshref02_Same.f k t305 t308).bind fun t311 => (some t311)))) else (some false)) else (some false))) else (if t295 = true then (some (bt297.1.toList == ([] : List UInt8))) else (some false)))) else (some t295)))
theorem slotmeshlaw03_PrinterInverse.mono : ∀ a0 k, LeO (slotmeshlaw03_PrinterInverse.f k a0) (slotmeshlaw03_PrinterInverse.f (k + 1) a0) := by
  intro a0 k
  unfold slotmeshlaw03_PrinterInverse.f
  repeat' first
      | (with_reducible exact slotmeshref02_Few.mono _ _)
      | (with_reducible exact slotmeshref02_Same.mono _ _ _)
      | (with_reducible exact LeO.refl _)
      | (with_reducible exact LeO.none _)
      | (with_reducible refine LeO.ite ?_ ?_)
      | (with_reducible refine LeO.bind ?_ (fun _ => ?_))
      | exact slotmeshref02_Few.mono _ _
      | exact slotmeshref02_Same.mono _ _ _
      | exact LeO.none _
      | refine LeO.ite ?_ ?_
      | refine LeO.bind ?_ (fun _ => ?_)
set_option maxHeartbeats 8000000 in
set_option maxRecDepth 100000 in
theorem slotmeshlaw03_PrinterInverse.calls (k : Nat) (A0 : Option Addr) (c0 : Nat) (l0 : List (S40)) (r : Bool) (w : World) (hG : Aside0 (Tx.GP w)) (hr0 : Kd.C k40 w A0 l0.length l0) (hc0 : l0.length ≤ c0) (h : slotmeshlaw03_PrinterInverse.f k l0 = some r) :
    Calls Tryd.prog 17 #[.slice A0 l0.length c0] w fun e w' => e = .returned (.bool r) ∧ Below w.heap.size w w' := by
  have HR0 := Aside0.mk hr0
  have HC0 := Aside0.mk hc0
  clear hr0 hc0
  have HB := Aside0.mk (Below.refl w.heap.size w)
  have H : ((slotmeshlaw03_head.f).bind fun t295 => ((slotmeshref02_Few.f k l0).bind fun t296 => (if t296 = true then ((printer_Print.f l0).bind fun bt297 => (if bt297.2 = 0 then ((parser_Parse.f bt297.1).bind fun bt299 => (if t295 = true then (if (bt299.2.length : Int) = 0 then ((parser_Strip.f bt299.1).bind fun t305 => ((parser_Strip.f l0).bind fun t308 => ((slotmeshref02_Same.f k t305 t308).bind fun t311 => (some t311)))) else (some false)) else (some false))) else (if t295 = true then (some (bt297.1.toList == ([] : List UInt8))) else (some false)))) else (some t295)))) = some r := h
  clear h
  replace H := Option.bind_eq_some_iff.mp H
  obtain ⟨t295, A20, H⟩ := H
  replace H : ((slotmeshref02_Few.f k l0).bind fun t296 => (if t296 = true then ((printer_Print.f l0).bind fun bt297 => (if bt297.2 = 0 then ((parser_Parse.f bt297.1).bind fun bt299 => (if t295 = true then (if (bt299.2.length : Int) = 0 then ((parser_Strip.f bt299.1).bind fun t305 => ((parser_Strip.f l0).bind fun t308 => ((slotmeshref02_Same.f k t305 t308).bind fun t311 => (some t311)))) else (some false)) else (some false))) else (if t295 = true then (some (bt297.1.toList == ([] : List UInt8))) else (some false)))) else (some t295))) = some r := H
  have A2 := Aside0.mk A20
  clear A20
  replace H := Option.bind_eq_some_iff.mp H
  obtain ⟨t296, A30, H⟩ := H
  replace H : (if t296 = true then ((printer_Print.f l0).bind fun bt297 => (if bt297.2 = 0 then ((parser_Parse.f bt297.1).bind fun bt299 => (if t295 = true then (if (bt299.2.length : Int) = 0 then ((parser_Strip.f bt299.1).bind fun t305 => ((parser_Strip.f l0).bind fun t308 => ((slotmeshref02_Same.f k t305 t308).bind fun t311 => (some t311)))) else (some false)) else (some false))) else (if t295 = true then (some (bt297.1.toList == ([] : List UInt8))) else (some false)))) else (some t295)) = some r := H
  have A3 := Aside0.mk A30
  clear A30
  by_cases c4 : t296 = true
  · subst c4
    have H1 : ((printer_Print.f l0).bind fun bt297 => (if bt297.2 = 0 then ((parser_Parse.f bt297.1).bind fun bt299 => (if t295 = true then (if (bt299.2.length : Int) = 0 then ((parser_Strip.f bt299.1).bind fun t305 => ((parser_Strip.f l0).bind fun t308 => ((slotmeshref02_Same.f k t305 t308).bind fun t311 => (some t311)))) else (some false)) else (some false))) else (if t295 = true then (some (bt297.1.toList == ([] : List UInt8))) else (some false)))) = some r := by rw [if_pos rfl] at H; exact H
    clear H
    have H := H1
    clear H1
    replace H := Option.bind_eq_some_iff.mp H
    obtain ⟨⟨t297, t298⟩, A50, H⟩ := H
    replace H : (if t298 = 0 then ((parser_Parse.f t297).bind fun bt299 => (if t295 = true then (if (bt299.2.length : Int) = 0 then ((parser_Strip.f bt299.1).bind fun t305 => ((parser_Strip.f l0).bind fun t308 => ((slotmeshref02_Same.f k t305 t308).bind fun t311 => (some t311)))) else (some false)) else (some false))) else (if t295 = true then (some (t297.toList == ([] : List UInt8))) else (some false))) = some r := H
    have A5 := Aside0.mk A50
    clear A50
    by_cases c6 : t298 = 0
    · rw [if_pos c6] at H
      have c6b0 : (t298 == 0) = true := beq_iff_eq.mpr c6
      have c6b1 : (t298 != 0) = false := bne_eq_false_iff_eq.mpr c6
      clear c6
      replace H := Option.bind_eq_some_iff.mp H
      obtain ⟨⟨t299, t300⟩, A70, H⟩ := H
      replace H : (if t295 = true then (if (t300.length : Int) = 0 then ((parser_Strip.f t299).bind fun t305 => ((parser_Strip.f l0).bind fun t308 => ((slotmeshref02_Same.f k t305 t308).bind fun t311 => (some t311)))) else (some false)) else (some false)) = some r := H
      have A7 := Aside0.mk A70
      clear A70
      by_cases c8 : t295 = true
      · subst c8
        have H1 : (if (t300.length : Int) = 0 then ((parser_Strip.f t299).bind fun t305 => ((parser_Strip.f l0).bind fun t308 => ((slotmeshref02_Same.f k t305 t308).bind fun t311 => (some t311)))) else (some false)) = some r := by rw [if_pos rfl] at H; exact H
        clear H
        have H := H1
        clear H1
        by_cases c9 : (t300.length : Int) = 0
        · rw [if_pos c9] at H
          have c9b0 : ((t300.length : Int) == 0) = true := beq_iff_eq.mpr c9
          have c9b1 : ((t300.length : Int) != 0) = false := bne_eq_false_iff_eq.mpr c9
          clear c9
          replace H := Option.bind_eq_some_iff.mp H
          obtain ⟨t305, A100, H⟩ := H
          replace H : ((parser_Strip.f l0).bind fun t308 => ((slotmeshref02_Same.f k t305 t308).bind fun t311 => (some t311))) = some r := H
          have A10 := Aside0.mk A100
          clear A100
          replace H := Option.bind_eq_some_iff.mp H
          obtain ⟨t308, A110, H⟩ := H
          replace H : ((slotmeshref02_Same.f k t305 t308).bind fun t311 => (some t311)) = some r := H
          have A11 := Aside0.mk A110
          clear A110
          replace H := Option.bind_eq_some_iff.mp H
          obtain ⟨t311, A120, H⟩ := H
          replace H : (some t311) = some r := H
          have A12 := Aside0.mk A120
          clear A120
          obtain rfl := Option.some.inj H
          go_enter Tryd.func17, Tryd.ntmps17
          go_wp2_with (first | ((with_reducible refine gate_callee (f := 29) rfl ?_); refine goesL_ (some 8) rfl rfl Tryd.func29 (by kernel_rfl) rfl #[] rfl (by (try simp only [List.map_toArray, List.map_cons, List.map_nil]); first | done | rfl | (simp only [List.length_drop, List.length_take]; rfl) | (simp (disch := omega) only [IntWalk.wrap64_in]; done)) ?_; (with_reducible refine (slotmeshlaw03_head.calls  true _ ?side1 A2.out).mono ?_); (case side1 => exact Tx.GP.aside hG (by repeat (first | (with_reducible first | exact HB.out | apply below_alloc | apply pw_below_drewN | apply below_drew1) | exact HB.out))); rintro e w13 ⟨rfl, hb⟩; refine ⟨_, rfl, ?_⟩; have n0_ := Aside0.mk (below_step (by repeat (first | (with_reducible first | exact HB.out | apply below_alloc | apply pw_below_drewN | apply below_drew1) | exact HB.out)) hb); clear HB; have HB := n0_; clear n0_; (try clear hb); (try clear hb2); (try clear hk); (try clear hi)) | ((with_reducible refine gate_callee (f := 25) rfl ?_); refine goesL_ (some 10) rfl rfl Tryd.func25 (by kernel_rfl) rfl #[.slice A0 l0.length c0] rfl (by (try simp only [List.map_toArray, List.map_cons, List.map_nil]); first | done | rfl | (simp only [List.length_drop, List.length_take]; rfl) | (simp (disch := omega) only [IntWalk.wrap64_in]; done)) ?_; (with_reducible refine (slotmeshref02_Few.calls k _ _ l0 true _ ?side1 ?side2 A3.out).mono ?_); (case side1 => repeat (first | exact (Kd.C_below HR0.out HB.out) | (with_reducible refine Kd.C_alloc ?_ _) | (with_reducible refine Kd.C_drewN ?_ _) | (with_reducible refine Kd.C_drew ?_))); (case side2 => exact HC0.out); rintro e w' ⟨rfl, ⟨nd, rfl⟩⟩; refine ⟨_, rfl, ?_⟩) | ((with_reducible refine gate_callee (f := 27) rfl ?_); refine goesL_ (some 15) rfl rfl Tryd.func27 (by kernel_rfl) rfl #[.slice A0 l0.length c0] rfl (by (try simp only [List.map_toArray, List.map_cons, List.map_nil]); first | done | rfl | (simp only [List.length_drop, List.length_take]; rfl) | (simp (disch := omega) only [IntWalk.wrap64_in]; done)) ?_; (with_reducible refine (printer_Print.calls _ _ l0 t297 t298 _ ?side3 ?side1 ?side2 A5.out).mono ?_); (case side1 => repeat (first | exact (Kd.C_below HR0.out (by repeat (first | (with_reducible first | exact HB.out | apply below_alloc | apply pw_below_drewN | apply below_drew1) | exact HB.out))) | (with_reducible refine Kd.C_alloc ?_ _) | (with_reducible refine Kd.C_drewN ?_ _) | (with_reducible refine Kd.C_drew ?_))); (case side2 => exact HC0.out); (case side3 => exact Tx.GP.aside hG (by repeat (first | (with_reducible first | exact HB.out | apply below_alloc | apply pw_below_drewN | apply below_drew1) | exact HB.out))); rintro e w14 ⟨rfl, hb⟩; refine ⟨_, rfl, ?_⟩; have n0_ := Aside0.mk (below_step (by repeat (first | (with_reducible first | exact HB.out | apply below_alloc | apply pw_below_drewN | apply below_drew1) | exact HB.out)) hb); clear HB; have HB := n0_; clear n0_; (try clear hb); (try clear hb2); (try clear hk); (try clear hi)) | ((with_reducible refine gate_callee (f := 20) rfl ?_); refine goesL_ (some 27) rfl rfl Tryd.func20 (by kernel_rfl) rfl #[.string t297] rfl (by (try simp only [List.map_toArray, List.map_cons, List.map_nil]); first | done | rfl | (simp only [List.length_drop, List.length_take]; rfl) | (simp (disch := omega) only [IntWalk.wrap64_in]; done)) ?_; (with_reducible refine (parser_Parse.calls t297 t299 t300 _ ?side1 A7.out).mono ?_); (case side1 => exact Tx.GP.aside hG (by repeat (first | (with_reducible first | exact HB.out | apply below_alloc | apply pw_below_drewN | apply below_drew1) | exact HB.out))); rintro e w15 ⟨v301, v303, rfl, ho0, ho1, hb⟩; refine ⟨_, rfl, ?_⟩; have n0_ := Aside0.mk (Kd.N_lower (Kd.N_mono (ok' := fun k_ => some k_ ≠ (v303 : Value).ownBlock) (Kd.R_N (Kd.R_bound (Kd.R_apart' ho0 (Kd.R_typed ho1) (by decide)))) (fun k_ hk_ => hk_.1.2)) (below_size (by repeat (first | (with_reducible first | exact HB.out | apply below_alloc | apply pw_below_drewN | apply below_drew1) | exact HB.out)))); have n1_ := Aside0.mk (Kd.R_lower ho1 (below_size (by repeat (first | (with_reducible first | exact HB.out | apply below_alloc | apply pw_below_drewN | apply below_drew1) | exact HB.out)))); have n2_ := Aside0.mk (below_step (by repeat (first | (with_reducible first | exact HB.out | apply below_alloc | apply pw_below_drewN | apply below_drew1) | exact HB.out)) hb); clear HB; have HO302 := n0_; have HO304 := n1_; have HB := n2_; clear n0_ n1_ n2_; (try clear hb); (try clear hb2); (try clear hk); (try clear hi); (try clear ho0); (try clear ho1); obtain ⟨Ao16, co16, eo16⟩ := Kd.R_slice HO304.out; subst eo16; obtain ⟨Ao17, co17, eo17⟩ := Kd.N_slice HO302.out; subst eo17) | (go_at_call 23; (with_reducible refine (parser_Strip.calls _ _ t299 t305 _ ?side1 ?side2 A10.out).mono ?_); (case side1 => repeat (first | exact (Kd.N_reads' HO302.out).2.2 | (with_reducible refine Kd.C_alloc ?_ _) | (with_reducible refine Kd.C_drewN ?_ _) | (with_reducible refine Kd.C_drew ?_))); (case side2 => exact (Kd.N_reads' HO302.out).2.1); rintro e w18 ⟨v306, rfl, ho0, hb⟩; have n0_ := Aside0.mk (Kd.N_elder' (by (with_reducible repeat (first | apply Kd.N_alloc | apply Kd.N_drewN | apply Kd.N_drew)); exact HO302.out) (Kd.N_base ho0) hb); have n1_ := Aside0.mk (Kd.R_below (by (with_reducible repeat (first | apply Kd.R_alloc | apply Kd.R_drewN | apply Kd.R_drew)); exact HO304.out) hb); have n2_ := Aside0.mk (Kd.N_lower ho0 (below_size (by repeat (first | (with_reducible first | exact HB.out | apply below_alloc | apply pw_below_drewN | apply below_drew1) | exact HB.out)))); have n3_ := Aside0.mk (below_step (by repeat (first | (with_reducible first | exact HB.out | apply below_alloc | apply pw_below_drewN | apply below_drew1) | exact HB.out)) hb); clear HO302; clear HO304; clear HB; have HO302 := n0_; have HO304 := n1_; have HO307 := n2_; have HB := n3_; clear n0_ n1_ n2_ n3_; (try clear hb); (try clear hb2); (try clear hk); (try clear hi); (try clear ho0)) | (go_at_call 23; (with_reducible refine (parser_Strip.calls _ _ l0 t308 _ ?side1 ?side2 A11.out).mono ?_); (case side1 => repeat (first | exact (Kd.C_below HR0.out HB.out) | (with_reducible refine Kd.C_alloc ?_ _) | (with_reducible refine Kd.C_drewN ?_ _) | (with_reducible refine Kd.C_drew ?_))); (case side2 => exact HC0.out); rintro e w19 ⟨v309, rfl, ho0, hb⟩; have n0_ := Aside0.mk (Kd.N_elder' (by (with_reducible repeat (first | apply Kd.N_alloc | apply Kd.N_drewN | apply Kd.N_drew)); exact HO302.out) (Kd.N_base ho0) hb); have n1_ := Aside0.mk (Kd.R_below (by (with_reducible repeat (first | apply Kd.R_alloc | apply Kd.R_drewN | apply Kd.R_drew)); exact HO304.out) hb); have n2_ := Aside0.mk (Kd.N_elder' (by (with_reducible repeat (first | apply Kd.N_alloc | apply Kd.N_drewN | apply Kd.N_drew)); exact HO307.out) (Kd.N_base ho0) hb); have n3_ := Aside0.mk (Kd.N_lower ho0 (below_size (by repeat (first | (with_reducible first | exact HB.out | apply below_alloc | apply pw_below_drewN | apply below_drew1) | exact HB.out)))); have n4_ := Aside0.mk (below_step (by repeat (first | (with_reducible first | exact HB.out | apply below_alloc | apply pw_below_drewN | apply below_drew1) | exact HB.out)) hb); clear HO302; clear HO304; clear HO307; clear HB; have HO302 := n0_; have HO304 := n1_; have HO307 := n2_; have HO310 := n3_; have HB := n4_; clear n0_ n1_ n2_ n3_ n4_; (try clear hb); (try clear hb2); (try clear hk); (try clear hi); (try clear ho0); obtain ⟨Ao20, co20, eo20⟩ := Kd.N_slice HO307.out; subst eo20; obtain ⟨Ao21, co21, eo21⟩ := Kd.N_slice HO310.out; subst eo21) | (go_at_call 22; (with_reducible refine (slotmeshref02_Same.calls k _ _ t305 _ _ t308 t311 _ ?side1 ?side2 ?side3 ?side4 A12.out).mono ?_); (case side1 => repeat (first | exact (Kd.N_reads' HO307.out).2.2 | (with_reducible refine Kd.C_alloc ?_ _) | (with_reducible refine Kd.C_drewN ?_ _) | (with_reducible refine Kd.C_drew ?_))); (case side2 => exact (Kd.N_reads' HO307.out).2.1); (case side3 => repeat (first | exact (Kd.N_reads' HO310.out).2.2 | (with_reducible refine Kd.C_alloc ?_ _) | (with_reducible refine Kd.C_drewN ?_ _) | (with_reducible refine Kd.C_drew ?_))); (case side4 => exact (Kd.N_reads' HO310.out).2.1); rintro e w' ⟨rfl, ⟨nd, rfl⟩⟩))
          go_ret
          exact ⟨by first | rfl | (simp [errW_none, errW_some] <;> rfl) | (simp [*, errW_none, errW_some] <;> rfl), by repeat (first | (with_reducible first | exact HB.out | apply below_alloc | apply pw_below_drewN | apply below_drew1) | exact HB.out)⟩
        · rw [if_neg c9] at H
          have c9b0 : ((t300.length : Int) == 0) = false := beq_eq_false_iff_ne.mpr c9
          have c9b1 : ((t300.length : Int) != 0) = true := bne_iff_ne.mpr c9
          have c9b2 : ¬ (t300 = []) := fun h_ => c9 (by rw [h_]; rfl)
          obtain rfl := Option.some.inj H
          go_enter Tryd.func17, Tryd.ntmps17
          go_wp2_with (first | ((with_reducible refine gate_callee (f := 29) rfl ?_); refine goesL_ (some 8) rfl rfl Tryd.func29 (by kernel_rfl) rfl #[] rfl (by (try simp only [List.map_toArray, List.map_cons, List.map_nil]); first | done | rfl | (simp only [List.length_drop, List.length_take]; rfl) | (simp (disch := omega) only [IntWalk.wrap64_in]; done)) ?_; (with_reducible refine (slotmeshlaw03_head.calls  true _ ?side1 A2.out).mono ?_); (case side1 => exact Tx.GP.aside hG (by repeat (first | (with_reducible first | exact HB.out | apply below_alloc | apply pw_below_drewN | apply below_drew1) | exact HB.out))); rintro e w22 ⟨rfl, hb⟩; refine ⟨_, rfl, ?_⟩; have n0_ := Aside0.mk (below_step (by repeat (first | (with_reducible first | exact HB.out | apply below_alloc | apply pw_below_drewN | apply below_drew1) | exact HB.out)) hb); clear HB; have HB := n0_; clear n0_; (try clear hb); (try clear hb2); (try clear hk); (try clear hi)) | ((with_reducible refine gate_callee (f := 25) rfl ?_); refine goesL_ (some 10) rfl rfl Tryd.func25 (by kernel_rfl) rfl #[.slice A0 l0.length c0] rfl (by (try simp only [List.map_toArray, List.map_cons, List.map_nil]); first | done | rfl | (simp only [List.length_drop, List.length_take]; rfl) | (simp (disch := omega) only [IntWalk.wrap64_in]; done)) ?_; (with_reducible refine (slotmeshref02_Few.calls k _ _ l0 true _ ?side1 ?side2 A3.out).mono ?_); (case side1 => repeat (first | exact (Kd.C_below HR0.out HB.out) | (with_reducible refine Kd.C_alloc ?_ _) | (with_reducible refine Kd.C_drewN ?_ _) | (with_reducible refine Kd.C_drew ?_))); (case side2 => exact HC0.out); rintro e w' ⟨rfl, ⟨nd, rfl⟩⟩; refine ⟨_, rfl, ?_⟩) | ((with_reducible refine gate_callee (f := 27) rfl ?_); refine goesL_ (some 15) rfl rfl Tryd.func27 (by kernel_rfl) rfl #[.slice A0 l0.length c0] rfl (by (try simp only [List.map_toArray, List.map_cons, List.map_nil]); first | done | rfl | (simp only [List.length_drop, List.length_take]; rfl) | (simp (disch := omega) only [IntWalk.wrap64_in]; done)) ?_; (with_reducible refine (printer_Print.calls _ _ l0 t297 t298 _ ?side3 ?side1 ?side2 A5.out).mono ?_); (case side1 => repeat (first | exact (Kd.C_below HR0.out (by repeat (first | (with_reducible first | exact HB.out | apply below_alloc | apply pw_below_drewN | apply below_drew1) | exact HB.out))) | (with_reducible refine Kd.C_alloc ?_ _) | (with_reducible refine Kd.C_drewN ?_ _) | (with_reducible refine Kd.C_drew ?_))); (case side2 => exact HC0.out); (case side3 => exact Tx.GP.aside hG (by repeat (first | (with_reducible first | exact HB.out | apply below_alloc | apply pw_below_drewN | apply below_drew1) | exact HB.out))); rintro e w23 ⟨rfl, hb⟩; refine ⟨_, rfl, ?_⟩; have n0_ := Aside0.mk (below_step (by repeat (first | (with_reducible first | exact HB.out | apply below_alloc | apply pw_below_drewN | apply below_drew1) | exact HB.out)) hb); clear HB; have HB := n0_; clear n0_; (try clear hb); (try clear hb2); (try clear hk); (try clear hi)) | ((with_reducible refine gate_callee (f := 20) rfl ?_); refine goesL_ (some 27) rfl rfl Tryd.func20 (by kernel_rfl) rfl #[.string t297] rfl (by (try simp only [List.map_toArray, List.map_cons, List.map_nil]); first | done | rfl | (simp only [List.length_drop, List.length_take]; rfl) | (simp (disch := omega) only [IntWalk.wrap64_in]; done)) ?_; (with_reducible refine (parser_Parse.calls t297 t299 t300 _ ?side1 A7.out).mono ?_); (case side1 => exact Tx.GP.aside hG (by repeat (first | (with_reducible first | exact HB.out | apply below_alloc | apply pw_below_drewN | apply below_drew1) | exact HB.out))); rintro e w24 ⟨v301, v303, rfl, ho0, ho1, hb⟩; refine ⟨_, rfl, ?_⟩; have n0_ := Aside0.mk (Kd.N_lower (Kd.N_mono (ok' := fun k_ => some k_ ≠ (v303 : Value).ownBlock) (Kd.R_N (Kd.R_bound (Kd.R_apart' ho0 (Kd.R_typed ho1) (by decide)))) (fun k_ hk_ => hk_.1.2)) (below_size (by repeat (first | (with_reducible first | exact HB.out | apply below_alloc | apply pw_below_drewN | apply below_drew1) | exact HB.out)))); have n1_ := Aside0.mk (Kd.R_lower ho1 (below_size (by repeat (first | (with_reducible first | exact HB.out | apply below_alloc | apply pw_below_drewN | apply below_drew1) | exact HB.out)))); have n2_ := Aside0.mk (below_step (by repeat (first | (with_reducible first | exact HB.out | apply below_alloc | apply pw_below_drewN | apply below_drew1) | exact HB.out)) hb); clear HB; have HO302 := n0_; have HO304 := n1_; have HB := n2_; clear n0_ n1_ n2_; (try clear hb); (try clear hb2); (try clear hk); (try clear hi); (try clear ho0); (try clear ho1); obtain ⟨Ao25, co25, eo25⟩ := Kd.R_slice HO304.out; subst eo25))
          go_ret
          exact ⟨by first | rfl | (simp [errW_none, errW_some] <;> rfl) | (simp [*, errW_none, errW_some] <;> rfl), by repeat (first | (with_reducible first | exact HB.out | apply below_alloc | apply pw_below_drewN | apply below_drew1) | exact HB.out)⟩
      · replace c8 := Bool.eq_false_iff.mpr c8
        subst c8
        have H1 : (some false) = some r := by rw [if_neg (show ¬ (false = true) by decide)] at H; exact H
        clear H
        have H := H1
        clear H1
        obtain rfl := Option.some.inj H
        go_enter Tryd.func17, Tryd.ntmps17
        go_wp2_with (first | ((with_reducible refine gate_callee (f := 29) rfl ?_); refine goesL_ (some 8) rfl rfl Tryd.func29 (by kernel_rfl) rfl #[] rfl (by (try simp only [List.map_toArray, List.map_cons, List.map_nil]); first | done | rfl | (simp only [List.length_drop, List.length_take]; rfl) | (simp (disch := omega) only [IntWalk.wrap64_in]; done)) ?_; (with_reducible refine (slotmeshlaw03_head.calls  false _ ?side1 A2.out).mono ?_); (case side1 => exact Tx.GP.aside hG (by repeat (first | (with_reducible first | exact HB.out | apply below_alloc | apply pw_below_drewN | apply below_drew1) | exact HB.out))); rintro e w26 ⟨rfl, hb⟩; refine ⟨_, rfl, ?_⟩; have n0_ := Aside0.mk (below_step (by repeat (first | (with_reducible first | exact HB.out | apply below_alloc | apply pw_below_drewN | apply below_drew1) | exact HB.out)) hb); clear HB; have HB := n0_; clear n0_; (try clear hb); (try clear hb2); (try clear hk); (try clear hi)) | ((with_reducible refine gate_callee (f := 25) rfl ?_); refine goesL_ (some 10) rfl rfl Tryd.func25 (by kernel_rfl) rfl #[.slice A0 l0.length c0] rfl (by (try simp only [List.map_toArray, List.map_cons, List.map_nil]); first | done | rfl | (simp only [List.length_drop, List.length_take]; rfl) | (simp (disch := omega) only [IntWalk.wrap64_in]; done)) ?_; (with_reducible refine (slotmeshref02_Few.calls k _ _ l0 true _ ?side1 ?side2 A3.out).mono ?_); (case side1 => repeat (first | exact (Kd.C_below HR0.out HB.out) | (with_reducible refine Kd.C_alloc ?_ _) | (with_reducible refine Kd.C_drewN ?_ _) | (with_reducible refine Kd.C_drew ?_))); (case side2 => exact HC0.out); rintro e w' ⟨rfl, ⟨nd, rfl⟩⟩; refine ⟨_, rfl, ?_⟩) | ((with_reducible refine gate_callee (f := 27) rfl ?_); refine goesL_ (some 15) rfl rfl Tryd.func27 (by kernel_rfl) rfl #[.slice A0 l0.length c0] rfl (by (try simp only [List.map_toArray, List.map_cons, List.map_nil]); first | done | rfl | (simp only [List.length_drop, List.length_take]; rfl) | (simp (disch := omega) only [IntWalk.wrap64_in]; done)) ?_; (with_reducible refine (printer_Print.calls _ _ l0 t297 t298 _ ?side3 ?side1 ?side2 A5.out).mono ?_); (case side1 => repeat (first | exact (Kd.C_below HR0.out (by repeat (first | (with_reducible first | exact HB.out | apply below_alloc | apply pw_below_drewN | apply below_drew1) | exact HB.out))) | (with_reducible refine Kd.C_alloc ?_ _) | (with_reducible refine Kd.C_drewN ?_ _) | (with_reducible refine Kd.C_drew ?_))); (case side2 => exact HC0.out); (case side3 => exact Tx.GP.aside hG (by repeat (first | (with_reducible first | exact HB.out | apply below_alloc | apply pw_below_drewN | apply below_drew1) | exact HB.out))); rintro e w27 ⟨rfl, hb⟩; refine ⟨_, rfl, ?_⟩; have n0_ := Aside0.mk (below_step (by repeat (first | (with_reducible first | exact HB.out | apply below_alloc | apply pw_below_drewN | apply below_drew1) | exact HB.out)) hb); clear HB; have HB := n0_; clear n0_; (try clear hb); (try clear hb2); (try clear hk); (try clear hi)) | ((with_reducible refine gate_callee (f := 20) rfl ?_); refine goesL_ (some 27) rfl rfl Tryd.func20 (by kernel_rfl) rfl #[.string t297] rfl (by (try simp only [List.map_toArray, List.map_cons, List.map_nil]); first | done | rfl | (simp only [List.length_drop, List.length_take]; rfl) | (simp (disch := omega) only [IntWalk.wrap64_in]; done)) ?_; (with_reducible refine (parser_Parse.calls t297 t299 t300 _ ?side1 A7.out).mono ?_); (case side1 => exact Tx.GP.aside hG (by repeat (first | (with_reducible first | exact HB.out | apply below_alloc | apply pw_below_drewN | apply below_drew1) | exact HB.out))); rintro e w28 ⟨v301, v303, rfl, ho0, ho1, hb⟩; refine ⟨_, rfl, ?_⟩; have n0_ := Aside0.mk (Kd.N_lower (Kd.N_mono (ok' := fun k_ => some k_ ≠ (v303 : Value).ownBlock) (Kd.R_N (Kd.R_bound (Kd.R_apart' ho0 (Kd.R_typed ho1) (by decide)))) (fun k_ hk_ => hk_.1.2)) (below_size (by repeat (first | (with_reducible first | exact HB.out | apply below_alloc | apply pw_below_drewN | apply below_drew1) | exact HB.out)))); have n1_ := Aside0.mk (Kd.R_lower ho1 (below_size (by repeat (first | (with_reducible first | exact HB.out | apply below_alloc | apply pw_below_drewN | apply below_drew1) | exact HB.out)))); have n2_ := Aside0.mk (below_step (by repeat (first | (with_reducible first | exact HB.out | apply below_alloc | apply pw_below_drewN | apply below_drew1) | exact HB.out)) hb); clear HB; have HO302 := n0_; have HO304 := n1_; have HB := n2_; clear n0_ n1_ n2_; (try clear hb); (try clear hb2); (try clear hk); (try clear hi); (try clear ho0); (try clear ho1)))
        go_ret
        exact ⟨by first | rfl | (simp [errW_none, errW_some] <;> rfl) | (simp [*, errW_none, errW_some] <;> rfl), by repeat (first | (with_reducible first | exact HB.out | apply below_alloc | apply pw_below_drewN | apply below_drew1) | exact HB.out)⟩
    · rw [if_neg c6] at H
      have c6b0 : (t298 == 0) = false := beq_eq_false_iff_ne.mpr c6
      have c6b1 : (t298 != 0) = true := bne_iff_ne.mpr c6
      by_cases c29 : t295 = true
      · subst c29
        have H1 : (some (t297.toList == ([] : List UInt8))) = some r := by rw [if_pos rfl] at H; exact H
        clear H
        have H := H1
        clear H1
        obtain rfl := Option.some.inj H
        go_enter Tryd.func17, Tryd.ntmps17
        go_wp2_with (first | ((with_reducible refine gate_callee (f := 29) rfl ?_); refine goesL_ (some 8) rfl rfl Tryd.func29 (by kernel_rfl) rfl #[] rfl (by (try simp only [List.map_toArray, List.map_cons, List.map_nil]); first | done | rfl | (simp only [List.length_drop, List.length_take]; rfl) | (simp (disch := omega) only [IntWalk.wrap64_in]; done)) ?_; (with_reducible refine (slotmeshlaw03_head.calls  true _ ?side1 A2.out).mono ?_); (case side1 => exact Tx.GP.aside hG (by repeat (first | (with_reducible first | exact HB.out | apply below_alloc | apply pw_below_drewN | apply below_drew1) | exact HB.out))); rintro e w30 ⟨rfl, hb⟩; refine ⟨_, rfl, ?_⟩; have n0_ := Aside0.mk (below_step (by repeat (first | (with_reducible first | exact HB.out | apply below_alloc | apply pw_below_drewN | apply below_drew1) | exact HB.out)) hb); clear HB; have HB := n0_; clear n0_; (try clear hb); (try clear hb2); (try clear hk); (try clear hi)) | ((with_reducible refine gate_callee (f := 25) rfl ?_); refine goesL_ (some 10) rfl rfl Tryd.func25 (by kernel_rfl) rfl #[.slice A0 l0.length c0] rfl (by (try simp only [List.map_toArray, List.map_cons, List.map_nil]); first | done | rfl | (simp only [List.length_drop, List.length_take]; rfl) | (simp (disch := omega) only [IntWalk.wrap64_in]; done)) ?_; (with_reducible refine (slotmeshref02_Few.calls k _ _ l0 true _ ?side1 ?side2 A3.out).mono ?_); (case side1 => repeat (first | exact (Kd.C_below HR0.out HB.out) | (with_reducible refine Kd.C_alloc ?_ _) | (with_reducible refine Kd.C_drewN ?_ _) | (with_reducible refine Kd.C_drew ?_))); (case side2 => exact HC0.out); rintro e w' ⟨rfl, ⟨nd, rfl⟩⟩; refine ⟨_, rfl, ?_⟩) | ((with_reducible refine gate_callee (f := 27) rfl ?_); refine goesL_ (some 15) rfl rfl Tryd.func27 (by kernel_rfl) rfl #[.slice A0 l0.length c0] rfl (by (try simp only [List.map_toArray, List.map_cons, List.map_nil]); first | done | rfl | (simp only [List.length_drop, List.length_take]; rfl) | (simp (disch := omega) only [IntWalk.wrap64_in]; done)) ?_; (with_reducible refine (printer_Print.calls _ _ l0 t297 t298 _ ?side3 ?side1 ?side2 A5.out).mono ?_); (case side1 => repeat (first | exact (Kd.C_below HR0.out (by repeat (first | (with_reducible first | exact HB.out | apply below_alloc | apply pw_below_drewN | apply below_drew1) | exact HB.out))) | (with_reducible refine Kd.C_alloc ?_ _) | (with_reducible refine Kd.C_drewN ?_ _) | (with_reducible refine Kd.C_drew ?_))); (case side2 => exact HC0.out); (case side3 => exact Tx.GP.aside hG (by repeat (first | (with_reducible first | exact HB.out | apply below_alloc | apply pw_below_drewN | apply below_drew1) | exact HB.out))); rintro e w31 ⟨rfl, hb⟩; refine ⟨_, rfl, ?_⟩; have n0_ := Aside0.mk (below_step (by repeat (first | (with_reducible first | exact HB.out | apply below_alloc | apply pw_below_drewN | apply below_drew1) | exact HB.out)) hb); clear HB; have HB := n0_; clear n0_; (try clear hb); (try clear hb2); (try clear hk); (try clear hi)))
        go_ret
        exact ⟨by first | rfl | (simp [errW_none, errW_some] <;> rfl) | (simp [*, errW_none, errW_some] <;> rfl), by repeat (first | (with_reducible first | exact HB.out | apply below_alloc | apply pw_below_drewN | apply below_drew1) | exact HB.out)⟩
      · replace c29 := Bool.eq_false_iff.mpr c29
        subst c29
        have H1 : (some false) = some r := by rw [if_neg (show ¬ (false = true) by decide)] at H; exact H
        clear H
        have H := H1
        clear H1
        obtain rfl := Option.some.inj H
        go_enter Tryd.func17, Tryd.ntmps17
        go_wp2_with (first | ((with_reducible refine gate_callee (f := 29) rfl ?_); refine goesL_ (some 8) rfl rfl Tryd.func29 (by kernel_rfl) rfl #[] rfl (by (try simp only [List.map_toArray, List.map_cons, List.map_nil]); first | done | rfl | (simp only [List.length_drop, List.length_take]; rfl) | (simp (disch := omega) only [IntWalk.wrap64_in]; done)) ?_; (with_reducible refine (slotmeshlaw03_head.calls  false _ ?side1 A2.out).mono ?_); (case side1 => exact Tx.GP.aside hG (by repeat (first | (with_reducible first | exact HB.out | apply below_alloc | apply pw_below_drewN | apply below_drew1) | exact HB.out))); rintro e w32 ⟨rfl, hb⟩; refine ⟨_, rfl, ?_⟩; have n0_ := Aside0.mk (below_step (by repeat (first | (with_reducible first | exact HB.out | apply below_alloc | apply pw_below_drewN | apply below_drew1) | exact HB.out)) hb); clear HB; have HB := n0_; clear n0_; (try clear hb); (try clear hb2); (try clear hk); (try clear hi)) | ((with_reducible refine gate_callee (f := 25) rfl ?_); refine goesL_ (some 10) rfl rfl Tryd.func25 (by kernel_rfl) rfl #[.slice A0 l0.length c0] rfl (by (try simp only [List.map_toArray, List.map_cons, List.map_nil]); first | done | rfl | (simp only [List.length_drop, List.length_take]; rfl) | (simp (disch := omega) only [IntWalk.wrap64_in]; done)) ?_; (with_reducible refine (slotmeshref02_Few.calls k _ _ l0 true _ ?side1 ?side2 A3.out).mono ?_); (case side1 => repeat (first | exact (Kd.C_below HR0.out HB.out) | (with_reducible refine Kd.C_alloc ?_ _) | (with_reducible refine Kd.C_drewN ?_ _) | (with_reducible refine Kd.C_drew ?_))); (case side2 => exact HC0.out); rintro e w' ⟨rfl, ⟨nd, rfl⟩⟩; refine ⟨_, rfl, ?_⟩) | ((with_reducible refine gate_callee (f := 27) rfl ?_); refine goesL_ (some 15) rfl rfl Tryd.func27 (by kernel_rfl) rfl #[.slice A0 l0.length c0] rfl (by (try simp only [List.map_toArray, List.map_cons, List.map_nil]); first | done | rfl | (simp only [List.length_drop, List.length_take]; rfl) | (simp (disch := omega) only [IntWalk.wrap64_in]; done)) ?_; (with_reducible refine (printer_Print.calls _ _ l0 t297 t298 _ ?side3 ?side1 ?side2 A5.out).mono ?_); (case side1 => repeat (first | exact (Kd.C_below HR0.out (by repeat (first | (with_reducible first | exact HB.out | apply below_alloc | apply pw_below_drewN | apply below_drew1) | exact HB.out))) | (with_reducible refine Kd.C_alloc ?_ _) | (with_reducible refine Kd.C_drewN ?_ _) | (with_reducible refine Kd.C_drew ?_))); (case side2 => exact HC0.out); (case side3 => exact Tx.GP.aside hG (by repeat (first | (with_reducible first | exact HB.out | apply below_alloc | apply pw_below_drewN | apply below_drew1) | exact HB.out))); rintro e w33 ⟨rfl, hb⟩; refine ⟨_, rfl, ?_⟩; have n0_ := Aside0.mk (below_step (by repeat (first | (with_reducible first | exact HB.out | apply below_alloc | apply pw_below_drewN | apply below_drew1) | exact HB.out)) hb); clear HB; have HB := n0_; clear n0_; (try clear hb); (try clear hb2); (try clear hk); (try clear hi)))
        go_ret
        exact ⟨by first | rfl | (simp [errW_none, errW_some] <;> rfl) | (simp [*, errW_none, errW_some] <;> rfl), by repeat (first | (with_reducible first | exact HB.out | apply below_alloc | apply pw_below_drewN | apply below_drew1) | exact HB.out)⟩
  · replace c4 := Bool.eq_false_iff.mpr c4
    subst c4
    have H1 : (some t295) = some r := by rw [if_neg (show ¬ (false = true) by decide)] at H; exact H
    clear H
    have H := H1
    clear H1
    obtain rfl := Option.some.inj H
    go_enter Tryd.func17, Tryd.ntmps17
    go_wp2_with (first | ((with_reducible refine gate_callee (f := 29) rfl ?_); refine goesL_ (some 8) rfl rfl Tryd.func29 (by kernel_rfl) rfl #[] rfl (by (try simp only [List.map_toArray, List.map_cons, List.map_nil]); first | done | rfl | (simp only [List.length_drop, List.length_take]; rfl) | (simp (disch := omega) only [IntWalk.wrap64_in]; done)) ?_; (with_reducible refine (slotmeshlaw03_head.calls  t295 _ ?side1 A2.out).mono ?_); (case side1 => exact Tx.GP.aside hG (by repeat (first | (with_reducible first | exact HB.out | apply below_alloc | apply pw_below_drewN | apply below_drew1) | exact HB.out))); rintro e w34 ⟨rfl, hb⟩; refine ⟨_, rfl, ?_⟩; have n0_ := Aside0.mk (below_step (by repeat (first | (with_reducible first | exact HB.out | apply below_alloc | apply pw_below_drewN | apply below_drew1) | exact HB.out)) hb); clear HB; have HB := n0_; clear n0_; (try clear hb); (try clear hb2); (try clear hk); (try clear hi)) | ((with_reducible refine gate_callee (f := 25) rfl ?_); refine goesL_ (some 10) rfl rfl Tryd.func25 (by kernel_rfl) rfl #[.slice A0 l0.length c0] rfl (by (try simp only [List.map_toArray, List.map_cons, List.map_nil]); first | done | rfl | (simp only [List.length_drop, List.length_take]; rfl) | (simp (disch := omega) only [IntWalk.wrap64_in]; done)) ?_; (with_reducible refine (slotmeshref02_Few.calls k _ _ l0 false _ ?side1 ?side2 A3.out).mono ?_); (case side1 => repeat (first | exact (Kd.C_below HR0.out HB.out) | (with_reducible refine Kd.C_alloc ?_ _) | (with_reducible refine Kd.C_drewN ?_ _) | (with_reducible refine Kd.C_drew ?_))); (case side2 => exact HC0.out); rintro e w' ⟨rfl, ⟨nd, rfl⟩⟩; refine ⟨_, rfl, ?_⟩))
    go_ret
    exact ⟨by first | rfl | (simp [errW_none, errW_some] <;> rfl) | (simp [*, errW_none, errW_some] <;> rfl), by repeat (first | (with_reducible first | exact HB.out | apply below_alloc | apply pw_below_drewN | apply below_drew1) | exact HB.out)⟩

end Go.Proofs.YtdedlchpjboceaaDoor.PE
end
