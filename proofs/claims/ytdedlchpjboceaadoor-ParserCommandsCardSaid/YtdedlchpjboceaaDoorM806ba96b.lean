/- Texts of proofs: plain words, and walks through the program's functions. -/
import Derived.Test.YtdedlchpjboceaaDoorM51382fde
import Derived.Test.YtdedlchpjboceaaDoorM39186e56
import Derived.Test.YtdedlchpjboceaaDoorM1666a753
import Derived.Test.YtdedlchpjboceaaDoorMfb99eaca
import Derived.Test.YtdedlchpjboceaaDoorM58e50c0b
import Derived.Test.YtdedlchpjboceaaDoorM0c654a18
import Derived.Test.YtdedlchpjboceaaDoorMc5c3dae3
import Derived.Test.YtdedlchpjboceaaDoorMf909adec
import Derived.Test.YtdedlchpjboceaaDoorM2d894c6c
import Derived.Test.YtdedlchpjboceaaDoorM050075ee

section
namespace Go.Proofs.YtdedlchpjboceaaDoor.PE
open Go.RowKit Go.Proofs.YtdedlchpjboceaaDoorW.PrintWords Go.Proofs.YtdedlchpjboceaaDoorW.PrintLast Go.Proofs.YtdedlchpjboceaaDoorW.PrintMore
attribute [local go_sem] max2_int min2_int max_two min_two max_three min_three max_four min_four   -- for this text's walks alone
def slotmeshlaw02_ParserCommands.l0 : Nat → ByteArray → Bool → List (S40) → Int → List (S40) → Int → Int → Option (Bool)
  | 0, _, _, _, _, _, _, _ => none
  | k + 1, x0, x3, x4, x6, x35, x36, x37 => if x37 < x36 then (if 0 ≤ x37 then (if x37 < (x35.length : Int) then ((slotmeshref02_Form.f ((rd_T40 x35 x37).f0)).bind fun t501 => ((slotmeshref02_Parts.f k t501).bind fun t502 => (if 0 < (t502.length : Int) then (if ((rd_T40 x35 x37).f3) ≤ x6 then (some false) else (if (wrap64 (((rd_T40 x35 x37).f3) + ((rdOf ByteArray.empty t502 0).size : Int))) > (x0.size : Int) then (some false) else (if 0 ≤ ((rd_T40 x35 x37).f3) then (if ((rd_T40 x35 x37).f3) ≤ (wrap64 (((rd_T40 x35 x37).f3) + ((rdOf ByteArray.empty t502 0).size : Int))) then (if (wrap64 (((rd_T40 x35 x37).f3) + ((rdOf ByteArray.empty t502 0).size : Int))) ≤ (x0.size : Int) then (if (x0.extract (((rd_T40 x35 x37).f3) : Int).toNat ((wrap64 (((rd_T40 x35 x37).f3) + ((rdOf ByteArray.empty t502 0).size : Int))) : Int).toNat).toList = (rdOf ByteArray.empty t502 0).toList then (slotmeshlaw02_ParserCommands.l0 k x0 x3 x4 ((rd_T40 x35 x37).f3) x35 x36 (wrap64 (x37 + 1))) else (some false)) else (none)) else (none)) else (none)))) else (none)))) else (none)) else (none)) else ((parser_Strip.f x4).bind fun t506 => (if x3 = true then ((parser_Valid.f x4).bind fun t509 => (if t509 = true then ((parser_Valid.f t506).bind fun t510 => (if t510 = true then ((slotmeshref02_Strip.f x4).bind fun t511 => ((slotmeshref02_Same.f k t506 t511).bind fun t514 => (if t514 = true then ((parser_Strip.f t506).bind fun t515 => ((slotmeshref02_Same.f k t515 t506).bind fun t518 => (some t518))) else (some false)))) else (some false))) else (some false))) else (some false)))
def slotmeshlaw02_ParserCommands.f (k : Nat) (a0 : ByteArray) : Option (Bool) := (slotmeshlaw02_head.f k).bind fun t492 => (if (a0.size : Int) > 8010 then (some t492) else ((parser_Parse.f a0).bind fun bt493 => (if (bt493.2.length : Int) > 0 then (if t492 = true then (if (bt493.1.length : Int) = 0 then (some (decide ((bt493.2.length : Int) ≤ 20))) else (some false)) else (some false)) else (slotmeshlaw02_ParserCommands.l0 k a0 t492 bt493.1 (-1) bt493.1 (bt493.1.length : Int) 0))))
theorem slotmeshlaw02_ParserCommands.mono_l : ∀ k, (∀ y0 y1 y2 y3 y4 y5 y6, LeO (slotmeshlaw02_ParserCommands.l0 k y0 y1 y2 y3 y4 y5 y6) (slotmeshlaw02_ParserCommands.l0 (k + 1) y0 y1 y2 y3 y4 y5 y6))
  | 0 => fun _ _ _ _ _ _ _ r h => by simp [slotmeshlaw02_ParserCommands.l0] at h
  | k + 1 => by
    have ih0 := slotmeshlaw02_ParserCommands.mono_l k
    · intro y0 y1 y2 y3 y4 y5 y6
      unfold slotmeshlaw02_ParserCommands.l0
      repeat' first
      | (with_reducible exact ih0 _ _ _ _ _ _ _)
      | (with_reducible exact slotmeshlaw02_head.mono _)
      | (with_reducible exact slotmeshref02_Parts.mono _ _)
      | (with_reducible exact slotmeshref02_Same.mono _ _ _)
      | (with_reducible exact LeO.refl _)
      | (with_reducible exact LeO.none _)
      | (with_reducible refine LeO.ite ?_ ?_)
      | (with_reducible refine LeO.bind ?_ (fun _ => ?_))
      | exact ih0 _ _ _ _ _ _ _
      | exact slotmeshlaw02_head.mono _
      | exact slotmeshref02_Parts.mono _ _
      | exact slotmeshref02_Same.mono _ _ _
      | exact LeO.none _
      | refine LeO.ite ?_ ?_
      | refine LeO.bind ?_ (fun _ => ?_)
theorem slotmeshlaw02_ParserCommands.mono : ∀ a0 k, LeO (slotmeshlaw02_ParserCommands.f k a0) (slotmeshlaw02_ParserCommands.f (k + 1) a0) := by
  intro a0 k
  have ih0 := slotmeshlaw02_ParserCommands.mono_l k
  unfold slotmeshlaw02_ParserCommands.f
  repeat' first
      | (with_reducible exact ih0 _ _ _ _ _ _ _)
      | (with_reducible exact slotmeshlaw02_head.mono _)
      | (with_reducible exact slotmeshref02_Parts.mono _ _)
      | (with_reducible exact slotmeshref02_Same.mono _ _ _)
      | (with_reducible exact LeO.refl _)
      | (with_reducible exact LeO.none _)
      | (with_reducible refine LeO.ite ?_ ?_)
      | (with_reducible refine LeO.bind ?_ (fun _ => ?_))
      | exact ih0 _ _ _ _ _ _ _
      | exact slotmeshlaw02_head.mono _
      | exact slotmeshref02_Parts.mono _ _
      | exact slotmeshref02_Same.mono _ _ _
      | exact LeO.none _
      | refine LeO.ite ?_ ?_
      | refine LeO.bind ?_ (fun _ => ?_)
set_option maxHeartbeats 8000000 in
set_option maxRecDepth 100000 in
theorem slotmeshlaw02_ParserCommands.calls (k : Nat) (a0 : ByteArray) (r : Bool) (w : World) (hG : Aside0 (Tx.GQ w)) (h : slotmeshlaw02_ParserCommands.f k a0 = some r) (hr0_ : r = true) :
    Calls Tryd.prog 9 #[.string a0] w fun e w' => e = .returned (.bool r) ∧ Below w.heap.size w w' := by
  have hr_ := Aside0.mk hr0_
  clear hr0_
  have hu40 := Tryd.underlying40
  have HB := Aside0.mk (Below.refl w.heap.size w)
  have H : ((slotmeshlaw02_head.f k).bind fun t492 => (if (a0.size : Int) > 8010 then (some t492) else ((parser_Parse.f a0).bind fun bt493 => (if (bt493.2.length : Int) > 0 then (if t492 = true then (if (bt493.1.length : Int) = 0 then (some (decide ((bt493.2.length : Int) ≤ 20))) else (some false)) else (some false)) else (slotmeshlaw02_ParserCommands.l0 k a0 t492 bt493.1 (-1) bt493.1 (bt493.1.length : Int) 0))))) = some r := h
  clear h
  replace H := Option.bind_eq_some_iff.mp H
  obtain ⟨t492, A20, H⟩ := H
  replace H : (if (a0.size : Int) > 8010 then (some t492) else ((parser_Parse.f a0).bind fun bt493 => (if (bt493.2.length : Int) > 0 then (if t492 = true then (if (bt493.1.length : Int) = 0 then (some (decide ((bt493.2.length : Int) ≤ 20))) else (some false)) else (some false)) else (slotmeshlaw02_ParserCommands.l0 k a0 t492 bt493.1 (-1) bt493.1 (bt493.1.length : Int) 0)))) = some r := H
  have A2 := Aside0.mk A20
  clear A20
  by_cases c3 : (a0.size : Int) > 8010
  · rw [if_pos c3] at H
    have c3b0 : decide (8010 < (a0.size : Int)) = true := decide_eq_true c3
    have c3b1 : decide (8010 < a0.size) = true := decide_eq_true (by omega)
    clear c3
    clear hr_
    obtain rfl := Option.some.inj H
    go_enter Tryd.func9, Tryd.ntmps9
    go_wp2_with (first | ((with_reducible refine gate_callee (f := 32) rfl ?_); refine goesL_ (some 11) rfl rfl Tryd.func32 (by kernel_rfl) rfl #[] rfl (by (try simp only [List.map_toArray, List.map_nil]); first | done | rfl | (simp only [List.length_drop, List.length_take]; rfl) | (simp (disch := omega) only [IntWalk.wrap64_in]; done)) ?_; (with_reducible refine (slotmeshlaw02_head.calls k  t492 _ ?side1 A2.out).mono ?_); (case side1 => exact Tx.GQ.aside hG (by repeat (first | (with_reducible first | exact HB.out | apply below_alloc | apply pw_below_drewN | apply below_drew1) | exact HB.out))); rintro e w4 ⟨rfl, hb⟩; refine ⟨_, rfl, ?_⟩; have n0_ := Aside0.mk (below_step (by repeat (first | (with_reducible first | exact HB.out | apply below_alloc | apply pw_below_drewN | apply below_drew1) | exact HB.out)) hb); clear HB; have HB := n0_; clear n0_; (try clear hb); (try clear hb2); (try clear hk); (try clear hi)))
    go_ret
    exact ⟨by first | rfl | (simp [errW_none, errW_some] <;> rfl) | (simp [*, errW_none, errW_some] <;> rfl), by repeat (first | (with_reducible first | exact HB.out | apply below_alloc | apply pw_below_drewN | apply below_drew1) | exact HB.out)⟩
  · rw [if_neg c3] at H
    have c3b0 : decide (8010 < (a0.size : Int)) = false := decide_eq_false c3
    have c3b1 : decide (8010 < a0.size) = false := decide_eq_false (by omega)
    clear c3
    replace H := Option.bind_eq_some_iff.mp H
    obtain ⟨⟨t493, t494⟩, A50, H⟩ := H
    replace H : (if (t494.length : Int) > 0 then (if t492 = true then (if (t493.length : Int) = 0 then (some (decide ((t494.length : Int) ≤ 20))) else (some false)) else (some false)) else (slotmeshlaw02_ParserCommands.l0 k a0 t492 t493 (-1) t493 (t493.length : Int) 0)) = some r := H
    have A5 := Aside0.mk A50
    clear A50
    by_cases c6 : (t494.length : Int) > 0
    · rw [if_pos c6] at H
      have c6b0 : decide (0 < (t494.length : Int)) = true := decide_eq_true c6
      have c6b1 : decide (0 < t494.length) = true := decide_eq_true (by omega)
      clear c6
      by_cases c7 : t492 = true
      · subst c7
        have H1 : (if (t493.length : Int) = 0 then (some (decide ((t494.length : Int) ≤ 20))) else (some false)) = some r := by rw [if_pos rfl] at H; exact H
        clear H
        have H := H1
        clear H1
        by_cases c8 : (t493.length : Int) = 0
        · rw [if_pos c8] at H
          have c8b0 : ((t493.length : Int) == 0) = true := beq_iff_eq.mpr c8
          have c8b1 : ((t493.length : Int) != 0) = false := bne_eq_false_iff_eq.mpr c8
          clear c8
          clear hr_
          obtain rfl := Option.some.inj H
          go_enter Tryd.func9, Tryd.ntmps9
          go_wp2_with (first | ((with_reducible refine gate_callee (f := 32) rfl ?_); refine goesL_ (some 11) rfl rfl Tryd.func32 (by kernel_rfl) rfl #[] rfl (by (try simp only [List.map_toArray, List.map_nil]); first | done | rfl | (simp only [List.length_drop, List.length_take]; rfl) | (simp (disch := omega) only [IntWalk.wrap64_in]; done)) ?_; (with_reducible refine (slotmeshlaw02_head.calls k  true _ ?side1 A2.out).mono ?_); (case side1 => exact Tx.GQ.aside hG (by repeat (first | (with_reducible first | exact HB.out | apply below_alloc | apply pw_below_drewN | apply below_drew1) | exact HB.out))); rintro e w9 ⟨rfl, hb⟩; refine ⟨_, rfl, ?_⟩; have n0_ := Aside0.mk (below_step (by repeat (first | (with_reducible first | exact HB.out | apply below_alloc | apply pw_below_drewN | apply below_drew1) | exact HB.out)) hb); clear HB; have HB := n0_; clear n0_; (try clear hb); (try clear hb2); (try clear hk); (try clear hi)) | ((with_reducible refine gate_callee (f := 20) rfl ?_); refine goesL_ (some 18) rfl rfl Tryd.func20 (by kernel_rfl) rfl #[.string a0] rfl (by (try simp only [List.map_toArray, List.map_cons, List.map_nil]); first | done | rfl | (simp only [List.length_drop, List.length_take]; rfl) | (simp (disch := omega) only [IntWalk.wrap64_in]; done)) ?_; (with_reducible refine (parser_Parse.calls a0 t493 t494 _ ?side1 A5.out).mono ?_); (case side1 => exact Tx.GQ.aside hG (by repeat (first | (with_reducible first | exact HB.out | apply below_alloc | apply pw_below_drewN | apply below_drew1) | exact HB.out))); rintro e w10 ⟨v495, v497, rfl, ho0, ho1, hb⟩; refine ⟨_, rfl, ?_⟩; have n0_ := Aside0.mk (Kd.N_lower (Kd.N_mono (ok' := fun k_ => some k_ ≠ (v497 : Value).ownBlock) (Kd.R_N (Kd.R_bound (Kd.R_apart' ho0 (Kd.R_typed ho1) (by decide)))) (fun k_ hk_ => hk_.1.2)) (below_size (by repeat (first | (with_reducible first | exact HB.out | apply below_alloc | apply pw_below_drewN | apply below_drew1) | exact HB.out)))); have n1_ := Aside0.mk (Kd.R_lower ho1 (below_size (by repeat (first | (with_reducible first | exact HB.out | apply below_alloc | apply pw_below_drewN | apply below_drew1) | exact HB.out)))); have n2_ := Aside0.mk (below_step (by repeat (first | (with_reducible first | exact HB.out | apply below_alloc | apply pw_below_drewN | apply below_drew1) | exact HB.out)) hb); clear HB; have HO496 := n0_; have HO498 := n1_; have HB := n2_; clear n0_ n1_ n2_; (try clear hb); (try clear hb2); (try clear hk); (try clear hi); (try clear ho0); (try clear ho1); obtain ⟨Ao11, co11, eo11⟩ := Kd.R_slice HO498.out; subst eo11; obtain ⟨Ao12, co12, eo12⟩ := Kd.N_slice HO496.out; subst eo12))
          go_ret
          exact ⟨by first | rfl | (simp [errW_none, errW_some] <;> rfl) | (simp [*, errW_none, errW_some] <;> rfl), by repeat (first | (with_reducible first | exact HB.out | apply below_alloc | apply pw_below_drewN | apply below_drew1) | exact HB.out)⟩
        · rw [if_neg c8] at H
          have c8b0 : ((t493.length : Int) == 0) = false := beq_eq_false_iff_ne.mpr c8
          have c8b1 : ((t493.length : Int) != 0) = true := bne_iff_ne.mpr c8
          have c8b2 : ¬ (t493 = []) := fun h_ => c8 (by rw [h_]; rfl)
          exact absurd ((Option.some.inj H).trans hr_.out) (by decide)
      · replace c7 := Bool.eq_false_iff.mpr c7
        subst c7
        have H1 : (some false) = some r := by rw [if_neg (show ¬ (false = true) by decide)] at H; exact H
        clear H
        have H := H1
        clear H1
        exact absurd ((Option.some.inj H).trans hr_.out) (by decide)
    · rw [if_neg c6] at H
      have c6b0 : decide (0 < (t494.length : Int)) = false := decide_eq_false c6
      have c6b1 : decide (0 < t494.length) = false := decide_eq_false (by omega)
      clear c6
      have H' := Aside0.mk H
      clear H
      go_enter Tryd.func9, Tryd.ntmps9
      go_wp2_with (first | ((with_reducible refine gate_callee (f := 32) rfl ?_); refine goesL_ (some 11) rfl rfl Tryd.func32 (by kernel_rfl) rfl #[] rfl (by (try simp only [List.map_toArray, List.map_nil]); first | done | rfl | (simp only [List.length_drop, List.length_take]; rfl) | (simp (disch := omega) only [IntWalk.wrap64_in]; done)) ?_; (with_reducible refine (slotmeshlaw02_head.calls k  t492 _ ?side1 A2.out).mono ?_); (case side1 => exact Tx.GQ.aside hG (by repeat (first | (with_reducible first | exact HB.out | apply below_alloc | apply pw_below_drewN | apply below_drew1) | exact HB.out))); rintro e w20 ⟨rfl, hb⟩; refine ⟨_, rfl, ?_⟩; have n0_ := Aside0.mk (below_step (by repeat (first | (with_reducible first | exact HB.out | apply below_alloc | apply pw_below_drewN | apply below_drew1) | exact HB.out)) hb); clear HB; have HB := n0_; clear n0_; (try clear hb); (try clear hb2); (try clear hk); (try clear hi)) | ((with_reducible refine gate_callee (f := 20) rfl ?_); refine goesL_ (some 18) rfl rfl Tryd.func20 (by kernel_rfl) rfl #[.string a0] rfl (by (try simp only [List.map_toArray, List.map_cons, List.map_nil]); first | done | rfl | (simp only [List.length_drop, List.length_take]; rfl) | (simp (disch := omega) only [IntWalk.wrap64_in]; done)) ?_; (with_reducible refine (parser_Parse.calls a0 t493 t494 _ ?side1 A5.out).mono ?_); (case side1 => exact Tx.GQ.aside hG (by repeat (first | (with_reducible first | exact HB.out | apply below_alloc | apply pw_below_drewN | apply below_drew1) | exact HB.out))); rintro e w21 ⟨v495, v497, rfl, ho0, ho1, hb⟩; refine ⟨_, rfl, ?_⟩; have n0_ := Aside0.mk (Kd.N_lower (Kd.N_mono (ok' := fun k_ => some k_ ≠ (v497 : Value).ownBlock) (Kd.R_N (Kd.R_bound (Kd.R_apart' ho0 (Kd.R_typed ho1) (by decide)))) (fun k_ hk_ => hk_.1.2)) (below_size (by repeat (first | (with_reducible first | exact HB.out | apply below_alloc | apply pw_below_drewN | apply below_drew1) | exact HB.out)))); have n1_ := Aside0.mk (Kd.R_lower ho1 (below_size (by repeat (first | (with_reducible first | exact HB.out | apply below_alloc | apply pw_below_drewN | apply below_drew1) | exact HB.out)))); have n2_ := Aside0.mk (below_step (by repeat (first | (with_reducible first | exact HB.out | apply below_alloc | apply pw_below_drewN | apply below_drew1) | exact HB.out)) hb); clear HB; have HO496 := n0_; have HO498 := n1_; have HB := n2_; clear n0_ n1_ n2_; (try clear hb); (try clear hb2); (try clear hk); (try clear hi); (try clear ho0); (try clear ho1); obtain ⟨Ao22, co22, eo22⟩ := Kd.R_slice HO498.out; subst eo22; obtain ⟨Ao23, co23, eo23⟩ := Kd.N_slice HO496.out; subst eo23))
      go_loopg [6, 37] k (fun kq v6 v37 w' => ∃ (x6_1 : Int) (x37_1 : Int), v6 = .int .i64 x6_1 ∧ v37 = .int .i64 x37_1 ∧ Aside0 (slotmeshlaw02_ParserCommands.l0 kq a0 t492 t493 x6_1 t493 (t493.length : Int) x37_1 = some r) ∧ Aside0 (kq ≤ k) ∧ Aside0 (Kd.N k40 40 w' w.heap.size (fun _ => True) (.slice Ao23 t493.length co23) t493) ∧ Aside0 (Kd.N k40 40 w' w.heap.size (fun _ => True) (.slice Ao23 t493.length co23) t493) ∧ Aside0 (Below w.heap.size w w'))
      case atStart => exact ⟨((-1)), (0), (by first | rfl | (simp; done) | (simp [*]; done)), (by first | rfl | (simp; done) | (simp [*]; done)), H', ⟨Nat.le_refl _⟩, ⟨by (with_reducible repeat (first | apply Kd.N_alloc | apply Kd.N_drewN | apply Kd.N_drew)); exact Kd.N_mono HO496.out (fun _ hk => trivial)⟩, ⟨by (with_reducible repeat (first | apply Kd.N_alloc | apply Kd.N_drewN | apply Kd.N_drew)); exact Kd.N_mono HO496.out (fun _ hk => trivial)⟩, ⟨by repeat (first | (with_reducible first | exact HB.out | apply below_alloc | apply pw_below_drewN | apply below_drew1) | exact HB.out)⟩⟩
      case round =>
        clear H'
        try clear c2
        try clear p2
        try clear c3
        try clear c3b0
        try clear c3b1
        try clear c6
        try clear c6b0
        try clear c6b1
        try clear c7
        try clear c8
        try clear c8b0
        try clear c8b1
        try clear c8b2
        try clear c9
        try clear c20
        obtain ⟨x6_1, x37_1, rfl, rfl, HA, HK1, HO_4, HO_35, HB⟩ := hrel
        cases gk with
        | zero => exact absurd HA.out (by simp [slotmeshlaw02_ParserCommands.l0])
        | succ k1 =>
          have H := HA.out
          clear HA
          simp only [slotmeshlaw02_ParserCommands.l0] at H
          by_cases c24 : x37_1 < (t493.length : Int)
          · rw [if_pos c24] at H
            have c24b0 : decide (x37_1 < (t493.length : Int)) = true := decide_eq_true c24
            clear c24
            by_cases c25 : 0 ≤ x37_1
            · rw [if_pos c25] at H
              have c25b0 : decide (0 ≤ x37_1) = true := decide_eq_true c25
              clear c25
              by_cases c26 : x37_1 < (t493.length : Int)
              · rw [if_pos c26] at H
                have c26b0 : decide (x37_1 < (t493.length : Int)) = true := decide_eq_true c26
                clear c26
                replace H := Option.bind_eq_some_iff.mp H
                obtain ⟨t501, A270, H⟩ := H
                replace H : ((slotmeshref02_Parts.f k1 t501).bind fun t502 => (if 0 < (t502.length : Int) then (if ((rd_T40 t493 x37_1).f3) ≤ x6_1 then (some false) else (if (wrap64 (((rd_T40 t493 x37_1).f3) + ((rdOf ByteArray.empty t502 0).size : Int))) > (a0.size : Int) then (some false) else (if 0 ≤ ((rd_T40 t493 x37_1).f3) then (if ((rd_T40 t493 x37_1).f3) ≤ (wrap64 (((rd_T40 t493 x37_1).f3) + ((rdOf ByteArray.empty t502 0).size : Int))) then (if (wrap64 (((rd_T40 t493 x37_1).f3) + ((rdOf ByteArray.empty t502 0).size : Int))) ≤ (a0.size : Int) then (if (a0.extract (((rd_T40 t493 x37_1).f3) : Int).toNat ((wrap64 (((rd_T40 t493 x37_1).f3) + ((rdOf ByteArray.empty t502 0).size : Int))) : Int).toNat).toList = (rdOf ByteArray.empty t502 0).toList then (slotmeshlaw02_ParserCommands.l0 k1 a0 t492 t493 ((rd_T40 t493 x37_1).f3) t493 (t493.length : Int) (wrap64 (x37_1 + 1))) else (some false)) else (none)) else (none)) else (none)))) else (none))) = some r := H
                have A27 := Aside0.mk A270
                clear A270
                replace H := Option.bind_eq_some_iff.mp H
                obtain ⟨t502, A280, H⟩ := H
                replace H : (if 0 < (t502.length : Int) then (if ((rd_T40 t493 x37_1).f3) ≤ x6_1 then (some false) else (if (wrap64 (((rd_T40 t493 x37_1).f3) + ((rdOf ByteArray.empty t502 0).size : Int))) > (a0.size : Int) then (some false) else (if 0 ≤ ((rd_T40 t493 x37_1).f3) then (if ((rd_T40 t493 x37_1).f3) ≤ (wrap64 (((rd_T40 t493 x37_1).f3) + ((rdOf ByteArray.empty t502 0).size : Int))) then (if (wrap64 (((rd_T40 t493 x37_1).f3) + ((rdOf ByteArray.empty t502 0).size : Int))) ≤ (a0.size : Int) then (if (a0.extract (((rd_T40 t493 x37_1).f3) : Int).toNat ((wrap64 (((rd_T40 t493 x37_1).f3) + ((rdOf ByteArray.empty t502 0).size : Int))) : Int).toNat).toList = (rdOf ByteArray.empty t502 0).toList then (slotmeshlaw02_ParserCommands.l0 k1 a0 t492 t493 ((rd_T40 t493 x37_1).f3) t493 (t493.length : Int) (wrap64 (x37_1 + 1))) else (some false)) else (none)) else (none)) else (none)))) else (none)) = some r := H
                have A28 := Aside0.mk A280
                clear A280
                by_cases c29 : 0 < (t502.length : Int)
                · rw [if_pos c29] at H
                  have c29b0 : decide (0 < (t502.length : Int)) = true := decide_eq_true c29
                  have c29b1 : decide (0 < t502.length) = true := decide_eq_true (by omega)
                  clear c29
                  by_cases c30 : ((rd_T40 t493 x37_1).f3) ≤ x6_1
                  · rw [if_pos c30] at H
                    have c30b0 : decide (((rd_T40 t493 x37_1).f3) ≤ x6_1) = true := decide_eq_true c30
                    clear c30
                    exact absurd ((Option.some.inj H).trans hr_.out) (by decide)
                  · rw [if_neg c30] at H
                    have c30b0 : decide (((rd_T40 t493 x37_1).f3) ≤ x6_1) = false := decide_eq_false c30
                    clear c30
                    by_cases c36 : (wrap64 (((rd_T40 t493 x37_1).f3) + ((rdOf ByteArray.empty t502 0).size : Int))) > (a0.size : Int)
                    · rw [if_pos c36] at H
                      have c36b0 : decide ((a0.size : Int) < (wrap64 (((rd_T40 t493 x37_1).f3) + ((rdOf ByteArray.empty t502 0).size : Int)))) = true := decide_eq_true c36
                      clear c36
                      exact absurd ((Option.some.inj H).trans hr_.out) (by decide)
                    · rw [if_neg c36] at H
                      have c36b0 : decide ((a0.size : Int) < (wrap64 (((rd_T40 t493 x37_1).f3) + ((rdOf ByteArray.empty t502 0).size : Int)))) = false := decide_eq_false c36
                      clear c36
                      by_cases c42 : 0 ≤ ((rd_T40 t493 x37_1).f3)
                      · rw [if_pos c42] at H
                        have c42b0 := eq_true c42
                        have c42b1 : decide (0 ≤ ((rd_T40 t493 x37_1).f3)) = true := decide_eq_true c42
                        clear c42
                        by_cases c43 : ((rd_T40 t493 x37_1).f3) ≤ (wrap64 (((rd_T40 t493 x37_1).f3) + ((rdOf ByteArray.empty t502 0).size : Int)))
                        · rw [if_pos c43] at H
                          have c43b0 := eq_true c43
                          have c43b1 : decide (((rd_T40 t493 x37_1).f3) ≤ (wrap64 (((rd_T40 t493 x37_1).f3) + ((rdOf ByteArray.empty t502 0).size : Int)))) = true := decide_eq_true c43
                          by_cases c44 : (wrap64 (((rd_T40 t493 x37_1).f3) + ((rdOf ByteArray.empty t502 0).size : Int))) ≤ (a0.size : Int)
                          · rw [if_pos c44] at H
                            have c44b0 := eq_true c44
                            have c44b1 : decide ((wrap64 (((rd_T40 t493 x37_1).f3) + ((rdOf ByteArray.empty t502 0).size : Int))) ≤ (a0.size : Int)) = true := decide_eq_true c44
                            by_cases c45 : (a0.extract (((rd_T40 t493 x37_1).f3) : Int).toNat ((wrap64 (((rd_T40 t493 x37_1).f3) + ((rdOf ByteArray.empty t502 0).size : Int))) : Int).toNat).toList = (rdOf ByteArray.empty t502 0).toList
                            · rw [if_pos c45] at H
                              have c45b0 : ((a0.extract (((rd_T40 t493 x37_1).f3) : Int).toNat ((wrap64 (((rd_T40 t493 x37_1).f3) + ((rdOf ByteArray.empty t502 0).size : Int))) : Int).toNat).toList == (rdOf ByteArray.empty t502 0).toList) = true := beq_iff_eq.mpr c45
                              have c45b1 : ((a0.extract (((rd_T40 t493 x37_1).f3) : Int).toNat ((wrap64 (((rd_T40 t493 x37_1).f3) + ((rdOf ByteArray.empty t502 0).size : Int))) : Int).toNat).toList != (rdOf ByteArray.empty t502 0).toList) = false := bne_eq_false_iff_eq.mpr c45
                              clear c45
                              have H' := Aside0.mk H
                              clear H
                              have p499 : 0 ≤ (x37_1 : Int) := of_decide_eq_true (by first | (with_reducible assumption) | assumption)
                              have q499 : x37_1 < (t493.length : Int) := of_decide_eq_true (by first | (with_reducible assumption) | assumption)
                              obtain ⟨ad499, A499_2, c499_2, e499, hx499_0, hx499_1, hx499_2, hx499_3, hl499_2, hi499_2⟩ := at_T40 (Kd.N_reads' HO_35.out).2.2 x37_1 p499 q499
                              cases e499
                              obtain ⟨ce499, hce499, hMe499, hcc499⟩ := Kd.N_get HO_35.out z40 x37_1 p499 (by first | exact q499 | exact of_decide_eq_true (by first | (with_reducible assumption) | assumption) | (have e_ := (Kd.N_reads' HO_35.out).1; omega))
                              obtain ⟨ua499_2, uc499_2, rfl, ul499_2, ge499_2⟩ := k40_openF hMe499
                              have hv499_2 := hcc499 2 _ rfl
                              rw [add_field _ _ 2 (by omega)] at hv499_2
                              replace hv499_2 := Option.some.inj (hv499_2.symm.trans hx499_2)
                              injection hv499_2 with hva_ hvn_ hvc_
                              rw [hva_] at ge499_2
                              rw [hvc_] at ul499_2
                              have HL499_2 := Aside0.mk (show Kd.V (Kd.int .i64) 3 _ w.heap.size _ _ ((rd_T40 t493 x37_1).f2) from Kd.V_mk ul499_2 ge499_2)
                              clear hva_ hvn_ hvc_ ge499_2 ul499_2
                              clear hcc499 hce499
                              have HR499_2 := Aside0.mk hi499_2
                              have HC499_2 := Aside0.mk hl499_2
                              clear hi499_2 hl499_2
                              replace p499 := eq_true p499
                              replace q499 := eq_true q499
                              go_wp2_with (first | ((with_reducible refine gate_dst (N := 8) rfl ?_); (try (refine gate_guard (by rfl) ?_; dsimp only)); refine box_event ?hg (N := 8) ?hd (cs := #[.int .i64 0, .string (⟨#[]⟩ : ByteArray), .slice none 0 0, .int .i64 0]) (t := 40) ?hr ?_; (case hd => rfl); (case hg => rfl); (case hr => first | (go_simp; done) | (go_simp; rfl)); intro gb500 hg w46 hbox hb; have n0_ := Aside0.mk (Kd.N_below (Kd.N_elderB (by (with_reducible repeat (first | apply Kd.N_alloc | apply Kd.N_drewN | apply Kd.N_drew)); exact HO_4.out) gb500 (Nat.le_of_eq hg.symm)) hb); have n1_ := Aside0.mk (Kd.N_below (Kd.N_elderB (by (with_reducible repeat (first | apply Kd.N_alloc | apply Kd.N_drewN | apply Kd.N_drew)); exact HO_35.out) gb500 (Nat.le_of_eq hg.symm)) hb); have n2_ := Aside0.mk (Kd.V_below (Kd.V_elderB (by (with_reducible repeat (first | apply Kd.V_alloc | apply Kd.V_drewN | apply Kd.V_drew)); exact HL499_2.out) gb500 (Nat.le_of_eq hg.symm)) hb); have n3_ := Aside0.mk (Kd.C_below (by repeat (first | (with_reducible exact HR499_2.out) | (with_reducible refine Kd.C_alloc ?_ _) | (with_reducible refine Kd.C_drewN ?_ _) | (with_reducible refine Kd.C_drew ?_) | exact HR499_2.out)) hb); have n4_ := Aside0.mk (below_step (by repeat (first | (with_reducible first | exact HB.out | apply below_alloc | apply pw_below_drewN | apply below_drew1) | exact HB.out)) hb); have n5_ := Aside0.mk (hbox); have n6_ := Aside0.mk ((by rw [hg]; exact (below_size (by repeat (first | (with_reducible first | exact HB.out | apply below_alloc | apply pw_below_drewN | apply below_drew1) | exact HB.out))) : w.heap.size ≤ gb500)); have n7_ := Aside0.mk ((by rw [hg]; exact (below_size (by repeat (first | (with_reducible first | exact HB.out | apply below_alloc | apply pw_below_drewN | apply below_drew1) | exact HB.out))) : w.heap.size ≤ gb500)); clear HO_4; clear HO_35; clear HL499_2; clear HR499_2; clear HB; have HO_4 := n0_; have HO_35 := n1_; have HL499_2 := n2_; have HR499_2 := n3_; have HB := n4_; have BK500 := n5_; have GW500 := n6_; have GE500 := n7_; clear n0_ n1_ n2_ n3_ n4_ n5_ n6_ n7_; clear hb hbox hg; have hcz47_0 : w46.cell? ⟨gb500, 0, none⟩ = some (.int .i64 0) := (blk_cell BK500.out 0).trans rfl; have hcz47_1 : w46.cell? ⟨gb500, 1, none⟩ = some (.string (⟨#[]⟩ : ByteArray)) := (blk_cell BK500.out 1).trans rfl; have hcz47_2 : w46.cell? ⟨gb500, 2, none⟩ = some (.slice none 0 0) := (blk_cell BK500.out 2).trans rfl; have hcz47_3 : w46.cell? ⟨gb500, 3, none⟩ = some (.int .i64 0) := (blk_cell BK500.out 3).trans rfl; have hfz47_0 := blk_frozen BK500.out 0; have hfz47_1 := blk_frozen BK500.out 1; have hfz47_2 := blk_frozen BK500.out 2; have hfz47_3 := blk_frozen BK500.out 3; have hZZgb500 : ∀ a b c d x : Value, (((((w46.setCell ⟨gb500, 0, none⟩ a).setCell ⟨gb500, 1, none⟩ b).setCell ⟨gb500, 2, none⟩ c).setCell ⟨gb500, 3, none⟩ d).setCell ⟨gb500, 3, none⟩ x).cell? ⟨gb500, 3, none⟩ = some x := fun a b c d x => (blk_cell (blk_set (blk_set (blk_set (blk_set (blk_set BK500.out 0 a) 1 b) 2 c) 3 d) 3 x) 3).trans rfl) | ((with_reducible refine gate_callee (f := 34) rfl ?_); refine goesL_ (some 43) rfl rfl Tryd.func34 (by kernel_rfl) rfl #[.int .i64 ((rd_T40 t493 x37_1).f0)] rfl (by (try simp only [List.map_toArray, List.map_cons, List.map_nil]); first | done | rfl | (simp only [List.length_drop, List.length_take]; rfl) | (simp (disch := omega) only [IntWalk.wrap64_in]; done)) ?_; (with_reducible refine (slotmeshref02_Form.calls ((rd_T40 t493 x37_1).f0) t501 _ A27.out).mono ?_); rintro e w' ⟨rfl, ⟨nd, rfl⟩⟩; refine ⟨_, rfl, ?_⟩) | ((with_reducible refine gate_callee (f := 33) rfl ?_); refine goesL_ (some 44) rfl rfl Tryd.func33 (by kernel_rfl) rfl #[.string t501] rfl (by (try simp only [List.map_toArray, List.map_cons, List.map_nil]); first | done | rfl | (simp only [List.length_drop, List.length_take]; rfl) | (simp (disch := omega) only [IntWalk.wrap64_in]; done)) ?_; (with_reducible refine (slotmeshref02_Parts.calls k1 t501 t502 _ A28.out).mono ?_); rintro e w48 ⟨v503, rfl, ho0, hb⟩; refine ⟨_, rfl, ?_⟩; have n0_ := Aside0.mk (Kd.N_elder' (by (with_reducible repeat (first | apply Kd.N_alloc | apply Kd.N_drewN | apply Kd.N_drew)); exact (Kd.N_mono (Kd.N_far (p := ⟨gb500, 3, none⟩) (Kd.N_far (p := ⟨gb500, 2, none⟩) (Kd.N_far (p := ⟨gb500, 1, none⟩) (Kd.N_far (p := ⟨gb500, 0, none⟩) (Kd.N_mono HO_4.out (fun k_ hk => (⟨hk, hk.2⟩ : _ ∧ k_ ≠ gb500))) (fun _ hk => hk.2) (.int .i64 ((rd_T40 t493 x37_1).f0))) (fun _ hk => hk.2) (.string ((rd_T40 t493 x37_1).f1))) (fun _ hk => hk.2) (.slice A499_2 ((rd_T40 t493 x37_1).f2).length c499_2)) (fun _ hk => hk.2) (.int .i64 ((rd_T40 t493 x37_1).f3))) (fun _ h_ => h_.1))) (Kd.R_base ho0) hb); have n1_ := Aside0.mk (Kd.N_elder' (by (with_reducible repeat (first | apply Kd.N_alloc | apply Kd.N_drewN | apply Kd.N_drew)); exact (Kd.N_mono (Kd.N_far (p := ⟨gb500, 3, none⟩) (Kd.N_far (p := ⟨gb500, 2, none⟩) (Kd.N_far (p := ⟨gb500, 1, none⟩) (Kd.N_far (p := ⟨gb500, 0, none⟩) (Kd.N_mono HO_35.out (fun k_ hk => (⟨hk, hk.2⟩ : _ ∧ k_ ≠ gb500))) (fun _ hk => hk.2) (.int .i64 ((rd_T40 t493 x37_1).f0))) (fun _ hk => hk.2) (.string ((rd_T40 t493 x37_1).f1))) (fun _ hk => hk.2) (.slice A499_2 ((rd_T40 t493 x37_1).f2).length c499_2)) (fun _ hk => hk.2) (.int .i64 ((rd_T40 t493 x37_1).f3))) (fun _ h_ => h_.1))) (Kd.R_base ho0) hb); have n2_ := Aside0.mk (Kd.V_elder' (by (with_reducible repeat (first | apply Kd.V_alloc | apply Kd.V_drewN | apply Kd.V_drew)); exact (Kd.V_mono (Kd.V_far (p := ⟨gb500, 3, none⟩) (Kd.V_far (p := ⟨gb500, 2, none⟩) (Kd.V_far (p := ⟨gb500, 1, none⟩) (Kd.V_far (p := ⟨gb500, 0, none⟩) (Kd.V_mono HL499_2.out (fun k_ hk => (⟨hk, hk.2⟩ : _ ∧ k_ ≠ gb500))) (fun _ hk => hk.2) (.int .i64 ((rd_T40 t493 x37_1).f0))) (fun _ hk => hk.2) (.string ((rd_T40 t493 x37_1).f1))) (fun _ hk => hk.2) (.slice A499_2 ((rd_T40 t493 x37_1).f2).length c499_2)) (fun _ hk => hk.2) (.int .i64 ((rd_T40 t493 x37_1).f3))) (fun _ h_ => h_.1))) (Kd.R_base ho0) hb); have n3_ := Aside0.mk (Kd.R_lower ho0 (below_size (by repeat (first | (with_reducible first | exact HB.out | apply below_alloc | apply pw_below_drewN | apply below_drew1 | refine below_set ?_ GE500.out) | exact HB.out)))); have n4_ := Aside0.mk (Kd.C_below ((Kd.V_reads' (by (with_reducible repeat (first | apply Kd.V_alloc | apply Kd.V_drewN | apply Kd.V_drew)); exact (Kd.V_mono (Kd.V_far (p := ⟨gb500, 3, none⟩) (Kd.V_far (p := ⟨gb500, 2, none⟩) (Kd.V_far (p := ⟨gb500, 1, none⟩) (Kd.V_far (p := ⟨gb500, 0, none⟩) (Kd.V_mono HL499_2.out (fun k_ hk => (⟨hk, hk.2⟩ : _ ∧ k_ ≠ gb500))) (fun _ hk => hk.2) (.int .i64 ((rd_T40 t493 x37_1).f0))) (fun _ hk => hk.2) (.string ((rd_T40 t493 x37_1).f1))) (fun _ hk => hk.2) (.slice A499_2 ((rd_T40 t493 x37_1).f2).length c499_2)) (fun _ hk => hk.2) (.int .i64 ((rd_T40 t493 x37_1).f3))) (fun _ h_ => h_.1)))).2.2) hb); have n5_ := Aside0.mk (blk_below (g := gb500) (o := .cells #[.int .i64 ((rd_T40 t493 x37_1).f0), .string ((rd_T40 t493 x37_1).f1), .slice A499_2 ((rd_T40 t493 x37_1).f2).length c499_2, .int .i64 ((rd_T40 t493 x37_1).f3)] 40 (0, 0)) (by (with_reducible repeat (first | refine blk_drewN ?_ _ | refine blk_drew ?_ | refine blk_alloc ?_ _)); refine blk_put (cs := #[.int .i64 ((rd_T40 t493 x37_1).f0), .string ((rd_T40 t493 x37_1).f1), .slice A499_2 ((rd_T40 t493 x37_1).f2).length c499_2, .int .i64 0]) ?_ 3 _ rfl; (with_reducible repeat (first | refine blk_drewN ?_ _ | refine blk_drew ?_ | refine blk_alloc ?_ _)); refine blk_put (cs := #[.int .i64 ((rd_T40 t493 x37_1).f0), .string ((rd_T40 t493 x37_1).f1), .slice none 0 0, .int .i64 0]) ?_ 2 _ rfl; (with_reducible repeat (first | refine blk_drewN ?_ _ | refine blk_drew ?_ | refine blk_alloc ?_ _)); refine blk_put (cs := #[.int .i64 ((rd_T40 t493 x37_1).f0), .string (⟨#[]⟩ : ByteArray), .slice none 0 0, .int .i64 0]) ?_ 1 _ rfl; (with_reducible repeat (first | refine blk_drewN ?_ _ | refine blk_drew ?_ | refine blk_alloc ?_ _)); refine blk_put (cs := #[.int .i64 0, .string (⟨#[]⟩ : ByteArray), .slice none 0 0, .int .i64 0]) ?_ 0 _ rfl; (with_reducible repeat (first | refine blk_drewN ?_ _ | refine blk_drew ?_ | refine blk_alloc ?_ _)); exact BK500.out) hb); have n6_ := Aside0.mk (below_step (by repeat (first | (with_reducible first | exact HB.out | apply below_alloc | apply pw_below_drewN | apply below_drew1 | refine below_set ?_ GE500.out) | exact HB.out)) hb); clear HO_4; clear HO_35; clear HL499_2; clear HR499_2; clear BK500; clear HB; have HO_4 := n0_; have HO_35 := n1_; have HL499_2 := n2_; have HO504 := n3_; have HR499_2 := n4_; have BK500 := n5_; have HB := n6_; clear n0_ n1_ n2_ n3_ n4_ n5_ n6_; (try clear hb); (try clear hb2); (try clear hk); (try clear hi); (try clear ho0); obtain ⟨Ao49, co49, eo49⟩ := Kd.R_slice HO504.out; subst eo49; have p505 : 0 ≤ (0 : Int) := (by omega); have q505 : 0 < (t502.length : Int) := of_decide_eq_true (by first | (with_reducible assumption) | assumption); obtain ⟨ad505, e505, hx505_0⟩ := Kd.at_string (Kd.R_reads' HO504.out).2.2 0 p505 q505; cases e505; have qi505 : (0 < t502.length) = True := eq_true (by omega); (try rw [show ((0 : Int)).toNat = 0 from rfl] at hx505_0); (try rw [Addr.add_zero'] at hx505_0); replace p505 := eq_true p505; replace q505 := eq_true q505; have hcz50_0 : w48.cell? ⟨gb500, 0, none⟩ = some (.int .i64 ((rd_T40 t493 x37_1).f0)) := (blk_cell BK500.out 0).trans rfl; have hcz50_1 : w48.cell? ⟨gb500, 1, none⟩ = some (.string ((rd_T40 t493 x37_1).f1)) := (blk_cell BK500.out 1).trans rfl; have hcz50_2 : w48.cell? ⟨gb500, 2, none⟩ = some (.slice A499_2 ((rd_T40 t493 x37_1).f2).length c499_2) := (blk_cell BK500.out 2).trans rfl; have hcz50_3 : w48.cell? ⟨gb500, 3, none⟩ = some (.int .i64 ((rd_T40 t493 x37_1).f3)) := (blk_cell BK500.out 3).trans rfl; have hfz50_0 := blk_frozen BK500.out 0; have hfz50_1 := blk_frozen BK500.out 1; have hfz50_2 := blk_frozen BK500.out 2; have hfz50_3 := blk_frozen BK500.out 3))
                              go_roundg k1
                              case measure => have := HK1.out; omega
                              case rel => exact ⟨((rd_T40 t493 x37_1).f3), (wrap64 (x37_1 + 1)), (by first | rfl | (simp; done) | (simp [*]; done)), (by first | rfl | (simp; done) | (simp [*]; done)), H', ⟨by have := HK1.out; omega⟩, ⟨by (with_reducible repeat (first | apply Kd.N_alloc | apply Kd.N_drewN | apply Kd.N_drew)); exact Kd.N_mono HO_4.out (fun _ hk => trivial)⟩, ⟨by (with_reducible repeat (first | apply Kd.N_alloc | apply Kd.N_drewN | apply Kd.N_drew)); exact Kd.N_mono HO_35.out (fun _ hk => trivial)⟩, ⟨by repeat (first | (with_reducible first | exact HB.out | apply below_alloc | apply pw_below_drewN | apply below_drew1 | refine below_set ?_ GE500.out) | exact HB.out)⟩⟩
                            · rw [if_neg c45] at H
                              have c45b0 : ((a0.extract (((rd_T40 t493 x37_1).f3) : Int).toNat ((wrap64 (((rd_T40 t493 x37_1).f3) + ((rdOf ByteArray.empty t502 0).size : Int))) : Int).toNat).toList == (rdOf ByteArray.empty t502 0).toList) = false := beq_eq_false_iff_ne.mpr c45
                              have c45b1 : ((a0.extract (((rd_T40 t493 x37_1).f3) : Int).toNat ((wrap64 (((rd_T40 t493 x37_1).f3) + ((rdOf ByteArray.empty t502 0).size : Int))) : Int).toNat).toList != (rdOf ByteArray.empty t502 0).toList) = true := bne_iff_ne.mpr c45
                              exact absurd ((Option.some.inj H).trans hr_.out) (by decide)
                          · rw [if_neg c44] at H
                            exact absurd H (by simp)
                        · rw [if_neg c43] at H
                          exact absurd H (by simp)
                      · rw [if_neg c42] at H
                        exact absurd H (by simp)
                · rw [if_neg c29] at H
                  exact absurd H (by simp)
              · rw [if_neg c26] at H
                exact absurd H (by simp)
            · rw [if_neg c25] at H
              exact absurd H (by simp)
          · rw [if_neg c24] at H
            have c24b0 : decide (x37_1 < (t493.length : Int)) = false := decide_eq_false c24
            clear c24
            replace H := Option.bind_eq_some_iff.mp H
            obtain ⟨t506, A560, H⟩ := H
            replace H : (if t492 = true then ((parser_Valid.f t493).bind fun t509 => (if t509 = true then ((parser_Valid.f t506).bind fun t510 => (if t510 = true then ((slotmeshref02_Strip.f t493).bind fun t511 => ((slotmeshref02_Same.f k1 t506 t511).bind fun t514 => (if t514 = true then ((parser_Strip.f t506).bind fun t515 => ((slotmeshref02_Same.f k1 t515 t506).bind fun t518 => (some t518))) else (some false)))) else (some false))) else (some false))) else (some false)) = some r := H
            have A56 := Aside0.mk A560
            clear A560
            by_cases c57 : t492 = true
            · subst c57
              have H1 : ((parser_Valid.f t493).bind fun t509 => (if t509 = true then ((parser_Valid.f t506).bind fun t510 => (if t510 = true then ((slotmeshref02_Strip.f t493).bind fun t511 => ((slotmeshref02_Same.f k1 t506 t511).bind fun t514 => (if t514 = true then ((parser_Strip.f t506).bind fun t515 => ((slotmeshref02_Same.f k1 t515 t506).bind fun t518 => (some t518))) else (some false)))) else (some false))) else (some false))) = some r := by rw [if_pos rfl] at H; exact H
              clear H
              have H := H1
              clear H1
              replace H := Option.bind_eq_some_iff.mp H
              obtain ⟨t509, A580, H⟩ := H
              replace H : (if t509 = true then ((parser_Valid.f t506).bind fun t510 => (if t510 = true then ((slotmeshref02_Strip.f t493).bind fun t511 => ((slotmeshref02_Same.f k1 t506 t511).bind fun t514 => (if t514 = true then ((parser_Strip.f t506).bind fun t515 => ((slotmeshref02_Same.f k1 t515 t506).bind fun t518 => (some t518))) else (some false)))) else (some false))) else (some false)) = some r := H
              have A58 := Aside0.mk A580
              clear A580
              by_cases c59 : t509 = true
              · subst c59
                have H1 : ((parser_Valid.f t506).bind fun t510 => (if t510 = true then ((slotmeshref02_Strip.f t493).bind fun t511 => ((slotmeshref02_Same.f k1 t506 t511).bind fun t514 => (if t514 = true then ((parser_Strip.f t506).bind fun t515 => ((slotmeshref02_Same.f k1 t515 t506).bind fun t518 => (some t518))) else (some false)))) else (some false))) = some r := by rw [if_pos rfl] at H; exact H
                clear H
                have H := H1
                clear H1
                replace H := Option.bind_eq_some_iff.mp H
                obtain ⟨t510, A600, H⟩ := H
                replace H : (if t510 = true then ((slotmeshref02_Strip.f t493).bind fun t511 => ((slotmeshref02_Same.f k1 t506 t511).bind fun t514 => (if t514 = true then ((parser_Strip.f t506).bind fun t515 => ((slotmeshref02_Same.f k1 t515 t506).bind fun t518 => (some t518))) else (some false)))) else (some false)) = some r := H
                have A60 := Aside0.mk A600
                clear A600
                by_cases c61 : t510 = true
                · subst c61
                  have H1 : ((slotmeshref02_Strip.f t493).bind fun t511 => ((slotmeshref02_Same.f k1 t506 t511).bind fun t514 => (if t514 = true then ((parser_Strip.f t506).bind fun t515 => ((slotmeshref02_Same.f k1 t515 t506).bind fun t518 => (some t518))) else (some false)))) = some r := by rw [if_pos rfl] at H; exact H
                  clear H
                  have H := H1
                  clear H1
                  replace H := Option.bind_eq_some_iff.mp H
                  obtain ⟨t511, A620, H⟩ := H
                  replace H : ((slotmeshref02_Same.f k1 t506 t511).bind fun t514 => (if t514 = true then ((parser_Strip.f t506).bind fun t515 => ((slotmeshref02_Same.f k1 t515 t506).bind fun t518 => (some t518))) else (some false))) = some r := H
                  have A62 := Aside0.mk A620
                  clear A620
                  replace H := Option.bind_eq_some_iff.mp H
                  obtain ⟨t514, A630, H⟩ := H
                  replace H : (if t514 = true then ((parser_Strip.f t506).bind fun t515 => ((slotmeshref02_Same.f k1 t515 t506).bind fun t518 => (some t518))) else (some false)) = some r := H
                  have A63 := Aside0.mk A630
                  clear A630
                  by_cases c64 : t514 = true
                  · subst c64
                    have H1 : ((parser_Strip.f t506).bind fun t515 => ((slotmeshref02_Same.f k1 t515 t506).bind fun t518 => (some t518))) = some r := by rw [if_pos rfl] at H; exact H
                    clear H
                    have H := H1
                    clear H1
                    replace H := Option.bind_eq_some_iff.mp H
                    obtain ⟨t515, A650, H⟩ := H
                    replace H : ((slotmeshref02_Same.f k1 t515 t506).bind fun t518 => (some t518)) = some r := H
                    have A65 := Aside0.mk A650
                    clear A650
                    replace H := Option.bind_eq_some_iff.mp H
                    obtain ⟨t518, A660, H⟩ := H
                    replace H : (some t518) = some r := H
                    have A66 := Aside0.mk A660
                    clear A660
                    clear hr_
                    obtain rfl := Option.some.inj H
                    go_wp2_with (first | ((with_reducible refine gate_callee (f := 23) rfl ?_); refine goesL_ (some 78) rfl rfl Tryd.func23 (by kernel_rfl) rfl #[.slice Ao23 t493.length co23] rfl (by (try simp only [List.map_toArray, List.map_cons, List.map_nil]); first | done | rfl | (simp only [List.length_drop, List.length_take]; rfl) | (simp (disch := omega) only [IntWalk.wrap64_in]; done)) ?_; (with_reducible refine (parser_Strip.calls _ _ t493 t506 _ ?side1 ?side2 A56.out).mono ?_); (case side1 => repeat (first | exact (Kd.N_reads' HO_4.out).2.2 | (with_reducible refine Kd.C_alloc ?_ _) | (with_reducible refine Kd.C_drewN ?_ _) | (with_reducible refine Kd.C_drew ?_))); (case side2 => exact (Kd.N_reads' HO_4.out).2.1); rintro e w67 ⟨v507, rfl, ho0, hb⟩; refine ⟨_, rfl, ?_⟩; have n0_ := Aside0.mk (Kd.N_elder' (by (with_reducible repeat (first | apply Kd.N_alloc | apply Kd.N_drewN | apply Kd.N_drew)); exact HO_4.out) (Kd.N_base ho0) hb); have n1_ := Aside0.mk (Kd.N_elder' (by (with_reducible repeat (first | apply Kd.N_alloc | apply Kd.N_drewN | apply Kd.N_drew)); exact HO_35.out) (Kd.N_base ho0) hb); have n2_ := Aside0.mk (Kd.N_lower ho0 (below_size (by repeat (first | (with_reducible first | exact HB.out | apply below_alloc | apply pw_below_drewN | apply below_drew1) | exact HB.out)))); have n3_ := Aside0.mk (below_step (by repeat (first | (with_reducible first | exact HB.out | apply below_alloc | apply pw_below_drewN | apply below_drew1) | exact HB.out)) hb); clear HO_4; clear HO_35; clear HB; have HO_4 := n0_; have HO_35 := n1_; have HO508 := n2_; have HB := n3_; clear n0_ n1_ n2_ n3_; (try clear hb); (try clear hb2); (try clear hk); (try clear hi); (try clear ho0)) | (go_at_call 35; (with_reducible refine (parser_Valid.calls _ _ t493 true _ ?side1 ?side2 A58.out).mono ?_); (case side1 => repeat (first | exact (Kd.N_reads' HO_4.out).2.2 | (with_reducible refine Kd.C_alloc ?_ _) | (with_reducible refine Kd.C_drewN ?_ _) | (with_reducible refine Kd.C_drew ?_))); (case side2 => exact (Kd.N_reads' HO_4.out).2.1); rintro e w68 ⟨rfl, hb⟩; have n0_ := Aside0.mk (Kd.N_below (by (with_reducible repeat (first | apply Kd.N_alloc | apply Kd.N_drewN | apply Kd.N_drew)); exact HO_4.out) hb); have n1_ := Aside0.mk (Kd.N_below (by (with_reducible repeat (first | apply Kd.N_alloc | apply Kd.N_drewN | apply Kd.N_drew)); exact HO_35.out) hb); have n2_ := Aside0.mk (Kd.N_below (by (with_reducible repeat (first | apply Kd.N_alloc | apply Kd.N_drewN | apply Kd.N_drew)); exact HO508.out) hb); have n3_ := Aside0.mk (below_step (by repeat (first | (with_reducible first | exact HB.out | apply below_alloc | apply pw_below_drewN | apply below_drew1) | exact HB.out)) hb); clear HO_4; clear HO_35; clear HO508; clear HB; have HO_4 := n0_; have HO_35 := n1_; have HO508 := n2_; have HB := n3_; clear n0_ n1_ n2_ n3_; (try clear hb); (try clear hb2); (try clear hk); (try clear hi); obtain ⟨Ao69, co69, eo69⟩ := Kd.N_slice HO508.out; subst eo69) | (go_at_call 35; (with_reducible refine (parser_Valid.calls _ _ t506 true _ ?side1 ?side2 A60.out).mono ?_); (case side1 => repeat (first | exact (Kd.N_reads' HO508.out).2.2 | (with_reducible refine Kd.C_alloc ?_ _) | (with_reducible refine Kd.C_drewN ?_ _) | (with_reducible refine Kd.C_drew ?_))); (case side2 => exact (Kd.N_reads' HO508.out).2.1); rintro e w70 ⟨rfl, hb⟩; have n0_ := Aside0.mk (Kd.N_below (by (with_reducible repeat (first | apply Kd.N_alloc | apply Kd.N_drewN | apply Kd.N_drew)); exact HO_4.out) hb); have n1_ := Aside0.mk (Kd.N_below (by (with_reducible repeat (first | apply Kd.N_alloc | apply Kd.N_drewN | apply Kd.N_drew)); exact HO_35.out) hb); have n2_ := Aside0.mk (Kd.N_below (by (with_reducible repeat (first | apply Kd.N_alloc | apply Kd.N_drewN | apply Kd.N_drew)); exact HO508.out) hb); have n3_ := Aside0.mk (below_step (by repeat (first | (with_reducible first | exact HB.out | apply below_alloc | apply pw_below_drewN | apply below_drew1) | exact HB.out)) hb); clear HO_4; clear HO_35; clear HO508; clear HB; have HO_4 := n0_; have HO_35 := n1_; have HO508 := n2_; have HB := n3_; clear n0_ n1_ n2_ n3_; (try clear hb); (try clear hb2); (try clear hk); (try clear hi)) | (go_at_call 36; (with_reducible refine (slotmeshref02_Strip.calls _ _ t493 t511 _ ?side1 ?side2 A62.out).mono ?_); (case side1 => repeat (first | exact (Kd.N_reads' HO_4.out).2.2 | (with_reducible refine Kd.C_alloc ?_ _) | (with_reducible refine Kd.C_drewN ?_ _) | (with_reducible refine Kd.C_drew ?_))); (case side2 => exact (Kd.N_reads' HO_4.out).2.1); rintro e w71 ⟨v512, rfl, ho0, hb⟩; have n0_ := Aside0.mk (Kd.N_elder' (by (with_reducible repeat (first | apply Kd.N_alloc | apply Kd.N_drewN | apply Kd.N_drew)); exact HO_4.out) (Kd.N_base ho0) hb); have n1_ := Aside0.mk (Kd.N_elder' (by (with_reducible repeat (first | apply Kd.N_alloc | apply Kd.N_drewN | apply Kd.N_drew)); exact HO_35.out) (Kd.N_base ho0) hb); have n2_ := Aside0.mk (Kd.N_elder' (by (with_reducible repeat (first | apply Kd.N_alloc | apply Kd.N_drewN | apply Kd.N_drew)); exact HO508.out) (Kd.N_base ho0) hb); have n3_ := Aside0.mk (Kd.N_lower ho0 (below_size (by repeat (first | (with_reducible first | exact HB.out | apply below_alloc | apply pw_below_drewN | apply below_drew1) | exact HB.out)))); have n4_ := Aside0.mk (below_step (by repeat (first | (with_reducible first | exact HB.out | apply below_alloc | apply pw_below_drewN | apply below_drew1) | exact HB.out)) hb); clear HO_4; clear HO_35; clear HO508; clear HB; have HO_4 := n0_; have HO_35 := n1_; have HO508 := n2_; have HO513 := n3_; have HB := n4_; clear n0_ n1_ n2_ n3_ n4_; (try clear hb); (try clear hb2); (try clear hk); (try clear hi); (try clear ho0); obtain ⟨Ao72, co72, eo72⟩ := Kd.N_slice HO513.out; subst eo72) | (go_at_call 22; (with_reducible refine (slotmeshref02_Same.calls k1 _ _ t506 _ _ t511 true _ ?side1 ?side2 ?side3 ?side4 A63.out).mono ?_); (case side1 => repeat (first | exact (Kd.N_reads' HO508.out).2.2 | (with_reducible refine Kd.C_alloc ?_ _) | (with_reducible refine Kd.C_drewN ?_ _) | (with_reducible refine Kd.C_drew ?_))); (case side2 => exact (Kd.N_reads' HO508.out).2.1); (case side3 => repeat (first | exact (Kd.N_reads' HO513.out).2.2 | (with_reducible refine Kd.C_alloc ?_ _) | (with_reducible refine Kd.C_drewN ?_ _) | (with_reducible refine Kd.C_drew ?_))); (case side4 => exact (Kd.N_reads' HO513.out).2.1); rintro e w' ⟨rfl, ⟨nd, rfl⟩⟩) | (go_at_call 23; (with_reducible refine (parser_Strip.calls _ _ t506 t515 _ ?side1 ?side2 A65.out).mono ?_); (case side1 => repeat (first | exact (Kd.N_reads' HO508.out).2.2 | (with_reducible refine Kd.C_alloc ?_ _) | (with_reducible refine Kd.C_drewN ?_ _) | (with_reducible refine Kd.C_drew ?_))); (case side2 => exact (Kd.N_reads' HO508.out).2.1); rintro e w73 ⟨v516, rfl, ho0, hb⟩; have n0_ := Aside0.mk (Kd.N_elder' (by (with_reducible repeat (first | apply Kd.N_alloc | apply Kd.N_drewN | apply Kd.N_drew)); exact HO_4.out) (Kd.N_base ho0) hb); have n1_ := Aside0.mk (Kd.N_elder' (by (with_reducible repeat (first | apply Kd.N_alloc | apply Kd.N_drewN | apply Kd.N_drew)); exact HO_35.out) (Kd.N_base ho0) hb); have n2_ := Aside0.mk (Kd.N_elder' (by (with_reducible repeat (first | apply Kd.N_alloc | apply Kd.N_drewN | apply Kd.N_drew)); exact HO508.out) (Kd.N_base ho0) hb); have n3_ := Aside0.mk (Kd.N_elder' (by (with_reducible repeat (first | apply Kd.N_alloc | apply Kd.N_drewN | apply Kd.N_drew)); exact HO513.out) (Kd.N_base ho0) hb); have n4_ := Aside0.mk (Kd.N_lower ho0 (below_size (by repeat (first | (with_reducible first | exact HB.out | apply below_alloc | apply pw_below_drewN | apply below_drew1) | exact HB.out)))); have n5_ := Aside0.mk (below_step (by repeat (first | (with_reducible first | exact HB.out | apply below_alloc | apply pw_below_drewN | apply below_drew1) | exact HB.out)) hb); clear HO_4; clear HO_35; clear HO508; clear HO513; clear HB; have HO_4 := n0_; have HO_35 := n1_; have HO508 := n2_; have HO513 := n3_; have HO517 := n4_; have HB := n5_; clear n0_ n1_ n2_ n3_ n4_ n5_; (try clear hb); (try clear hb2); (try clear hk); (try clear hi); (try clear ho0); obtain ⟨Ao74, co74, eo74⟩ := Kd.N_slice HO517.out; subst eo74) | (go_at_call 22; (with_reducible refine (slotmeshref02_Same.calls k1 _ _ t515 _ _ t506 t518 _ ?side1 ?side2 ?side3 ?side4 A66.out).mono ?_); (case side1 => repeat (first | exact (Kd.N_reads' HO517.out).2.2 | (with_reducible refine Kd.C_alloc ?_ _) | (with_reducible refine Kd.C_drewN ?_ _) | (with_reducible refine Kd.C_drew ?_))); (case side2 => exact (Kd.N_reads' HO517.out).2.1); (case side3 => repeat (first | exact (Kd.N_reads' HO508.out).2.2 | (with_reducible refine Kd.C_alloc ?_ _) | (with_reducible refine Kd.C_drewN ?_ _) | (with_reducible refine Kd.C_drew ?_))); (case side4 => exact (Kd.N_reads' HO508.out).2.1); rintro e w' ⟨rfl, ⟨nd, rfl⟩⟩))
                    go_ret
                    exact ⟨by first | rfl | (simp [errW_none, errW_some] <;> rfl) | (simp [*, errW_none, errW_some] <;> rfl), by repeat (first | (with_reducible first | exact HB.out | apply below_alloc | apply pw_below_drewN | apply below_drew1) | exact HB.out)⟩
                  · replace c64 := Bool.eq_false_iff.mpr c64
                    subst c64
                    have H1 : (some false) = some r := by rw [if_neg (show ¬ (false = true) by decide)] at H; exact H
                    clear H
                    have H := H1
                    clear H1
                    exact absurd ((Option.some.inj H).trans hr_.out) (by decide)
                · replace c61 := Bool.eq_false_iff.mpr c61
                  subst c61
                  have H1 : (some false) = some r := by rw [if_neg (show ¬ (false = true) by decide)] at H; exact H
                  clear H
                  have H := H1
                  clear H1
                  exact absurd ((Option.some.inj H).trans hr_.out) (by decide)
              · replace c59 := Bool.eq_false_iff.mpr c59
                subst c59
                have H1 : (some false) = some r := by rw [if_neg (show ¬ (false = true) by decide)] at H; exact H
                clear H
                have H := H1
                clear H1
                exact absurd ((Option.some.inj H).trans hr_.out) (by decide)
            · replace c57 := Bool.eq_false_iff.mpr c57
              subst c57
              have H1 : (some false) = some r := by rw [if_neg (show ¬ (false = true) by decide)] at H; exact H
              clear H
              have H := H1
              clear H1
              exact absurd ((Option.some.inj H).trans hr_.out) (by decide)
end Go.Proofs.YtdedlchpjboceaaDoor.PE
end

section
namespace Go.Proofs.YtdedlchpjboceaaDoor.Qy
open Go.RowKit Go.Proofs.YtdedlchpjboceaaDoorW.PrintWords Go.Proofs.YtdedlchpjboceaaDoorW.PrintLast Go.Proofs.YtdedlchpjboceaaDoor.Lx Go.Proofs.YtdedlchpjboceaaDoor.Px Go.Proofs.YtdedlchpjboceaaDoor.Tx Go.Proofs.YtdedlchpjboceaaDoor.Qz Go.Proofs.YtdedlchpjboceaaDoor.PE
/-- The words of the forms. -/
def formS (k : Int) : ByteArray := (slotmeshref02_Form.f k).getD ⟨#[]⟩
def formP (k : Int) : List ByteArray := (slotmeshref02_Parts.f 60 (formS k)).getD []
set_option maxRecDepth 100000 in
theorem form_parts {k : Int} (h1 : 1 ≤ k) (h2 : k ≤ 11) : slotmeshref02_Form.f k = some (formS k) ∧ Ev (fun n => slotmeshref02_Parts.f n (formS k)) (formP k) ∧ rdOf ByteArray.empty (formP k) 0 = firstW k ∧ 0 < ((formP k).length : Int) := by
  rcases kinds h1 h2 with rfl | rfl | rfl | rfl | rfl | rfl | rfl | rfl | rfl | rfl | rfl <;> exact ⟨rfl, evK (slotmeshref02_Parts.mono _) 60 (by kernel_rfl), by kernel_rfl, of_decide_eq_true (by kernel_rfl)⟩
end Go.Proofs.YtdedlchpjboceaaDoor.Qy
end

section
namespace Go.Proofs.YtdedlchpjboceaaDoor.Qy
open Go.RowKit Go.Proofs.YtdedlchpjboceaaDoorW.PrintWords Go.Proofs.YtdedlchpjboceaaDoorW.PrintLast Go.Proofs.YtdedlchpjboceaaDoor.Lx Go.Proofs.YtdedlchpjboceaaDoor.Px Go.Proofs.YtdedlchpjboceaaDoor.Tx Go.Proofs.YtdedlchpjboceaaDoor.Qz Go.Proofs.YtdedlchpjboceaaDoor.PE
theorem validF (x : List Cmd) : parser_Valid.f (x.map ofCmd) = some (validB x) := by
  unfold parser_Valid.f
  rw [List.map_map]
  exact congrArg (fun l => some (validB l)) (List.map_id x)
theorem rstripF {x : List Cmd} (h : x.length ≤ 1000000) : slotmeshref02_Strip.f (x.map ofCmd) = some ((x.map strip0).map ofCmd) := by
  unfold slotmeshref02_Strip.f
  rw [if_pos (by rw [List.length_map]; exact h), List.map_map, List.map_map]
  rfl
theorem strip_twice (x : List Cmd) : (x.map strip0).map strip0 = x.map strip0 := by
  rw [List.map_map]
  exact List.map_congr_left (fun c _ => rfl)
theorem same_self {a : List Cmd} (h : ∀ c ∈ a, c.f2.length ≤ 1000000) (hl : a.length ≤ 1000000) : Ev (fun k => slotmeshref02_Same.f k (a.map ofCmd) (a.map ofCmd)) true := by
  obtain ⟨r, hr, hk⟩ := sameF (b := a) h hl
  rw [hk.2 rfl] at hr
  exact hr
theorem rd_of (x : List Cmd) (j : Nat) (h : j < x.length) : rd_T40 (x.map ofCmd) (j : Int) = ofCmd x[j] := by
  rw [rd_at _ j (by rw [List.length_map]; exact h), List.getElem_map]
theorem extract_l (s : ByteArray) (a b : Nat) : (s.extract a b).toList = (s.data.toList.take b).drop a := by
  rw [ByteArray.toList_eq, ByteArray.data_extract, Array.toList_extract, List.extract_eq_take_drop, List.drop_take]
theorem nat5 {o w n : Nat} (h : o + w ≤ n) : ¬ (((o + w : Nat) : Int) > (n : Int)) ∧ (0 : Int) ≤ (o : Int) ∧ (o : Int) ≤ ((o + w : Nat) : Int) ∧ ((o + w : Nat) : Int) ≤ (n : Int) := by omega
theorem commands_loop (a : ByteArray) (ha : a.size ≤ 8000) (x : List Cmd) (hx : x.length ≤ 300) (hv : validB x = true) (hc : ∀ c ∈ x, cB c = true)
    (hat : ∀ c ∈ x, ∃ o : Nat, c.f3 = (o : Int) ∧ 1 ≤ c.f0 ∧ c.f0 ≤ 11 ∧ o + (firstW c.f0).size ≤ a.size ∧ (a.data.toList.drop o).take (firstW c.f0).size = (firstW c.f0).data.toList) (d : Nat) :
    ∀ (j : Nat) (last : Int), j ≤ x.length → x.length - j = d → (x.drop j).Pairwise (fun a b => a.f3 < b.f3) → (∀ c ∈ x.drop j, last < c.f3) →
    Ev (fun k => slotmeshlaw02_ParserCommands.l0 k a true (x.map ofCmd) last (x.map ofCmd) (x.length : Int) (j : Int)) true := by
  induction d with
  | zero =>
    intro j last hj hd _ _
    refine Ev.step (f := _) (fun k => by rw [slotmeshlaw02_ParserCommands.l0]) (evNeg (by omega) ?_)
    refine evBind (stripF (by omega)) (evPos rfl (evBind (validF x) (evPos hv ?_)))
    refine evBind (validF _) (evPos (by rw [validB_strip]; exact hv) ?_)
    refine evBind (rstripF (by omega)) (Ev.bind (same_self (strip_few hc) (by rw [List.length_map]; omega)) (evPos rfl ?_))
    refine evBind (stripF (by rw [List.length_map]; omega)) ?_
    rw [strip_twice]
    exact Ev.bind (same_self (strip_few hc) (by rw [List.length_map]; omega)) (Ev.now _)
  | succ d ih =>
    intro j last hj hd hp hlast
    have hlt : j < x.length := by omega
    have c1 : (j : Int) < (x.length : Int) := Int.ofNat_lt.2 hlt
    have c2 : (0 : Int) ≤ (j : Int) := Int.natCast_nonneg _
    have c3 : (j : Int) < ((x.map ofCmd).length : Int) := by rw [List.length_map]; exact c1
    have hw : wrap64 ((j : Int) + 1) = ((j + 1 : Nat) : Int) := by rw [w64 (by omega) (by omega)]; omega
    have hj1 : j + 1 ≤ x.length := hlt
    have hd1 : x.length - (j + 1) = d := by omega
    rw [List.drop_eq_getElem_cons hlt] at hp hlast
    obtain ⟨p1, p2⟩ := List.pairwise_cons.1 hp
    obtain ⟨o, ho, k1, k2, hsz, htx⟩ := hat x[j] (List.getElem_mem hlt)
    obtain ⟨f1, f2, f3, f4⟩ := form_parts k1 k2
    have hnext := ih (j + 1) x[j].f3 hj1 hd1 p2 p1
    have hl : last < (o : Int) := by rw [← ho]; exact hlast x[j] List.mem_cons_self
    have g3 : (ofCmd x[j]).f3 = (o : Int) := ho
    have g0 : (ofCmd x[j]).f0 = x[j].f0 := rfl
    have hrd := rd_of x j hlt
    rw [ho] at hnext
    generalize ofCmd x[j] = C at g3 g0 hrd
    generalize x[j].f0 = K at *
    generalize formP K = P at f2 f3 f4
    generalize formS K = F at f1 f2
    generalize firstW K = W at hsz htx f3
    obtain ⟨n1, n2, n3, n4⟩ := nat5 hsz
    have hw2 : wrap64 ((o : Int) + (W.size : Int)) = ((o + W.size : Nat) : Int) := by rw [w64 (by omega) (by omega)]; omega
    refine Ev.step (f := _) (fun k => by rw [slotmeshlaw02_ParserCommands.l0]) ?_
    refine evPos c1 (evPos c2 (evPos c3 ?_))
    rw [hrd, hw, g3, g0]
    refine evBind f1 (Ev.bind f2 (evPos f4 ?_))
    rw [f3, hw2]
    refine evNeg (Int.not_le.2 hl) (evNeg n1 (evPos n2 (evPos n3 (evPos n4 (evPos ?_ hnext)))))
    rw [Int.toNat_natCast, Int.toNat_natCast, extract_l, List.drop_take, ByteArray.toList_eq, show o + W.size - o = W.size by omega]
    exact htx
theorem ParserCommands_ev (a : ByteArray) (_ : a.size ≤ 140737488351232) : Ev (fun k => slotmeshlaw02_ParserCommands.f k a) true := by
  unfold slotmeshlaw02_ParserCommands.f
  refine Ev.bind head2_ev ?_
  by_cases h8 : (a.size : Int) > 8010
  · exact evPos h8 (Ev.now _)
  · refine evNeg h8 (evBind (parseF a) ?_)
    obtain ⟨_, _, d3, d4⟩ := parse_diags a
    by_cases hd : (parseR a).2 = []
    · have hpe : parseR a = ((parseR a).1, []) := by rw [← hd]
      obtain ⟨hv, h3, hc⟩ := parse_valid hpe
      obtain ⟨ts, hl, hS, _⟩ := parse_clean hpe
      rw [hd]
      refine evNeg (by simp) ?_
      have hb := Lr.lex_bound hl
      have hsz : a.size ≤ 8000 := hb.1
      have hsv := segs_valid hS (lex_allV hl)
      have hsort := segs_sorted hS (lex_ord hl).1
      have hlen : ((((parseR a).1.map ofCmd).length : Nat) : Int) = ((parseR a).1.length : Int) := by rw [List.length_map]
      rw [hlen]
      refine commands_loop a hsz _ h3 hv hc ?_ _ 0 (-1) (Nat.zero_le _) rfl (by rw [List.drop_zero]; exact hsort) ?_
      · intro c hcm
        obtain ⟨_, k1, k2, t, ht, e1, e2⟩ := hsv c hcm
        obtain ⟨u, hu, rfl⟩ := List.mem_map.1 ht
        have hut : u.t = (firstW c.f0).data.toList := by rw [← e2]; show u.t = (⟨u.t.toArray⟩ : ByteArray).data.toList; simp
        have hne : u.t ≠ [] := by
          rw [hut]
          rcases kinds k1 k2 with h | h | h | h | h | h | h | h | h | h | h <;> rw [h] <;> decide
        obtain ⟨t1, t2⟩ := lex_text hl hu hne
        rw [hut] at t1 t2
        exact ⟨u.o, e1, k1, k2, t1, t2⟩
      · rw [List.drop_zero]
        intro c hcm
        obtain ⟨_, _, _, t, ht, e1, _⟩ := hsv c hcm
        have := ((lex_ord hl).2 t ht).1
        omega
    · have hpos : (((parseR a).2.map ofDg).length : Int) > 0 := by
        have := List.length_pos_iff.2 hd
        rw [List.length_map]; omega
      refine evPos hpos (evPos rfl ?_)
      rw [d4 hd]
      refine evPos (by simp) (evEq (Ev.now _) ?_)
      rw [decide_eq_true_eq, List.length_map]; omega
end Go.Proofs.YtdedlchpjboceaaDoor.Qy
end
