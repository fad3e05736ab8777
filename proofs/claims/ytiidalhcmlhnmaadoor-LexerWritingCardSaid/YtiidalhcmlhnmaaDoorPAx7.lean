-- Written by a program of this session's, out of the translation; Lean checks it.
import Derived.Test.YtiidalhcmlhnmaaDoorPAx0
import Derived.Test.YtiidalhcmlhnmaaDoorPAx1
import Derived.Test.YtiidalhcmlhnmaaDoorPAx2
import Derived.Test.YtiidalhcmlhnmaaDoorPAx3
import Derived.Test.YtiidalhcmlhnmaaDoorPAx6
namespace Go.Proofs.YtiidalhcmlhnmaaDoor.PA
open Go.RowKit Go.Proofs.YtiidalhcmlhnmaaDoorW.PrintWords Go.Proofs.YtiidalhcmlhnmaaDoorW.PrintLast Go.Proofs.YtiidalhcmlhnmaaDoorW.PrintMore
attribute [local go_sem] max2_int min2_int max_two min_two max_three min_three max_four min_four   -- for this text's walks alone

/-! ### slotmeshlaw01_LexerWriting: function 7 -/
def slotmeshlaw01_LexerWriting.l0 : Nat → Bool → List (S31) → ByteArray → Int → Option (Bool)
  | 0, _, _, _, _ => none
  | k + 1, x3, x4, x7, x8 => if x8 < (x4.length : Int) then (if 0 ≤ x8 then ((slotmeshref01_Text.f k ((rd_T31 x4 x8).f0) ((rd_T31 x4 x8).f1) ((rd_T31 x4 x8).f2) ((rd_T31 x4 x8).f3)).bind fun t268 => (if t268.size + 1 ≤ 9223372036854775807 then (if x7.size + (t268 ++ (⟨#[32]⟩ : ByteArray)).size ≤ 9223372036854775807 then (slotmeshlaw01_LexerWriting.l0 k x3 x4 (x7 ++ (t268 ++ (⟨#[32]⟩ : ByteArray))) (wrap64 (x8 + 1))) else (none)) else (none))) else (none)) else ((lexer_Lex.f x7).bind fun bt269 => (if x3 = true then (if (x7.size : Int) > 8000 then (if bt269.2.1 = 2 then (some true) else (if bt269.2.1 = 0 then ((slotmeshref01_Alike.f k x4 bt269.1).bind fun t274 => (some t274)) else (some false))) else (if bt269.2.1 = 0 then ((slotmeshref01_Alike.f k x4 bt269.1).bind fun t275 => (some t275)) else (some false))) else (some false)))
def slotmeshlaw01_LexerWriting.f (k : Nat) (a0 : ByteArray) : Option (Bool) := (slotmeshlaw01_head.f k).bind fun t261 => (if (a0.size : Int) > 8000 then (some t261) else ((lexer_Lex.f a0).bind fun bt262 => (if bt262.2.1 = 0 then (slotmeshlaw01_LexerWriting.l0 k t261 bt262.1 (⟨#[]⟩ : ByteArray) 0) else (some t261))))
theorem slotmeshlaw01_LexerWriting.mono_l : ∀ k, (∀ y0 y1 y2 y3, LeO (slotmeshlaw01_LexerWriting.l0 k y0 y1 y2 y3) (slotmeshlaw01_LexerWriting.l0 (k + 1) y0 y1 y2 y3))
  | 0 => fun _ _ _ _ r h => by simp [slotmeshlaw01_LexerWriting.l0] at h
  | k + 1 => by
    have ih0 := slotmeshlaw01_LexerWriting.mono_l k
    · intro y0 y1 y2 y3
      unfold slotmeshlaw01_LexerWriting.l0
      repeat' first
      | (with_reducible exact ih0 _ _ _ _)
      | (with_reducible exact slotmeshlaw01_head.mono _)
      | (with_reducible exact slotmeshref01_Alike.mono _ _ _)
      | (with_reducible exact slotmeshref01_Text.mono _ _ _ _ _)
      | (with_reducible exact LeO.refl _)
      | (with_reducible exact LeO.none _)
      | (with_reducible refine LeO.ite ?_ ?_)
      | (with_reducible refine LeO.bind ?_ (fun _ => ?_))
      | exact ih0 _ _ _ _
      | exact slotmeshlaw01_head.mono _
      | exact slotmeshref01_Alike.mono _ _ _
      | exact slotmeshref01_Text.mono _ _ _ _ _
      | exact LeO.none _
      | refine LeO.ite ?_ ?_
      | refine LeO.bind ?_ (fun _ => ?_)
theorem slotmeshlaw01_LexerWriting.mono : ∀ a0 k, LeO (slotmeshlaw01_LexerWriting.f k a0) (slotmeshlaw01_LexerWriting.f (k + 1) a0) := by
  intro a0 k
  have ih0 := slotmeshlaw01_LexerWriting.mono_l k
  unfold slotmeshlaw01_LexerWriting.f
  repeat' first
      | (with_reducible exact ih0 _ _ _ _)
      | (with_reducible exact slotmeshlaw01_head.mono _)
      | (with_reducible exact slotmeshref01_Alike.mono _ _ _)
      | (with_reducible exact slotmeshref01_Text.mono _ _ _ _ _)
      | (with_reducible exact LeO.refl _)
      | (with_reducible exact LeO.none _)
      | (with_reducible refine LeO.ite ?_ ?_)
      | (with_reducible refine LeO.bind ?_ (fun _ => ?_))
      | exact ih0 _ _ _ _
      | exact slotmeshlaw01_head.mono _
      | exact slotmeshref01_Alike.mono _ _ _
      | exact slotmeshref01_Text.mono _ _ _ _ _
      | exact LeO.none _
      | refine LeO.ite ?_ ?_
      | refine LeO.bind ?_ (fun _ => ?_)
set_option maxHeartbeats 8000000 in
set_option maxRecDepth 100000 in
theorem slotmeshlaw01_LexerWriting.calls (k : Nat) (a0 : ByteArray) (r : Bool) (w : World) (hG : Aside0 (Lx.GOK w)) (h : slotmeshlaw01_LexerWriting.f k a0 = some r) :
    Calls Tryd.prog 7 #[.string a0] w fun e w' => e = .returned (.bool r) ∧ Below w.heap.size w w' := by
  have hu31 := Tryd.underlying31
  have HB := Aside0.mk (Below.refl w.heap.size w)
  have H : ((slotmeshlaw01_head.f k).bind fun t261 => (if (a0.size : Int) > 8000 then (some t261) else ((lexer_Lex.f a0).bind fun bt262 => (if bt262.2.1 = 0 then (slotmeshlaw01_LexerWriting.l0 k t261 bt262.1 (⟨#[]⟩ : ByteArray) 0) else (some t261))))) = some r := h
  clear h
  replace H := Option.bind_eq_some_iff.mp H
  obtain ⟨t261, A20, H⟩ := H
  replace H : (if (a0.size : Int) > 8000 then (some t261) else ((lexer_Lex.f a0).bind fun bt262 => (if bt262.2.1 = 0 then (slotmeshlaw01_LexerWriting.l0 k t261 bt262.1 (⟨#[]⟩ : ByteArray) 0) else (some t261)))) = some r := H
  have A2 := Aside0.mk A20
  clear A20
  by_cases c3 : (a0.size : Int) > 8000
  · rw [if_pos c3] at H
    have c3b0 : decide (8000 < (a0.size : Int)) = true := decide_eq_true c3
    have c3b1 : decide (8000 < a0.size) = true := decide_eq_true (by omega)
    clear c3
    obtain rfl := Option.some.inj H
    go_enter Tryd.func7, Tryd.ntmps7
    go_wp2_with (first | ((with_reducible refine gate_callee (f := 9) rfl ?_); refine goesL_ (some 12) rfl rfl Tryd.func9 (by kernel_rfl) rfl #[] rfl (by (try simp only [List.map_toArray, List.map_cons, List.map_nil]); first | done | rfl | (simp only [List.length_drop, List.length_take]; rfl) | (simp (disch := omega) only [IntWalk.wrap64_in]; done)) ?_; (with_reducible refine (slotmeshlaw01_head.calls k  t261 _ ?side1 A2.out).mono ?_); (case side1 => exact Lx.GOK.aside hG (by repeat (first | (with_reducible first | exact HB.out | apply below_alloc | apply pw_below_drewN | apply below_drew1) | exact HB.out))); rintro e w4 ⟨rfl, hb⟩; refine ⟨_, rfl, ?_⟩; have n0_ := Aside0.mk (below_step (by repeat (first | (with_reducible first | exact HB.out | apply below_alloc | apply pw_below_drewN | apply below_drew1) | exact HB.out)) hb); clear HB; have HB := n0_; clear n0_; (try clear hb); (try clear hb2); (try clear hk); (try clear hi)))
    go_ret
    exact ⟨by first | rfl | (simp [errW_none, errW_some] <;> rfl) | (simp [*, errW_none, errW_some] <;> rfl), by repeat (first | (with_reducible first | exact HB.out | apply below_alloc | apply pw_below_drewN | apply below_drew1) | exact HB.out)⟩
  · rw [if_neg c3] at H
    have c3b0 : decide (8000 < (a0.size : Int)) = false := decide_eq_false c3
    have c3b1 : decide (8000 < a0.size) = false := decide_eq_false (by omega)
    clear c3
    replace H := Option.bind_eq_some_iff.mp H
    obtain ⟨⟨t262, t263, t264⟩, A50, H⟩ := H
    replace H : (if t263 = 0 then (slotmeshlaw01_LexerWriting.l0 k t261 t262 (⟨#[]⟩ : ByteArray) 0) else (some t261)) = some r := H
    have A5 := Aside0.mk A50
    clear A50
    by_cases c6 : t263 = 0
    · rw [if_pos c6] at H
      have c6b0 : (t263 == 0) = true := beq_iff_eq.mpr c6
      have c6b1 : (t263 != 0) = false := bne_eq_false_iff_eq.mpr c6
      clear c6
      have H' := Aside0.mk H
      clear H
      go_enter Tryd.func7, Tryd.ntmps7
      go_wp2_with (first | ((with_reducible refine gate_callee (f := 9) rfl ?_); refine goesL_ (some 12) rfl rfl Tryd.func9 (by kernel_rfl) rfl #[] rfl (by (try simp only [List.map_toArray, List.map_cons, List.map_nil]); first | done | rfl | (simp only [List.length_drop, List.length_take]; rfl) | (simp (disch := omega) only [IntWalk.wrap64_in]; done)) ?_; (with_reducible refine (slotmeshlaw01_head.calls k  t261 _ ?side1 A2.out).mono ?_); (case side1 => exact Lx.GOK.aside hG (by repeat (first | (with_reducible first | exact HB.out | apply below_alloc | apply pw_below_drewN | apply below_drew1) | exact HB.out))); rintro e w7 ⟨rfl, hb⟩; refine ⟨_, rfl, ?_⟩; have n0_ := Aside0.mk (below_step (by repeat (first | (with_reducible first | exact HB.out | apply below_alloc | apply pw_below_drewN | apply below_drew1) | exact HB.out)) hb); clear HB; have HB := n0_; clear n0_; (try clear hb); (try clear hb2); (try clear hk); (try clear hi)) | ((with_reducible refine gate_callee (f := 10) rfl ?_); refine goesL_ (some 19) rfl rfl Tryd.func10 (by kernel_rfl) rfl #[.string a0] rfl (by (try simp only [List.map_toArray, List.map_cons, List.map_nil]); first | done | rfl | (simp only [List.length_drop, List.length_take]; rfl) | (simp (disch := omega) only [IntWalk.wrap64_in]; done)) ?_; (with_reducible refine (lexer_Lex.calls a0 t262 t263 t264 _ ?side1 A5.out).mono ?_); (case side1 => exact Lx.GOK.aside hG (by repeat (first | (with_reducible first | exact HB.out | apply below_alloc | apply pw_below_drewN | apply below_drew1) | exact HB.out))); rintro e w8 ⟨v265, rfl, ho0, hb⟩; refine ⟨_, rfl, ?_⟩; have n0_ := Aside0.mk (Kd.R_lower ho0 (below_size (by repeat (first | (with_reducible first | exact HB.out | apply below_alloc | apply pw_below_drewN | apply below_drew1) | exact HB.out)))); have n1_ := Aside0.mk (below_step (by repeat (first | (with_reducible first | exact HB.out | apply below_alloc | apply pw_below_drewN | apply below_drew1) | exact HB.out)) hb); clear HB; have HO266 := n0_; have HB := n1_; clear n0_ n1_; (try clear hb); (try clear hb2); (try clear hk); (try clear hi); (try clear ho0)))
      go_loopg [7, 8] k (fun kq v7 v8 w' => ∃ (x7_1 : ByteArray) (x8_1 : Int), v7 = .string x7_1 ∧ v8 = .int .i64 x8_1 ∧ Aside0 (slotmeshlaw01_LexerWriting.l0 kq t261 t262 x7_1 x8_1 = some r) ∧ Aside0 (kq ≤ k) ∧ Aside0 (Kd.R k31 31 w' w.heap.size (fun _ => True) v265 t262) ∧ Aside0 (Below w.heap.size w w'))
      case atStart => exact ⟨((⟨#[]⟩ : ByteArray)), (0), (by first | rfl | (simp; done) | (simp [*]; done)), (by first | rfl | (simp; done) | (simp [*]; done)), H', ⟨Nat.le_refl _⟩, ⟨by (with_reducible repeat (first | apply Kd.R_alloc | apply Kd.R_drewN | apply Kd.R_drew)); exact HO266.out⟩, ⟨by repeat (first | (with_reducible first | exact HB.out | apply below_alloc | apply pw_below_drewN | apply below_drew1) | exact HB.out)⟩⟩
      case round =>
        clear H'
        try clear c1
        try clear p2
        try clear c3
        try clear c3b0
        try clear c3b1
        try clear c6
        try clear c6b0
        try clear c6b1
        try clear c7
        obtain ⟨x7_1, x8_1, rfl, rfl, HA, HK1, HO_4, HB⟩ := hrel
        cases gk with
        | zero => exact absurd HA.out (by simp [slotmeshlaw01_LexerWriting.l0])
        | succ k1 =>
          have H := HA.out
          clear HA
          simp only [slotmeshlaw01_LexerWriting.l0] at H
          by_cases c9 : x8_1 < (t262.length : Int)
          · rw [if_pos c9] at H
            have c9b0 : decide (x8_1 < (t262.length : Int)) = true := decide_eq_true c9
            clear c9
            by_cases c10 : 0 ≤ x8_1
            · rw [if_pos c10] at H
              have c10b0 : decide (0 ≤ x8_1) = true := decide_eq_true c10
              clear c10
              replace H := Option.bind_eq_some_iff.mp H
              obtain ⟨t268, A110, H⟩ := H
              replace H : (if t268.size + 1 ≤ 9223372036854775807 then (if x7_1.size + (t268 ++ (⟨#[32]⟩ : ByteArray)).size ≤ 9223372036854775807 then (slotmeshlaw01_LexerWriting.l0 k1 t261 t262 (x7_1 ++ (t268 ++ (⟨#[32]⟩ : ByteArray))) (wrap64 (x8_1 + 1))) else (none)) else (none)) = some r := H
              have A11 := Aside0.mk A110
              clear A110
              by_cases c12 : t268.size + 1 ≤ 9223372036854775807
              · rw [if_pos c12] at H
                have c12b0 := eq_true c12
                have c12b1 : decide (t268.size + 1 ≤ 9223372036854775807) = true := decide_eq_true c12
                try have c12b2 : (9223372036854775807 < t268.size + 1) = False := eq_false (Nat.not_lt.2 c12)
                by_cases c13 : x7_1.size + (t268 ++ (⟨#[32]⟩ : ByteArray)).size ≤ 9223372036854775807
                · rw [if_pos c13] at H
                  have c13b0 := eq_true c13
                  have c13b1 : decide (x7_1.size + (t268 ++ (⟨#[32]⟩ : ByteArray)).size ≤ 9223372036854775807) = true := decide_eq_true c13
                  try have c13b2 : (9223372036854775807 < x7_1.size + (t268 ++ (⟨#[32]⟩ : ByteArray)).size) = False := eq_false (Nat.not_lt.2 c13)
                  have H' := Aside0.mk H
                  clear H
                  obtain ⟨Ao14, co14, eo14⟩ := Kd.R_slice HO_4.out
                  subst eo14
                  have p267 : 0 ≤ (x8_1 : Int) := of_decide_eq_true (by first | (with_reducible assumption) | assumption)
                  have q267 : x8_1 < (t262.length : Int) := of_decide_eq_true (by first | (with_reducible assumption) | assumption)
                  obtain ⟨ad267, e267, hx267_0, hx267_1, hx267_2, hx267_3⟩ := at_T31 (Kd.R_reads' HO_4.out).2.2 x8_1 p267 q267
                  cases e267
                  replace p267 := eq_true p267
                  replace q267 := eq_true q267
                  go_wp2_with (first | ((with_reducible refine gate_callee (f := 13) rfl ?_); refine goesL_ (some 37) rfl rfl Tryd.func13 (by kernel_rfl) rfl #[.agg #[.int .i64 ((rd_T31 t262 x8_1).f0), .string ((rd_T31 t262 x8_1).f1), .int .i64 ((rd_T31 t262 x8_1).f2), .int .i64 ((rd_T31 t262 x8_1).f3)]] rfl (by (try simp only [List.map_toArray, List.map_cons, List.map_nil]); first | done | rfl | (simp only [List.length_drop, List.length_take]; rfl) | (simp (disch := omega) only [IntWalk.wrap64_in]; done)) ?_; (with_reducible refine (slotmeshref01_Text.calls k1 ((rd_T31 t262 x8_1).f0) ((rd_T31 t262 x8_1).f1) ((rd_T31 t262 x8_1).f2) ((rd_T31 t262 x8_1).f3) t268 _ A11.out).mono ?_); rintro e w15 ⟨rfl, hb⟩; refine ⟨_, rfl, ?_⟩; have n0_ := Aside0.mk (Kd.R_below (by (with_reducible repeat (first | apply Kd.R_alloc | apply Kd.R_drewN | apply Kd.R_drew)); exact HO_4.out) hb); have n1_ := Aside0.mk (below_step (by repeat (first | (with_reducible first | exact HB.out | apply below_alloc | apply pw_below_drewN | apply below_drew1) | exact HB.out)) hb); clear HO_4; clear HB; have HO_4 := n0_; have HB := n1_; clear n0_ n1_; (try clear hb); (try clear hb2); (try clear hk); (try clear hi)))
                  go_roundg k1
                  case measure => have := HK1.out; omega
                  case rel => exact ⟨(x7_1 ++ (t268 ++ (⟨#[32]⟩ : ByteArray))), (wrap64 (x8_1 + 1)), (by first | rfl | (simp; done) | (simp [*]; done)), (by first | rfl | (simp; done) | (simp [*]; done)), H', ⟨by have := HK1.out; omega⟩, ⟨by (with_reducible repeat (first | apply Kd.R_alloc | apply Kd.R_drewN | apply Kd.R_drew)); exact HO_4.out⟩, ⟨by repeat (first | (with_reducible first | exact HB.out | apply below_alloc | apply pw_below_drewN | apply below_drew1) | exact HB.out)⟩⟩
                · rw [if_neg c13] at H
                  exact absurd H (by simp)
              · rw [if_neg c12] at H
                exact absurd H (by simp)
            · rw [if_neg c10] at H
              exact absurd H (by simp)
          · rw [if_neg c9] at H
            have c9b0 : decide (x8_1 < (t262.length : Int)) = false := decide_eq_false c9
            clear c9
            replace H := Option.bind_eq_some_iff.mp H
            obtain ⟨⟨t269, t270, t271⟩, A160, H⟩ := H
            replace H : (if t261 = true then (if (x7_1.size : Int) > 8000 then (if t270 = 2 then (some true) else (if t270 = 0 then ((slotmeshref01_Alike.f k1 t262 t269).bind fun t274 => (some t274)) else (some false))) else (if t270 = 0 then ((slotmeshref01_Alike.f k1 t262 t269).bind fun t275 => (some t275)) else (some false))) else (some false)) = some r := H
            have A16 := Aside0.mk A160
            clear A160
            by_cases c17 : t261 = true
            · subst c17
              have H1 : (if (x7_1.size : Int) > 8000 then (if t270 = 2 then (some true) else (if t270 = 0 then ((slotmeshref01_Alike.f k1 t262 t269).bind fun t274 => (some t274)) else (some false))) else (if t270 = 0 then ((slotmeshref01_Alike.f k1 t262 t269).bind fun t275 => (some t275)) else (some false))) = some r := by rw [if_pos rfl] at H; exact H
              clear H
              have H := H1
              clear H1
              by_cases c18 : (x7_1.size : Int) > 8000
              · rw [if_pos c18] at H
                have c18b0 : decide (8000 < (x7_1.size : Int)) = true := decide_eq_true c18
                have c18b1 : decide (8000 < x7_1.size) = true := decide_eq_true (by omega)
                clear c18
                by_cases c19 : t270 = 2
                · rw [if_pos c19] at H
                  have c19b0 : (t270 == 2) = true := beq_iff_eq.mpr c19
                  have c19b1 : (t270 != 2) = false := bne_eq_false_iff_eq.mpr c19
                  clear c19
                  obtain rfl := Option.some.inj H
                  obtain ⟨Ao20, co20, eo20⟩ := Kd.R_slice HO_4.out
                  subst eo20
                  go_wp2_with (first | ((with_reducible refine gate_callee (f := 10) rfl ?_); refine goesL_ (some 42) rfl rfl Tryd.func10 (by kernel_rfl) rfl #[.string x7_1] rfl (by (try simp only [List.map_toArray, List.map_cons, List.map_nil]); first | done | rfl | (simp only [List.length_drop, List.length_take]; rfl) | (simp (disch := omega) only [IntWalk.wrap64_in]; done)) ?_; (with_reducible refine (lexer_Lex.calls x7_1 t269 t270 t271 _ ?side1 A16.out).mono ?_); (case side1 => exact Lx.GOK.aside hG (by repeat (first | (with_reducible first | exact HB.out | apply below_alloc | apply pw_below_drewN | apply below_drew1) | exact HB.out))); rintro e w21 ⟨v272, rfl, ho0, hb⟩; refine ⟨_, rfl, ?_⟩; have n0_ := Aside0.mk (Kd.R_elder' (by (with_reducible repeat (first | apply Kd.R_alloc | apply Kd.R_drewN | apply Kd.R_drew)); exact HO_4.out) (Kd.R_base ho0) hb); have n1_ := Aside0.mk (Kd.R_lower (Kd.R_new' ho0 (Kd.R_lt (by (with_reducible repeat (first | apply Kd.R_alloc | apply Kd.R_drewN | apply Kd.R_drew)); exact HO_4.out))) (below_size (by repeat (first | (with_reducible first | exact HB.out | apply below_alloc | apply pw_below_drewN | apply below_drew1) | exact HB.out)))); have n2_ := Aside0.mk (below_step (by repeat (first | (with_reducible first | exact HB.out | apply below_alloc | apply pw_below_drewN | apply below_drew1) | exact HB.out)) hb); clear HO_4; clear HB; have HO_4 := n0_; have HO273 := n1_; have HB := n2_; clear n0_ n1_ n2_; (try clear hb); (try clear hb2); (try clear hk); (try clear hi); (try clear ho0)))
                  go_ret
                  exact ⟨by first | rfl | (simp [errW_none, errW_some] <;> rfl) | (simp [*, errW_none, errW_some] <;> rfl), by repeat (first | (with_reducible first | exact HB.out | apply below_alloc | apply pw_below_drewN | apply below_drew1) | exact HB.out)⟩
                · rw [if_neg c19] at H
                  have c19b0 : (t270 == 2) = false := beq_eq_false_iff_ne.mpr c19
                  have c19b1 : (t270 != 2) = true := bne_iff_ne.mpr c19
                  by_cases c22 : t270 = 0
                  · rw [if_pos c22] at H
                    have c22b0 : (t270 == 0) = true := beq_iff_eq.mpr c22
                    have c22b1 : (t270 != 0) = false := bne_eq_false_iff_eq.mpr c22
                    clear c22
                    replace H := Option.bind_eq_some_iff.mp H
                    obtain ⟨t274, A230, H⟩ := H
                    replace H : (some t274) = some r := H
                    have A23 := Aside0.mk A230
                    clear A230
                    obtain rfl := Option.some.inj H
                    obtain ⟨Ao24, co24, eo24⟩ := Kd.R_slice HO_4.out
                    subst eo24
                    go_wp2_with (first | ((with_reducible refine gate_callee (f := 10) rfl ?_); refine goesL_ (some 42) rfl rfl Tryd.func10 (by kernel_rfl) rfl #[.string x7_1] rfl (by (try simp only [List.map_toArray, List.map_cons, List.map_nil]); first | done | rfl | (simp only [List.length_drop, List.length_take]; rfl) | (simp (disch := omega) only [IntWalk.wrap64_in]; done)) ?_; (with_reducible refine (lexer_Lex.calls x7_1 t269 t270 t271 _ ?side1 A16.out).mono ?_); (case side1 => exact Lx.GOK.aside hG (by repeat (first | (with_reducible first | exact HB.out | apply below_alloc | apply pw_below_drewN | apply below_drew1) | exact HB.out))); rintro e w25 ⟨v272, rfl, ho0, hb⟩; refine ⟨_, rfl, ?_⟩; have n0_ := Aside0.mk (Kd.R_elder' (by (with_reducible repeat (first | apply Kd.R_alloc | apply Kd.R_drewN | apply Kd.R_drew)); exact HO_4.out) (Kd.R_base ho0) hb); have n1_ := Aside0.mk (Kd.R_lower (Kd.R_new' ho0 (Kd.R_lt (by (with_reducible repeat (first | apply Kd.R_alloc | apply Kd.R_drewN | apply Kd.R_drew)); exact HO_4.out))) (below_size (by repeat (first | (with_reducible first | exact HB.out | apply below_alloc | apply pw_below_drewN | apply below_drew1) | exact HB.out)))); have n2_ := Aside0.mk (below_step (by repeat (first | (with_reducible first | exact HB.out | apply below_alloc | apply pw_below_drewN | apply below_drew1) | exact HB.out)) hb); clear HO_4; clear HB; have HO_4 := n0_; have HO273 := n1_; have HB := n2_; clear n0_ n1_ n2_; (try clear hb); (try clear hb2); (try clear hk); (try clear hi); (try clear ho0); obtain ⟨Ao26, co26, eo26⟩ := Kd.R_slice HO273.out; subst eo26) | (go_at_call 16; (with_reducible refine (slotmeshref01_Alike.calls k1 _ _ t262 _ _ t269 t274 _ ?side1 ?side2 ?side3 ?side4 A23.out).mono ?_); (case side1 => repeat (first | exact (Kd.R_reads' HO_4.out).2.2 | (with_reducible refine Kd.C_alloc ?_ _) | (with_reducible refine Kd.C_drewN ?_ _) | (with_reducible refine Kd.C_drew ?_))); (case side2 => exact (Kd.R_reads' HO_4.out).2.1); (case side3 => repeat (first | exact (Kd.R_reads' HO273.out).2.2 | (with_reducible refine Kd.C_alloc ?_ _) | (with_reducible refine Kd.C_drewN ?_ _) | (with_reducible refine Kd.C_drew ?_))); (case side4 => exact (Kd.R_reads' HO273.out).2.1); rintro e w' ⟨rfl, ⟨nd, rfl⟩⟩))
                    go_ret
                    exact ⟨by first | rfl | (simp [errW_none, errW_some] <;> rfl) | (simp [*, errW_none, errW_some] <;> rfl), by repeat (first | (with_reducible first | exact HB.out | apply below_alloc | apply pw_below_drewN | apply below_drew1) | exact HB.out)⟩
                  · rw [if_neg c22] at H
                    have c22b0 : (t270 == 0) = false := beq_eq_false_iff_ne.mpr c22
                    have c22b1 : (t270 != 0) = true := bne_iff_ne.mpr c22
                    obtain rfl := Option.some.inj H
                    obtain ⟨Ao27, co27, eo27⟩ := Kd.R_slice HO_4.out
                    subst eo27
                    go_wp2_with (first | ((with_reducible refine gate_callee (f := 10) rfl ?_); refine goesL_ (some 42) rfl rfl Tryd.func10 (by kernel_rfl) rfl #[.string x7_1] rfl (by (try simp only [List.map_toArray, List.map_cons, List.map_nil]); first | done | rfl | (simp only [List.length_drop, List.length_take]; rfl) | (simp (disch := omega) only [IntWalk.wrap64_in]; done)) ?_; (with_reducible refine (lexer_Lex.calls x7_1 t269 t270 t271 _ ?side1 A16.out).mono ?_); (case side1 => exact Lx.GOK.aside hG (by repeat (first | (with_reducible first | exact HB.out | apply below_alloc | apply pw_below_drewN | apply below_drew1) | exact HB.out))); rintro e w28 ⟨v272, rfl, ho0, hb⟩; refine ⟨_, rfl, ?_⟩; have n0_ := Aside0.mk (Kd.R_elder' (by (with_reducible repeat (first | apply Kd.R_alloc | apply Kd.R_drewN | apply Kd.R_drew)); exact HO_4.out) (Kd.R_base ho0) hb); have n1_ := Aside0.mk (Kd.R_lower (Kd.R_new' ho0 (Kd.R_lt (by (with_reducible repeat (first | apply Kd.R_alloc | apply Kd.R_drewN | apply Kd.R_drew)); exact HO_4.out))) (below_size (by repeat (first | (with_reducible first | exact HB.out | apply below_alloc | apply pw_below_drewN | apply below_drew1) | exact HB.out)))); have n2_ := Aside0.mk (below_step (by repeat (first | (with_reducible first | exact HB.out | apply below_alloc | apply pw_below_drewN | apply below_drew1) | exact HB.out)) hb); clear HO_4; clear HB; have HO_4 := n0_; have HO273 := n1_; have HB := n2_; clear n0_ n1_ n2_; (try clear hb); (try clear hb2); (try clear hk); (try clear hi); (try clear ho0)))
                    go_ret
                    exact ⟨by first | rfl | (simp [errW_none, errW_some] <;> rfl) | (simp [*, errW_none, errW_some] <;> rfl), by repeat (first | (with_reducible first | exact HB.out | apply below_alloc | apply pw_below_drewN | apply below_drew1) | exact HB.out)⟩
              · rw [if_neg c18] at H
                have c18b0 : decide (8000 < (x7_1.size : Int)) = false := decide_eq_false c18
                have c18b1 : decide (8000 < x7_1.size) = false := decide_eq_false (by omega)
                clear c18
                by_cases c29 : t270 = 0
                · rw [if_pos c29] at H
                  have c29b0 : (t270 == 0) = true := beq_iff_eq.mpr c29
                  have c29b1 : (t270 != 0) = false := bne_eq_false_iff_eq.mpr c29
                  clear c29
                  replace H := Option.bind_eq_some_iff.mp H
                  obtain ⟨t275, A300, H⟩ := H
                  replace H : (some t275) = some r := H
                  have A30 := Aside0.mk A300
                  clear A300
                  obtain rfl := Option.some.inj H
                  obtain ⟨Ao31, co31, eo31⟩ := Kd.R_slice HO_4.out
                  subst eo31
                  go_wp2_with (first | ((with_reducible refine gate_callee (f := 10) rfl ?_); refine goesL_ (some 42) rfl rfl Tryd.func10 (by kernel_rfl) rfl #[.string x7_1] rfl (by (try simp only [List.map_toArray, List.map_cons, List.map_nil]); first | done | rfl | (simp only [List.length_drop, List.length_take]; rfl) | (simp (disch := omega) only [IntWalk.wrap64_in]; done)) ?_; (with_reducible refine (lexer_Lex.calls x7_1 t269 t270 t271 _ ?side1 A16.out).mono ?_); (case side1 => exact Lx.GOK.aside hG (by repeat (first | (with_reducible first | exact HB.out | apply below_alloc | apply pw_below_drewN | apply below_drew1) | exact HB.out))); rintro e w32 ⟨v272, rfl, ho0, hb⟩; refine ⟨_, rfl, ?_⟩; have n0_ := Aside0.mk (Kd.R_elder' (by (with_reducible repeat (first | apply Kd.R_alloc | apply Kd.R_drewN | apply Kd.R_drew)); exact HO_4.out) (Kd.R_base ho0) hb); have n1_ := Aside0.mk (Kd.R_lower (Kd.R_new' ho0 (Kd.R_lt (by (with_reducible repeat (first | apply Kd.R_alloc | apply Kd.R_drewN | apply Kd.R_drew)); exact HO_4.out))) (below_size (by repeat (first | (with_reducible first | exact HB.out | apply below_alloc | apply pw_below_drewN | apply below_drew1) | exact HB.out)))); have n2_ := Aside0.mk (below_step (by repeat (first | (with_reducible first | exact HB.out | apply below_alloc | apply pw_below_drewN | apply below_drew1) | exact HB.out)) hb); clear HO_4; clear HB; have HO_4 := n0_; have HO273 := n1_; have HB := n2_; clear n0_ n1_ n2_; (try clear hb); (try clear hb2); (try clear hk); (try clear hi); (try clear ho0); obtain ⟨Ao33, co33, eo33⟩ := Kd.R_slice HO273.out; subst eo33) | (go_at_call 16; (with_reducible refine (slotmeshref01_Alike.calls k1 _ _ t262 _ _ t269 t275 _ ?side1 ?side2 ?side3 ?side4 A30.out).mono ?_); (case side1 => repeat (first | exact (Kd.R_reads' HO_4.out).2.2 | (with_reducible refine Kd.C_alloc ?_ _) | (with_reducible refine Kd.C_drewN ?_ _) | (with_reducible refine Kd.C_drew ?_))); (case side2 => exact (Kd.R_reads' HO_4.out).2.1); (case side3 => repeat (first | exact (Kd.R_reads' HO273.out).2.2 | (with_reducible refine Kd.C_alloc ?_ _) | (with_reducible refine Kd.C_drewN ?_ _) | (with_reducible refine Kd.C_drew ?_))); (case side4 => exact (Kd.R_reads' HO273.out).2.1); rintro e w' ⟨rfl, ⟨nd, rfl⟩⟩))
                  go_ret
                  exact ⟨by first | rfl | (simp [errW_none, errW_some] <;> rfl) | (simp [*, errW_none, errW_some] <;> rfl), by repeat (first | (with_reducible first | exact HB.out | apply below_alloc | apply pw_below_drewN | apply below_drew1) | exact HB.out)⟩
                · rw [if_neg c29] at H
                  have c29b0 : (t270 == 0) = false := beq_eq_false_iff_ne.mpr c29
                  have c29b1 : (t270 != 0) = true := bne_iff_ne.mpr c29
                  obtain rfl := Option.some.inj H
                  obtain ⟨Ao34, co34, eo34⟩ := Kd.R_slice HO_4.out
                  subst eo34
                  go_wp2_with (first | ((with_reducible refine gate_callee (f := 10) rfl ?_); refine goesL_ (some 42) rfl rfl Tryd.func10 (by kernel_rfl) rfl #[.string x7_1] rfl (by (try simp only [List.map_toArray, List.map_cons, List.map_nil]); first | done | rfl | (simp only [List.length_drop, List.length_take]; rfl) | (simp (disch := omega) only [IntWalk.wrap64_in]; done)) ?_; (with_reducible refine (lexer_Lex.calls x7_1 t269 t270 t271 _ ?side1 A16.out).mono ?_); (case side1 => exact Lx.GOK.aside hG (by repeat (first | (with_reducible first | exact HB.out | apply below_alloc | apply pw_below_drewN | apply below_drew1) | exact HB.out))); rintro e w35 ⟨v272, rfl, ho0, hb⟩; refine ⟨_, rfl, ?_⟩; have n0_ := Aside0.mk (Kd.R_elder' (by (with_reducible repeat (first | apply Kd.R_alloc | apply Kd.R_drewN | apply Kd.R_drew)); exact HO_4.out) (Kd.R_base ho0) hb); have n1_ := Aside0.mk (Kd.R_lower (Kd.R_new' ho0 (Kd.R_lt (by (with_reducible repeat (first | apply Kd.R_alloc | apply Kd.R_drewN | apply Kd.R_drew)); exact HO_4.out))) (below_size (by repeat (first | (with_reducible first | exact HB.out | apply below_alloc | apply pw_below_drewN | apply below_drew1) | exact HB.out)))); have n2_ := Aside0.mk (below_step (by repeat (first | (with_reducible first | exact HB.out | apply below_alloc | apply pw_below_drewN | apply below_drew1) | exact HB.out)) hb); clear HO_4; clear HB; have HO_4 := n0_; have HO273 := n1_; have HB := n2_; clear n0_ n1_ n2_; (try clear hb); (try clear hb2); (try clear hk); (try clear hi); (try clear ho0)))
                  go_ret
                  exact ⟨by first | rfl | (simp [errW_none, errW_some] <;> rfl) | (simp [*, errW_none, errW_some] <;> rfl), by repeat (first | (with_reducible first | exact HB.out | apply below_alloc | apply pw_below_drewN | apply below_drew1) | exact HB.out)⟩
            · replace c17 := Bool.eq_false_iff.mpr c17
              subst c17
              have H1 : (some false) = some r := by rw [if_neg (show ¬ (false = true) by decide)] at H; exact H
              clear H
              have H := H1
              clear H1
              obtain rfl := Option.some.inj H
              obtain ⟨Ao36, co36, eo36⟩ := Kd.R_slice HO_4.out
              subst eo36
              go_wp2_with (first | ((with_reducible refine gate_callee (f := 10) rfl ?_); refine goesL_ (some 42) rfl rfl Tryd.func10 (by kernel_rfl) rfl #[.string x7_1] rfl (by (try simp only [List.map_toArray, List.map_cons, List.map_nil]); first | done | rfl | (simp only [List.length_drop, List.length_take]; rfl) | (simp (disch := omega) only [IntWalk.wrap64_in]; done)) ?_; (with_reducible refine (lexer_Lex.calls x7_1 t269 t270 t271 _ ?side1 A16.out).mono ?_); (case side1 => exact Lx.GOK.aside hG (by repeat (first | (with_reducible first | exact HB.out | apply below_alloc | apply pw_below_drewN | apply below_drew1) | exact HB.out))); rintro e w37 ⟨v272, rfl, ho0, hb⟩; refine ⟨_, rfl, ?_⟩; have n0_ := Aside0.mk (Kd.R_elder' (by (with_reducible repeat (first | apply Kd.R_alloc | apply Kd.R_drewN | apply Kd.R_drew)); exact HO_4.out) (Kd.R_base ho0) hb); have n1_ := Aside0.mk (Kd.R_lower (Kd.R_new' ho0 (Kd.R_lt (by (with_reducible repeat (first | apply Kd.R_alloc | apply Kd.R_drewN | apply Kd.R_drew)); exact HO_4.out))) (below_size (by repeat (first | (with_reducible first | exact HB.out | apply below_alloc | apply pw_below_drewN | apply below_drew1) | exact HB.out)))); have n2_ := Aside0.mk (below_step (by repeat (first | (with_reducible first | exact HB.out | apply below_alloc | apply pw_below_drewN | apply below_drew1) | exact HB.out)) hb); clear HO_4; clear HB; have HO_4 := n0_; have HO273 := n1_; have HB := n2_; clear n0_ n1_ n2_; (try clear hb); (try clear hb2); (try clear hk); (try clear hi); (try clear ho0)))
              go_ret
              exact ⟨by first | rfl | (simp [errW_none, errW_some] <;> rfl) | (simp [*, errW_none, errW_some] <;> rfl), by repeat (first | (with_reducible first | exact HB.out | apply below_alloc | apply pw_below_drewN | apply below_drew1) | exact HB.out)⟩
    · rw [if_neg c6] at H
      have c6b0 : (t263 == 0) = false := beq_eq_false_iff_ne.mpr c6
      have c6b1 : (t263 != 0) = true := bne_iff_ne.mpr c6
      obtain rfl := Option.some.inj H
      go_enter Tryd.func7, Tryd.ntmps7
      go_wp2_with (first | ((with_reducible refine gate_callee (f := 9) rfl ?_); refine goesL_ (some 12) rfl rfl Tryd.func9 (by kernel_rfl) rfl #[] rfl (by (try simp only [List.map_toArray, List.map_cons, List.map_nil]); first | done | rfl | (simp only [List.length_drop, List.length_take]; rfl) | (simp (disch := omega) only [IntWalk.wrap64_in]; done)) ?_; (with_reducible refine (slotmeshlaw01_head.calls k  t261 _ ?side1 A2.out).mono ?_); (case side1 => exact Lx.GOK.aside hG (by repeat (first | (with_reducible first | exact HB.out | apply below_alloc | apply pw_below_drewN | apply below_drew1) | exact HB.out))); rintro e w38 ⟨rfl, hb⟩; refine ⟨_, rfl, ?_⟩; have n0_ := Aside0.mk (below_step (by repeat (first | (with_reducible first | exact HB.out | apply below_alloc | apply pw_below_drewN | apply below_drew1) | exact HB.out)) hb); clear HB; have HB := n0_; clear n0_; (try clear hb); (try clear hb2); (try clear hk); (try clear hi)) | ((with_reducible refine gate_callee (f := 10) rfl ?_); refine goesL_ (some 19) rfl rfl Tryd.func10 (by kernel_rfl) rfl #[.string a0] rfl (by (try simp only [List.map_toArray, List.map_cons, List.map_nil]); first | done | rfl | (simp only [List.length_drop, List.length_take]; rfl) | (simp (disch := omega) only [IntWalk.wrap64_in]; done)) ?_; (with_reducible refine (lexer_Lex.calls a0 t262 t263 t264 _ ?side1 A5.out).mono ?_); (case side1 => exact Lx.GOK.aside hG (by repeat (first | (with_reducible first | exact HB.out | apply below_alloc | apply pw_below_drewN | apply below_drew1) | exact HB.out))); rintro e w39 ⟨v265, rfl, ho0, hb⟩; refine ⟨_, rfl, ?_⟩; have n0_ := Aside0.mk (Kd.R_lower ho0 (below_size (by repeat (first | (with_reducible first | exact HB.out | apply below_alloc | apply pw_below_drewN | apply below_drew1) | exact HB.out)))); have n1_ := Aside0.mk (below_step (by repeat (first | (with_reducible first | exact HB.out | apply below_alloc | apply pw_below_drewN | apply below_drew1) | exact HB.out)) hb); clear HB; have HO266 := n0_; have HB := n1_; clear n0_ n1_; (try clear hb); (try clear hb2); (try clear hk); (try clear hi); (try clear ho0)))
      go_ret
      exact ⟨by first | rfl | (simp [errW_none, errW_some] <;> rfl) | (simp [*, errW_none, errW_some] <;> rfl), by repeat (first | (with_reducible first | exact HB.out | apply below_alloc | apply pw_below_drewN | apply below_drew1) | exact HB.out)⟩

/-- THE ONE PURE STATEMENT of slotmeshlaw01_LexerWriting: yours. -/
def slotmeshlaw01_LexerWriting.Pure : Prop := ∀ (a0 : ByteArray), a0.size ≤ 140737488351232 → ∃ k, slotmeshlaw01_LexerWriting.f k a0 = some true
theorem slotmeshlaw01_LexerWriting.walk (P : slotmeshlaw01_LexerWriting.Pure) (a0 : ByteArray) (w : World) (hG : Lx.GOK w) (w0 : a0.size ≤ 140737488351232) :
    Calls Tryd.prog 7 #[.string a0] w fun e w' => e = .returned (.bool true) ∧ Below w.heap.size w w' := by
  obtain ⟨k, h⟩ := P a0 w0
  refine (slotmeshlaw01_LexerWriting.calls k a0 true w ⟨hG⟩ h).mono ?_
  rintro e w' ⟨rfl, hd⟩
  exact ⟨rfl, hd⟩

/-! ### slotmeshlaw01_LexerErrors: function 8 -/
mutual
def slotmeshlaw01_LexerErrors.j0 : Nat → ByteArray → ByteArray → Bool → Bool → Option (Bool)
  | 0, _, _, _, _ => none
  | k + 1, x0, x1, x5, x24 => if x24 = true then (some x5) else ((lexer_Lex.f x0).bind fun bt277 => (if bt277.2.1 = 0 then (if x5 = true then (some (bt277.2.2 == 0)) else (some false)) else (if bt277.2.2 < 0 then (slotmeshlaw01_LexerErrors.j1 k x0 x1 x5 bt277.2.1 bt277.2.2 true) else (slotmeshlaw01_LexerErrors.j1 k x0 x1 x5 bt277.2.1 bt277.2.2 (decide (bt277.2.2 ≥ (x0.size : Int)))))))
def slotmeshlaw01_LexerErrors.j1 : Nat → ByteArray → ByteArray → Bool → Int → Int → Bool → Option (Bool)
  | 0, _, _, _, _, _, _ => none
  | k + 1, x0, x1, x5, x7, x8, x46 => if x46 = true then (some false) else (if 0 ≤ x8 then (if x8 ≤ (x0.size : Int) then ((lexer_Lex.f (x0.extract 0 (x8 : Int).toNat)).bind fun bt282 => ((slotmeshref01_End.f k x0 x8).bind fun t287 => (if 0 ≤ t287 then (if t287 ≤ (x0.size : Int) then (if (x0.extract 0 (t287 : Int).toNat).size + 1 ≤ 9223372036854775807 then (if ((x0.extract 0 (t287 : Int).toNat) ++ (⟨#[32]⟩ : ByteArray)).size + x1.size ≤ 9223372036854775807 then (if ((((x0.extract 0 (t287 : Int).toNat) ++ (⟨#[32]⟩ : ByteArray)) ++ x1).size : Int) > 8000 then (if x5 = true then (some (bt282.2.1 == 0)) else (some false)) else ((lexer_Lex.f (((x0.extract 0 (t287 : Int).toNat) ++ (⟨#[32]⟩ : ByteArray)) ++ x1)).bind fun bt288 => (if x5 = true then (if bt282.2.1 = 0 then (if bt288.2.1 = x7 then (if bt288.2.2 = x8 then (if x7 = 2 then (some ((bt282.1.length : Int) == 2000)) else (some true)) else (some false)) else (some false)) else (some false)) else (some false)))) else (none)) else (none)) else (none)) else (none)))) else (none)) else (none))
end
def slotmeshlaw01_LexerErrors.f (k : Nat) (a0 : ByteArray) (a1 : ByteArray) : Option (Bool) := (slotmeshlaw01_head.f k).bind fun t276 => (if (a0.size : Int) > 8000 then (slotmeshlaw01_LexerErrors.j0 k a0 a1 t276 true) else (slotmeshlaw01_LexerErrors.j0 k a0 a1 t276 (decide ((a1.size : Int) > 8000))))
theorem slotmeshlaw01_LexerErrors.mono_l : ∀ k, (∀ y0 y1 y2 y3, LeO (slotmeshlaw01_LexerErrors.j0 k y0 y1 y2 y3) (slotmeshlaw01_LexerErrors.j0 (k + 1) y0 y1 y2 y3)) ∧ (∀ y0 y1 y2 y3 y4 y5, LeO (slotmeshlaw01_LexerErrors.j1 k y0 y1 y2 y3 y4 y5) (slotmeshlaw01_LexerErrors.j1 (k + 1) y0 y1 y2 y3 y4 y5))
  | 0 => ⟨fun _ _ _ _ r h => by simp [slotmeshlaw01_LexerErrors.j0] at h, fun _ _ _ _ _ _ r h => by simp [slotmeshlaw01_LexerErrors.j1] at h⟩
  | k + 1 => by
    obtain ⟨ih0, ih1⟩ := slotmeshlaw01_LexerErrors.mono_l k
    refine ⟨?_, ?_⟩
    · intro y0 y1 y2 y3
      unfold slotmeshlaw01_LexerErrors.j0
      repeat' first
      | (with_reducible exact ih0 _ _ _ _)
      | (with_reducible exact ih1 _ _ _ _ _ _)
      | (with_reducible exact slotmeshlaw01_head.mono _)
      | (with_reducible exact slotmeshref01_End.mono _ _ _)
      | (with_reducible exact LeO.refl _)
      | (with_reducible exact LeO.none _)
      | (with_reducible refine LeO.ite ?_ ?_)
      | (with_reducible refine LeO.bind ?_ (fun _ => ?_))
      | exact ih0 _ _ _ _
      | exact ih1 _ _ _ _ _ _
      | exact slotmeshlaw01_head.mono _
      | exact slotmeshref01_End.mono _ _ _
      | exact LeO.none _
      | refine LeO.ite ?_ ?_
      | refine LeO.bind ?_ (fun _ => ?_)
    · intro y0 y1 y2 y3 y4 y5
      unfold slotmeshlaw01_LexerErrors.j1
      repeat' first
      | (with_reducible exact ih0 _ _ _ _)
      | (with_reducible exact ih1 _ _ _ _ _ _)
      | (with_reducible exact slotmeshlaw01_head.mono _)
      | (with_reducible exact slotmeshref01_End.mono _ _ _)
      | (with_reducible exact LeO.refl _)
      | (with_reducible exact LeO.none _)
      | (with_reducible refine LeO.ite ?_ ?_)
      | (with_reducible refine LeO.bind ?_ (fun _ => ?_))
      | exact ih0 _ _ _ _
      | exact ih1 _ _ _ _ _ _
      | exact slotmeshlaw01_head.mono _
      | exact slotmeshref01_End.mono _ _ _
      | exact LeO.none _
      | refine LeO.ite ?_ ?_
      | refine LeO.bind ?_ (fun _ => ?_)
theorem slotmeshlaw01_LexerErrors.mono : ∀ a0 a1 k, LeO (slotmeshlaw01_LexerErrors.f k a0 a1) (slotmeshlaw01_LexerErrors.f (k + 1) a0 a1) := by
  intro a0 a1 k
  obtain ⟨ih0, ih1⟩ := slotmeshlaw01_LexerErrors.mono_l k
  unfold slotmeshlaw01_LexerErrors.f
  repeat' first
      | (with_reducible exact ih0 _ _ _ _)
      | (with_reducible exact ih1 _ _ _ _ _ _)
      | (with_reducible exact slotmeshlaw01_head.mono _)
      | (with_reducible exact slotmeshref01_End.mono _ _ _)
      | (with_reducible exact LeO.refl _)
      | (with_reducible exact LeO.none _)
      | (with_reducible refine LeO.ite ?_ ?_)
      | (with_reducible refine LeO.bind ?_ (fun _ => ?_))
      | exact ih0 _ _ _ _
      | exact ih1 _ _ _ _ _ _
      | exact slotmeshlaw01_head.mono _
      | exact slotmeshref01_End.mono _ _ _
      | exact LeO.none _
      | refine LeO.ite ?_ ?_
      | refine LeO.bind ?_ (fun _ => ?_)
set_option maxHeartbeats 8000000 in
set_option maxRecDepth 100000 in
theorem slotmeshlaw01_LexerErrors.calls (k : Nat) (a0 : ByteArray) (a1 : ByteArray) (r : Bool) (w : World) (hG : Aside0 (Lx.GOK w)) (h : slotmeshlaw01_LexerErrors.f k a0 a1 = some r) :
    Calls Tryd.prog 8 #[.string a0, .string a1] w fun e w' => e = .returned (.bool r) ∧ Below w.heap.size w w' := by
  have HB := Aside0.mk (Below.refl w.heap.size w)
  have H : ((slotmeshlaw01_head.f k).bind fun t276 => (if (a0.size : Int) > 8000 then (slotmeshlaw01_LexerErrors.j0 k a0 a1 t276 true) else (slotmeshlaw01_LexerErrors.j0 k a0 a1 t276 (decide ((a1.size : Int) > 8000))))) = some r := h
  clear h
  replace H := Option.bind_eq_some_iff.mp H
  obtain ⟨t276, A30, H⟩ := H
  replace H : (if (a0.size : Int) > 8000 then (slotmeshlaw01_LexerErrors.j0 k a0 a1 t276 true) else (slotmeshlaw01_LexerErrors.j0 k a0 a1 t276 (decide ((a1.size : Int) > 8000)))) = some r := H
  have A3 := Aside0.mk A30
  clear A30
  have HC4 := Aside0.mk H
  clear H
  go_enter Tryd.func8, Tryd.ntmps8
  go_upto_region 2 with (first | ((with_reducible refine gate_callee (f := 9) rfl ?_); refine goesL_ (some 16) rfl rfl Tryd.func9 (by kernel_rfl) rfl #[] rfl (by (try simp only [List.map_toArray, List.map_cons, List.map_nil]); first | done | rfl | (simp only [List.length_drop, List.length_take]; rfl) | (simp (disch := omega) only [IntWalk.wrap64_in]; done)) ?_; (with_reducible refine (slotmeshlaw01_head.calls k  t276 _ ?side1 A3.out).mono ?_); (case side1 => exact Lx.GOK.aside hG (by repeat (first | (with_reducible first | exact HB.out | apply below_alloc | apply pw_below_drewN | apply below_drew1) | exact HB.out))); rintro e w5 ⟨rfl, hb⟩; refine ⟨_, rfl, ?_⟩; have n0_ := Aside0.mk (below_step (by repeat (first | (with_reducible first | exact HB.out | apply below_alloc | apply pw_below_drewN | apply below_drew1) | exact HB.out)) hb); clear HB; have HB := n0_; clear n0_; (try clear hb); (try clear hb2); (try clear hk); (try clear hi)))
  (try simp only [Act.put, List.setIfInBounds_toArray, List.set_cons_zero, List.set_cons_succ])
  go_cut [24] (fun v24 wc => ∃ (kq : Nat) (x24_3 : Bool), v24 = .bool x24_3 ∧ Aside0 (slotmeshlaw01_LexerErrors.j0 kq a0 a1 t276 x24_3 = some r) ∧ Aside0 (kq ≤ k) ∧ Aside0 (Below w.heap.size w wc))
  case first =>
    have H := HC4.out
    clear HC4
    by_cases c6 : (a0.size : Int) > 8000
    · rw [if_pos c6] at H
      have c6b0 : decide (8000 < (a0.size : Int)) = true := decide_eq_true c6
      have c6b1 : decide (8000 < a0.size) = true := decide_eq_true (by omega)
      clear c6
      (first | rw [c6b0] | (simp only [i64_w, i32_w]; rw [c6b0]) | skip)
      have H' := Aside0.mk H
      clear H
      go_wp2
      go_meet
      case rel => exact ⟨_, (true), (by first | rfl | (simp; done) | (simp [*]; done)), H', ⟨by first | omega | exact Nat.le_refl _⟩, ⟨by repeat (first | (with_reducible first | exact HB.out | apply below_alloc | apply pw_below_drewN | apply below_drew1) | exact HB.out)⟩⟩
    · rw [if_neg c6] at H
      have c6b0 : decide (8000 < (a0.size : Int)) = false := decide_eq_false c6
      have c6b1 : decide (8000 < a0.size) = false := decide_eq_false (by omega)
      clear c6
      (first | rw [c6b0] | (simp only [i64_w, i32_w]; rw [c6b0]) | skip)
      have H' := Aside0.mk H
      clear H
      go_wp2
      go_meet
      case rel => exact ⟨_, (decide ((a1.size : Int) > 8000)), (by first | rfl | (simp; done) | (simp [*]; done)), H', ⟨by first | omega | exact Nat.le_refl _⟩, ⟨by repeat (first | (with_reducible first | exact HB.out | apply below_alloc | apply pw_below_drewN | apply below_drew1) | exact HB.out)⟩⟩
  case rest =>
    clear HC4
    try clear p2
    try clear c6
    try clear c6b0
    try clear c6b1
    obtain ⟨kq, x24_3, rfl, HA, HJ3, HB⟩ := hcut
    cases kq with
    | zero => exact absurd HA.out (by simp [slotmeshlaw01_LexerErrors.j0])
    | succ kj3 =>
      have H := HA.out
      clear HA
      simp only [slotmeshlaw01_LexerErrors.j0] at H
      by_cases c7 : x24_3 = true
      · subst c7
        have H1 : (some t276) = some r := by rw [if_pos rfl] at H; exact H
        clear H
        have H := H1
        clear H1
        obtain rfl := Option.some.inj H
        go_wp2
        go_ret
        exact ⟨by first | rfl | (simp [errW_none, errW_some] <;> rfl) | (simp [*, errW_none, errW_some] <;> rfl), by repeat (first | (with_reducible first | exact HB.out | apply below_alloc | apply pw_below_drewN | apply below_drew1) | exact HB.out)⟩
      · replace c7 := Bool.eq_false_iff.mpr c7
        subst c7
        have H1 : ((lexer_Lex.f a0).bind fun bt277 => (if bt277.2.1 = 0 then (if t276 = true then (some (bt277.2.2 == 0)) else (some false)) else (if bt277.2.2 < 0 then (slotmeshlaw01_LexerErrors.j1 kj3 a0 a1 t276 bt277.2.1 bt277.2.2 true) else (slotmeshlaw01_LexerErrors.j1 kj3 a0 a1 t276 bt277.2.1 bt277.2.2 (decide (bt277.2.2 ≥ (a0.size : Int))))))) = some r := by rw [if_neg (show ¬ (false = true) by decide)] at H; exact H
        clear H
        have H := H1
        clear H1
        replace H := Option.bind_eq_some_iff.mp H
        obtain ⟨⟨t277, t278, t279⟩, A80, H⟩ := H
        replace H : (if t278 = 0 then (if t276 = true then (some (t279 == 0)) else (some false)) else (if t279 < 0 then (slotmeshlaw01_LexerErrors.j1 kj3 a0 a1 t276 t278 t279 true) else (slotmeshlaw01_LexerErrors.j1 kj3 a0 a1 t276 t278 t279 (decide (t279 ≥ (a0.size : Int)))))) = some r := H
        have A8 := Aside0.mk A80
        clear A80
        by_cases c9 : t278 = 0
        · rw [if_pos c9] at H
          have c9b0 : (t278 == 0) = true := beq_iff_eq.mpr c9
          have c9b1 : (t278 != 0) = false := bne_eq_false_iff_eq.mpr c9
          clear c9
          by_cases c10 : t276 = true
          · subst c10
            have H1 : (some (t279 == 0)) = some r := by rw [if_pos rfl] at H; exact H
            clear H
            have H := H1
            clear H1
            obtain rfl := Option.some.inj H
            go_wp2_with (first | ((with_reducible refine gate_callee (f := 10) rfl ?_); refine goesL_ (some 28) rfl rfl Tryd.func10 (by kernel_rfl) rfl #[.string a0] rfl (by (try simp only [List.map_toArray, List.map_cons, List.map_nil]); first | done | rfl | (simp only [List.length_drop, List.length_take]; rfl) | (simp (disch := omega) only [IntWalk.wrap64_in]; done)) ?_; (with_reducible refine (lexer_Lex.calls a0 t277 t278 t279 _ ?side1 A8.out).mono ?_); (case side1 => exact Lx.GOK.aside hG (by repeat (first | (with_reducible first | exact HB.out | apply below_alloc | apply pw_below_drewN | apply below_drew1) | exact HB.out))); rintro e w11 ⟨v280, rfl, ho0, hb⟩; refine ⟨_, rfl, ?_⟩; have n0_ := Aside0.mk (Kd.R_lower ho0 (below_size (by repeat (first | (with_reducible first | exact HB.out | apply below_alloc | apply pw_below_drewN | apply below_drew1) | exact HB.out)))); have n1_ := Aside0.mk (below_step (by repeat (first | (with_reducible first | exact HB.out | apply below_alloc | apply pw_below_drewN | apply below_drew1) | exact HB.out)) hb); clear HB; have HO281 := n0_; have HB := n1_; clear n0_ n1_; (try clear hb); (try clear hb2); (try clear hk); (try clear hi); (try clear ho0)))
            go_ret
            exact ⟨by first | rfl | (simp [errW_none, errW_some] <;> rfl) | (simp [*, errW_none, errW_some] <;> rfl), by repeat (first | (with_reducible first | exact HB.out | apply below_alloc | apply pw_below_drewN | apply below_drew1) | exact HB.out)⟩
          · replace c10 := Bool.eq_false_iff.mpr c10
            subst c10
            have H1 : (some false) = some r := by rw [if_neg (show ¬ (false = true) by decide)] at H; exact H
            clear H
            have H := H1
            clear H1
            obtain rfl := Option.some.inj H
            go_wp2_with (first | ((with_reducible refine gate_callee (f := 10) rfl ?_); refine goesL_ (some 28) rfl rfl Tryd.func10 (by kernel_rfl) rfl #[.string a0] rfl (by (try simp only [List.map_toArray, List.map_cons, List.map_nil]); first | done | rfl | (simp only [List.length_drop, List.length_take]; rfl) | (simp (disch := omega) only [IntWalk.wrap64_in]; done)) ?_; (with_reducible refine (lexer_Lex.calls a0 t277 t278 t279 _ ?side1 A8.out).mono ?_); (case side1 => exact Lx.GOK.aside hG (by repeat (first | (with_reducible first | exact HB.out | apply below_alloc | apply pw_below_drewN | apply below_drew1) | exact HB.out))); rintro e w12 ⟨v280, rfl, ho0, hb⟩; refine ⟨_, rfl, ?_⟩; have n0_ := Aside0.mk (Kd.R_lower ho0 (below_size (by repeat (first | (with_reducible first | exact HB.out | apply below_alloc | apply pw_below_drewN | apply below_drew1) | exact HB.out)))); have n1_ := Aside0.mk (below_step (by repeat (first | (with_reducible first | exact HB.out | apply below_alloc | apply pw_below_drewN | apply below_drew1) | exact HB.out)) hb); clear HB; have HO281 := n0_; have HB := n1_; clear n0_ n1_; (try clear hb); (try clear hb2); (try clear hk); (try clear hi); (try clear ho0)))
            go_ret
            exact ⟨by first | rfl | (simp [errW_none, errW_some] <;> rfl) | (simp [*, errW_none, errW_some] <;> rfl), by repeat (first | (with_reducible first | exact HB.out | apply below_alloc | apply pw_below_drewN | apply below_drew1) | exact HB.out)⟩
        · rw [if_neg c9] at H
          have c9b0 : (t278 == 0) = false := beq_eq_false_iff_ne.mpr c9
          have c9b1 : (t278 != 0) = true := bne_iff_ne.mpr c9
          have HC13 := Aside0.mk H
          clear H
          go_upto_region 7 with (first | ((with_reducible refine gate_callee (f := 10) rfl ?_); refine goesL_ (some 28) rfl rfl Tryd.func10 (by kernel_rfl) rfl #[.string a0] rfl (by (try simp only [List.map_toArray, List.map_cons, List.map_nil]); first | done | rfl | (simp only [List.length_drop, List.length_take]; rfl) | (simp (disch := omega) only [IntWalk.wrap64_in]; done)) ?_; (with_reducible refine (lexer_Lex.calls a0 t277 t278 t279 _ ?side1 A8.out).mono ?_); (case side1 => exact Lx.GOK.aside hG (by repeat (first | (with_reducible first | exact HB.out | apply below_alloc | apply pw_below_drewN | apply below_drew1) | exact HB.out))); rintro e w14 ⟨v280, rfl, ho0, hb⟩; refine ⟨_, rfl, ?_⟩; have n0_ := Aside0.mk (Kd.R_lower ho0 (below_size (by repeat (first | (with_reducible first | exact HB.out | apply below_alloc | apply pw_below_drewN | apply below_drew1) | exact HB.out)))); have n1_ := Aside0.mk (below_step (by repeat (first | (with_reducible first | exact HB.out | apply below_alloc | apply pw_below_drewN | apply below_drew1) | exact HB.out)) hb); clear HB; have HO281 := n0_; have HB := n1_; clear n0_ n1_; (try clear hb); (try clear hb2); (try clear hk); (try clear hi); (try clear ho0)))
          (try simp only [Act.put, List.setIfInBounds_toArray, List.set_cons_zero, List.set_cons_succ])
          go_cut [46] (fun v46 wc => ∃ (kq : Nat) (x46_12 : Bool), v46 = .bool x46_12 ∧ Aside0 (slotmeshlaw01_LexerErrors.j1 kq a0 a1 t276 t278 t279 x46_12 = some r) ∧ Aside0 (kq ≤ kj3) ∧ Aside0 (Below w.heap.size w wc))
          case first =>
            have H := HC13.out
            clear HC13
            by_cases c15 : t279 < 0
            · rw [if_pos c15] at H
              have c15b0 : decide (t279 < 0) = true := decide_eq_true c15
              clear c15
              (first | rw [c15b0] | (simp only [i64_w, i32_w]; rw [c15b0]) | skip)
              have H' := Aside0.mk H
              clear H
              go_wp2
              go_meet
              case rel => exact ⟨_, (true), (by first | rfl | (simp; done) | (simp [*]; done)), H', ⟨by have := HJ3.out; first | omega | exact Nat.le_refl _⟩, ⟨by repeat (first | (with_reducible first | exact HB.out | apply below_alloc | apply pw_below_drewN | apply below_drew1) | exact HB.out)⟩⟩
            · rw [if_neg c15] at H
              have c15b0 : decide (t279 < 0) = false := decide_eq_false c15
              clear c15
              (first | rw [c15b0] | (simp only [i64_w, i32_w]; rw [c15b0]) | skip)
              have H' := Aside0.mk H
              clear H
              go_wp2
              go_meet
              case rel => exact ⟨_, (decide (t279 ≥ (a0.size : Int))), (by first | rfl | (simp; done) | (simp [*]; done)), H', ⟨by have := HJ3.out; first | omega | exact Nat.le_refl _⟩, ⟨by repeat (first | (with_reducible first | exact HB.out | apply below_alloc | apply pw_below_drewN | apply below_drew1) | exact HB.out)⟩⟩
          case rest =>
            clear HC13
            try clear c1
            try clear p2
            try clear c6
            try clear c6b0
            try clear c6b1
            try clear c7
            try clear c8
            try clear c9
            try clear c9b0
            try clear c9b1
            try clear c10
            try clear c15
            try clear c15b0
            try clear p2
            obtain ⟨kq, x46_12, rfl, HA, HJ12, HB⟩ := hcut
            cases kq with
            | zero => exact absurd HA.out (by simp [slotmeshlaw01_LexerErrors.j1])
            | succ kj12 =>
              have H := HA.out
              clear HA
              simp only [slotmeshlaw01_LexerErrors.j1] at H
              by_cases c16 : x46_12 = true
              · subst c16
                have H1 : (some false) = some r := by rw [if_pos rfl] at H; exact H
                clear H
                have H := H1
                clear H1
                obtain rfl := Option.some.inj H
                go_wp2
                go_ret
                exact ⟨by first | rfl | (simp [errW_none, errW_some] <;> rfl) | (simp [*, errW_none, errW_some] <;> rfl), by repeat (first | (with_reducible first | exact HB.out | apply below_alloc | apply pw_below_drewN | apply below_drew1) | exact HB.out)⟩
              · replace c16 := Bool.eq_false_iff.mpr c16
                subst c16
                have H1 : (if 0 ≤ t279 then (if t279 ≤ (a0.size : Int) then ((lexer_Lex.f (a0.extract 0 (t279 : Int).toNat)).bind fun bt282 => ((slotmeshref01_End.f kj12 a0 t279).bind fun t287 => (if 0 ≤ t287 then (if t287 ≤ (a0.size : Int) then (if (a0.extract 0 (t287 : Int).toNat).size + 1 ≤ 9223372036854775807 then (if ((a0.extract 0 (t287 : Int).toNat) ++ (⟨#[32]⟩ : ByteArray)).size + a1.size ≤ 9223372036854775807 then (if ((((a0.extract 0 (t287 : Int).toNat) ++ (⟨#[32]⟩ : ByteArray)) ++ a1).size : Int) > 8000 then (if t276 = true then (some (bt282.2.1 == 0)) else (some false)) else ((lexer_Lex.f (((a0.extract 0 (t287 : Int).toNat) ++ (⟨#[32]⟩ : ByteArray)) ++ a1)).bind fun bt288 => (if t276 = true then (if bt282.2.1 = 0 then (if bt288.2.1 = t278 then (if bt288.2.2 = t279 then (if t278 = 2 then (some ((bt282.1.length : Int) == 2000)) else (some true)) else (some false)) else (some false)) else (some false)) else (some false)))) else (none)) else (none)) else (none)) else (none)))) else (none)) else (none)) = some r := by rw [if_neg (show ¬ (false = true) by decide)] at H; exact H
                clear H
                have H := H1
                clear H1
                by_cases c17 : 0 ≤ t279
                · rw [if_pos c17] at H
                  have c17b0 := eq_true c17
                  have c17b1 : decide (0 ≤ t279) = true := decide_eq_true c17
                  clear c17
                  by_cases c18 : t279 ≤ (a0.size : Int)
                  · rw [if_pos c18] at H
                    have c18b0 := eq_true c18
                    have c18b1 : decide (t279 ≤ (a0.size : Int)) = true := decide_eq_true c18
                    clear c18
                    replace H := Option.bind_eq_some_iff.mp H
                    obtain ⟨⟨t282, t283, t284⟩, A190, H⟩ := H
                    replace H : ((slotmeshref01_End.f kj12 a0 t279).bind fun t287 => (if 0 ≤ t287 then (if t287 ≤ (a0.size : Int) then (if (a0.extract 0 (t287 : Int).toNat).size + 1 ≤ 9223372036854775807 then (if ((a0.extract 0 (t287 : Int).toNat) ++ (⟨#[32]⟩ : ByteArray)).size + a1.size ≤ 9223372036854775807 then (if ((((a0.extract 0 (t287 : Int).toNat) ++ (⟨#[32]⟩ : ByteArray)) ++ a1).size : Int) > 8000 then (if t276 = true then (some (t283 == 0)) else (some false)) else ((lexer_Lex.f (((a0.extract 0 (t287 : Int).toNat) ++ (⟨#[32]⟩ : ByteArray)) ++ a1)).bind fun bt288 => (if t276 = true then (if t283 = 0 then (if bt288.2.1 = t278 then (if bt288.2.2 = t279 then (if t278 = 2 then (some ((t282.length : Int) == 2000)) else (some true)) else (some false)) else (some false)) else (some false)) else (some false)))) else (none)) else (none)) else (none)) else (none))) = some r := H
                    have A19 := Aside0.mk A190
                    clear A190
                    replace H := Option.bind_eq_some_iff.mp H
                    obtain ⟨t287, A200, H⟩ := H
                    replace H : (if 0 ≤ t287 then (if t287 ≤ (a0.size : Int) then (if (a0.extract 0 (t287 : Int).toNat).size + 1 ≤ 9223372036854775807 then (if ((a0.extract 0 (t287 : Int).toNat) ++ (⟨#[32]⟩ : ByteArray)).size + a1.size ≤ 9223372036854775807 then (if ((((a0.extract 0 (t287 : Int).toNat) ++ (⟨#[32]⟩ : ByteArray)) ++ a1).size : Int) > 8000 then (if t276 = true then (some (t283 == 0)) else (some false)) else ((lexer_Lex.f (((a0.extract 0 (t287 : Int).toNat) ++ (⟨#[32]⟩ : ByteArray)) ++ a1)).bind fun bt288 => (if t276 = true then (if t283 = 0 then (if bt288.2.1 = t278 then (if bt288.2.2 = t279 then (if t278 = 2 then (some ((t282.length : Int) == 2000)) else (some true)) else (some false)) else (some false)) else (some false)) else (some false)))) else (none)) else (none)) else (none)) else (none)) = some r := H
                    have A20 := Aside0.mk A200
                    clear A200
                    by_cases c21 : 0 ≤ t287
                    · rw [if_pos c21] at H
                      have c21b0 := eq_true c21
                      have c21b1 : decide (0 ≤ t287) = true := decide_eq_true c21
                      clear c21
                      by_cases c22 : t287 ≤ (a0.size : Int)
                      · rw [if_pos c22] at H
                        have c22b0 := eq_true c22
                        have c22b1 : decide (t287 ≤ (a0.size : Int)) = true := decide_eq_true c22
                        clear c22
                        by_cases c23 : (a0.extract 0 (t287 : Int).toNat).size + 1 ≤ 9223372036854775807
                        · rw [if_pos c23] at H
                          have c23b0 := eq_true c23
                          have c23b1 : decide ((a0.extract 0 (t287 : Int).toNat).size + 1 ≤ 9223372036854775807) = true := decide_eq_true c23
                          try have c23b2 : (9223372036854775807 < (a0.extract 0 (t287 : Int).toNat).size + 1) = False := eq_false (Nat.not_lt.2 c23)
                          try have c23b9 : (9223372036854775807 < (t287 : Int).toNat + 1) = False := eq_false (Nat.not_lt.2 (by have h_ := c23; have h2_ : t287 ≤ (a0.size : Int) := of_decide_eq_true (by assumption); rw [ByteArray.size_extract] at h_; omega))
                          by_cases c24 : ((a0.extract 0 (t287 : Int).toNat) ++ (⟨#[32]⟩ : ByteArray)).size + a1.size ≤ 9223372036854775807
                          · rw [if_pos c24] at H
                            have c24b0 := eq_true c24
                            have c24b1 : decide (((a0.extract 0 (t287 : Int).toNat) ++ (⟨#[32]⟩ : ByteArray)).size + a1.size ≤ 9223372036854775807) = true := decide_eq_true c24
                            try have c24b2 : (9223372036854775807 < ((a0.extract 0 (t287 : Int).toNat) ++ (⟨#[32]⟩ : ByteArray)).size + a1.size) = False := eq_false (Nat.not_lt.2 c24)
                            try have c24b9 : (9223372036854775807 < (t287 : Int).toNat + 1 + a1.size) = False := eq_false (Nat.not_lt.2 (by have h_ := c24; have h2_ : t287 ≤ (a0.size : Int) := of_decide_eq_true (by assumption); have h3_ : (⟨#[32]⟩ : ByteArray).size = 1 := rfl; rw [ByteArray.size_append, ByteArray.size_extract, h3_] at h_; omega))
                            by_cases c25 : ((((a0.extract 0 (t287 : Int).toNat) ++ (⟨#[32]⟩ : ByteArray)) ++ a1).size : Int) > 8000
                            · rw [if_pos c25] at H
                              have c25b0 : decide (8000 < ((((a0.extract 0 (t287 : Int).toNat) ++ (⟨#[32]⟩ : ByteArray)) ++ a1).size : Int)) = true := decide_eq_true c25
                              try have c25c0 : decide (8000 < (max t287 0 + 1 + (a1.size : Int))) = true := decide_eq_true (by have h_ := of_decide_eq_true c25b0; have h2_ : t287 ≤ (a0.size : Int) := of_decide_eq_true (by assumption); have h3_ : (⟨#[32]⟩ : ByteArray).size = 1 := rfl; have h4_ : 0 ≤ t287 := of_decide_eq_true (by assumption); rw [ByteArray.size_append, ByteArray.size_append, ByteArray.size_extract, h3_] at h_; omega)
                              have c25b1 : decide (8000 < (((a0.extract 0 (t287 : Int).toNat) ++ (⟨#[32]⟩ : ByteArray)) ++ a1).size) = true := decide_eq_true (by omega)
                              clear c25
                              by_cases c26 : t276 = true
                              · subst c26
                                have H1 : (some (t283 == 0)) = some r := by rw [if_pos rfl] at H; exact H
                                clear H
                                have H := H1
                                clear H1
                                obtain rfl := Option.some.inj H
                                go_wp2_with (first | ((with_reducible refine gate_callee (f := 10) rfl ?_); refine goesL_ (some 51) rfl rfl Tryd.func10 (by kernel_rfl) rfl #[.string (a0.extract 0 (t279 : Int).toNat)] rfl (by (try simp only [List.map_toArray, List.map_cons, List.map_nil]); first | done | rfl | (simp only [List.length_drop, List.length_take]; rfl) | (simp (disch := omega) only [IntWalk.wrap64_in]; done)) ?_; (with_reducible refine (lexer_Lex.calls (a0.extract 0 (t279 : Int).toNat) t282 t283 t284 _ ?side1 A19.out).mono ?_); (case side1 => exact Lx.GOK.aside hG (by repeat (first | (with_reducible first | exact HB.out | apply below_alloc | apply pw_below_drewN | apply below_drew1) | exact HB.out))); rintro e w27 ⟨v285, rfl, ho0, hb⟩; refine ⟨_, rfl, ?_⟩; have n0_ := Aside0.mk (Kd.R_lower ho0 (below_size (by repeat (first | (with_reducible first | exact HB.out | apply below_alloc | apply pw_below_drewN | apply below_drew1) | exact HB.out)))); have n1_ := Aside0.mk (below_step (by repeat (first | (with_reducible first | exact HB.out | apply below_alloc | apply pw_below_drewN | apply below_drew1) | exact HB.out)) hb); clear HB; have HO286 := n0_; have HB := n1_; clear n0_ n1_; (try clear hb); (try clear hb2); (try clear hk); (try clear hi); (try clear ho0)) | ((with_reducible refine gate_callee (f := 17) rfl ?_); refine goesL_ (some 58) rfl rfl Tryd.func17 (by kernel_rfl) rfl #[.string a0, .int .i64 t279] rfl (by (try simp only [List.map_toArray, List.map_cons, List.map_nil]); first | done | rfl | (simp only [List.length_drop, List.length_take]; rfl) | (simp (disch := omega) only [IntWalk.wrap64_in]; done)) ?_; (with_reducible refine (slotmeshref01_End.calls kj12 a0 t279 t287 _ A20.out).mono ?_); rintro e w' ⟨rfl, ⟨nd, rfl⟩⟩; refine ⟨_, rfl, ?_⟩))
                                go_ret
                                exact ⟨by first | rfl | (simp [errW_none, errW_some] <;> rfl) | (simp [*, errW_none, errW_some] <;> rfl), by repeat (first | (with_reducible first | exact HB.out | apply below_alloc | apply pw_below_drewN | apply below_drew1) | exact HB.out)⟩
                              · replace c26 := Bool.eq_false_iff.mpr c26
                                subst c26
                                have H1 : (some false) = some r := by rw [if_neg (show ¬ (false = true) by decide)] at H; exact H
                                clear H
                                have H := H1
                                clear H1
                                obtain rfl := Option.some.inj H
                                go_wp2_with (first | ((with_reducible refine gate_callee (f := 10) rfl ?_); refine goesL_ (some 51) rfl rfl Tryd.func10 (by kernel_rfl) rfl #[.string (a0.extract 0 (t279 : Int).toNat)] rfl (by (try simp only [List.map_toArray, List.map_cons, List.map_nil]); first | done | rfl | (simp only [List.length_drop, List.length_take]; rfl) | (simp (disch := omega) only [IntWalk.wrap64_in]; done)) ?_; (with_reducible refine (lexer_Lex.calls (a0.extract 0 (t279 : Int).toNat) t282 t283 t284 _ ?side1 A19.out).mono ?_); (case side1 => exact Lx.GOK.aside hG (by repeat (first | (with_reducible first | exact HB.out | apply below_alloc | apply pw_below_drewN | apply below_drew1) | exact HB.out))); rintro e w28 ⟨v285, rfl, ho0, hb⟩; refine ⟨_, rfl, ?_⟩; have n0_ := Aside0.mk (Kd.R_lower ho0 (below_size (by repeat (first | (with_reducible first | exact HB.out | apply below_alloc | apply pw_below_drewN | apply below_drew1) | exact HB.out)))); have n1_ := Aside0.mk (below_step (by repeat (first | (with_reducible first | exact HB.out | apply below_alloc | apply pw_below_drewN | apply below_drew1) | exact HB.out)) hb); clear HB; have HO286 := n0_; have HB := n1_; clear n0_ n1_; (try clear hb); (try clear hb2); (try clear hk); (try clear hi); (try clear ho0)) | ((with_reducible refine gate_callee (f := 17) rfl ?_); refine goesL_ (some 58) rfl rfl Tryd.func17 (by kernel_rfl) rfl #[.string a0, .int .i64 t279] rfl (by (try simp only [List.map_toArray, List.map_cons, List.map_nil]); first | done | rfl | (simp only [List.length_drop, List.length_take]; rfl) | (simp (disch := omega) only [IntWalk.wrap64_in]; done)) ?_; (with_reducible refine (slotmeshref01_End.calls kj12 a0 t279 t287 _ A20.out).mono ?_); rintro e w' ⟨rfl, ⟨nd, rfl⟩⟩; refine ⟨_, rfl, ?_⟩))
                                go_ret
                                exact ⟨by first | rfl | (simp [errW_none, errW_some] <;> rfl) | (simp [*, errW_none, errW_some] <;> rfl), by repeat (first | (with_reducible first | exact HB.out | apply below_alloc | apply pw_below_drewN | apply below_drew1) | exact HB.out)⟩
                            · rw [if_neg c25] at H
                              have c25b0 : decide (8000 < ((((a0.extract 0 (t287 : Int).toNat) ++ (⟨#[32]⟩ : ByteArray)) ++ a1).size : Int)) = false := decide_eq_false c25
                              try have c25c0 : decide (8000 < (max t287 0 + 1 + (a1.size : Int))) = false := decide_eq_false (by have h_ := of_decide_eq_false c25b0; have h2_ : t287 ≤ (a0.size : Int) := of_decide_eq_true (by assumption); have h3_ : (⟨#[32]⟩ : ByteArray).size = 1 := rfl; have h4_ : 0 ≤ t287 := of_decide_eq_true (by assumption); rw [ByteArray.size_append, ByteArray.size_append, ByteArray.size_extract, h3_] at h_; omega)
                              have c25b1 : decide (8000 < (((a0.extract 0 (t287 : Int).toNat) ++ (⟨#[32]⟩ : ByteArray)) ++ a1).size) = false := decide_eq_false (by omega)
                              clear c25
                              replace H := Option.bind_eq_some_iff.mp H
                              obtain ⟨⟨t288, t289, t290⟩, A290, H⟩ := H
                              replace H : (if t276 = true then (if t283 = 0 then (if t289 = t278 then (if t290 = t279 then (if t278 = 2 then (some ((t282.length : Int) == 2000)) else (some true)) else (some false)) else (some false)) else (some false)) else (some false)) = some r := H
                              have A29 := Aside0.mk A290
                              clear A290
                              by_cases c30 : t276 = true
                              · subst c30
                                have H1 : (if t283 = 0 then (if t289 = t278 then (if t290 = t279 then (if t278 = 2 then (some ((t282.length : Int) == 2000)) else (some true)) else (some false)) else (some false)) else (some false)) = some r := by rw [if_pos rfl] at H; exact H
                                clear H
                                have H := H1
                                clear H1
                                by_cases c31 : t283 = 0
                                · rw [if_pos c31] at H
                                  have c31b0 : (t283 == 0) = true := beq_iff_eq.mpr c31
                                  have c31b1 : (t283 != 0) = false := bne_eq_false_iff_eq.mpr c31
                                  clear c31
                                  by_cases c32 : t289 = t278
                                  · rw [if_pos c32] at H
                                    have c32b0 : (t289 == t278) = true := beq_iff_eq.mpr c32
                                    have c32b1 : (t289 != t278) = false := bne_eq_false_iff_eq.mpr c32
                                    clear c32
                                    by_cases c33 : t290 = t279
                                    · rw [if_pos c33] at H
                                      have c33b0 : (t290 == t279) = true := beq_iff_eq.mpr c33
                                      have c33b1 : (t290 != t279) = false := bne_eq_false_iff_eq.mpr c33
                                      clear c33
                                      by_cases c34 : t278 = 2
                                      · rw [if_pos c34] at H
                                        have c34b0 : (t278 == 2) = true := beq_iff_eq.mpr c34
                                        have c34b1 : (t278 != 2) = false := bne_eq_false_iff_eq.mpr c34
                                        clear c34
                                        obtain rfl := Option.some.inj H
                                        go_wp2_with (first | ((with_reducible refine gate_callee (f := 10) rfl ?_); refine goesL_ (some 51) rfl rfl Tryd.func10 (by kernel_rfl) rfl #[.string (a0.extract 0 (t279 : Int).toNat)] rfl (by (try simp only [List.map_toArray, List.map_cons, List.map_nil]); first | done | rfl | (simp only [List.length_drop, List.length_take]; rfl) | (simp (disch := omega) only [IntWalk.wrap64_in]; done)) ?_; (with_reducible refine (lexer_Lex.calls (a0.extract 0 (t279 : Int).toNat) t282 t283 t284 _ ?side1 A19.out).mono ?_); (case side1 => exact Lx.GOK.aside hG (by repeat (first | (with_reducible first | exact HB.out | apply below_alloc | apply pw_below_drewN | apply below_drew1) | exact HB.out))); rintro e w35 ⟨v285, rfl, ho0, hb⟩; refine ⟨_, rfl, ?_⟩; have n0_ := Aside0.mk (Kd.R_lower ho0 (below_size (by repeat (first | (with_reducible first | exact HB.out | apply below_alloc | apply pw_below_drewN | apply below_drew1) | exact HB.out)))); have n1_ := Aside0.mk (below_step (by repeat (first | (with_reducible first | exact HB.out | apply below_alloc | apply pw_below_drewN | apply below_drew1) | exact HB.out)) hb); clear HB; have HO286 := n0_; have HB := n1_; clear n0_ n1_; (try clear hb); (try clear hb2); (try clear hk); (try clear hi); (try clear ho0)) | ((with_reducible refine gate_callee (f := 17) rfl ?_); refine goesL_ (some 58) rfl rfl Tryd.func17 (by kernel_rfl) rfl #[.string a0, .int .i64 t279] rfl (by (try simp only [List.map_toArray, List.map_cons, List.map_nil]); first | done | rfl | (simp only [List.length_drop, List.length_take]; rfl) | (simp (disch := omega) only [IntWalk.wrap64_in]; done)) ?_; (with_reducible refine (slotmeshref01_End.calls kj12 a0 t279 t287 _ A20.out).mono ?_); rintro e w' ⟨rfl, ⟨nd, rfl⟩⟩; refine ⟨_, rfl, ?_⟩) | ((with_reducible refine gate_callee (f := 10) rfl ?_); refine goesL_ (some 73) rfl rfl Tryd.func10 (by kernel_rfl) rfl #[.string (((a0.extract 0 (t287 : Int).toNat) ++ (⟨#[32]⟩ : ByteArray)) ++ a1)] rfl (by (try simp only [List.map_toArray, List.map_cons, List.map_nil]); first | done | rfl | (simp only [List.length_drop, List.length_take]; rfl) | (simp (disch := omega) only [IntWalk.wrap64_in]; done)) ?_; (with_reducible refine (lexer_Lex.calls (((a0.extract 0 (t287 : Int).toNat) ++ (⟨#[32]⟩ : ByteArray)) ++ a1) t288 t289 t290 _ ?side1 A29.out).mono ?_); (case side1 => exact Lx.GOK.aside hG (by repeat (first | (with_reducible first | exact HB.out | apply below_alloc | apply pw_below_drewN | apply below_drew1) | exact HB.out))); rintro e w36 ⟨v291, rfl, ho0, hb⟩; refine ⟨_, rfl, ?_⟩; have n0_ := Aside0.mk (Kd.R_elder' (by (with_reducible repeat (first | apply Kd.R_alloc | apply Kd.R_drewN | apply Kd.R_drew)); exact HO286.out) (Kd.R_base ho0) hb); have n1_ := Aside0.mk (Kd.R_lower (Kd.R_new' ho0 (Kd.R_lt (by (with_reducible repeat (first | apply Kd.R_alloc | apply Kd.R_drewN | apply Kd.R_drew)); exact HO286.out))) (below_size (by repeat (first | (with_reducible first | exact HB.out | apply below_alloc | apply pw_below_drewN | apply below_drew1) | exact HB.out)))); have n2_ := Aside0.mk (below_step (by repeat (first | (with_reducible first | exact HB.out | apply below_alloc | apply pw_below_drewN | apply below_drew1) | exact HB.out)) hb); clear HO286; clear HB; have HO286 := n0_; have HO292 := n1_; have HB := n2_; clear n0_ n1_ n2_; (try clear hb); (try clear hb2); (try clear hk); (try clear hi); (try clear ho0); obtain ⟨Ao37, co37, eo37⟩ := Kd.R_slice HO286.out; subst eo37))
                                        go_ret
                                        exact ⟨by first | rfl | (simp [errW_none, errW_some] <;> rfl) | (simp [*, errW_none, errW_some] <;> rfl), by repeat (first | (with_reducible first | exact HB.out | apply below_alloc | apply pw_below_drewN | apply below_drew1) | exact HB.out)⟩
                                      · rw [if_neg c34] at H
                                        have c34b0 : (t278 == 2) = false := beq_eq_false_iff_ne.mpr c34
                                        have c34b1 : (t278 != 2) = true := bne_iff_ne.mpr c34
                                        obtain rfl := Option.some.inj H
                                        go_wp2_with (first | ((with_reducible refine gate_callee (f := 10) rfl ?_); refine goesL_ (some 51) rfl rfl Tryd.func10 (by kernel_rfl) rfl #[.string (a0.extract 0 (t279 : Int).toNat)] rfl (by (try simp only [List.map_toArray, List.map_cons, List.map_nil]); first | done | rfl | (simp only [List.length_drop, List.length_take]; rfl) | (simp (disch := omega) only [IntWalk.wrap64_in]; done)) ?_; (with_reducible refine (lexer_Lex.calls (a0.extract 0 (t279 : Int).toNat) t282 t283 t284 _ ?side1 A19.out).mono ?_); (case side1 => exact Lx.GOK.aside hG (by repeat (first | (with_reducible first | exact HB.out | apply below_alloc | apply pw_below_drewN | apply below_drew1) | exact HB.out))); rintro e w38 ⟨v285, rfl, ho0, hb⟩; refine ⟨_, rfl, ?_⟩; have n0_ := Aside0.mk (Kd.R_lower ho0 (below_size (by repeat (first | (with_reducible first | exact HB.out | apply below_alloc | apply pw_below_drewN | apply below_drew1) | exact HB.out)))); have n1_ := Aside0.mk (below_step (by repeat (first | (with_reducible first | exact HB.out | apply below_alloc | apply pw_below_drewN | apply below_drew1) | exact HB.out)) hb); clear HB; have HO286 := n0_; have HB := n1_; clear n0_ n1_; (try clear hb); (try clear hb2); (try clear hk); (try clear hi); (try clear ho0)) | ((with_reducible refine gate_callee (f := 17) rfl ?_); refine goesL_ (some 58) rfl rfl Tryd.func17 (by kernel_rfl) rfl #[.string a0, .int .i64 t279] rfl (by (try simp only [List.map_toArray, List.map_cons, List.map_nil]); first | done | rfl | (simp only [List.length_drop, List.length_take]; rfl) | (simp (disch := omega) only [IntWalk.wrap64_in]; done)) ?_; (with_reducible refine (slotmeshref01_End.calls kj12 a0 t279 t287 _ A20.out).mono ?_); rintro e w' ⟨rfl, ⟨nd, rfl⟩⟩; refine ⟨_, rfl, ?_⟩) | ((with_reducible refine gate_callee (f := 10) rfl ?_); refine goesL_ (some 73) rfl rfl Tryd.func10 (by kernel_rfl) rfl #[.string (((a0.extract 0 (t287 : Int).toNat) ++ (⟨#[32]⟩ : ByteArray)) ++ a1)] rfl (by (try simp only [List.map_toArray, List.map_cons, List.map_nil]); first | done | rfl | (simp only [List.length_drop, List.length_take]; rfl) | (simp (disch := omega) only [IntWalk.wrap64_in]; done)) ?_; (with_reducible refine (lexer_Lex.calls (((a0.extract 0 (t287 : Int).toNat) ++ (⟨#[32]⟩ : ByteArray)) ++ a1) t288 t289 t290 _ ?side1 A29.out).mono ?_); (case side1 => exact Lx.GOK.aside hG (by repeat (first | (with_reducible first | exact HB.out | apply below_alloc | apply pw_below_drewN | apply below_drew1) | exact HB.out))); rintro e w39 ⟨v291, rfl, ho0, hb⟩; refine ⟨_, rfl, ?_⟩; have n0_ := Aside0.mk (Kd.R_elder' (by (with_reducible repeat (first | apply Kd.R_alloc | apply Kd.R_drewN | apply Kd.R_drew)); exact HO286.out) (Kd.R_base ho0) hb); have n1_ := Aside0.mk (Kd.R_lower (Kd.R_new' ho0 (Kd.R_lt (by (with_reducible repeat (first | apply Kd.R_alloc | apply Kd.R_drewN | apply Kd.R_drew)); exact HO286.out))) (below_size (by repeat (first | (with_reducible first | exact HB.out | apply below_alloc | apply pw_below_drewN | apply below_drew1) | exact HB.out)))); have n2_ := Aside0.mk (below_step (by repeat (first | (with_reducible first | exact HB.out | apply below_alloc | apply pw_below_drewN | apply below_drew1) | exact HB.out)) hb); clear HO286; clear HB; have HO286 := n0_; have HO292 := n1_; have HB := n2_; clear n0_ n1_ n2_; (try clear hb); (try clear hb2); (try clear hk); (try clear hi); (try clear ho0)))
                                        go_ret
                                        exact ⟨by first | rfl | (simp [errW_none, errW_some] <;> rfl) | (simp [*, errW_none, errW_some] <;> rfl), by repeat (first | (with_reducible first | exact HB.out | apply below_alloc | apply pw_below_drewN | apply below_drew1) | exact HB.out)⟩
                                    · rw [if_neg c33] at H
                                      have c33b0 : (t290 == t279) = false := beq_eq_false_iff_ne.mpr c33
                                      have c33b1 : (t290 != t279) = true := bne_iff_ne.mpr c33
                                      obtain rfl := Option.some.inj H
                                      go_wp2_with (first | ((with_reducible refine gate_callee (f := 10) rfl ?_); refine goesL_ (some 51) rfl rfl Tryd.func10 (by kernel_rfl) rfl #[.string (a0.extract 0 (t279 : Int).toNat)] rfl (by (try simp only [List.map_toArray, List.map_cons, List.map_nil]); first | done | rfl | (simp only [List.length_drop, List.length_take]; rfl) | (simp (disch := omega) only [IntWalk.wrap64_in]; done)) ?_; (with_reducible refine (lexer_Lex.calls (a0.extract 0 (t279 : Int).toNat) t282 t283 t284 _ ?side1 A19.out).mono ?_); (case side1 => exact Lx.GOK.aside hG (by repeat (first | (with_reducible first | exact HB.out | apply below_alloc | apply pw_below_drewN | apply below_drew1) | exact HB.out))); rintro e w40 ⟨v285, rfl, ho0, hb⟩; refine ⟨_, rfl, ?_⟩; have n0_ := Aside0.mk (Kd.R_lower ho0 (below_size (by repeat (first | (with_reducible first | exact HB.out | apply below_alloc | apply pw_below_drewN | apply below_drew1) | exact HB.out)))); have n1_ := Aside0.mk (below_step (by repeat (first | (with_reducible first | exact HB.out | apply below_alloc | apply pw_below_drewN | apply below_drew1) | exact HB.out)) hb); clear HB; have HO286 := n0_; have HB := n1_; clear n0_ n1_; (try clear hb); (try clear hb2); (try clear hk); (try clear hi); (try clear ho0)) | ((with_reducible refine gate_callee (f := 17) rfl ?_); refine goesL_ (some 58) rfl rfl Tryd.func17 (by kernel_rfl) rfl #[.string a0, .int .i64 t279] rfl (by (try simp only [List.map_toArray, List.map_cons, List.map_nil]); first | done | rfl | (simp only [List.length_drop, List.length_take]; rfl) | (simp (disch := omega) only [IntWalk.wrap64_in]; done)) ?_; (with_reducible refine (slotmeshref01_End.calls kj12 a0 t279 t287 _ A20.out).mono ?_); rintro e w' ⟨rfl, ⟨nd, rfl⟩⟩; refine ⟨_, rfl, ?_⟩) | ((with_reducible refine gate_callee (f := 10) rfl ?_); refine goesL_ (some 73) rfl rfl Tryd.func10 (by kernel_rfl) rfl #[.string (((a0.extract 0 (t287 : Int).toNat) ++ (⟨#[32]⟩ : ByteArray)) ++ a1)] rfl (by (try simp only [List.map_toArray, List.map_cons, List.map_nil]); first | done | rfl | (simp only [List.length_drop, List.length_take]; rfl) | (simp (disch := omega) only [IntWalk.wrap64_in]; done)) ?_; (with_reducible refine (lexer_Lex.calls (((a0.extract 0 (t287 : Int).toNat) ++ (⟨#[32]⟩ : ByteArray)) ++ a1) t288 t289 t290 _ ?side1 A29.out).mono ?_); (case side1 => exact Lx.GOK.aside hG (by repeat (first | (with_reducible first | exact HB.out | apply below_alloc | apply pw_below_drewN | apply below_drew1) | exact HB.out))); rintro e w41 ⟨v291, rfl, ho0, hb⟩; refine ⟨_, rfl, ?_⟩; have n0_ := Aside0.mk (Kd.R_elder' (by (with_reducible repeat (first | apply Kd.R_alloc | apply Kd.R_drewN | apply Kd.R_drew)); exact HO286.out) (Kd.R_base ho0) hb); have n1_ := Aside0.mk (Kd.R_lower (Kd.R_new' ho0 (Kd.R_lt (by (with_reducible repeat (first | apply Kd.R_alloc | apply Kd.R_drewN | apply Kd.R_drew)); exact HO286.out))) (below_size (by repeat (first | (with_reducible first | exact HB.out | apply below_alloc | apply pw_below_drewN | apply below_drew1) | exact HB.out)))); have n2_ := Aside0.mk (below_step (by repeat (first | (with_reducible first | exact HB.out | apply below_alloc | apply pw_below_drewN | apply below_drew1) | exact HB.out)) hb); clear HO286; clear HB; have HO286 := n0_; have HO292 := n1_; have HB := n2_; clear n0_ n1_ n2_; (try clear hb); (try clear hb2); (try clear hk); (try clear hi); (try clear ho0)))
                                      go_ret
                                      exact ⟨by first | rfl | (simp [errW_none, errW_some] <;> rfl) | (simp [*, errW_none, errW_some] <;> rfl), by repeat (first | (with_reducible first | exact HB.out | apply below_alloc | apply pw_below_drewN | apply below_drew1) | exact HB.out)⟩
                                  · rw [if_neg c32] at H
                                    have c32b0 : (t289 == t278) = false := beq_eq_false_iff_ne.mpr c32
                                    have c32b1 : (t289 != t278) = true := bne_iff_ne.mpr c32
                                    obtain rfl := Option.some.inj H
                                    go_wp2_with (first | ((with_reducible refine gate_callee (f := 10) rfl ?_); refine goesL_ (some 51) rfl rfl Tryd.func10 (by kernel_rfl) rfl #[.string (a0.extract 0 (t279 : Int).toNat)] rfl (by (try simp only [List.map_toArray, List.map_cons, List.map_nil]); first | done | rfl | (simp only [List.length_drop, List.length_take]; rfl) | (simp (disch := omega) only [IntWalk.wrap64_in]; done)) ?_; (with_reducible refine (lexer_Lex.calls (a0.extract 0 (t279 : Int).toNat) t282 t283 t284 _ ?side1 A19.out).mono ?_); (case side1 => exact Lx.GOK.aside hG (by repeat (first | (with_reducible first | exact HB.out | apply below_alloc | apply pw_below_drewN | apply below_drew1) | exact HB.out))); rintro e w42 ⟨v285, rfl, ho0, hb⟩; refine ⟨_, rfl, ?_⟩; have n0_ := Aside0.mk (Kd.R_lower ho0 (below_size (by repeat (first | (with_reducible first | exact HB.out | apply below_alloc | apply pw_below_drewN | apply below_drew1) | exact HB.out)))); have n1_ := Aside0.mk (below_step (by repeat (first | (with_reducible first | exact HB.out | apply below_alloc | apply pw_below_drewN | apply below_drew1) | exact HB.out)) hb); clear HB; have HO286 := n0_; have HB := n1_; clear n0_ n1_; (try clear hb); (try clear hb2); (try clear hk); (try clear hi); (try clear ho0)) | ((with_reducible refine gate_callee (f := 17) rfl ?_); refine goesL_ (some 58) rfl rfl Tryd.func17 (by kernel_rfl) rfl #[.string a0, .int .i64 t279] rfl (by (try simp only [List.map_toArray, List.map_cons, List.map_nil]); first | done | rfl | (simp only [List.length_drop, List.length_take]; rfl) | (simp (disch := omega) only [IntWalk.wrap64_in]; done)) ?_; (with_reducible refine (slotmeshref01_End.calls kj12 a0 t279 t287 _ A20.out).mono ?_); rintro e w' ⟨rfl, ⟨nd, rfl⟩⟩; refine ⟨_, rfl, ?_⟩) | ((with_reducible refine gate_callee (f := 10) rfl ?_); refine goesL_ (some 73) rfl rfl Tryd.func10 (by kernel_rfl) rfl #[.string (((a0.extract 0 (t287 : Int).toNat) ++ (⟨#[32]⟩ : ByteArray)) ++ a1)] rfl (by (try simp only [List.map_toArray, List.map_cons, List.map_nil]); first | done | rfl | (simp only [List.length_drop, List.length_take]; rfl) | (simp (disch := omega) only [IntWalk.wrap64_in]; done)) ?_; (with_reducible refine (lexer_Lex.calls (((a0.extract 0 (t287 : Int).toNat) ++ (⟨#[32]⟩ : ByteArray)) ++ a1) t288 t289 t290 _ ?side1 A29.out).mono ?_); (case side1 => exact Lx.GOK.aside hG (by repeat (first | (with_reducible first | exact HB.out | apply below_alloc | apply pw_below_drewN | apply below_drew1) | exact HB.out))); rintro e w43 ⟨v291, rfl, ho0, hb⟩; refine ⟨_, rfl, ?_⟩; have n0_ := Aside0.mk (Kd.R_elder' (by (with_reducible repeat (first | apply Kd.R_alloc | apply Kd.R_drewN | apply Kd.R_drew)); exact HO286.out) (Kd.R_base ho0) hb); have n1_ := Aside0.mk (Kd.R_lower (Kd.R_new' ho0 (Kd.R_lt (by (with_reducible repeat (first | apply Kd.R_alloc | apply Kd.R_drewN | apply Kd.R_drew)); exact HO286.out))) (below_size (by repeat (first | (with_reducible first | exact HB.out | apply below_alloc | apply pw_below_drewN | apply below_drew1) | exact HB.out)))); have n2_ := Aside0.mk (below_step (by repeat (first | (with_reducible first | exact HB.out | apply below_alloc | apply pw_below_drewN | apply below_drew1) | exact HB.out)) hb); clear HO286; clear HB; have HO286 := n0_; have HO292 := n1_; have HB := n2_; clear n0_ n1_ n2_; (try clear hb); (try clear hb2); (try clear hk); (try clear hi); (try clear ho0)))
                                    go_ret
                                    exact ⟨by first | rfl | (simp [errW_none, errW_some] <;> rfl) | (simp [*, errW_none, errW_some] <;> rfl), by repeat (first | (with_reducible first | exact HB.out | apply below_alloc | apply pw_below_drewN | apply below_drew1) | exact HB.out)⟩
                                · rw [if_neg c31] at H
                                  have c31b0 : (t283 == 0) = false := beq_eq_false_iff_ne.mpr c31
                                  have c31b1 : (t283 != 0) = true := bne_iff_ne.mpr c31
                                  obtain rfl := Option.some.inj H
                                  go_wp2_with (first | ((with_reducible refine gate_callee (f := 10) rfl ?_); refine goesL_ (some 51) rfl rfl Tryd.func10 (by kernel_rfl) rfl #[.string (a0.extract 0 (t279 : Int).toNat)] rfl (by (try simp only [List.map_toArray, List.map_cons, List.map_nil]); first | done | rfl | (simp only [List.length_drop, List.length_take]; rfl) | (simp (disch := omega) only [IntWalk.wrap64_in]; done)) ?_; (with_reducible refine (lexer_Lex.calls (a0.extract 0 (t279 : Int).toNat) t282 t283 t284 _ ?side1 A19.out).mono ?_); (case side1 => exact Lx.GOK.aside hG (by repeat (first | (with_reducible first | exact HB.out | apply below_alloc | apply pw_below_drewN | apply below_drew1) | exact HB.out))); rintro e w44 ⟨v285, rfl, ho0, hb⟩; refine ⟨_, rfl, ?_⟩; have n0_ := Aside0.mk (Kd.R_lower ho0 (below_size (by repeat (first | (with_reducible first | exact HB.out | apply below_alloc | apply pw_below_drewN | apply below_drew1) | exact HB.out)))); have n1_ := Aside0.mk (below_step (by repeat (first | (with_reducible first | exact HB.out | apply below_alloc | apply pw_below_drewN | apply below_drew1) | exact HB.out)) hb); clear HB; have HO286 := n0_; have HB := n1_; clear n0_ n1_; (try clear hb); (try clear hb2); (try clear hk); (try clear hi); (try clear ho0)) | ((with_reducible refine gate_callee (f := 17) rfl ?_); refine goesL_ (some 58) rfl rfl Tryd.func17 (by kernel_rfl) rfl #[.string a0, .int .i64 t279] rfl (by (try simp only [List.map_toArray, List.map_cons, List.map_nil]); first | done | rfl | (simp only [List.length_drop, List.length_take]; rfl) | (simp (disch := omega) only [IntWalk.wrap64_in]; done)) ?_; (with_reducible refine (slotmeshref01_End.calls kj12 a0 t279 t287 _ A20.out).mono ?_); rintro e w' ⟨rfl, ⟨nd, rfl⟩⟩; refine ⟨_, rfl, ?_⟩) | ((with_reducible refine gate_callee (f := 10) rfl ?_); refine goesL_ (some 73) rfl rfl Tryd.func10 (by kernel_rfl) rfl #[.string (((a0.extract 0 (t287 : Int).toNat) ++ (⟨#[32]⟩ : ByteArray)) ++ a1)] rfl (by (try simp only [List.map_toArray, List.map_cons, List.map_nil]); first | done | rfl | (simp only [List.length_drop, List.length_take]; rfl) | (simp (disch := omega) only [IntWalk.wrap64_in]; done)) ?_; (with_reducible refine (lexer_Lex.calls (((a0.extract 0 (t287 : Int).toNat) ++ (⟨#[32]⟩ : ByteArray)) ++ a1) t288 t289 t290 _ ?side1 A29.out).mono ?_); (case side1 => exact Lx.GOK.aside hG (by repeat (first | (with_reducible first | exact HB.out | apply below_alloc | apply pw_below_drewN | apply below_drew1) | exact HB.out))); rintro e w45 ⟨v291, rfl, ho0, hb⟩; refine ⟨_, rfl, ?_⟩; have n0_ := Aside0.mk (Kd.R_elder' (by (with_reducible repeat (first | apply Kd.R_alloc | apply Kd.R_drewN | apply Kd.R_drew)); exact HO286.out) (Kd.R_base ho0) hb); have n1_ := Aside0.mk (Kd.R_lower (Kd.R_new' ho0 (Kd.R_lt (by (with_reducible repeat (first | apply Kd.R_alloc | apply Kd.R_drewN | apply Kd.R_drew)); exact HO286.out))) (below_size (by repeat (first | (with_reducible first | exact HB.out | apply below_alloc | apply pw_below_drewN | apply below_drew1) | exact HB.out)))); have n2_ := Aside0.mk (below_step (by repeat (first | (with_reducible first | exact HB.out | apply below_alloc | apply pw_below_drewN | apply below_drew1) | exact HB.out)) hb); clear HO286; clear HB; have HO286 := n0_; have HO292 := n1_; have HB := n2_; clear n0_ n1_ n2_; (try clear hb); (try clear hb2); (try clear hk); (try clear hi); (try clear ho0)))
                                  go_ret
                                  exact ⟨by first | rfl | (simp [errW_none, errW_some] <;> rfl) | (simp [*, errW_none, errW_some] <;> rfl), by repeat (first | (with_reducible first | exact HB.out | apply below_alloc | apply pw_below_drewN | apply below_drew1) | exact HB.out)⟩
                              · replace c30 := Bool.eq_false_iff.mpr c30
                                subst c30
                                have H1 : (some false) = some r := by rw [if_neg (show ¬ (false = true) by decide)] at H; exact H
                                clear H
                                have H := H1
                                clear H1
                                obtain rfl := Option.some.inj H
                                go_wp2_with (first | ((with_reducible refine gate_callee (f := 10) rfl ?_); refine goesL_ (some 51) rfl rfl Tryd.func10 (by kernel_rfl) rfl #[.string (a0.extract 0 (t279 : Int).toNat)] rfl (by (try simp only [List.map_toArray, List.map_cons, List.map_nil]); first | done | rfl | (simp only [List.length_drop, List.length_take]; rfl) | (simp (disch := omega) only [IntWalk.wrap64_in]; done)) ?_; (with_reducible refine (lexer_Lex.calls (a0.extract 0 (t279 : Int).toNat) t282 t283 t284 _ ?side1 A19.out).mono ?_); (case side1 => exact Lx.GOK.aside hG (by repeat (first | (with_reducible first | exact HB.out | apply below_alloc | apply pw_below_drewN | apply below_drew1) | exact HB.out))); rintro e w46 ⟨v285, rfl, ho0, hb⟩; refine ⟨_, rfl, ?_⟩; have n0_ := Aside0.mk (Kd.R_lower ho0 (below_size (by repeat (first | (with_reducible first | exact HB.out | apply below_alloc | apply pw_below_drewN | apply below_drew1) | exact HB.out)))); have n1_ := Aside0.mk (below_step (by repeat (first | (with_reducible first | exact HB.out | apply below_alloc | apply pw_below_drewN | apply below_drew1) | exact HB.out)) hb); clear HB; have HO286 := n0_; have HB := n1_; clear n0_ n1_; (try clear hb); (try clear hb2); (try clear hk); (try clear hi); (try clear ho0)) | ((with_reducible refine gate_callee (f := 17) rfl ?_); refine goesL_ (some 58) rfl rfl Tryd.func17 (by kernel_rfl) rfl #[.string a0, .int .i64 t279] rfl (by (try simp only [List.map_toArray, List.map_cons, List.map_nil]); first | done | rfl | (simp only [List.length_drop, List.length_take]; rfl) | (simp (disch := omega) only [IntWalk.wrap64_in]; done)) ?_; (with_reducible refine (slotmeshref01_End.calls kj12 a0 t279 t287 _ A20.out).mono ?_); rintro e w' ⟨rfl, ⟨nd, rfl⟩⟩; refine ⟨_, rfl, ?_⟩) | ((with_reducible refine gate_callee (f := 10) rfl ?_); refine goesL_ (some 73) rfl rfl Tryd.func10 (by kernel_rfl) rfl #[.string (((a0.extract 0 (t287 : Int).toNat) ++ (⟨#[32]⟩ : ByteArray)) ++ a1)] rfl (by (try simp only [List.map_toArray, List.map_cons, List.map_nil]); first | done | rfl | (simp only [List.length_drop, List.length_take]; rfl) | (simp (disch := omega) only [IntWalk.wrap64_in]; done)) ?_; (with_reducible refine (lexer_Lex.calls (((a0.extract 0 (t287 : Int).toNat) ++ (⟨#[32]⟩ : ByteArray)) ++ a1) t288 t289 t290 _ ?side1 A29.out).mono ?_); (case side1 => exact Lx.GOK.aside hG (by repeat (first | (with_reducible first | exact HB.out | apply below_alloc | apply pw_below_drewN | apply below_drew1) | exact HB.out))); rintro e w47 ⟨v291, rfl, ho0, hb⟩; refine ⟨_, rfl, ?_⟩; have n0_ := Aside0.mk (Kd.R_elder' (by (with_reducible repeat (first | apply Kd.R_alloc | apply Kd.R_drewN | apply Kd.R_drew)); exact HO286.out) (Kd.R_base ho0) hb); have n1_ := Aside0.mk (Kd.R_lower (Kd.R_new' ho0 (Kd.R_lt (by (with_reducible repeat (first | apply Kd.R_alloc | apply Kd.R_drewN | apply Kd.R_drew)); exact HO286.out))) (below_size (by repeat (first | (with_reducible first | exact HB.out | apply below_alloc | apply pw_below_drewN | apply below_drew1) | exact HB.out)))); have n2_ := Aside0.mk (below_step (by repeat (first | (with_reducible first | exact HB.out | apply below_alloc | apply pw_below_drewN | apply below_drew1) | exact HB.out)) hb); clear HO286; clear HB; have HO286 := n0_; have HO292 := n1_; have HB := n2_; clear n0_ n1_ n2_; (try clear hb); (try clear hb2); (try clear hk); (try clear hi); (try clear ho0)))
                                go_ret
                                exact ⟨by first | rfl | (simp [errW_none, errW_some] <;> rfl) | (simp [*, errW_none, errW_some] <;> rfl), by repeat (first | (with_reducible first | exact HB.out | apply below_alloc | apply pw_below_drewN | apply below_drew1) | exact HB.out)⟩
                          · rw [if_neg c24] at H
                            exact absurd H (by simp)
                        · rw [if_neg c23] at H
                          exact absurd H (by simp)
                      · rw [if_neg c22] at H
                        exact absurd H (by simp)
                    · rw [if_neg c21] at H
                      exact absurd H (by simp)
                  · rw [if_neg c18] at H
                    exact absurd H (by simp)
                · rw [if_neg c17] at H
                  exact absurd H (by simp)

/-- THE ONE PURE STATEMENT of slotmeshlaw01_LexerErrors: yours. -/
def slotmeshlaw01_LexerErrors.Pure : Prop := ∀ (a0 : ByteArray) (a1 : ByteArray), a0.size ≤ 140737488351232 → a1.size ≤ 140737488351232 → ∃ k, slotmeshlaw01_LexerErrors.f k a0 a1 = some true
theorem slotmeshlaw01_LexerErrors.walk (P : slotmeshlaw01_LexerErrors.Pure) (a0 : ByteArray) (a1 : ByteArray) (w : World) (hG : Lx.GOK w) (w0 : a0.size ≤ 140737488351232) (w1 : a1.size ≤ 140737488351232) :
    Calls Tryd.prog 8 #[.string a0, .string a1] w fun e w' => e = .returned (.bool true) ∧ Below w.heap.size w w' := by
  obtain ⟨k, h⟩ := P a0 a1 w0 w1
  refine (slotmeshlaw01_LexerErrors.calls k a0 a1 true w ⟨hG⟩ h).mono ?_
  rintro e w' ⟨rfl, hd⟩
  exact ⟨rfl, hd⟩

end Go.Proofs.YtiidalhcmlhnmaaDoor.PA
