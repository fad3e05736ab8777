/- Texts of proofs: plain words, and walks through the program's functions. -/
import Derived.Test.YtdedlchpjboceaaDoorM1a9a2473
import Derived.Test.YtdedlchpjboceaaDoorMf22955d3
import Derived.Test.YtdedlchpjboceaaDoorM0c654a18
import Derived.Test.YtdedlchpjboceaaDoorMa3af8169
import Derived.Test.YtdedlchpjboceaaDoorMa30184cd
import Derived.Test.YtdedlchpjboceaaDoorMa73156ca
import Derived.Test.YtdedlchpjboceaaDoorMdbea204d
import Derived.Test.YtdedlchpjboceaaDoorMbd2141b7
import Derived.Test.YtdedlchpjboceaaDoorMbe97fddd
import Derived.Test.YtdedlchpjboceaaDoorM5717b290

section
namespace Go.Proofs.YtdedlchpjboceaaDoor.PE
open Go.RowKit Go.Proofs.YtdedlchpjboceaaDoorW.PrintWords Go.Proofs.YtdedlchpjboceaaDoorW.PrintLast Go.Proofs.YtdedlchpjboceaaDoorW.PrintMore
attribute [local go_sem] max2_int min2_int max_two min_two max_three min_three max_four min_four   -- for this text's walks alone
def slotmeshlaw02_usable.f (k : Nat) (a0 : ByteArray) : Option (Bool) := (slotmeshref01_Lex.f k a0).bind fun bt535 => (some (bt535.2.1 == 0))
theorem slotmeshlaw02_usable.mono : ∀ a0 k, LeO (slotmeshlaw02_usable.f k a0) (slotmeshlaw02_usable.f (k + 1) a0) := by
  intro a0 k
  unfold slotmeshlaw02_usable.f
  repeat' first
      | (with_reducible exact slotmeshref01_Lex.mono _ _)
      | (with_reducible exact LeO.refl _)
      | (with_reducible exact LeO.none _)
      | (with_reducible refine LeO.ite ?_ ?_)
      | (with_reducible refine LeO.bind ?_ (fun _ => ?_))
      | exact slotmeshref01_Lex.mono _ _
      | exact LeO.none _
      | refine LeO.ite ?_ ?_
      | refine LeO.bind ?_ (fun _ => ?_)
set_option maxHeartbeats 8000000 in
set_option maxRecDepth 100000 in
theorem slotmeshlaw02_usable.calls (k : Nat) (a0 : ByteArray) (r : Bool) (w : World) (h : slotmeshlaw02_usable.f k a0 = some r) :
    Calls Tryd.prog 38 #[.string a0] w fun e w' => e = .returned (.bool r) ∧ Below w.heap.size w w' := by
  have HB := Aside0.mk (Below.refl w.heap.size w)
  have H : ((slotmeshref01_Lex.f k a0).bind fun bt535 => (some (bt535.2.1 == 0))) = some r := h
  clear h
  replace H := Option.bind_eq_some_iff.mp H
  obtain ⟨⟨t535, t536, t537⟩, A20, H⟩ := H
  replace H : (some (t536 == 0)) = some r := H
  have A2 := Aside0.mk A20
  clear A20
  obtain rfl := Option.some.inj H
  go_enter Tryd.func38, Tryd.ntmps38
  go_wp2_with (first | ((with_reducible refine gate_callee (f := 31) rfl ?_); refine goesL_ (some 8) rfl rfl Tryd.func31 (by kernel_rfl) rfl #[.string a0] rfl (by (try simp only [List.map_toArray, List.map_cons, List.map_nil]); first | done | rfl | (simp only [List.length_drop, List.length_take]; rfl) | (simp (disch := omega) only [IntWalk.wrap64_in]; done)) ?_; (with_reducible refine (slotmeshref01_Lex.calls k a0 t535 t536 t537 _ A2.out).mono ?_); rintro e w3 ⟨v538, rfl, ho0, hb⟩; refine ⟨_, rfl, ?_⟩; have n0_ := Aside0.mk (Kd.R_lower ho0 (below_size (by repeat (first | (with_reducible first | exact HB.out | apply below_alloc | apply pw_below_drewN | apply below_drew1) | exact HB.out)))); have n1_ := Aside0.mk (below_step (by repeat (first | (with_reducible first | exact HB.out | apply below_alloc | apply pw_below_drewN | apply below_drew1) | exact HB.out)) hb); clear HB; have HO539 := n0_; have HB := n1_; clear n0_ n1_; (try clear hb); (try clear hb2); (try clear hk); (try clear hi); (try clear ho0)))
  go_ret
  exact ⟨by first | rfl | (simp [errW_none, errW_some] <;> rfl) | (simp [*, errW_none, errW_some] <;> rfl), by repeat (first | (with_reducible first | exact HB.out | apply below_alloc | apply pw_below_drewN | apply below_drew1) | exact HB.out)⟩
end Go.Proofs.YtdedlchpjboceaaDoor.PE
end

section
namespace Go.Proofs.YtdedlchpjboceaaDoor.Qy
open Go.RowKit Go.Proofs.YtdedlchpjboceaaDoorW.PrintWords Go.Proofs.YtdedlchpjboceaaDoorW.PrintLast Go.Proofs.YtdedlchpjboceaaDoor.Lx Go.Proofs.YtdedlchpjboceaaDoor.Px Go.Proofs.YtdedlchpjboceaaDoor.Tx Go.Proofs.YtdedlchpjboceaaDoor.Qz Go.Proofs.YtdedlchpjboceaaDoor.PE
theorem rd_dg (l : List S54) (j : Nat) (h : j < l.length) : rd_T54 l (j : Int) = l[j] := by
  unfold rd_T54
  rw [Int.toNat_natCast, List.getD_eq_getElem?_getD, List.getElem?_eq_getElem h]; rfl
theorem diags_loop (l : List S54) (hl : l.length ≤ 1000000) (d : Nat) : ∀ j : Nat, j ≤ l.length → l.length - j = d → Ev (fun k => slotmeshref02_SameDiags.l0 k l l (j : Int)) true := by
  induction d with
  | zero =>
    intro j hj hd
    refine Ev.step (f := _) (fun k => by rw [slotmeshref02_SameDiags.l0]) (evNeg (by omega) (Ev.now _))
  | succ d ih =>
    intro j hj hd
    have hlt : j < l.length := by omega
    have hih := ih (j + 1) (by omega) (by omega)
    have hw : wrap64 ((j : Int) + 1) = ((j + 1 : Nat) : Int) := by rw [w64 (by omega) (by omega)]; omega
    refine Ev.step (f := _) (fun k => by rw [slotmeshref02_SameDiags.l0]) ?_
    refine evPos (by omega) (evPos (by omega) (evPos (by omega) ?_))
    rw [rd_dg l j hlt, hw]
    exact evNeg (by simp) hih
theorem diags_self (l : List S54) (hl : l.length ≤ 1000000) : Ev (fun k => slotmeshref02_SameDiags.f k l l) true := by
  unfold slotmeshref02_SameDiags.f
  exact evPos rfl (diags_loop l hl l.length 0 (Nat.zero_le _) rfl)
theorem lex_err_ne {s : List UInt8} {e : Int × Nat} (h : Lx.lex s = .error e) : ¬ e.1 = 0 := by
  intro he
  by_cases h8 : 8000 < s.length
  · have : e = (2, 0) := by unfold Lx.lex at h; rw [if_pos h8] at h; injection h with h; exact h.symm
    rw [this] at he; cases he
  · obtain ⟨_, _, _, _, _, _, _, _, _, _, _, _, _, hp, _⟩ := Lr.lex_error_inv (by omega) h
    have := (Lr.err_pos hp).1
    omega
theorem usableK (s : ByteArray) : Ev (fun k => slotmeshlaw02_usable.f k s) (match Lx.lex s.data.toList with | .ok _ => true | .error _ => false) := by
  unfold slotmeshlaw02_usable.f
  refine Ev.bind (Lr.ref_lex s) (evEq (Ev.now _) ?_)
  cases hl : Lx.lex s.data.toList with
  | ok ts => rfl
  | error e =>
    show (e.1 == 0) = false
    rw [beq_eq_false_iff_ne]
    exact lex_err_ne hl
end Go.Proofs.YtdedlchpjboceaaDoor.Qy
end

section
namespace Go.Proofs.YtdedlchpjboceaaDoor.PE
open Go.RowKit Go.Proofs.YtdedlchpjboceaaDoorW.PrintWords Go.Proofs.YtdedlchpjboceaaDoorW.PrintLast Go.Proofs.YtdedlchpjboceaaDoorW.PrintMore
attribute [local go_sem] max2_int min2_int max_two min_two max_three min_three max_four min_four   -- for this text's walks alone
mutual
def slotmeshlaw02_ParserJoining.j0 : Nat → ByteArray → ByteArray → Bool → List (S40) → List (S40) → Bool → Option (Bool)
  | 0, _, _, _, _, _, _ => none
  | k + 1, x0, x1, x5, x6, x8, x46 => if x46 = true then (some x5) else (if x0.size + 1 ≤ 9223372036854775807 then (if (x0 ++ (⟨#[10]⟩ : ByteArray)).size + x1.size ≤ 9223372036854775807 then ((parser_Parse.f ((x0 ++ (⟨#[10]⟩ : ByteArray)) ++ x1)).bind fun bt572 => ((some (([] : List (S40)) : List (S40))).bind fun y578 => (if y578.length + x6.length < 2513169434916 then (slotmeshlaw02_ParserJoining.l0 k x0 x5 bt572.1 bt572.2 (y578 ++ x6) x8 (x8.length : Int) 0) else (none)))) else (none)) else (none))
def slotmeshlaw02_ParserJoining.l0 : Nat → ByteArray → Bool → List (S40) → List (S54) → List (S40) → List (S40) → Int → Int → Option (Bool)
  | 0, _, _, _, _, _, _, _, _ => none
  | k + 1, x0, x5, x10, x11, x12, x59, x60, x61 => if x61 < x60 then (if 0 ≤ x61 then (if x61 < (x59.length : Int) then (if x12.length < 2513169434916 then (slotmeshlaw02_ParserJoining.l0 k x0 x5 x10 x11 (x12 ++ [(⟨(rd_T40 x59 x61).f0, (rd_T40 x59 x61).f1, (rd_T40 x59 x61).f2, wrap64 (((rd_T40 x59 x61).f3) + (wrap64 ((x0.size : Int) + 1)))⟩ : S40)]) x59 x60 (wrap64 (x61 + 1))) else (none)) else (none)) else (none)) else (if x5 = true then (if (x11.length : Int) = 0 then ((slotmeshref02_Same.f k x10 x12).bind fun t589 => (some t589)) else (some false)) else (some false))
end
def slotmeshlaw02_ParserJoining.f (k : Nat) (a0 : ByteArray) (a1 : ByteArray) : Option (Bool) := (slotmeshlaw02_head.f k).bind fun t558 => (if a0.size + 1 ≤ 9223372036854775807 then (if (a0 ++ (⟨#[10]⟩ : ByteArray)).size + a1.size ≤ 9223372036854775807 then ((slotmeshlaw02_usable.f k ((a0 ++ (⟨#[10]⟩ : ByteArray)) ++ a1)).bind fun t559 => (if t559 = true then ((parser_Parse.f a0).bind fun bt560 => ((parser_Parse.f a1).bind fun bt566 => (if (wrap64 ((bt560.2.length : Int) + (bt566.2.length : Int))) > 0 then (slotmeshlaw02_ParserJoining.j0 k a0 a1 t558 bt560.1 bt566.1 true) else (slotmeshlaw02_ParserJoining.j0 k a0 a1 t558 bt560.1 bt566.1 (decide ((wrap64 ((bt560.1.length : Int) + (bt566.1.length : Int))) > 300)))))) else (some t558))) else (none)) else (none))
theorem slotmeshlaw02_ParserJoining.mono_l : ∀ k, (∀ y0 y1 y2 y3 y4 y5, LeO (slotmeshlaw02_ParserJoining.j0 k y0 y1 y2 y3 y4 y5) (slotmeshlaw02_ParserJoining.j0 (k + 1) y0 y1 y2 y3 y4 y5)) ∧ (∀ y0 y1 y2 y3 y4 y5 y6 y7, LeO (slotmeshlaw02_ParserJoining.l0 k y0 y1 y2 y3 y4 y5 y6 y7) (slotmeshlaw02_ParserJoining.l0 (k + 1) y0 y1 y2 y3 y4 y5 y6 y7))
  | 0 => ⟨fun _ _ _ _ _ _ r h => by simp [slotmeshlaw02_ParserJoining.j0] at h, fun _ _ _ _ _ _ _ _ r h => by simp [slotmeshlaw02_ParserJoining.l0] at h⟩
  | k + 1 => by
    obtain ⟨ih0, ih1⟩ := slotmeshlaw02_ParserJoining.mono_l k
    refine ⟨?_, ?_⟩
    · intro y0 y1 y2 y3 y4 y5
      unfold slotmeshlaw02_ParserJoining.j0
      repeat' first
      | (with_reducible exact ih0 _ _ _ _ _ _)
      | (with_reducible exact ih1 _ _ _ _ _ _ _ _)
      | (with_reducible exact slotmeshlaw02_head.mono _)
      | (with_reducible exact slotmeshlaw02_usable.mono _ _)
      | (with_reducible exact slotmeshref02_Same.mono _ _ _)
      | (with_reducible exact LeO.refl _)
      | (with_reducible exact LeO.none _)
      | (with_reducible refine LeO.ite ?_ ?_)
      | (with_reducible refine LeO.bind ?_ (fun _ => ?_))
      | exact ih0 _ _ _ _ _ _
      | exact ih1 _ _ _ _ _ _ _ _
      | exact slotmeshlaw02_head.mono _
      | exact slotmeshlaw02_usable.mono _ _
      | exact slotmeshref02_Same.mono _ _ _
      | exact LeO.none _
      | refine LeO.ite ?_ ?_
      | refine LeO.bind ?_ (fun _ => ?_)
    · intro y0 y1 y2 y3 y4 y5 y6 y7
      unfold slotmeshlaw02_ParserJoining.l0
      repeat' first
      | (with_reducible exact ih0 _ _ _ _ _ _)
      | (with_reducible exact ih1 _ _ _ _ _ _ _ _)
      | (with_reducible exact slotmeshlaw02_head.mono _)
      | (with_reducible exact slotmeshlaw02_usable.mono _ _)
      | (with_reducible exact slotmeshref02_Same.mono _ _ _)
      | (with_reducible exact LeO.refl _)
      | (with_reducible exact LeO.none _)
      | (with_reducible refine LeO.ite ?_ ?_)
      | (with_reducible refine LeO.bind ?_ (fun _ => ?_))
      | exact ih0 _ _ _ _ _ _
      | exact ih1 _ _ _ _ _ _ _ _
      | exact slotmeshlaw02_head.mono _
      | exact slotmeshlaw02_usable.mono _ _
      | exact slotmeshref02_Same.mono _ _ _
      | exact LeO.none _
      | refine LeO.ite ?_ ?_
      | refine LeO.bind ?_ (fun _ => ?_)
theorem slotmeshlaw02_ParserJoining.mono : ∀ a0 a1 k, LeO (slotmeshlaw02_ParserJoining.f k a0 a1) (slotmeshlaw02_ParserJoining.f (k + 1) a0 a1) := by
  intro a0 a1 k
  obtain ⟨ih0, ih1⟩ := slotmeshlaw02_ParserJoining.mono_l k
  unfold slotmeshlaw02_ParserJoining.f
  repeat' first
      | (with_reducible exact ih0 _ _ _ _ _ _)
      | (with_reducible exact ih1 _ _ _ _ _ _ _ _)
      | (with_reducible exact slotmeshlaw02_head.mono _)
      | (with_reducible exact slotmeshlaw02_usable.mono _ _)
      | (with_reducible exact slotmeshref02_Same.mono _ _ _)
      | (with_reducible exact LeO.refl _)
      | (with_reducible exact LeO.none _)
      | (with_reducible refine LeO.ite ?_ ?_)
      | (with_reducible refine LeO.bind ?_ (fun _ => ?_))
      | exact ih0 _ _ _ _ _ _
      | exact ih1 _ _ _ _ _ _ _ _
      | exact slotmeshlaw02_head.mono _
      | exact slotmeshlaw02_usable.mono _ _
      | exact slotmeshref02_Same.mono _ _ _
      | exact LeO.none _
      | refine LeO.ite ?_ ?_
      | refine LeO.bind ?_ (fun _ => ?_)
set_option maxHeartbeats 8000000 in
set_option maxRecDepth 100000 in
theorem slotmeshlaw02_ParserJoining.calls (k : Nat) (a0 : ByteArray) (a1 : ByteArray) (r : Bool) (w : World) (hG : Aside0 (Tx.GQ w)) (h : slotmeshlaw02_ParserJoining.f k a0 a1 = some r) (hr0_ : r = true) :
    Calls Tryd.prog 11 #[.string a0, .string a1] w fun e w' => e = .returned (.bool r) ∧ Below w.heap.size w w' := by
  have hr_ := Aside0.mk hr0_
  clear hr0_
  have hu40 := Tryd.underlying40
  have HB := Aside0.mk (Below.refl w.heap.size w)
  have H : ((slotmeshlaw02_head.f k).bind fun t558 => (if a0.size + 1 ≤ 9223372036854775807 then (if (a0 ++ (⟨#[10]⟩ : ByteArray)).size + a1.size ≤ 9223372036854775807 then ((slotmeshlaw02_usable.f k ((a0 ++ (⟨#[10]⟩ : ByteArray)) ++ a1)).bind fun t559 => (if t559 = true then ((parser_Parse.f a0).bind fun bt560 => ((parser_Parse.f a1).bind fun bt566 => (if (wrap64 ((bt560.2.length : Int) + (bt566.2.length : Int))) > 0 then (slotmeshlaw02_ParserJoining.j0 k a0 a1 t558 bt560.1 bt566.1 true) else (slotmeshlaw02_ParserJoining.j0 k a0 a1 t558 bt560.1 bt566.1 (decide ((wrap64 ((bt560.1.length : Int) + (bt566.1.length : Int))) > 300)))))) else (some t558))) else (none)) else (none))) = some r := h
  clear h
  replace H := Option.bind_eq_some_iff.mp H
  obtain ⟨t558, A30, H⟩ := H
  replace H : (if a0.size + 1 ≤ 9223372036854775807 then (if (a0 ++ (⟨#[10]⟩ : ByteArray)).size + a1.size ≤ 9223372036854775807 then ((slotmeshlaw02_usable.f k ((a0 ++ (⟨#[10]⟩ : ByteArray)) ++ a1)).bind fun t559 => (if t559 = true then ((parser_Parse.f a0).bind fun bt560 => ((parser_Parse.f a1).bind fun bt566 => (if (wrap64 ((bt560.2.length : Int) + (bt566.2.length : Int))) > 0 then (slotmeshlaw02_ParserJoining.j0 k a0 a1 t558 bt560.1 bt566.1 true) else (slotmeshlaw02_ParserJoining.j0 k a0 a1 t558 bt560.1 bt566.1 (decide ((wrap64 ((bt560.1.length : Int) + (bt566.1.length : Int))) > 300)))))) else (some t558))) else (none)) else (none)) = some r := H
  have A3 := Aside0.mk A30
  clear A30
  by_cases c4 : a0.size + 1 ≤ 9223372036854775807
  · rw [if_pos c4] at H
    have c4b0 := eq_true c4
    have c4b1 : decide (a0.size + 1 ≤ 9223372036854775807) = true := decide_eq_true c4
    try have c4b2 : (9223372036854775807 < a0.size + 1) = False := eq_false (Nat.not_lt.2 c4)
    by_cases c5 : (a0 ++ (⟨#[10]⟩ : ByteArray)).size + a1.size ≤ 9223372036854775807
    · rw [if_pos c5] at H
      have c5b0 := eq_true c5
      have c5b1 : decide ((a0 ++ (⟨#[10]⟩ : ByteArray)).size + a1.size ≤ 9223372036854775807) = true := decide_eq_true c5
      try have c5b2 : (9223372036854775807 < (a0 ++ (⟨#[10]⟩ : ByteArray)).size + a1.size) = False := eq_false (Nat.not_lt.2 c5)
      replace H := Option.bind_eq_some_iff.mp H
      obtain ⟨t559, A60, H⟩ := H
      replace H : (if t559 = true then ((parser_Parse.f a0).bind fun bt560 => ((parser_Parse.f a1).bind fun bt566 => (if (wrap64 ((bt560.2.length : Int) + (bt566.2.length : Int))) > 0 then (slotmeshlaw02_ParserJoining.j0 k a0 a1 t558 bt560.1 bt566.1 true) else (slotmeshlaw02_ParserJoining.j0 k a0 a1 t558 bt560.1 bt566.1 (decide ((wrap64 ((bt560.1.length : Int) + (bt566.1.length : Int))) > 300)))))) else (some t558)) = some r := H
      have A6 := Aside0.mk A60
      clear A60
      by_cases c7 : t559 = true
      · subst c7
        have H1 : ((parser_Parse.f a0).bind fun bt560 => ((parser_Parse.f a1).bind fun bt566 => (if (wrap64 ((bt560.2.length : Int) + (bt566.2.length : Int))) > 0 then (slotmeshlaw02_ParserJoining.j0 k a0 a1 t558 bt560.1 bt566.1 true) else (slotmeshlaw02_ParserJoining.j0 k a0 a1 t558 bt560.1 bt566.1 (decide ((wrap64 ((bt560.1.length : Int) + (bt566.1.length : Int))) > 300)))))) = some r := by rw [if_pos rfl] at H; exact H
        clear H
        have H := H1
        clear H1
        replace H := Option.bind_eq_some_iff.mp H
        obtain ⟨⟨t560, t561⟩, A80, H⟩ := H
        replace H : ((parser_Parse.f a1).bind fun bt566 => (if (wrap64 ((t561.length : Int) + (bt566.2.length : Int))) > 0 then (slotmeshlaw02_ParserJoining.j0 k a0 a1 t558 t560 bt566.1 true) else (slotmeshlaw02_ParserJoining.j0 k a0 a1 t558 t560 bt566.1 (decide ((wrap64 ((t560.length : Int) + (bt566.1.length : Int))) > 300))))) = some r := H
        have A8 := Aside0.mk A80
        clear A80
        replace H := Option.bind_eq_some_iff.mp H
        obtain ⟨⟨t566, t567⟩, A90, H⟩ := H
        replace H : (if (wrap64 ((t561.length : Int) + (t567.length : Int))) > 0 then (slotmeshlaw02_ParserJoining.j0 k a0 a1 t558 t560 t566 true) else (slotmeshlaw02_ParserJoining.j0 k a0 a1 t558 t560 t566 (decide ((wrap64 ((t560.length : Int) + (t566.length : Int))) > 300)))) = some r := H
        have A9 := Aside0.mk A90
        clear A90
        have HC10 := Aside0.mk H
        clear H
        go_enter Tryd.func11, Tryd.ntmps11
        go_upto_region 6 with (first | ((with_reducible refine gate_callee (f := 32) rfl ?_); refine goesL_ (some 15) rfl rfl Tryd.func32 (by kernel_rfl) rfl #[] rfl (by (try simp only [List.map_toArray, List.map_nil]); first | done | rfl | (simp only [List.length_drop, List.length_take]; rfl) | (simp (disch := omega) only [IntWalk.wrap64_in]; done)) ?_; (with_reducible refine (slotmeshlaw02_head.calls k  t558 _ ?side1 A3.out).mono ?_); (case side1 => exact Tx.GQ.aside hG (by repeat (first | (with_reducible first | exact HB.out | apply below_alloc | apply pw_below_drewN | apply below_drew1) | exact HB.out))); rintro e w11 ⟨rfl, hb⟩; refine ⟨_, rfl, ?_⟩; have n0_ := Aside0.mk (below_step (by repeat (first | (with_reducible first | exact HB.out | apply below_alloc | apply pw_below_drewN | apply below_drew1) | exact HB.out)) hb); clear HB; have HB := n0_; clear n0_; (try clear hb); (try clear hb2); (try clear hk); (try clear hi)) | ((with_reducible refine gate_callee (f := 38) rfl ?_); refine goesL_ (some 20) rfl rfl Tryd.func38 (by kernel_rfl) rfl #[.string ((a0 ++ (⟨#[10]⟩ : ByteArray)) ++ a1)] rfl (by (try simp only [List.map_toArray, List.map_cons, List.map_nil]); first | done | rfl | (simp only [List.length_drop, List.length_take]; rfl) | (simp (disch := omega) only [IntWalk.wrap64_in]; done)) ?_; (with_reducible refine (slotmeshlaw02_usable.calls k ((a0 ++ (⟨#[10]⟩ : ByteArray)) ++ a1) true _ A6.out).mono ?_); rintro e w12 ⟨rfl, hb⟩; refine ⟨_, rfl, ?_⟩; have n0_ := Aside0.mk (below_step (by repeat (first | (with_reducible first | exact HB.out | apply below_alloc | apply pw_below_drewN | apply below_drew1) | exact HB.out)) hb); clear HB; have HB := n0_; clear n0_; (try clear hb); (try clear hb2); (try clear hk); (try clear hi)) | ((with_reducible refine gate_callee (f := 20) rfl ?_); refine goesL_ (some 25) rfl rfl Tryd.func20 (by kernel_rfl) rfl #[.string a0] rfl (by (try simp only [List.map_toArray, List.map_cons, List.map_nil]); first | done | rfl | (simp only [List.length_drop, List.length_take]; rfl) | (simp (disch := omega) only [IntWalk.wrap64_in]; done)) ?_; (with_reducible refine (parser_Parse.calls a0 t560 t561 _ ?side1 A8.out).mono ?_); (case side1 => exact Tx.GQ.aside hG (by repeat (first | (with_reducible first | exact HB.out | apply below_alloc | apply pw_below_drewN | apply below_drew1) | exact HB.out))); rintro e w13 ⟨v562, v564, rfl, ho0, ho1, hb⟩; refine ⟨_, rfl, ?_⟩; have n0_ := Aside0.mk (Kd.N_lower (Kd.N_mono (ok' := fun k_ => some k_ ≠ (v564 : Value).ownBlock) (Kd.R_N (Kd.R_bound (Kd.R_apart' ho0 (Kd.R_typed ho1) (by decide)))) (fun k_ hk_ => hk_.1.2)) (below_size (by repeat (first | (with_reducible first | exact HB.out | apply below_alloc | apply pw_below_drewN | apply below_drew1) | exact HB.out)))); have n1_ := Aside0.mk (Kd.R_lower ho1 (below_size (by repeat (first | (with_reducible first | exact HB.out | apply below_alloc | apply pw_below_drewN | apply below_drew1) | exact HB.out)))); have n2_ := Aside0.mk (below_step (by repeat (first | (with_reducible first | exact HB.out | apply below_alloc | apply pw_below_drewN | apply below_drew1) | exact HB.out)) hb); clear HB; have HO563 := n0_; have HO565 := n1_; have HB := n2_; clear n0_ n1_ n2_; (try clear hb); (try clear hb2); (try clear hk); (try clear hi); (try clear ho0); (try clear ho1)) | ((with_reducible refine gate_callee (f := 20) rfl ?_); refine goesL_ (some 30) rfl rfl Tryd.func20 (by kernel_rfl) rfl #[.string a1] rfl (by (try simp only [List.map_toArray, List.map_cons, List.map_nil]); first | done | rfl | (simp only [List.length_drop, List.length_take]; rfl) | (simp (disch := omega) only [IntWalk.wrap64_in]; done)) ?_; (with_reducible refine (parser_Parse.calls a1 t566 t567 _ ?side1 A9.out).mono ?_); (case side1 => exact Tx.GQ.aside hG (by repeat (first | (with_reducible first | exact HB.out | apply below_alloc | apply pw_below_drewN | apply below_drew1) | exact HB.out))); rintro e w14 ⟨v568, v570, rfl, ho0, ho1, hb⟩; refine ⟨_, rfl, ?_⟩; have n0_ := Aside0.mk (Kd.N_mono (Kd.N_told (Kd.N_told (Kd.N_old (by (with_reducible repeat (first | apply Kd.N_alloc | apply Kd.N_drewN | apply Kd.N_drew)); exact HO563.out) hb) (Kd.R_base ho0)) (Kd.R_base ho1)) (fun _ h_ => h_.1)); have n1_ := Aside0.mk (Kd.R_elder' (by (with_reducible repeat (first | apply Kd.R_alloc | apply Kd.R_drewN | apply Kd.R_drew)); exact HO565.out) (Kd.R_base ho1) hb); have n2_ := Aside0.mk (Kd.N_lower (Kd.N_mono (ok' := fun k_ => some k_ ≠ (v570 : Value).ownBlock ∧ some k_ ≠ (v562 : Value).ownBlock ∧ some k_ ≠ (v564 : Value).ownBlock) (Kd.R_N (Kd.R_bound (Kd.R_apart' ho0 (Kd.R_typed ho1) (by decide)))) (fun k_ hk_ => ⟨hk_.1.2, (Kd.fresh' (Kd.N_lt (by (with_reducible repeat (first | apply Kd.N_alloc | apply Kd.N_drewN | apply Kd.N_drew)); exact HO563.out)) k_ hk_.2.1), (Kd.fresh' (Kd.R_lt (by (with_reducible repeat (first | apply Kd.R_alloc | apply Kd.R_drewN | apply Kd.R_drew)); exact HO565.out)) k_ hk_.2.1)⟩)) (below_size (by repeat (first | (with_reducible first | exact HB.out | apply below_alloc | apply pw_below_drewN | apply below_drew1) | exact HB.out)))); have n3_ := Aside0.mk (Kd.R_lower (Kd.R_new' ho1 (Kd.R_lt (by (with_reducible repeat (first | apply Kd.R_alloc | apply Kd.R_drewN | apply Kd.R_drew)); exact HO565.out))) (below_size (by repeat (first | (with_reducible first | exact HB.out | apply below_alloc | apply pw_below_drewN | apply below_drew1) | exact HB.out)))); have n4_ := Aside0.mk (below_step (by repeat (first | (with_reducible first | exact HB.out | apply below_alloc | apply pw_below_drewN | apply below_drew1) | exact HB.out)) hb); clear HO563; clear HO565; clear HB; have HO563 := n0_; have HO565 := n1_; have HO569 := n2_; have HO571 := n3_; have HB := n4_; clear n0_ n1_ n2_ n3_ n4_; (try clear hb); (try clear hb2); (try clear hk); (try clear hi); (try clear ho0); (try clear ho1)))
        (try simp only [Act.put, List.setIfInBounds_toArray, List.set_cons_zero, List.set_cons_succ])
        go_cut [46] (fun v46 wc => ∃ (kq : Nat) (x46_9 : Bool), v46 = .bool x46_9 ∧ Aside0 (slotmeshlaw02_ParserJoining.j0 kq a0 a1 t558 t560 t566 x46_9 = some r) ∧ Aside0 (kq ≤ k) ∧ Aside0 (Kd.N k40 40 wc w.heap.size (fun k_ => some k_ ≠ (v568 : Value).ownBlock) v562 t560) ∧ Aside0 (Kd.N k40 40 wc w.heap.size (fun k_ => some k_ ≠ (v562 : Value).ownBlock) v568 t566) ∧ Aside0 (Below w.heap.size w wc))
        case first =>
          have H := HC10.out
          clear HC10
          by_cases c15 : (wrap64 ((t561.length : Int) + (t567.length : Int))) > 0
          · rw [if_pos c15] at H
            have c15b0 : decide (0 < (wrap64 ((t561.length : Int) + (t567.length : Int)))) = true := decide_eq_true c15
            clear c15
            (first | rw [c15b0] | (simp only [i64_w, i32_w]; rw [c15b0]) | skip)
            have H' := Aside0.mk H
            clear H
            obtain ⟨Ao16, co16, eo16⟩ := Kd.R_slice HO565.out
            subst eo16
            obtain ⟨Ao17, co17, eo17⟩ := Kd.R_slice HO571.out
            subst eo17
            go_wp2
            go_meet
            case rel => exact ⟨_, (true), (by first | rfl | (simp; done) | (simp [*]; done)), H', ⟨by first | omega | exact Nat.le_refl _⟩, ⟨by (with_reducible repeat (first | apply Kd.N_alloc | apply Kd.N_drewN | apply Kd.N_drew)); exact Kd.N_mono HO563.out (fun _ hk => hk.1.2)⟩, ⟨by (with_reducible repeat (first | apply Kd.N_alloc | apply Kd.N_drewN | apply Kd.N_drew)); exact Kd.N_mono HO569.out (fun _ hk => hk.2.1)⟩, ⟨by repeat (first | (with_reducible first | exact HB.out | apply below_alloc | apply pw_below_drewN | apply below_drew1) | exact HB.out)⟩⟩
          · rw [if_neg c15] at H
            have c15b0 : decide (0 < (wrap64 ((t561.length : Int) + (t567.length : Int)))) = false := decide_eq_false c15
            clear c15
            (first | rw [c15b0] | (simp only [i64_w, i32_w]; rw [c15b0]) | skip)
            have H' := Aside0.mk H
            clear H
            obtain ⟨Ao18, co18, eo18⟩ := Kd.R_slice HO565.out
            subst eo18
            obtain ⟨Ao19, co19, eo19⟩ := Kd.R_slice HO571.out
            subst eo19
            obtain ⟨Ao20, co20, eo20⟩ := Kd.N_slice HO563.out
            subst eo20
            obtain ⟨Ao21, co21, eo21⟩ := Kd.N_slice HO569.out
            subst eo21
            go_wp2
            go_meet
            case rel => exact ⟨_, (decide ((wrap64 ((t560.length : Int) + (t566.length : Int))) > 300)), (by first | rfl | (simp; done) | (simp [*]; done)), H', ⟨by first | omega | exact Nat.le_refl _⟩, ⟨by (with_reducible repeat (first | apply Kd.N_alloc | apply Kd.N_drewN | apply Kd.N_drew)); exact Kd.N_mono HO563.out (fun _ hk => hk.1.2)⟩, ⟨by (with_reducible repeat (first | apply Kd.N_alloc | apply Kd.N_drewN | apply Kd.N_drew)); exact Kd.N_mono HO569.out (fun _ hk => hk.2.1)⟩, ⟨by repeat (first | (with_reducible first | exact HB.out | apply below_alloc | apply pw_below_drewN | apply below_drew1) | exact HB.out)⟩⟩
        case rest =>
          clear HC10
          try clear c1
          try clear c2
          try clear p2
          try clear c3
          try clear c4
          try clear c4b0
          try clear c4b1
          try clear c4b2
          try clear c5
          try clear c5b0
          try clear c5b1
          try clear c5b2
          try clear p6
          try clear c7
          try clear c11
          try clear c15
          try clear c15b0
          try clear c20
          obtain ⟨kq, x46_9, rfl, HA, HJ9, HO_6, HO_8, HB⟩ := hcut
          cases kq with
          | zero => exact absurd HA.out (by simp [slotmeshlaw02_ParserJoining.j0])
          | succ kj9 =>
            have H := HA.out
            clear HA
            simp only [slotmeshlaw02_ParserJoining.j0] at H
            by_cases c22 : x46_9 = true
            · subst c22
              have H1 : (some t558) = some r := by rw [if_pos rfl] at H; exact H
              clear H
              have H := H1
              clear H1
              clear hr_
              obtain rfl := Option.some.inj H
              go_wp2
              go_ret
              exact ⟨by first | rfl | (simp [errW_none, errW_some] <;> rfl) | (simp [*, errW_none, errW_some] <;> rfl), by repeat (first | (with_reducible first | exact HB.out | apply below_alloc | apply pw_below_drewN | apply below_drew1) | exact HB.out)⟩
            · replace c22 := Bool.eq_false_iff.mpr c22
              subst c22
              have H1 : (if a0.size + 1 ≤ 9223372036854775807 then (if (a0 ++ (⟨#[10]⟩ : ByteArray)).size + a1.size ≤ 9223372036854775807 then ((parser_Parse.f ((a0 ++ (⟨#[10]⟩ : ByteArray)) ++ a1)).bind fun bt572 => ((some (([] : List (S40)) : List (S40))).bind fun y578 => (if y578.length + t560.length < 2513169434916 then (slotmeshlaw02_ParserJoining.l0 kj9 a0 t558 bt572.1 bt572.2 (y578 ++ t560) t566 (t566.length : Int) 0) else (none)))) else (none)) else (none)) = some r := by rw [if_neg (show ¬ (false = true) by decide)] at H; exact H
              clear H
              have H := H1
              clear H1
              by_cases c23 : a0.size + 1 ≤ 9223372036854775807
              · rw [if_pos c23] at H
                have c23b0 := eq_true c23
                have c23b1 : decide (a0.size + 1 ≤ 9223372036854775807) = true := decide_eq_true c23
                try have c23b2 : (9223372036854775807 < a0.size + 1) = False := eq_false (Nat.not_lt.2 c23)
                by_cases c24 : (a0 ++ (⟨#[10]⟩ : ByteArray)).size + a1.size ≤ 9223372036854775807
                · rw [if_pos c24] at H
                  have c24b0 := eq_true c24
                  have c24b1 : decide ((a0 ++ (⟨#[10]⟩ : ByteArray)).size + a1.size ≤ 9223372036854775807) = true := decide_eq_true c24
                  try have c24b2 : (9223372036854775807 < (a0 ++ (⟨#[10]⟩ : ByteArray)).size + a1.size) = False := eq_false (Nat.not_lt.2 c24)
                  replace H := Option.bind_eq_some_iff.mp H
                  obtain ⟨⟨t572, t573⟩, A250, H⟩ := H
                  replace H : ((some (([] : List (S40)) : List (S40))).bind fun y578 => (if y578.length + t560.length < 2513169434916 then (slotmeshlaw02_ParserJoining.l0 kj9 a0 t558 t572 t573 (y578 ++ t560) t566 (t566.length : Int) 0) else (none))) = some r := H
                  have A25 := Aside0.mk A250
                  clear A250
                  obtain ⟨y578, hy578⟩ : ∃ y_ : List (S40), y_ = (([] : List (S40))) := ⟨_, rfl⟩
                  replace H : (if y578.length + t560.length < 2513169434916 then (slotmeshlaw02_ParserJoining.l0 kj9 a0 t558 t572 t573 (y578 ++ t560) t566 (t566.length : Int) 0) else (none)) = some r := by first | (rw [hy578]; with_reducible exact H) | (have H2_ := (Option.bind_some _ _).symm.trans H; rw [hy578]; with_reducible exact H2_) | (have H2_ := (Option.bind_some _ _).symm.trans H; with_reducible exact H2_) | with_reducible exact H | (rw [hy578]; exact H) | exact H
                  have Ny578 := Aside0.mk hy578
                  clear hy578
                  by_cases c26 : y578.length + t560.length < 2513169434916
                  · rw [if_pos c26] at H
                    have LMc26 := Aside0.mk c26
                    clear c26
                    obtain ⟨y581, hy581⟩ : ∃ y_ : List (S40), y_ = (y578 ++ t560) := ⟨_, rfl⟩
                    replace H : (slotmeshlaw02_ParserJoining.l0 kj9 a0 t558 t572 t573 y581 t566 (t566.length : Int) 0) = some r := by first | (rw [hy581]; with_reducible exact H) | (have H2_ := (Option.bind_some _ _).symm.trans H; rw [hy581]; with_reducible exact H2_) | (have H2_ := (Option.bind_some _ _).symm.trans H; with_reducible exact H2_) | with_reducible exact H | (rw [hy581]; exact H) | exact H
                    have Ny581 := Aside0.mk hy581
                    clear hy581
                    have H' := Aside0.mk H
                    clear H
                    go_wp2_with (first | ((with_reducible refine gate_callee (f := 20) rfl ?_); refine goesL_ (some 53) rfl rfl Tryd.func20 (by kernel_rfl) rfl #[.string ((a0 ++ (⟨#[10]⟩ : ByteArray)) ++ a1)] rfl (by (try simp only [List.map_toArray, List.map_cons, List.map_nil]); first | done | rfl | (simp only [List.length_drop, List.length_take]; rfl) | (simp (disch := omega) only [IntWalk.wrap64_in]; done)) ?_; (with_reducible refine (parser_Parse.calls ((a0 ++ (⟨#[10]⟩ : ByteArray)) ++ a1) t572 t573 _ ?side1 A25.out).mono ?_); (case side1 => exact Tx.GQ.aside hG (by repeat (first | (with_reducible first | exact HB.out | apply below_alloc | apply pw_below_drewN | apply below_drew1) | exact HB.out))); rintro e w27 ⟨v574, v576, rfl, ho0, ho1, hb⟩; refine ⟨_, rfl, ?_⟩; have n0_ := Aside0.mk (Kd.N_mono (Kd.N_told (Kd.N_told (Kd.N_old (by (with_reducible repeat (first | apply Kd.N_alloc | apply Kd.N_drewN | apply Kd.N_drew)); exact HO_6.out) hb) (Kd.R_base ho0)) (Kd.R_base ho1)) (fun _ h_ => h_.1)); have n1_ := Aside0.mk (Kd.N_mono (Kd.N_told (Kd.N_told (Kd.N_old (by (with_reducible repeat (first | apply Kd.N_alloc | apply Kd.N_drewN | apply Kd.N_drew)); exact HO_8.out) hb) (Kd.R_base ho0)) (Kd.R_base ho1)) (fun _ h_ => h_.1)); have n2_ := Aside0.mk (Kd.N_lower (Kd.N_mono (ok' := fun k_ => some k_ ≠ (v576 : Value).ownBlock ∧ some k_ ≠ (v562 : Value).ownBlock ∧ some k_ ≠ (v568 : Value).ownBlock) (Kd.R_N (Kd.R_bound (Kd.R_apart' ho0 (Kd.R_typed ho1) (by decide)))) (fun k_ hk_ => ⟨hk_.1.2, (Kd.fresh' (Kd.N_lt (by (with_reducible repeat (first | apply Kd.N_alloc | apply Kd.N_drewN | apply Kd.N_drew)); exact HO_6.out)) k_ hk_.2.1), (Kd.fresh' (Kd.N_lt (by (with_reducible repeat (first | apply Kd.N_alloc | apply Kd.N_drewN | apply Kd.N_drew)); exact HO_8.out)) k_ hk_.2.1)⟩)) (below_size (by repeat (first | (with_reducible first | exact HB.out | apply below_alloc | apply pw_below_drewN | apply below_drew1) | exact HB.out)))); have n3_ := Aside0.mk (Kd.R_lower ho1 (below_size (by repeat (first | (with_reducible first | exact HB.out | apply below_alloc | apply pw_below_drewN | apply below_drew1) | exact HB.out)))); have n4_ := Aside0.mk (below_step (by repeat (first | (with_reducible first | exact HB.out | apply below_alloc | apply pw_below_drewN | apply below_drew1) | exact HB.out)) hb); clear HO_6; clear HO_8; clear HB; have HO_6 := n0_; have HO_8 := n1_; have HO575 := n2_; have HO577 := n3_; have HB := n4_; clear n0_ n1_ n2_ n3_ n4_; (try clear hb); (try clear hb2); (try clear hk); (try clear hi); (try clear ho0); (try clear ho1)) | ((with_reducible refine gate_dst (N := 56) rfl ?_); (try (refine gate_guard (by rfl) ?_; dsimp only)); refine Kd.N_lit k40 _ 40 ?hg (N' := 56) ?hd (xs := ([] : List (S40))) (inner := []) (ok := (fun k_ => some k_ ≠ (v562 : Value).ownBlock ∧ some k_ ≠ (v568 : Value).ownBlock ∧ some k_ ≠ (v574 : Value).ownBlock ∧ some k_ ≠ (v576 : Value).ownBlock)) (okp := (fun k_ => some k_ ≠ (v562 : Value).ownBlock ∧ some k_ ≠ (v568 : Value).ownBlock ∧ some k_ ≠ (v574 : Value).ownBlock ∧ some k_ ≠ (v576 : Value).ownBlock)) ?hr ?hp (fun _ hk => hk) ((show ∀ k_, w27.heap.size ≤ k_ → (fun k_ => some k_ ≠ (v562 : Value).ownBlock ∧ some k_ ≠ (v568 : Value).ownBlock ∧ some k_ ≠ (v574 : Value).ownBlock ∧ some k_ ≠ (v576 : Value).ownBlock) k_ from fun k_ hk => ⟨Kd.fresh' (Kd.N_lt (by (with_reducible repeat (first | apply Kd.N_alloc | apply Kd.N_drewN | apply Kd.N_drew)); exact HO_6.out)) k_ hk, Kd.fresh' (Kd.N_lt (by (with_reducible repeat (first | apply Kd.N_alloc | apply Kd.N_drewN | apply Kd.N_drew)); exact HO_8.out)) k_ hk, Kd.fresh' (Kd.N_lt (by (with_reducible repeat (first | apply Kd.N_alloc | apply Kd.N_drewN | apply Kd.N_drew)); exact HO575.out)) k_ hk, Kd.fresh' (Kd.R_lt (by (with_reducible repeat (first | apply Kd.R_alloc | apply Kd.R_drewN | apply Kd.R_drew)); exact HO577.out)) k_ hk⟩) _ (Nat.le_refl _)) (Below.refl _ _) (Nat.le_refl _) (by simp) ?_; (case hd => rfl); (case hg => rfl); (case hr => first | (go_simp; done) | (go_simp; rfl)); (case hp => exact (Reps.none _ _)); intro v579 w28 ho29 hb hg_ hnew_; clear hg_ hnew_; (first | rw [← Ny578.out] at ho29 | (simp only [Int.reduceToNat] at ho29; rw [← Ny578.out] at ho29)); have n0_ := Aside0.mk (Kd.N_elder' (by (with_reducible repeat (first | apply Kd.N_alloc | apply Kd.N_drewN | apply Kd.N_drew)); exact HO_6.out) (Kd.N_base ho29) hb); have n1_ := Aside0.mk (Kd.N_elder' (by (with_reducible repeat (first | apply Kd.N_alloc | apply Kd.N_drewN | apply Kd.N_drew)); exact HO_8.out) (Kd.N_base ho29) hb); have n2_ := Aside0.mk (Kd.N_elder' (by (with_reducible repeat (first | apply Kd.N_alloc | apply Kd.N_drewN | apply Kd.N_drew)); exact HO575.out) (Kd.N_base ho29) hb); have n3_ := Aside0.mk (Kd.R_below (by (with_reducible repeat (first | apply Kd.R_alloc | apply Kd.R_drewN | apply Kd.R_drew)); exact HO577.out) hb); have n4_ := Aside0.mk (Kd.N_lower ho29 (below_size (by repeat (first | (with_reducible first | exact HB.out | apply below_alloc | apply pw_below_drewN | apply below_drew1) | exact HB.out)))); have n5_ := Aside0.mk (below_step (by repeat (first | (with_reducible first | exact HB.out | apply below_alloc | apply pw_below_drewN | apply below_drew1) | exact HB.out)) hb); clear HO_6; clear HO_8; clear HO575; clear HO577; clear HB; have HO_6 := n0_; have HO_8 := n1_; have HO575 := n2_; have HO577 := n3_; have HO580 := n4_; have HB := n5_; clear n0_ n1_ n2_ n3_ n4_ n5_; clear hb ho29; obtain ⟨Ao31, co31, eo31⟩ := Kd.N_slice HO_6.out; subst eo31) | ((with_reducible refine gate_builtin (b := .append) (xs := #[.tmp 56, .tmp 57]) rfl ?_); (try (refine gate_guard (by rfl) ?_; dsimp only)); at_builtin; refine Kd.N_append_rows k40 (w0 := w) w.heap.size rfl (.tmp 56) (.tmp 57) 25 40 (.agg #[(.int .i64 0), (.string ⟨#[]⟩), (.slice none 0 0), (.int .i64 0)]) 56 rfl Tryd.underlying25 info40 rfl (by decide) (by omega) v579 y578 t560 _ _ _ (fun k_ => some k_ ≠ (v568 : Value).ownBlock ∧ some k_ ≠ (v574 : Value).ownBlock ∧ some k_ ≠ (v576 : Value).ownBlock) (fun k_ => ((fun k_ => some k_ ≠ (v568 : Value).ownBlock ∧ some k_ ≠ (v574 : Value).ownBlock ∧ some k_ ≠ (v576 : Value).ownBlock)) k_ ∧ some k_ ≠ (v579 : Value).ownBlock) rfl rfl ?aO ?aR (fun _ hk => hk) ?aF ?aB ?aS ?aL ?_; (case aR => exact (by skip; exact Kd.N_F (Kd.N_mono (ok' := (fun k_ => ((fun k_ => some k_ ≠ (v568 : Value).ownBlock ∧ some k_ ≠ (v574 : Value).ownBlock ∧ some k_ ≠ (v576 : Value).ownBlock)) k_ ∧ some k_ ≠ (v579 : Value).ownBlock)) (HO_6.out) (fun k_ hk => ⟨⟨hk.1.1.1, ⟨hk.1.1.2, hk.1.2⟩⟩, hk.2⟩)))); (case aB => exact (by repeat (first | (with_reducible first | exact HB.out | apply below_alloc | apply pw_below_drewN | apply below_drew1) | exact HB.out))); (case aF => exact (fun k_ hk => ⟨Kd.fresh' (Kd.N_lt (by (with_reducible repeat (first | apply Kd.N_alloc | apply Kd.N_drewN | apply Kd.N_drew)); exact HO_8.out)) k_ hk, Kd.fresh' (Kd.N_lt (by (with_reducible repeat (first | apply Kd.N_alloc | apply Kd.N_drewN | apply Kd.N_drew)); exact HO575.out)) k_ hk, Kd.fresh' (Kd.R_lt (by (with_reducible repeat (first | apply Kd.R_alloc | apply Kd.R_drewN | apply Kd.R_drew)); exact HO577.out)) k_ hk⟩)); (case aO => exact (by (with_reducible repeat (first | apply Kd.N_alloc | apply Kd.N_drewN | apply Kd.N_drew)); exact Kd.N_mono HO580.out (fun _ hk => ⟨hk.2.1, ⟨hk.2.2.1, hk.2.2.2⟩⟩))); (case aS => exact (below_size (by repeat (first | (with_reducible first | exact HB.out | apply below_alloc | apply pw_below_drewN | apply below_drew1) | exact HB.out)))); (case aL => have := LMc26.out; omega); intro v582 w30 ho hb hg hat; rw [← Ny581.out] at ho; have n0_ := Aside0.mk (Kd.N_afterv (ok := (fun k_ => some k_ ≠ (v568 : Value).ownBlock ∧ some k_ ≠ (v574 : Value).ownBlock ∧ some k_ ≠ (v576 : Value).ownBlock)) (by (with_reducible repeat (first | apply Kd.N_alloc | apply Kd.N_drewN | apply Kd.N_drew)); exact Kd.N_mono HO_6.out (fun _ hk => ⟨⟨hk.1.1.1, ⟨hk.1.1.2, hk.1.2⟩⟩, hk.2⟩)) hg hat); have n1_ := Aside0.mk (Kd.N_afterv (ok := (fun k_ => some k_ ≠ (.slice Ao31 t560.length co31 : Value).ownBlock ∧ some k_ ≠ (v574 : Value).ownBlock ∧ some k_ ≠ (v576 : Value).ownBlock)) (by (with_reducible repeat (first | apply Kd.N_alloc | apply Kd.N_drewN | apply Kd.N_drew)); exact Kd.N_mono HO_8.out (fun _ hk => ⟨⟨hk.1.1.1, ⟨hk.1.1.2, hk.1.2⟩⟩, hk.2⟩)) hg hat); have n2_ := Aside0.mk (Kd.N_afterv (ok := (fun k_ => some k_ ≠ (.slice Ao31 t560.length co31 : Value).ownBlock ∧ some k_ ≠ (v568 : Value).ownBlock ∧ some k_ ≠ (v576 : Value).ownBlock)) (by (with_reducible repeat (first | apply Kd.N_alloc | apply Kd.N_drewN | apply Kd.N_drew)); exact Kd.N_mono HO575.out (fun _ hk => ⟨⟨hk.1.2.1, ⟨hk.1.2.2, hk.1.1⟩⟩, hk.2⟩)) hg hat); have n3_ := Aside0.mk (Kd.R_over' (by (with_reducible repeat (first | apply Kd.R_alloc | apply Kd.R_drewN | apply Kd.R_drew)); exact HO577.out) (Kd.N_typed (by (with_reducible repeat (first | apply Kd.N_alloc | apply Kd.N_drewN | apply Kd.N_drew)); exact HO580.out)) (by decide) hg); have n4_ := Aside0.mk (hb); have n5_ := Aside0.mk (ho); clear HO_6; clear HO_8; clear HO575; clear HO577; clear HB; clear HO580; have HO_6 := n0_; have HO_8 := n1_; have HO575 := n2_; have HO577 := n3_; have HB := n4_; have HO583 := n5_; clear n0_ n1_ n2_ n3_ n4_ n5_; clear ho hb hg hat; obtain ⟨Ao32, co32, eo32⟩ := Kd.N_slice HO_8.out; subst eo32))
                    go_loopg [12, 61] kj9 (fun kq v12 v61 w' => ∃ (x12_2 : List (S40)) (x61_2 : Int), v61 = .int .i64 x61_2 ∧ Aside0 (slotmeshlaw02_ParserJoining.l0 kq a0 t558 t572 t573 x12_2 t566 (t566.length : Int) x61_2 = some r) ∧ Aside0 (kq ≤ kj9) ∧ Aside0 (Kd.N k40 40 w' w.heap.size (fun k_ => some k_ ≠ (v576 : Value).ownBlock ∧ some k_ ≠ (v12 : Value).ownBlock ∧ some k_ ≠ ((.slice Ao32 t566.length co32) : Value).ownBlock) v574 t572) ∧ Aside0 (Kd.R k54 54 w' w.heap.size (fun _ => True) v576 t573) ∧ Aside0 (Kd.N k40 40 w' w.heap.size (fun k_ => some k_ ≠ (v574 : Value).ownBlock ∧ some k_ ≠ (v576 : Value).ownBlock ∧ some k_ ≠ ((.slice Ao32 t566.length co32) : Value).ownBlock) v12 x12_2) ∧ Aside0 (Kd.N k40 40 w' w.heap.size (fun k_ => some k_ ≠ (v574 : Value).ownBlock ∧ some k_ ≠ (v576 : Value).ownBlock ∧ some k_ ≠ (v12 : Value).ownBlock) (.slice Ao32 t566.length co32) t566) ∧ Aside0 (Below w.heap.size w w'))
                    case atStart => exact ⟨(y581), (0), (by first | rfl | (simp; done) | (simp [*]; done)), H', ⟨Nat.le_refl _⟩, ⟨by (with_reducible repeat (first | apply Kd.N_alloc | apply Kd.N_drewN | apply Kd.N_drew)); exact Kd.N_mono HO575.out (fun _ hk => ⟨hk.1.2.2, ⟨hk.2, hk.1.2.1⟩⟩)⟩, ⟨by (with_reducible repeat (first | apply Kd.R_alloc | apply Kd.R_drewN | apply Kd.R_drew)); exact HO577.out⟩, ⟨by (with_reducible repeat (first | apply Kd.N_alloc | apply Kd.N_drewN | apply Kd.N_drew)); exact Kd.N_mono HO583.out (fun _ hk => ⟨hk.2.1, ⟨hk.2.2, hk.1⟩⟩)⟩, ⟨by (with_reducible repeat (first | apply Kd.N_alloc | apply Kd.N_drewN | apply Kd.N_drew)); exact Kd.N_mono HO_8.out (fun _ hk => ⟨hk.1.2.1, ⟨hk.1.2.2, hk.2⟩⟩)⟩, ⟨by repeat (first | (with_reducible first | exact HB.out | apply below_alloc | apply pw_below_drewN | apply below_drew1) | exact HB.out)⟩⟩
                    case round =>
                      clear H'
                      try clear c1
                      try clear c2
                      try clear p2
                      try clear c3
                      try clear c4
                      try clear c4b0
                      try clear c4b1
                      try clear c4b2
                      try clear c5
                      try clear c5b0
                      try clear c5b1
                      try clear c5b2
                      try clear p6
                      try clear c7
                      try clear c11
                      try clear c15
                      try clear c15b0
                      try clear c20
                      try clear c22
                      try clear c23
                      try clear c23b0
                      try clear c23b1
                      try clear c23b2
                      try clear c24
                      try clear c24b0
                      try clear c24b1
                      try clear c24b2
                      try clear c26
                      try clear c32
                      try clear p2
                      try clear p6
                      obtain ⟨x12_2, x61_2, rfl, HA, HK2, HO_10, HO_11, HO_12, HO_59, HB⟩ := hrel
                      cases gk with
                      | zero => exact absurd HA.out (by simp [slotmeshlaw02_ParserJoining.l0])
                      | succ k2 =>
                        have H := HA.out
                        clear HA
                        simp only [slotmeshlaw02_ParserJoining.l0] at H
                        by_cases c33 : x61_2 < (t566.length : Int)
                        · rw [if_pos c33] at H
                          have c33b0 : decide (x61_2 < (t566.length : Int)) = true := decide_eq_true c33
                          clear c33
                          by_cases c34 : 0 ≤ x61_2
                          · rw [if_pos c34] at H
                            have c34b0 : decide (0 ≤ x61_2) = true := decide_eq_true c34
                            clear c34
                            by_cases c35 : x61_2 < (t566.length : Int)
                            · rw [if_pos c35] at H
                              have c35b0 : decide (x61_2 < (t566.length : Int)) = true := decide_eq_true c35
                              clear c35
                              by_cases c36 : x12_2.length < 2513169434916
                              · rw [if_pos c36] at H
                                have LMc36 := Aside0.mk c36
                                clear c36
                                obtain ⟨y586, hy586⟩ : ∃ y_ : List (S40), y_ = (x12_2 ++ [(⟨(rd_T40 t566 x61_2).f0, (rd_T40 t566 x61_2).f1, (rd_T40 t566 x61_2).f2, wrap64 (((rd_T40 t566 x61_2).f3) + (wrap64 ((a0.size : Int) + 1)))⟩ : S40)]) := ⟨_, rfl⟩
                                replace H : (slotmeshlaw02_ParserJoining.l0 k2 a0 t558 t572 t573 y586 t566 (t566.length : Int) (wrap64 (x61_2 + 1))) = some r := by first | (rw [hy586]; with_reducible exact H) | (have H2_ := (Option.bind_some _ _).symm.trans H; rw [hy586]; with_reducible exact H2_) | (have H2_ := (Option.bind_some _ _).symm.trans H; with_reducible exact H2_) | with_reducible exact H | (rw [hy586]; exact H) | exact H
                                have Ny586 := Aside0.mk hy586
                                clear hy586
                                have H' := Aside0.mk H
                                clear H
                                have p584 : 0 ≤ (x61_2 : Int) := of_decide_eq_true (by first | (with_reducible assumption) | assumption)
                                have q584 : x61_2 < (t566.length : Int) := of_decide_eq_true (by first | (with_reducible assumption) | assumption)
                                obtain ⟨ad584, A584_2, c584_2, e584, hx584_0, hx584_1, hx584_2, hx584_3, hl584_2, hi584_2⟩ := at_T40 (Kd.N_reads' HO_59.out).2.2 x61_2 p584 q584
                                cases e584
                                obtain ⟨ce584, hce584, hMe584, hcc584⟩ := Kd.N_get HO_59.out z40 x61_2 p584 (by first | exact q584 | exact of_decide_eq_true (by first | (with_reducible assumption) | assumption) | (have e_ := (Kd.N_reads' HO_59.out).1; omega))
                                obtain ⟨ua584_2, uc584_2, rfl, ul584_2, ge584_2⟩ := k40_openF hMe584
                                have hv584_2 := hcc584 2 _ rfl
                                rw [add_field _ _ 2 (by omega)] at hv584_2
                                replace hv584_2 := Option.some.inj (hv584_2.symm.trans hx584_2)
                                injection hv584_2 with hva_ hvn_ hvc_
                                rw [hva_] at ge584_2
                                rw [hvc_] at ul584_2
                                have HL584_2 := Aside0.mk (show Kd.V (Kd.int .i64) 3 _ w.heap.size _ _ ((rd_T40 t566 x61_2).f2) from Kd.V_mk ul584_2 ge584_2)
                                clear hva_ hvn_ hvc_ ge584_2 ul584_2
                                clear hcc584 hce584
                                have HR584_2 := Aside0.mk hi584_2
                                have HC584_2 := Aside0.mk hl584_2
                                clear hi584_2 hl584_2
                                replace p584 := eq_true p584
                                replace q584 := eq_true q584
                                go_wp2_with (first | ((with_reducible refine gate_dst (N := 14) rfl ?_); (try (refine gate_guard (by rfl) ?_; dsimp only)); refine box_event ?hg (N := 14) ?hd (cs := #[.int .i64 0, .string (⟨#[]⟩ : ByteArray), .slice none 0 0, .int .i64 0]) (t := 40) ?hr ?_; (case hd => rfl); (case hg => rfl); (case hr => first | (go_simp; done) | (go_simp; rfl)); intro gb585 hg w37 hbox hb; have n0_ := Aside0.mk (Kd.N_below (Kd.N_elderB (by (with_reducible repeat (first | apply Kd.N_alloc | apply Kd.N_drewN | apply Kd.N_drew)); exact HO_10.out) gb585 (Nat.le_of_eq hg.symm)) hb); have n1_ := Aside0.mk (Kd.R_below (by (with_reducible repeat (first | apply Kd.R_alloc | apply Kd.R_drewN | apply Kd.R_drew)); exact HO_11.out) hb); have n2_ := Aside0.mk (Kd.N_below (Kd.N_elderB (by (with_reducible repeat (first | apply Kd.N_alloc | apply Kd.N_drewN | apply Kd.N_drew)); exact HO_12.out) gb585 (Nat.le_of_eq hg.symm)) hb); have n3_ := Aside0.mk (Kd.N_below (Kd.N_elderB (by (with_reducible repeat (first | apply Kd.N_alloc | apply Kd.N_drewN | apply Kd.N_drew)); exact HO_59.out) gb585 (Nat.le_of_eq hg.symm)) hb); have n4_ := Aside0.mk (Kd.V_below (Kd.V_elderB (by (with_reducible repeat (first | apply Kd.V_alloc | apply Kd.V_drewN | apply Kd.V_drew)); exact HL584_2.out) gb585 (Nat.le_of_eq hg.symm)) hb); have n5_ := Aside0.mk (Kd.C_below (by repeat (first | (with_reducible exact HR584_2.out) | (with_reducible refine Kd.C_alloc ?_ _) | (with_reducible refine Kd.C_drewN ?_ _) | (with_reducible refine Kd.C_drew ?_) | exact HR584_2.out)) hb); have n6_ := Aside0.mk (below_step (by repeat (first | (with_reducible first | exact HB.out | apply below_alloc | apply pw_below_drewN | apply below_drew1) | exact HB.out)) hb); have n7_ := Aside0.mk (hbox); have n8_ := Aside0.mk ((by rw [hg]; exact (below_size (by repeat (first | (with_reducible first | exact HB.out | apply below_alloc | apply pw_below_drewN | apply below_drew1) | exact HB.out))) : w.heap.size ≤ gb585)); have n9_ := Aside0.mk ((by rw [hg]; exact (below_size (by repeat (first | (with_reducible first | exact HB.out | apply below_alloc | apply pw_below_drewN | apply below_drew1) | exact HB.out))) : w.heap.size ≤ gb585)); clear HO_10; clear HO_11; clear HO_12; clear HO_59; clear HL584_2; clear HR584_2; clear HB; have HO_10 := n0_; have HO_11 := n1_; have HO_12 := n2_; have HO_59 := n3_; have HL584_2 := n4_; have HR584_2 := n5_; have HB := n6_; have BK585 := n7_; have GW585 := n8_; have GE585 := n9_; clear n0_ n1_ n2_ n3_ n4_ n5_ n6_ n7_ n8_ n9_; clear hb hbox hg; have hcz38_0 : w37.cell? ⟨gb585, 0, none⟩ = some (.int .i64 0) := (blk_cell BK585.out 0).trans rfl; have hcz38_1 : w37.cell? ⟨gb585, 1, none⟩ = some (.string (⟨#[]⟩ : ByteArray)) := (blk_cell BK585.out 1).trans rfl; have hcz38_2 : w37.cell? ⟨gb585, 2, none⟩ = some (.slice none 0 0) := (blk_cell BK585.out 2).trans rfl; have hcz38_3 : w37.cell? ⟨gb585, 3, none⟩ = some (.int .i64 0) := (blk_cell BK585.out 3).trans rfl; have hfz38_0 := blk_frozen BK585.out 0; have hfz38_1 := blk_frozen BK585.out 1; have hfz38_2 := blk_frozen BK585.out 2; have hfz38_3 := blk_frozen BK585.out 3; have hZZgb585 : ∀ a b c d x : Value, (((((w37.setCell ⟨gb585, 0, none⟩ a).setCell ⟨gb585, 1, none⟩ b).setCell ⟨gb585, 2, none⟩ c).setCell ⟨gb585, 3, none⟩ d).setCell ⟨gb585, 3, none⟩ x).cell? ⟨gb585, 3, none⟩ = some x := fun a b c d x => (blk_cell (blk_set (blk_set (blk_set (blk_set (blk_set BK585.out 0 a) 1 b) 2 c) 3 d) 3 x) 3).trans rfl) | ((with_reducible refine gate_store (t := 40) (p := 14) rfl ?_); refine store_event (t := 40) (p := 14) (v := ?vo_w39) (w1 := ((((w37.setCell ⟨gb585, 0, none⟩ (.int .i64 ((rd_T40 t566 x61_2).f0))).setCell ⟨gb585, 1, none⟩ (.string ((rd_T40 t566 x61_2).f1))).setCell ⟨gb585, 2, none⟩ (.slice A584_2 ((rd_T40 t566 x61_2).f2).length c584_2)).setCell ⟨gb585, 3, none⟩ (.int .i64 ((rd_T40 t566 x61_2).f3)))) ?hg ?ho ?hn ?hr ?_; (case ho => rfl); (case hg => rfl); (case hn => rfl); (case hr => first | (go_simp; done) | (go_simp; rfl)); intro w39 hw; have n0_ : Aside0 (Kd.N k40 40 w39 w.heap.size (fun k_ => some k_ ≠ (v576 : Value).ownBlock ∧ some k_ ≠ (u12 : Value).ownBlock ∧ some k_ ≠ (.slice (some ad584) t566.length co32 : Value).ownBlock ∧ k_ ≠ gb585) v574 t572) := ⟨(by rw [hw]; exact (by (with_reducible repeat (first | apply Kd.N_alloc | apply Kd.N_drewN | apply Kd.N_drew)); exact Kd.N_mono (Kd.N_far (p := ⟨gb585, 3, none⟩) (Kd.N_far (p := ⟨gb585, 2, none⟩) (Kd.N_far (p := ⟨gb585, 1, none⟩) (Kd.N_far (p := ⟨gb585, 0, none⟩) (Kd.N_mono HO_10.out (fun k_ hk => (⟨hk, hk.2⟩ : _ ∧ k_ ≠ gb585))) (fun _ hk => hk.2) (.int .i64 ((rd_T40 t566 x61_2).f0))) (fun _ hk => hk.2) (.string ((rd_T40 t566 x61_2).f1))) (fun _ hk => hk.2) (.slice A584_2 ((rd_T40 t566 x61_2).f2).length c584_2)) (fun _ hk => hk.2) (.int .i64 ((rd_T40 t566 x61_2).f3))) (fun _ hk => ⟨hk.1.1.1, ⟨hk.1.1.2.1, ⟨hk.1.1.2.2, hk.1.2⟩⟩⟩)))⟩; have n1_ : Aside0 (Kd.R k54 54 w39 w.heap.size (fun _ => True) v576 t573) := ⟨(by rw [hw]; exact (by (with_reducible repeat (first | apply Kd.R_alloc | apply Kd.R_drewN | apply Kd.R_drew)); exact Kd.R_mono (Kd.R_far (p := ⟨gb585, 3, none⟩) (Kd.R_far (p := ⟨gb585, 2, none⟩) (Kd.R_far (p := ⟨gb585, 1, none⟩) (Kd.R_far (p := ⟨gb585, 0, none⟩) (Kd.R_types HO_11.out BK585.out (by decide)) (fun _ hk => hk.2) (.int .i64 ((rd_T40 t566 x61_2).f0))) (fun _ hk => hk.2) (.string ((rd_T40 t566 x61_2).f1))) (fun _ hk => hk.2) (.slice A584_2 ((rd_T40 t566 x61_2).f2).length c584_2)) (fun _ hk => hk.2) (.int .i64 ((rd_T40 t566 x61_2).f3))) (fun _ hk => trivial)))⟩; have n2_ : Aside0 (Kd.N k40 40 w39 w.heap.size (fun k_ => some k_ ≠ (v574 : Value).ownBlock ∧ some k_ ≠ (v576 : Value).ownBlock ∧ some k_ ≠ (.slice (some ad584) t566.length co32 : Value).ownBlock ∧ k_ ≠ gb585) u12 x12_2) := ⟨(by rw [hw]; exact (by (with_reducible repeat (first | apply Kd.N_alloc | apply Kd.N_drewN | apply Kd.N_drew)); exact Kd.N_mono (Kd.N_far (p := ⟨gb585, 3, none⟩) (Kd.N_far (p := ⟨gb585, 2, none⟩) (Kd.N_far (p := ⟨gb585, 1, none⟩) (Kd.N_far (p := ⟨gb585, 0, none⟩) (Kd.N_mono HO_12.out (fun k_ hk => (⟨hk, hk.2⟩ : _ ∧ k_ ≠ gb585))) (fun _ hk => hk.2) (.int .i64 ((rd_T40 t566 x61_2).f0))) (fun _ hk => hk.2) (.string ((rd_T40 t566 x61_2).f1))) (fun _ hk => hk.2) (.slice A584_2 ((rd_T40 t566 x61_2).f2).length c584_2)) (fun _ hk => hk.2) (.int .i64 ((rd_T40 t566 x61_2).f3))) (fun _ hk => ⟨hk.1.1.1, ⟨hk.1.1.2.1, ⟨hk.1.1.2.2, hk.1.2⟩⟩⟩)))⟩; have n3_ : Aside0 (Kd.N k40 40 w39 w.heap.size (fun k_ => some k_ ≠ (v574 : Value).ownBlock ∧ some k_ ≠ (v576 : Value).ownBlock ∧ some k_ ≠ (u12 : Value).ownBlock ∧ k_ ≠ gb585) (.slice (some ad584) t566.length co32) t566) := ⟨(by rw [hw]; exact (by (with_reducible repeat (first | apply Kd.N_alloc | apply Kd.N_drewN | apply Kd.N_drew)); exact Kd.N_mono (Kd.N_far (p := ⟨gb585, 3, none⟩) (Kd.N_far (p := ⟨gb585, 2, none⟩) (Kd.N_far (p := ⟨gb585, 1, none⟩) (Kd.N_far (p := ⟨gb585, 0, none⟩) (Kd.N_mono HO_59.out (fun k_ hk => (⟨hk, hk.2⟩ : _ ∧ k_ ≠ gb585))) (fun _ hk => hk.2) (.int .i64 ((rd_T40 t566 x61_2).f0))) (fun _ hk => hk.2) (.string ((rd_T40 t566 x61_2).f1))) (fun _ hk => hk.2) (.slice A584_2 ((rd_T40 t566 x61_2).f2).length c584_2)) (fun _ hk => hk.2) (.int .i64 ((rd_T40 t566 x61_2).f3))) (fun _ hk => ⟨hk.1.1.1, ⟨hk.1.1.2.1, ⟨hk.1.1.2.2, hk.1.2⟩⟩⟩)))⟩; have n4_ : Aside0 (Kd.V (Kd.int .i64) 3 w39 w.heap.size (fun k_ => some k_ ≠ (v574 : Value).ownBlock ∧ some k_ ≠ (v576 : Value).ownBlock ∧ some k_ ≠ (u12 : Value).ownBlock ∧ some k_ ≠ (.slice (some ad584) t566.length co32 : Value).ownBlock ∧ k_ ≠ gb585) (.slice A584_2 ((rd_T40 t566 x61_2).f2).length c584_2) ((rd_T40 t566 x61_2).f2)) := ⟨(by rw [hw]; exact (by (with_reducible repeat (first | apply Kd.V_alloc | apply Kd.V_drewN | apply Kd.V_drew)); exact Kd.V_mono (Kd.V_far (p := ⟨gb585, 3, none⟩) (Kd.V_far (p := ⟨gb585, 2, none⟩) (Kd.V_far (p := ⟨gb585, 1, none⟩) (Kd.V_far (p := ⟨gb585, 0, none⟩) (Kd.V_mono HL584_2.out (fun k_ hk => (⟨hk, hk.2⟩ : _ ∧ k_ ≠ gb585))) (fun _ hk => hk.2) (.int .i64 ((rd_T40 t566 x61_2).f0))) (fun _ hk => hk.2) (.string ((rd_T40 t566 x61_2).f1))) (fun _ hk => hk.2) (.slice A584_2 ((rd_T40 t566 x61_2).f2).length c584_2)) (fun _ hk => hk.2) (.int .i64 ((rd_T40 t566 x61_2).f3))) (fun _ hk => ⟨hk.1.1.1.1, ⟨hk.1.1.1.2.1, ⟨hk.1.1.1.2.2, ⟨hk.1.1.2, hk.1.2⟩⟩⟩⟩)))⟩; have n5_ : Aside0 (w39.heap[gb585]? = some (.cells #[.int .i64 ((rd_T40 t566 x61_2).f0), .string ((rd_T40 t566 x61_2).f1), .slice A584_2 ((rd_T40 t566 x61_2).f2).length c584_2, .int .i64 ((rd_T40 t566 x61_2).f3)] 40 (0, 0))) := ⟨(by rw [hw]; exact (by (with_reducible repeat (first | refine blk_drewN ?_ _ | refine blk_drew ?_ | refine blk_alloc ?_ _)); refine blk_put (cs := #[.int .i64 ((rd_T40 t566 x61_2).f0), .string ((rd_T40 t566 x61_2).f1), .slice A584_2 ((rd_T40 t566 x61_2).f2).length c584_2, .int .i64 0]) ?_ 3 _ rfl; (with_reducible repeat (first | refine blk_drewN ?_ _ | refine blk_drew ?_ | refine blk_alloc ?_ _)); refine blk_put (cs := #[.int .i64 ((rd_T40 t566 x61_2).f0), .string ((rd_T40 t566 x61_2).f1), .slice none 0 0, .int .i64 0]) ?_ 2 _ rfl; (with_reducible repeat (first | refine blk_drewN ?_ _ | refine blk_drew ?_ | refine blk_alloc ?_ _)); refine blk_put (cs := #[.int .i64 ((rd_T40 t566 x61_2).f0), .string (⟨#[]⟩ : ByteArray), .slice none 0 0, .int .i64 0]) ?_ 1 _ rfl; (with_reducible repeat (first | refine blk_drewN ?_ _ | refine blk_drew ?_ | refine blk_alloc ?_ _)); refine blk_put (cs := #[.int .i64 0, .string (⟨#[]⟩ : ByteArray), .slice none 0 0, .int .i64 0]) ?_ 0 _ rfl; (with_reducible repeat (first | refine blk_drewN ?_ _ | refine blk_drew ?_ | refine blk_alloc ?_ _)); exact BK585.out))⟩; have n6_ : Aside0 (Below w.heap.size w w39) := ⟨(by rw [hw]; exact (by repeat (first | (with_reducible first | exact HB.out | apply below_alloc | apply pw_below_drewN | apply below_drew1 | refine below_set ?_ GE585.out) | exact HB.out)))⟩; clear hw; clear HO_10; clear HO_11; clear HO_12; clear HO_59; clear HL584_2; clear BK585; clear HB; have HO_10 := n0_; have HO_11 := n1_; have HO_12 := n2_; have HO_59 := n3_; have HL584_2 := n4_; have BK585 := n5_; have HB := n6_; clear n0_ n1_ n2_ n3_ n4_ n5_ n6_; have hcz40_0 : w39.cell? ⟨gb585, 0, none⟩ = some (.int .i64 ((rd_T40 t566 x61_2).f0)) := (blk_cell BK585.out 0).trans rfl; have hcz40_1 : w39.cell? ⟨gb585, 1, none⟩ = some (.string ((rd_T40 t566 x61_2).f1)) := (blk_cell BK585.out 1).trans rfl; have hcz40_2 : w39.cell? ⟨gb585, 2, none⟩ = some (.slice A584_2 ((rd_T40 t566 x61_2).f2).length c584_2) := (blk_cell BK585.out 2).trans rfl; have hcz40_3 : w39.cell? ⟨gb585, 3, none⟩ = some (.int .i64 ((rd_T40 t566 x61_2).f3)) := (blk_cell BK585.out 3).trans rfl; have hfz40_0 := blk_frozen BK585.out 0; have hfz40_1 := blk_frozen BK585.out 1; have hfz40_2 := blk_frozen BK585.out 2; have hfz40_3 := blk_frozen BK585.out 3) | ((with_reducible refine gate_store (t := 3) (p := 71) rfl ?_); refine store_event (t := 3) (p := 71) (v := ?vo_w41) (w1 := (w39.setCell ⟨gb585, 3, none⟩ (.int .i64 (wrap64 (((rd_T40 t566 x61_2).f3) + (wrap64 ((a0.size : Int) + 1))))))) ?hg ?ho ?hn ?hr ?_; (case ho => rfl); (case hg => rfl); (case hn => rfl); (case hr => first | (go_simp; done) | (go_simp; rfl)); intro w41 hw; have n0_ : Aside0 (Kd.N k40 40 w41 w.heap.size (fun k_ => some k_ ≠ (v576 : Value).ownBlock ∧ some k_ ≠ (u12 : Value).ownBlock ∧ some k_ ≠ (.slice (some ad584) t566.length co32 : Value).ownBlock ∧ k_ ≠ gb585) v574 t572) := ⟨(by rw [hw]; exact (by (with_reducible repeat (first | apply Kd.N_alloc | apply Kd.N_drewN | apply Kd.N_drew)); exact Kd.N_mono (Kd.N_far (p := ⟨gb585, 3, none⟩) (Kd.N_mono HO_10.out (fun k_ hk => (⟨hk, hk.2.2.2⟩ : _ ∧ k_ ≠ gb585))) (fun _ hk => hk.2) (.int .i64 (wrap64 (((rd_T40 t566 x61_2).f3) + (wrap64 ((a0.size : Int) + 1)))))) (fun _ hk => ⟨hk.1.1, ⟨hk.1.2.1, ⟨hk.1.2.2.1, hk.1.2.2.2⟩⟩⟩)))⟩; have n1_ : Aside0 (Kd.R k54 54 w41 w.heap.size (fun _ => True) v576 t573) := ⟨(by rw [hw]; exact (by (with_reducible repeat (first | apply Kd.R_alloc | apply Kd.R_drewN | apply Kd.R_drew)); exact Kd.R_mono (Kd.R_far (p := ⟨gb585, 3, none⟩) (Kd.R_types HO_11.out BK585.out (by decide)) (fun _ hk => hk.2) (.int .i64 (wrap64 (((rd_T40 t566 x61_2).f3) + (wrap64 ((a0.size : Int) + 1)))))) (fun _ hk => trivial)))⟩; have n2_ : Aside0 (Kd.N k40 40 w41 w.heap.size (fun k_ => some k_ ≠ (v574 : Value).ownBlock ∧ some k_ ≠ (v576 : Value).ownBlock ∧ some k_ ≠ (.slice (some ad584) t566.length co32 : Value).ownBlock ∧ k_ ≠ gb585) u12 x12_2) := ⟨(by rw [hw]; exact (by (with_reducible repeat (first | apply Kd.N_alloc | apply Kd.N_drewN | apply Kd.N_drew)); exact Kd.N_mono (Kd.N_far (p := ⟨gb585, 3, none⟩) (Kd.N_mono HO_12.out (fun k_ hk => (⟨hk, hk.2.2.2⟩ : _ ∧ k_ ≠ gb585))) (fun _ hk => hk.2) (.int .i64 (wrap64 (((rd_T40 t566 x61_2).f3) + (wrap64 ((a0.size : Int) + 1)))))) (fun _ hk => ⟨hk.1.1, ⟨hk.1.2.1, ⟨hk.1.2.2.1, hk.1.2.2.2⟩⟩⟩)))⟩; have n3_ : Aside0 (Kd.N k40 40 w41 w.heap.size (fun k_ => some k_ ≠ (v574 : Value).ownBlock ∧ some k_ ≠ (v576 : Value).ownBlock ∧ some k_ ≠ (u12 : Value).ownBlock ∧ k_ ≠ gb585) (.slice (some ad584) t566.length co32) t566) := ⟨(by rw [hw]; exact (by (with_reducible repeat (first | apply Kd.N_alloc | apply Kd.N_drewN | apply Kd.N_drew)); exact Kd.N_mono (Kd.N_far (p := ⟨gb585, 3, none⟩) (Kd.N_mono HO_59.out (fun k_ hk => (⟨hk, hk.2.2.2⟩ : _ ∧ k_ ≠ gb585))) (fun _ hk => hk.2) (.int .i64 (wrap64 (((rd_T40 t566 x61_2).f3) + (wrap64 ((a0.size : Int) + 1)))))) (fun _ hk => ⟨hk.1.1, ⟨hk.1.2.1, ⟨hk.1.2.2.1, hk.1.2.2.2⟩⟩⟩)))⟩; have n4_ : Aside0 (Kd.V (Kd.int .i64) 3 w41 w.heap.size (fun k_ => some k_ ≠ (v574 : Value).ownBlock ∧ some k_ ≠ (v576 : Value).ownBlock ∧ some k_ ≠ (u12 : Value).ownBlock ∧ some k_ ≠ (.slice (some ad584) t566.length co32 : Value).ownBlock ∧ k_ ≠ gb585) (.slice A584_2 ((rd_T40 t566 x61_2).f2).length c584_2) ((rd_T40 t566 x61_2).f2)) := ⟨(by rw [hw]; exact (by (with_reducible repeat (first | apply Kd.V_alloc | apply Kd.V_drewN | apply Kd.V_drew)); exact Kd.V_mono (Kd.V_far (p := ⟨gb585, 3, none⟩) (Kd.V_mono HL584_2.out (fun k_ hk => (⟨hk, hk.2.2.2.2⟩ : _ ∧ k_ ≠ gb585))) (fun _ hk => hk.2) (.int .i64 (wrap64 (((rd_T40 t566 x61_2).f3) + (wrap64 ((a0.size : Int) + 1)))))) (fun _ hk => ⟨hk.1.1, ⟨hk.1.2.1, ⟨hk.1.2.2.1, ⟨hk.1.2.2.2.1, hk.1.2.2.2.2⟩⟩⟩⟩)))⟩; have n5_ : Aside0 (w41.heap[gb585]? = some (.cells #[.int .i64 ((rd_T40 t566 x61_2).f0), .string ((rd_T40 t566 x61_2).f1), .slice A584_2 ((rd_T40 t566 x61_2).f2).length c584_2, .int .i64 (wrap64 (((rd_T40 t566 x61_2).f3) + (wrap64 ((a0.size : Int) + 1))))] 40 (0, 0))) := ⟨(by rw [hw]; exact (by (with_reducible repeat (first | refine blk_drewN ?_ _ | refine blk_drew ?_ | refine blk_alloc ?_ _)); refine blk_put (cs := #[.int .i64 ((rd_T40 t566 x61_2).f0), .string ((rd_T40 t566 x61_2).f1), .slice A584_2 ((rd_T40 t566 x61_2).f2).length c584_2, .int .i64 ((rd_T40 t566 x61_2).f3)]) ?_ 3 _ rfl; (with_reducible repeat (first | refine blk_drewN ?_ _ | refine blk_drew ?_ | refine blk_alloc ?_ _)); exact BK585.out))⟩; have n6_ : Aside0 (Below w.heap.size w w41) := ⟨(by rw [hw]; exact (by repeat (first | (with_reducible first | exact HB.out | apply below_alloc | apply pw_below_drewN | apply below_drew1 | refine below_set ?_ GE585.out) | exact HB.out)))⟩; clear hw; clear HO_10; clear HO_11; clear HO_12; clear HO_59; clear HL584_2; clear BK585; clear HB; have HO_10 := n0_; have HO_11 := n1_; have HO_12 := n2_; have HO_59 := n3_; have HL584_2 := n4_; have BK585 := n5_; have HB := n6_; clear n0_ n1_ n2_ n3_ n4_ n5_ n6_; have hcz42_0 : w41.cell? ⟨gb585, 0, none⟩ = some (.int .i64 ((rd_T40 t566 x61_2).f0)) := (blk_cell BK585.out 0).trans rfl; have hcz42_1 : w41.cell? ⟨gb585, 1, none⟩ = some (.string ((rd_T40 t566 x61_2).f1)) := (blk_cell BK585.out 1).trans rfl; have hcz42_2 : w41.cell? ⟨gb585, 2, none⟩ = some (.slice A584_2 ((rd_T40 t566 x61_2).f2).length c584_2) := (blk_cell BK585.out 2).trans rfl; have hcz42_3 : w41.cell? ⟨gb585, 3, none⟩ = some (.int .i64 (wrap64 (((rd_T40 t566 x61_2).f3) + (wrap64 ((a0.size : Int) + 1))))) := (blk_cell BK585.out 3).trans rfl; have hfz42_0 := blk_frozen BK585.out 0; have hfz42_1 := blk_frozen BK585.out 1; have hfz42_2 := blk_frozen BK585.out 2; have hfz42_3 := blk_frozen BK585.out 3) | ((with_reducible refine gate_builtin (b := .append) (xs := #[.tmp 72, .tmp 74]) rfl ?_); (try (refine gate_guard (by rfl) ?_; dsimp only)); at_builtin; refine Kd.N_append k40 (w0 := w) w.heap.size rfl (.tmp 72) (.tmp 74) 25 40 (.agg #[(.int .i64 0), (.string ⟨#[]⟩), (.slice none 0 0), (.int .i64 0)]) 56 rfl Tryd.underlying25 info40 rfl (by decide) (by omega) u12 x12_2 (⟨(rd_T40 t566 x61_2).f0, (rd_T40 t566 x61_2).f1, (rd_T40 t566 x61_2).f2, wrap64 (((rd_T40 t566 x61_2).f3) + (wrap64 ((a0.size : Int) + 1)))⟩ : S40) [.int .i64 ((rd_T40 t566 x61_2).f0), .string ((rd_T40 t566 x61_2).f1), .slice A584_2 ((rd_T40 t566 x61_2).f2).length c584_2, .int .i64 (wrap64 (((rd_T40 t566 x61_2).f3) + (wrap64 ((a0.size : Int) + 1))))] (fun k_ => some k_ ≠ (v574 : Value).ownBlock ∧ some k_ ≠ (v576 : Value).ownBlock ∧ some k_ ≠ (.slice (some ad584) t566.length co32 : Value).ownBlock ∧ k_ ≠ gb585) (fun k_ => ((fun k_ => some k_ ≠ (v574 : Value).ownBlock ∧ some k_ ≠ (v576 : Value).ownBlock ∧ some k_ ≠ (.slice (some ad584) t566.length co32 : Value).ownBlock ∧ k_ ≠ gb585)) k_ ∧ some k_ ≠ (u12 : Value).ownBlock) rfl rfl ?aP (fun _ hk => hk) ?aF ?aO ?aB ?aS ?aL ?_; (case aP => exact (k40_mkF _ _ (⟨(rd_T40 t566 x61_2).f0, (rd_T40 t566 x61_2).f1, (rd_T40 t566 x61_2).f2, wrap64 (((rd_T40 t566 x61_2).f3) + (wrap64 ((a0.size : Int) + 1)))⟩ : S40) (Kd.V_reads' (Kd.V_mono (ok' := (fun k_ => ((fun k_ => some k_ ≠ (v574 : Value).ownBlock ∧ some k_ ≠ (v576 : Value).ownBlock ∧ some k_ ≠ (.slice (some ad584) t566.length co32 : Value).ownBlock ∧ k_ ≠ gb585)) k_ ∧ some k_ ≠ (u12 : Value).ownBlock)) (HL584_2.out) (fun k_ hk => ⟨⟨hk.1, ⟨hk.2.1, ⟨hk.2.2.2.1, hk.2.2.2.2⟩⟩⟩, hk.2.2.1⟩))).2.1 (Kd.V_F (Kd.V_mono (ok' := (fun k_ => ((fun k_ => some k_ ≠ (v574 : Value).ownBlock ∧ some k_ ≠ (v576 : Value).ownBlock ∧ some k_ ≠ (.slice (some ad584) t566.length co32 : Value).ownBlock ∧ k_ ≠ gb585)) k_ ∧ some k_ ≠ (u12 : Value).ownBlock)) (HL584_2.out) (fun k_ hk => ⟨⟨hk.1, ⟨hk.2.1, ⟨hk.2.2.2.1, hk.2.2.2.2⟩⟩⟩, hk.2.2.1⟩))))); (case aB => exact (by repeat (first | (with_reducible first | exact HB.out | apply below_alloc | apply pw_below_drewN | apply below_drew1 | refine below_set ?_ GE585.out) | exact HB.out))); (case aF => exact (fun k_ hk => ⟨Kd.fresh' (Kd.N_lt (by (with_reducible repeat (first | apply Kd.N_alloc | apply Kd.N_drewN | apply Kd.N_drew)); exact HO_10.out)) k_ hk, Kd.fresh' (Kd.R_lt (by (with_reducible repeat (first | apply Kd.R_alloc | apply Kd.R_drewN | apply Kd.R_drew)); exact HO_11.out)) k_ hk, Kd.fresh' (Kd.N_lt (by (with_reducible repeat (first | apply Kd.N_alloc | apply Kd.N_drewN | apply Kd.N_drew)); exact HO_59.out)) k_ hk, Kd.freshB (g := gb585) (o := .cells #[.int .i64 ((rd_T40 t566 x61_2).f0), .string ((rd_T40 t566 x61_2).f1), .slice A584_2 ((rd_T40 t566 x61_2).f2).length c584_2, .int .i64 (wrap64 (((rd_T40 t566 x61_2).f3) + (wrap64 ((a0.size : Int) + 1))))] 40 (0, 0)) (by (with_reducible repeat (first | refine blk_drewN ?_ _ | refine blk_drew ?_ | refine blk_alloc ?_ _)); exact BK585.out) k_ hk⟩)); (case aO => exact (by (with_reducible repeat (first | apply Kd.N_alloc | apply Kd.N_drewN | apply Kd.N_drew)); exact HO_12.out)); (case aS => exact (below_size (by repeat (first | (with_reducible first | exact HB.out | apply below_alloc | apply pw_below_drewN | apply below_drew1 | refine below_set ?_ GE585.out) | exact HB.out)))); (case aL => have := LMc36.out; omega); intro v587 w43 ho hb hg hat; rw [← Ny586.out] at ho; have n0_ := Aside0.mk (Kd.N_afterv (ok := (fun k_ => some k_ ≠ (v576 : Value).ownBlock ∧ some k_ ≠ (.slice (some ad584) t566.length co32 : Value).ownBlock ∧ k_ ≠ gb585)) (by (with_reducible repeat (first | apply Kd.N_alloc | apply Kd.N_drewN | apply Kd.N_drew)); exact Kd.N_mono HO_10.out (fun _ hk => ⟨⟨hk.1, ⟨hk.2.2.1, hk.2.2.2⟩⟩, hk.2.1⟩)) hg hat); have n1_ := Aside0.mk (Kd.R_over' (by (with_reducible repeat (first | apply Kd.R_alloc | apply Kd.R_drewN | apply Kd.R_drew)); exact HO_11.out) (Kd.N_typed (by (with_reducible repeat (first | apply Kd.N_alloc | apply Kd.N_drewN | apply Kd.N_drew)); exact HO_12.out)) (by decide) hg); have n2_ := Aside0.mk (Kd.N_afterv (ok := (fun k_ => some k_ ≠ (v574 : Value).ownBlock ∧ some k_ ≠ (v576 : Value).ownBlock ∧ k_ ≠ gb585)) (by (with_reducible repeat (first | apply Kd.N_alloc | apply Kd.N_drewN | apply Kd.N_drew)); exact Kd.N_mono HO_59.out (fun _ hk => ⟨⟨hk.1, ⟨hk.2.1, hk.2.2.2⟩⟩, hk.2.2.1⟩)) hg hat); have n3_ := Aside0.mk (Kd.V_afterv (ok := (fun k_ => some k_ ≠ (v574 : Value).ownBlock ∧ some k_ ≠ (v576 : Value).ownBlock ∧ some k_ ≠ (.slice (some ad584) t566.length co32 : Value).ownBlock ∧ k_ ≠ gb585)) (by (with_reducible repeat (first | apply Kd.V_alloc | apply Kd.V_drewN | apply Kd.V_drew)); exact Kd.V_mono HL584_2.out (fun _ hk => ⟨⟨hk.1, ⟨hk.2.1, ⟨hk.2.2.2.1, hk.2.2.2.2⟩⟩⟩, hk.2.2.1⟩)) hg hat); have n4_ := Aside0.mk (blk_grown (g := gb585) (o := .cells #[.int .i64 ((rd_T40 t566 x61_2).f0), .string ((rd_T40 t566 x61_2).f1), .slice A584_2 ((rd_T40 t566 x61_2).f2).length c584_2, .int .i64 (wrap64 (((rd_T40 t566 x61_2).f3) + (wrap64 ((a0.size : Int) + 1))))] 40 (0, 0)) (by (with_reducible repeat (first | refine blk_drewN ?_ _ | refine blk_drew ?_ | refine blk_alloc ?_ _)); exact BK585.out) hg (Kd.N_away HO_12.out (fun _ hk => hk.2.2.2))); have n5_ := Aside0.mk (hb); have n6_ := Aside0.mk (ho); clear HO_10; clear HO_11; clear HO_59; clear HL584_2; clear BK585; clear HB; clear HO_12; have HO_10 := n0_; have HO_11 := n1_; have HO_59 := n2_; have HL584_2 := n3_; have BK585 := n4_; have HB := n5_; have HO588 := n6_; clear n0_ n1_ n2_ n3_ n4_ n5_ n6_; clear ho hb hg hat))
                                go_roundg k2
                                case measure => have := HJ9.out; have := HK2.out; omega
                                case rel => exact ⟨(y586), (wrap64 (x61_2 + 1)), (by first | rfl | (simp; done) | (simp [*]; done)), H', ⟨by have := HJ9.out; have := HK2.out; omega⟩, ⟨by (with_reducible repeat (first | apply Kd.N_alloc | apply Kd.N_drewN | apply Kd.N_drew)); exact Kd.N_mono HO_10.out (fun _ hk => ⟨hk.1.1, ⟨hk.2, hk.1.2.1⟩⟩)⟩, ⟨by (with_reducible repeat (first | apply Kd.R_alloc | apply Kd.R_drewN | apply Kd.R_drew)); exact HO_11.out⟩, ⟨by (with_reducible repeat (first | apply Kd.N_alloc | apply Kd.N_drewN | apply Kd.N_drew)); exact Kd.N_mono HO588.out (fun _ hk => ⟨hk.1, ⟨hk.2.1, hk.2.2.1⟩⟩)⟩, ⟨by (with_reducible repeat (first | apply Kd.N_alloc | apply Kd.N_drewN | apply Kd.N_drew)); exact Kd.N_mono HO_59.out (fun _ hk => ⟨hk.1.1, ⟨hk.1.2.1, hk.2⟩⟩)⟩, ⟨by repeat (first | (with_reducible first | exact HB.out | apply below_alloc | apply pw_below_drewN | apply below_drew1 | refine below_set ?_ GE585.out) | exact HB.out)⟩⟩
                              · rw [if_neg c36] at H
                                exact absurd H (by simp)
                            · rw [if_neg c35] at H
                              exact absurd H (by simp)
                          · rw [if_neg c34] at H
                            exact absurd H (by simp)
                        · rw [if_neg c33] at H
                          have c33b0 : decide (x61_2 < (t566.length : Int)) = false := decide_eq_false c33
                          clear c33
                          by_cases c44 : t558 = true
                          · subst c44
                            have H1 : (if (t573.length : Int) = 0 then ((slotmeshref02_Same.f k2 t572 x12_2).bind fun t589 => (some t589)) else (some false)) = some r := by rw [if_pos rfl] at H; exact H
                            clear H
                            have H := H1
                            clear H1
                            by_cases c45 : (t573.length : Int) = 0
                            · rw [if_pos c45] at H
                              have c45b0 : ((t573.length : Int) == 0) = true := beq_iff_eq.mpr c45
                              have c45b1 : ((t573.length : Int) != 0) = false := bne_eq_false_iff_eq.mpr c45
                              clear c45
                              replace H := Option.bind_eq_some_iff.mp H
                              obtain ⟨t589, A460, H⟩ := H
                              replace H : (some t589) = some r := H
                              have A46 := Aside0.mk A460
                              clear A460
                              clear hr_
                              obtain rfl := Option.some.inj H
                              obtain ⟨Ao47, co47, eo47⟩ := Kd.R_slice HO_11.out
                              subst eo47
                              obtain ⟨Ao48, co48, eo48⟩ := Kd.N_slice HO_10.out
                              subst eo48
                              obtain ⟨Ao49, co49, eo49⟩ := Kd.N_slice HO_12.out
                              subst eo49
                              go_wp2_with (first | (go_at_call 22; (with_reducible refine (slotmeshref02_Same.calls k2 _ _ t572 _ _ x12_2 t589 _ ?side1 ?side2 ?side3 ?side4 A46.out).mono ?_); (case side1 => repeat (first | exact (Kd.N_reads' HO_10.out).2.2 | (with_reducible refine Kd.C_alloc ?_ _) | (with_reducible refine Kd.C_drewN ?_ _) | (with_reducible refine Kd.C_drew ?_))); (case side2 => exact (Kd.N_reads' HO_10.out).2.1); (case side3 => repeat (first | exact (Kd.N_reads' HO_12.out).2.2 | (with_reducible refine Kd.C_alloc ?_ _) | (with_reducible refine Kd.C_drewN ?_ _) | (with_reducible refine Kd.C_drew ?_))); (case side4 => exact (Kd.N_reads' HO_12.out).2.1); rintro e w' ⟨rfl, ⟨nd, rfl⟩⟩))
                              go_ret
                              exact ⟨by first | rfl | (simp [errW_none, errW_some] <;> rfl) | (simp [*, errW_none, errW_some] <;> rfl), by repeat (first | (with_reducible first | exact HB.out | apply below_alloc | apply pw_below_drewN | apply below_drew1) | exact HB.out)⟩
                            · rw [if_neg c45] at H
                              have c45b0 : ((t573.length : Int) == 0) = false := beq_eq_false_iff_ne.mpr c45
                              have c45b1 : ((t573.length : Int) != 0) = true := bne_iff_ne.mpr c45
                              have c45b2 : ¬ (t573 = []) := fun h_ => c45 (by rw [h_]; rfl)
                              exact absurd ((Option.some.inj H).trans hr_.out) (by decide)
                          · replace c44 := Bool.eq_false_iff.mpr c44
                            subst c44
                            have H1 : (some false) = some r := by rw [if_neg (show ¬ (false = true) by decide)] at H; exact H
                            clear H
                            have H := H1
                            clear H1
                            exact absurd ((Option.some.inj H).trans hr_.out) (by decide)
                  · rw [if_neg c26] at H
                    exact absurd H (by simp)
                · rw [if_neg c24] at H
                  exact absurd H (by simp)
              · rw [if_neg c23] at H
                exact absurd H (by simp)
      · replace c7 := Bool.eq_false_iff.mpr c7
        subst c7
        have H1 : (some t558) = some r := by rw [if_neg (show ¬ (false = true) by decide)] at H; exact H
        clear H
        have H := H1
        clear H1
        clear hr_
        obtain rfl := Option.some.inj H
        go_enter Tryd.func11, Tryd.ntmps11
        go_wp2_with (first | ((with_reducible refine gate_callee (f := 32) rfl ?_); refine goesL_ (some 15) rfl rfl Tryd.func32 (by kernel_rfl) rfl #[] rfl (by (try simp only [List.map_toArray, List.map_nil]); first | done | rfl | (simp only [List.length_drop, List.length_take]; rfl) | (simp (disch := omega) only [IntWalk.wrap64_in]; done)) ?_; (with_reducible refine (slotmeshlaw02_head.calls k  t558 _ ?side1 A3.out).mono ?_); (case side1 => exact Tx.GQ.aside hG (by repeat (first | (with_reducible first | exact HB.out | apply below_alloc | apply pw_below_drewN | apply below_drew1) | exact HB.out))); rintro e w51 ⟨rfl, hb⟩; refine ⟨_, rfl, ?_⟩; have n0_ := Aside0.mk (below_step (by repeat (first | (with_reducible first | exact HB.out | apply below_alloc | apply pw_below_drewN | apply below_drew1) | exact HB.out)) hb); clear HB; have HB := n0_; clear n0_; (try clear hb); (try clear hb2); (try clear hk); (try clear hi)) | ((with_reducible refine gate_callee (f := 38) rfl ?_); refine goesL_ (some 20) rfl rfl Tryd.func38 (by kernel_rfl) rfl #[.string ((a0 ++ (⟨#[10]⟩ : ByteArray)) ++ a1)] rfl (by (try simp only [List.map_toArray, List.map_cons, List.map_nil]); first | done | rfl | (simp only [List.length_drop, List.length_take]; rfl) | (simp (disch := omega) only [IntWalk.wrap64_in]; done)) ?_; (with_reducible refine (slotmeshlaw02_usable.calls k ((a0 ++ (⟨#[10]⟩ : ByteArray)) ++ a1) false _ A6.out).mono ?_); rintro e w52 ⟨rfl, hb⟩; refine ⟨_, rfl, ?_⟩; have n0_ := Aside0.mk (below_step (by repeat (first | (with_reducible first | exact HB.out | apply below_alloc | apply pw_below_drewN | apply below_drew1) | exact HB.out)) hb); clear HB; have HB := n0_; clear n0_; (try clear hb); (try clear hb2); (try clear hk); (try clear hi)))
        go_ret
        exact ⟨by first | rfl | (simp [errW_none, errW_some] <;> rfl) | (simp [*, errW_none, errW_some] <;> rfl), by repeat (first | (with_reducible first | exact HB.out | apply below_alloc | apply pw_below_drewN | apply below_drew1) | exact HB.out)⟩
    · rw [if_neg c5] at H
      exact absurd H (by simp)
  · rw [if_neg c4] at H
    exact absurd H (by simp)
end Go.Proofs.YtdedlchpjboceaaDoor.PE
end

section
namespace Go.Proofs.YtdedlchpjboceaaDoor.Qy
open Go.RowKit Go.Proofs.YtdedlchpjboceaaDoorW.PrintWords Go.Proofs.YtdedlchpjboceaaDoorW.PrintLast Go.Proofs.YtdedlchpjboceaaDoor.Lx Go.Proofs.YtdedlchpjboceaaDoor.Px Go.Proofs.YtdedlchpjboceaaDoor.Tx Go.Proofs.YtdedlchpjboceaaDoor.Qz Go.Proofs.YtdedlchpjboceaaDoor.PE
theorem join_data (a b : ByteArray) : ((a ++ (⟨#[10]⟩ : ByteArray)) ++ b).data.toList = a.data.toList ++ 10 :: b.data.toList := by simp [ByteArray.data_append]
theorem rd_ofJ (x : List Cmd) (j : Nat) (h : j < x.length) : rd_T40 (x.map ofCmd) (j : Int) = ofCmd x[j] := by
  rw [rd_at _ j (by rw [List.length_map]; exact h), List.getElem_map]
theorem joining_loop (a : ByteArray) (ha : a.size ≤ 8000) (x y : List Cmd) (hx : x.length ≤ 300) (hy : y.length ≤ 300) (hv : ∀ c ∈ x ++ y.map (shC ((a.size : Int) + 1)), c.f2.length ≤ 1000000) (hf : ∀ c ∈ y, 0 ≤ c.f3 ∧ c.f3 ≤ 8000) (d : Nat) : ∀ j : Nat, j ≤ y.length → y.length - j = d →
    Ev (fun k => slotmeshlaw02_ParserJoining.l0 k a true ((x ++ y.map (shC ((a.size : Int) + 1))).map ofCmd) [] ((x ++ (y.take j).map (shC ((a.size : Int) + 1))).map ofCmd) (y.map ofCmd) (y.length : Int) (j : Int)) true := by
  induction d with
  | zero =>
    intro j hj hd
    refine Ev.step (f := _) (fun k => by rw [slotmeshlaw02_ParserJoining.l0]) ?_
    refine evNeg (by omega) (evPos rfl (evPos rfl ?_))
    rw [List.take_of_length_le (by omega)]
    obtain ⟨r, hr, hk⟩ := sameF (a := x ++ y.map (shC ((a.size : Int) + 1))) (b := x ++ y.map (shC ((a.size : Int) + 1))) hv (by rw [List.length_append, List.length_map]; omega)
    rw [hk.2 rfl] at hr
    exact Ev.bind hr (Ev.now _)
  | succ d ih =>
    intro j hj hd
    have hlt : j < y.length := by omega
    have hih := ih (j + 1) (by omega) (by omega)
    have hw : wrap64 ((j : Int) + 1) = ((j + 1 : Nat) : Int) := by rw [w64 (by omega) (by omega)]; omega
    have hc := hf y[j] (List.getElem_mem _)
    have c1 : (j : Int) < (y.length : Int) := by omega
    have c2 : (0 : Int) ≤ (j : Int) := by omega
    have hacc : ((x ++ (y.take (j + 1)).map (shC ((a.size : Int) + 1))).map ofCmd) = ((x ++ (y.take j).map (shC ((a.size : Int) + 1))).map ofCmd) ++ [ofCmd (shC ((a.size : Int) + 1) y[j])] := by
      rw [List.take_succ_eq_append_getElem hlt]
      simp only [List.map_append, List.map_cons, List.map_nil, List.append_assoc]
    rw [hacc] at hih
    have hn : ((x ++ (y.take j).map (shC ((a.size : Int) + 1))).map ofCmd).length < 2513169434916 := by
      rw [List.length_map, List.length_append, List.length_map, List.length_take]; omega
    have hw2 : wrap64 ((ofCmd y[j]).f3 + wrap64 ((a.size : Int) + 1)) = y[j].f3 + ((a.size : Int) + 1) := by
      have : (ofCmd y[j]).f3 = y[j].f3 := rfl
      rw [this, w64 (x := (a.size : Int) + 1) (by omega) (by omega), w64 (by omega) (by omega)]
    refine Ev.step (f := _) (fun k => by rw [slotmeshlaw02_ParserJoining.l0]) ?_
    refine evPos c1 (evPos c2 (evPos (by rw [List.length_map]; exact c1) (evPos hn ?_)))
    rw [rd_ofJ y j hlt, hw2, hw]
    exact hih
theorem ParserJoining_ev (a b : ByteArray) (ha : a.size ≤ 140737488351232) (hb : b.size ≤ 140737488351232) : Ev (fun k => slotmeshlaw02_ParserJoining.f k a b) true := by
  unfold slotmeshlaw02_ParserJoining.f
  have h10 : (a ++ (⟨#[10]⟩ : ByteArray)).size = a.size + 1 := by rw [ByteArray.size_append]; rfl
  have skip : ∀ x y : List S40, Ev (fun k => slotmeshlaw02_ParserJoining.j0 k a b true x y true) true := fun x y =>
    Ev.step (f := _) (fun k => by rw [slotmeshlaw02_ParserJoining.j0]) (evPos rfl (Ev.now _))
  refine Ev.bind head2_ev (evPos (by omega) (evPos (by rw [h10]; omega) (Ev.bind (usableK _) ?_)))
  rw [join_data]
  cases hl : Lx.lex (a.data.toList ++ 10 :: b.data.toList) with
  | error e => exact evNeg (by simp) (Ev.now _)
  | ok us =>
    refine evPos rfl (evBind (parseF a) (evBind (parseF b) ?_))
    obtain ⟨_, _, n1, _⟩ := parse_diags a
    obtain ⟨_, _, n2, _⟩ := parse_diags b
    have hw : wrap64 ((((parseR a).2.map ofDg).length : Int) + (((parseR b).2.map ofDg).length : Int)) = ((parseR a).2.length : Int) + ((parseR b).2.length : Int) := by
      rw [List.length_map, List.length_map]; exact w64 (by omega) (by omega)
    rw [hw]
    by_cases hd : ((parseR a).2.length : Int) + ((parseR b).2.length : Int) > 0
    · exact evPos hd (skip _ _)
    · refine evNeg hd ?_
      have d1 : (parseR a).2 = [] := List.eq_nil_of_length_eq_zero (by omega)
      have d2 : (parseR b).2 = [] := List.eq_nil_of_length_eq_zero (by omega)
      have p1 : parseR a = ((parseR a).1, []) := by rw [← d1]
      have p2 : parseR b = ((parseR b).1, []) := by rw [← d2]
      obtain ⟨_, x3, xv⟩ := parse_valid p1
      obtain ⟨_, y3, yv⟩ := parse_valid p2
      have hw3 : wrap64 ((((parseR a).1.map ofCmd).length : Int) + (((parseR b).1.map ofCmd).length : Int)) = ((parseR a).1.length : Int) + ((parseR b).1.length : Int) := by
        rw [List.length_map, List.length_map]; exact w64 (by omega) (by omega)
      rw [hw3]
      by_cases hc : ((parseR a).1.length : Int) + ((parseR b).1.length : Int) > 300
      · rw [decide_eq_true hc]; exact skip _ _
      · rw [decide_eq_false hc]
        have hj := parse_join p1 p2 hl (by omega) _ (join_data a b)
        obtain ⟨ts, l1, _, _⟩ := parse_clean p1
        obtain ⟨vs, l2, s2, _⟩ := parse_clean p2
        have b1 := (Lr.lex_bound l1).1
        have b2 := (Lr.lex_bound l2).1
        rw [list_size] at b1 b2
        refine Ev.step (f := _) (fun k => by rw [slotmeshlaw02_ParserJoining.j0]) ?_
        refine evNeg (by decide) (evPos (by omega) (evPos (by rw [h10]; omega) (evBind (parseF_of hj) (evBind rfl (evPos ?_ ?_)))))
        · show 0 + ((parseR a).1.map ofCmd).length < _
          rw [List.length_map]; omega
        · have hlen : ((((parseR b).1.map ofCmd).length : Nat) : Int) = ((parseR b).1.length : Int) := by rw [List.length_map]
          rw [hlen]
          have hloop := joining_loop a b1 (parseR a).1 (parseR b).1 x3 y3 ?_ ?_ _ 0 (Nat.zero_le _) rfl
          · rw [List.take_zero, List.map_nil, List.append_nil] at hloop
            exact hloop
          · intro c hc
            rcases List.mem_append.1 hc with hc | hc
            · exact cB_few (xv c hc)
            · obtain ⟨e, he, rfl⟩ := List.mem_map.1 hc
              exact cB_few (c := e) (yv e he)
          · intro c hc
            obtain ⟨_, _, _, t, ht, e1, _⟩ := segs_valid s2 (lex_allV l2) c hc
            have := (lex_ord l2).2 t ht
            omega
end Go.Proofs.YtdedlchpjboceaaDoor.Qy
end
