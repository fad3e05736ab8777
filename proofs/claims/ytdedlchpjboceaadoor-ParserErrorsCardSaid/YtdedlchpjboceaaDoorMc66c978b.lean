/- Texts of proofs: plain words, and walks through the program's functions. -/
import Derived.Test.YtdedlchpjboceaaDoorM1a9a2473
import Derived.Test.YtdedlchpjboceaaDoorMf22955d3
import Derived.Test.YtdedlchpjboceaaDoorM0c654a18
import Derived.Test.YtdedlchpjboceaaDoorMa3af8169
import Derived.Test.YtdedlchpjboceaaDoorMa30184cd
import Derived.Test.YtdedlchpjboceaaDoorMa73156ca
import Derived.Test.YtdedlchpjboceaaDoorMdbea204d
import Derived.Test.YtdedlchpjboceaaDoorMbd2141b7

section
namespace Go.Proofs.YtdedlchpjboceaaDoor.PE
open Go.RowKit Go.Proofs.YtdedlchpjboceaaDoorW.PrintWords Go.Proofs.YtdedlchpjboceaaDoorW.PrintLast Go.Proofs.YtdedlchpjboceaaDoorW.PrintMore
attribute [local go_sem] max2_int min2_int max_two min_two max_three min_three max_four min_four   -- for this text's walks alone
def slotmeshlaw02_usable.f (k : Nat) (a0 : ByteArray) : Option (Bool) := (slotmeshref01_Lex.f k a0).bind fun bt535 => (some (bt535.2.1 == 0))
theorem slotmeshlaw02_usable.mono : ∀ a0 k, LeO (slotmeshlaw02_usable.f k a0) (slotmeshlaw02_usable.f (k + 1) a0) := by
  intro a0 k
  unfold slotmeshlaw02_usable.f
  repeat' first
      | (with_reducible exact slotmeshref01_Lex.mono _ _)
      | (with_reducible exact LeO.refl _)
      | (with_reducible exact LeO.none _)
      | (with_reducible refine LeO.ite ?_ ?_)
      | (with_reducible refine LeO.bind ?_ (fun _ => ?_))
      | exact slotmeshref01_Lex.mono _ _
      | exact LeO.none _
      | refine LeO.ite ?_ ?_
      | refine LeO.bind ?_ (fun _ => ?_)
set_option maxHeartbeats 8000000 in
set_option maxRecDepth 100000 in
theorem slotmeshlaw02_usable.calls (k : Nat) (a0 : ByteArray) (r : Bool) (w : World) (h : slotmeshlaw02_usable.f k a0 = some r) :
    Calls Tryd.prog 38 #[.string a0] w fun e w' => e = .returned (.bool r) ∧ Below w.heap.size w w' := by
  have HB := Aside0.mk (Below.refl w.heap.size w)
  have H : ((slotmeshref01_Lex.f k a0).bind fun bt535 => (some (bt535.2.1 == 0))) = some r := h
  clear h
  replace H := Option.bind_eq_some_iff.mp H
  obtain ⟨⟨t535, t536, t537⟩, A20, H⟩ := H
  replace H : (some (t536 == 0)) = some r := H
  have A2 := Aside0.mk A20
  clear A20
  obtain rfl := Option.some.inj H
  go_enter Tryd.func38, Tryd.ntmps38
  go_wp2_with (first | ((with_reducible refine gate_callee (f := 31) rfl ?_); refine goesL_ (some 8) rfl rfl Tryd.func31 (by kernel_rfl) rfl #[.string a0] rfl (by (try simp only [List.map_toArray, List.map_cons, List.map_nil]); first | done | rfl | (simp only [List.length_drop, List.length_take]; rfl) | (simp (disch := omega) only [IntWalk.wrap64_in]; done)) ?_; (with_reducible refine (slotmeshref01_Lex.calls k a0 t535 t536 t537 _ A2.out).mono ?_); rintro e w3 ⟨v538, rfl, ho0, hb⟩; refine ⟨_, rfl, ?_⟩; have n0_ := Aside0.mk (Kd.R_lower ho0 (below_size (by repeat (first | (with_reducible first | exact HB.out | apply below_alloc | apply pw_below_drewN | apply below_drew1) | exact HB.out)))); have n1_ := Aside0.mk (below_step (by repeat (first | (with_reducible first | exact HB.out | apply below_alloc | apply pw_below_drewN | apply below_drew1) | exact HB.out)) hb); clear HB; have HO539 := n0_; have HB := n1_; clear n0_ n1_; (try clear hb); (try clear hb2); (try clear hk); (try clear hi); (try clear ho0)))
  go_ret
  exact ⟨by first | rfl | (simp [errW_none, errW_some] <;> rfl) | (simp [*, errW_none, errW_some] <;> rfl), by repeat (first | (with_reducible first | exact HB.out | apply below_alloc | apply pw_below_drewN | apply below_drew1) | exact HB.out)⟩
end Go.Proofs.YtdedlchpjboceaaDoor.PE
end

section
namespace Go.Proofs.YtdedlchpjboceaaDoor.Qy
open Go.RowKit Go.Proofs.YtdedlchpjboceaaDoorW.PrintWords Go.Proofs.YtdedlchpjboceaaDoorW.PrintLast Go.Proofs.YtdedlchpjboceaaDoor.Lx Go.Proofs.YtdedlchpjboceaaDoor.Px Go.Proofs.YtdedlchpjboceaaDoor.Tx Go.Proofs.YtdedlchpjboceaaDoor.Qz Go.Proofs.YtdedlchpjboceaaDoor.PE
theorem rd_dg (l : List S54) (j : Nat) (h : j < l.length) : rd_T54 l (j : Int) = l[j] := by
  unfold rd_T54
  rw [Int.toNat_natCast, List.getD_eq_getElem?_getD, List.getElem?_eq_getElem h]; rfl
theorem diags_loop (l : List S54) (hl : l.length ≤ 1000000) (d : Nat) : ∀ j : Nat, j ≤ l.length → l.length - j = d → Ev (fun k => slotmeshref02_SameDiags.l0 k l l (j : Int)) true := by
  induction d with
  | zero =>
    intro j hj hd
    refine Ev.step (f := _) (fun k => by rw [slotmeshref02_SameDiags.l0]) (evNeg (by omega) (Ev.now _))
  | succ d ih =>
    intro j hj hd
    have hlt : j < l.length := by omega
    have hih := ih (j + 1) (by omega) (by omega)
    have hw : wrap64 ((j : Int) + 1) = ((j + 1 : Nat) : Int) := by rw [w64 (by omega) (by omega)]; omega
    refine Ev.step (f := _) (fun k => by rw [slotmeshref02_SameDiags.l0]) ?_
    refine evPos (by omega) (evPos (by omega) (evPos (by omega) ?_))
    rw [rd_dg l j hlt, hw]
    exact evNeg (by simp) hih
theorem diags_self (l : List S54) (hl : l.length ≤ 1000000) : Ev (fun k => slotmeshref02_SameDiags.f k l l) true := by
  unfold slotmeshref02_SameDiags.f
  exact evPos rfl (diags_loop l hl l.length 0 (Nat.zero_le _) rfl)
theorem lex_err_ne {s : List UInt8} {e : Int × Nat} (h : Lx.lex s = .error e) : ¬ e.1 = 0 := by
  intro he
  by_cases h8 : 8000 < s.length
  · have : e = (2, 0) := by unfold Lx.lex at h; rw [if_pos h8] at h; injection h with h; exact h.symm
    rw [this] at he; cases he
  · obtain ⟨_, _, _, _, _, _, _, _, _, _, _, _, _, hp, _⟩ := Lr.lex_error_inv (by omega) h
    have := (Lr.err_pos hp).1
    omega
theorem usableK (s : ByteArray) : Ev (fun k => slotmeshlaw02_usable.f k s) (match Lx.lex s.data.toList with | .ok _ => true | .error _ => false) := by
  unfold slotmeshlaw02_usable.f
  refine Ev.bind (Lr.ref_lex s) (evEq (Ev.now _) ?_)
  cases hl : Lx.lex s.data.toList with
  | ok ts => rfl
  | error e =>
    show (e.1 == 0) = false
    rw [beq_eq_false_iff_ne]
    exact lex_err_ne hl
end Go.Proofs.YtdedlchpjboceaaDoor.Qy
end

section
namespace Go.Proofs.YtdedlchpjboceaaDoor.PE
open Go.RowKit Go.Proofs.YtdedlchpjboceaaDoorW.PrintWords Go.Proofs.YtdedlchpjboceaaDoorW.PrintLast Go.Proofs.YtdedlchpjboceaaDoorW.PrintMore
attribute [local go_sem] max2_int min2_int max_two min_two max_three min_three max_four min_four   -- for this text's walks alone
mutual
def slotmeshlaw02_ParserErrors.j0 : Nat → ByteArray → ByteArray → Int → Bool → Bool → Option (Bool)
  | 0, _, _, _, _, _ => none
  | k + 1, x0, x1, x2, x7, x25 => if x25 = true then (some x7) else ((parser_Parse.f x0).bind fun bt591 => (slotmeshlaw02_ParserErrors.l0 k x0 x1 x2 x7 bt591.2 (bt591.2.length : Int) 0))
def slotmeshlaw02_ParserErrors.l0 : Nat → ByteArray → ByteArray → Int → Bool → List (S54) → Int → Int → Option (Bool)
  | 0, _, _, _, _, _, _, _ => none
  | k + 1, x0, x1, x2, x7, x9, x33, x34 => if x34 < x33 then (if 0 ≤ x34 then (if x34 < (x9.length : Int) then (if ((rd_T54 x9 x34).f1) < 0 then (some false) else (if ((rd_T54 x9 x34).f1) > (x0.size : Int) then (some false) else (if x34 > 0 then (if 0 ≤ (wrap64 (x34 - 1)) then (if (wrap64 (x34 - 1)) < (x9.length : Int) then (if ((rd_T54 x9 x34).f1) ≤ ((rd_T54 x9 (wrap64 (x34 - 1))).f1) then (some false) else (if ((rd_T54 x9 x34).f0) = 0 then (some false) else (slotmeshlaw02_ParserErrors.l0 k x0 x1 x2 x7 x9 x33 (wrap64 (x34 + 1))))) else (none)) else (none)) else (if ((rd_T54 x9 x34).f0) = 0 then (some false) else (slotmeshlaw02_ParserErrors.l0 k x0 x1 x2 x7 x9 x33 (wrap64 (x34 + 1))))))) else (none)) else (none)) else ((parser_Parse.f x1).bind fun bt603 => ((some (([(⟨#[]⟩ : ByteArray), (⟨#[120]⟩ : ByteArray), (⟨#[49, 50]⟩ : ByteArray), (⟨#[109, 111, 118, 101, 32, 97, 32, 51, 32, 52]⟩ : ByteArray), (⟨#[102, 97, 105, 108, 32, 97]⟩ : ByteArray), (⟨#[98, 97, 116, 116, 101, 114, 121, 32, 53]⟩ : ByteArray), (⟨#[102, 97, 115, 116, 32, 114, 117, 110, 32, 53]⟩ : ByteArray), (⟨#[100, 97, 116, 97, 32, 49, 32, 114, 97, 110, 103, 101, 32, 50]⟩ : ByteArray)] : List ByteArray) : List ByteArray)).bind fun y609 => (if 0 ≤ (Int.tmod (wrap64 (x2)) 8) then (if (Int.tmod (wrap64 (x2)) 8) < (y609.length : Int) then (if x0.size + 1 ≤ 9223372036854775807 then (if (x0 ++ (⟨#[10]⟩ : ByteArray)).size + (rdOf ByteArray.empty y609 (Int.tmod (wrap64 (x2)) 8)).size ≤ 9223372036854775807 then (if ((x0 ++ (⟨#[10]⟩ : ByteArray)) ++ (rdOf ByteArray.empty y609 (Int.tmod (wrap64 (x2)) 8))).size + 2 ≤ 9223372036854775807 then (if (((x0 ++ (⟨#[10]⟩ : ByteArray)) ++ (rdOf ByteArray.empty y609 (Int.tmod (wrap64 (x2)) 8))) ++ (⟨#[59, 10]⟩ : ByteArray)).size + x1.size ≤ 9223372036854775807 then (if (wrap64 ((x9.length : Int) + (bt603.2.length : Int))) > 0 then (slotmeshlaw02_ParserErrors.j2 k x0 x7 ((((x0 ++ (⟨#[10]⟩ : ByteArray)) ++ (rdOf ByteArray.empty y609 (Int.tmod (wrap64 (x2)) 8))) ++ (⟨#[59, 10]⟩ : ByteArray)) ++ x1) true) else ((slotmeshlaw02_usable.f k ((((x0 ++ (⟨#[10]⟩ : ByteArray)) ++ (rdOf ByteArray.empty y609 (Int.tmod (wrap64 (x2)) 8))) ++ (⟨#[59, 10]⟩ : ByteArray)) ++ x1)).bind fun t613 => (slotmeshlaw02_ParserErrors.j2 k x0 x7 ((((x0 ++ (⟨#[10]⟩ : ByteArray)) ++ (rdOf ByteArray.empty y609 (Int.tmod (wrap64 (x2)) 8))) ++ (⟨#[59, 10]⟩ : ByteArray)) ++ x1) (!t613)))) else (none)) else (none)) else (none)) else (none)) else (none)) else (none))))
def slotmeshlaw02_ParserErrors.j2 : Nat → ByteArray → Bool → ByteArray → Bool → Option (Bool)
  | 0, _, _, _, _ => none
  | k + 1, x0, x7, x14, x108 => if x108 = true then (some x7) else ((parser_Parse.f x14).bind fun bt614 => (if x7 = true then ((slotmeshref02_SameDiags.f k bt614.2 (([(⟨7, wrap64 ((x0.size : Int) + 1)⟩ : S54)] : List (S54)))).bind fun t623 => (some t623)) else (some false)))
end
def slotmeshlaw02_ParserErrors.f (k : Nat) (a0 : ByteArray) (a1 : ByteArray) (a2 : Int) : Option (Bool) := (slotmeshlaw02_head.f k).bind fun t590 => (if (a0.size : Int) > 8010 then (slotmeshlaw02_ParserErrors.j0 k a0 a1 a2 t590 true) else (slotmeshlaw02_ParserErrors.j0 k a0 a1 a2 t590 (decide ((a1.size : Int) > 8010))))
theorem slotmeshlaw02_ParserErrors.mono_l : ∀ k, (∀ y0 y1 y2 y3 y4, LeO (slotmeshlaw02_ParserErrors.j0 k y0 y1 y2 y3 y4) (slotmeshlaw02_ParserErrors.j0 (k + 1) y0 y1 y2 y3 y4)) ∧ (∀ y0 y1 y2 y3 y4 y5 y6, LeO (slotmeshlaw02_ParserErrors.l0 k y0 y1 y2 y3 y4 y5 y6) (slotmeshlaw02_ParserErrors.l0 (k + 1) y0 y1 y2 y3 y4 y5 y6)) ∧ (∀ y0 y1 y2 y3, LeO (slotmeshlaw02_ParserErrors.j2 k y0 y1 y2 y3) (slotmeshlaw02_ParserErrors.j2 (k + 1) y0 y1 y2 y3))
  | 0 => ⟨fun _ _ _ _ _ r h => by simp [slotmeshlaw02_ParserErrors.j0] at h, fun _ _ _ _ _ _ _ r h => by simp [slotmeshlaw02_ParserErrors.l0] at h, fun _ _ _ _ r h => by simp [slotmeshlaw02_ParserErrors.j2] at h⟩
  | k + 1 => by
    obtain ⟨ih0, ih1, ih2⟩ := slotmeshlaw02_ParserErrors.mono_l k
    refine ⟨?_, ?_, ?_⟩
    · intro y0 y1 y2 y3 y4
      unfold slotmeshlaw02_ParserErrors.j0
      repeat' first
      | (with_reducible exact ih0 _ _ _ _ _)
      | (with_reducible exact ih1 _ _ _ _ _ _ _)
      | (with_reducible exact ih2 _ _ _ _)
      | (with_reducible exact slotmeshlaw02_head.mono _)
      | (with_reducible exact slotmeshlaw02_usable.mono _ _)
      | (with_reducible exact slotmeshref02_SameDiags.mono _ _ _)
      | (with_reducible exact LeO.refl _)
      | (with_reducible exact LeO.none _)
      | (with_reducible refine LeO.ite ?_ ?_)
      | (with_reducible refine LeO.bind ?_ (fun _ => ?_))
      | exact ih0 _ _ _ _ _
      | exact ih1 _ _ _ _ _ _ _
      | exact ih2 _ _ _ _
      | exact slotmeshlaw02_head.mono _
      | exact slotmeshlaw02_usable.mono _ _
      | exact slotmeshref02_SameDiags.mono _ _ _
      | exact LeO.none _
      | refine LeO.ite ?_ ?_
      | refine LeO.bind ?_ (fun _ => ?_)
    · intro y0 y1 y2 y3 y4 y5 y6
      unfold slotmeshlaw02_ParserErrors.l0
      repeat' first
      | (with_reducible exact ih0 _ _ _ _ _)
      | (with_reducible exact ih1 _ _ _ _ _ _ _)
      | (with_reducible exact ih2 _ _ _ _)
      | (with_reducible exact slotmeshlaw02_head.mono _)
      | (with_reducible exact slotmeshlaw02_usable.mono _ _)
      | (with_reducible exact slotmeshref02_SameDiags.mono _ _ _)
      | (with_reducible exact LeO.refl _)
      | (with_reducible exact LeO.none _)
      | (with_reducible refine LeO.ite ?_ ?_)
      | (with_reducible refine LeO.bind ?_ (fun _ => ?_))
      | exact ih0 _ _ _ _ _
      | exact ih1 _ _ _ _ _ _ _
      | exact ih2 _ _ _ _
      | exact slotmeshlaw02_head.mono _
      | exact slotmeshlaw02_usable.mono _ _
      | exact slotmeshref02_SameDiags.mono _ _ _
      | exact LeO.none _
      | refine LeO.ite ?_ ?_
      | refine LeO.bind ?_ (fun _ => ?_)
    · intro y0 y1 y2 y3
      unfold slotmeshlaw02_ParserErrors.j2
      repeat' first
      | (with_reducible exact ih0 _ _ _ _ _)
      | (with_reducible exact ih1 _ _ _ _ _ _ _)
      | (with_reducible exact ih2 _ _ _ _)
      | (with_reducible exact slotmeshlaw02_head.mono _)
      | (with_reducible exact slotmeshlaw02_usable.mono _ _)
      | (with_reducible exact slotmeshref02_SameDiags.mono _ _ _)
      | (with_reducible exact LeO.refl _)
      | (with_reducible exact LeO.none _)
      | (with_reducible refine LeO.ite ?_ ?_)
      | (with_reducible refine LeO.bind ?_ (fun _ => ?_))
      | exact ih0 _ _ _ _ _
      | exact ih1 _ _ _ _ _ _ _
      | exact ih2 _ _ _ _
      | exact slotmeshlaw02_head.mono _
      | exact slotmeshlaw02_usable.mono _ _
      | exact slotmeshref02_SameDiags.mono _ _ _
      | exact LeO.none _
      | refine LeO.ite ?_ ?_
      | refine LeO.bind ?_ (fun _ => ?_)
theorem slotmeshlaw02_ParserErrors.mono : ∀ a0 a1 a2 k, LeO (slotmeshlaw02_ParserErrors.f k a0 a1 a2) (slotmeshlaw02_ParserErrors.f (k + 1) a0 a1 a2) := by
  intro a0 a1 a2 k
  obtain ⟨ih0, ih1, ih2⟩ := slotmeshlaw02_ParserErrors.mono_l k
  unfold slotmeshlaw02_ParserErrors.f
  repeat' first
      | (with_reducible exact ih0 _ _ _ _ _)
      | (with_reducible exact ih1 _ _ _ _ _ _ _)
      | (with_reducible exact ih2 _ _ _ _)
      | (with_reducible exact slotmeshlaw02_head.mono _)
      | (with_reducible exact slotmeshlaw02_usable.mono _ _)
      | (with_reducible exact slotmeshref02_SameDiags.mono _ _ _)
      | (with_reducible exact LeO.refl _)
      | (with_reducible exact LeO.none _)
      | (with_reducible refine LeO.ite ?_ ?_)
      | (with_reducible refine LeO.bind ?_ (fun _ => ?_))
      | exact ih0 _ _ _ _ _
      | exact ih1 _ _ _ _ _ _ _
      | exact ih2 _ _ _ _
      | exact slotmeshlaw02_head.mono _
      | exact slotmeshlaw02_usable.mono _ _
      | exact slotmeshref02_SameDiags.mono _ _ _
      | exact LeO.none _
      | refine LeO.ite ?_ ?_
      | refine LeO.bind ?_ (fun _ => ?_)
set_option maxHeartbeats 8000000 in
set_option maxRecDepth 100000 in
theorem slotmeshlaw02_ParserErrors.calls (k : Nat) (a0 : ByteArray) (a1 : ByteArray) (a2 : Int) (r : Bool) (w : World) (hG : Aside0 (Tx.GQ w)) (h : slotmeshlaw02_ParserErrors.f k a0 a1 a2 = some r) (hr0_ : r = true) :
    Calls Tryd.prog 12 #[.string a0, .string a1, .int .u8 a2] w fun e w' => e = .returned (.bool r) ∧ Below w.heap.size w w' := by
  have hr_ := Aside0.mk hr0_
  clear hr0_
  have hu54 := Tryd.underlying54
  have HB := Aside0.mk (Below.refl w.heap.size w)
  have H : ((slotmeshlaw02_head.f k).bind fun t590 => (if (a0.size : Int) > 8010 then (slotmeshlaw02_ParserErrors.j0 k a0 a1 a2 t590 true) else (slotmeshlaw02_ParserErrors.j0 k a0 a1 a2 t590 (decide ((a1.size : Int) > 8010))))) = some r := h
  clear h
  replace H := Option.bind_eq_some_iff.mp H
  obtain ⟨t590, A40, H⟩ := H
  replace H : (if (a0.size : Int) > 8010 then (slotmeshlaw02_ParserErrors.j0 k a0 a1 a2 t590 true) else (slotmeshlaw02_ParserErrors.j0 k a0 a1 a2 t590 (decide ((a1.size : Int) > 8010)))) = some r := H
  have A4 := Aside0.mk A40
  clear A40
  have HC5 := Aside0.mk H
  clear H
  go_enter Tryd.func12, Tryd.ntmps12
  go_upto_region 2 with (first | (go_at_call 32; (with_reducible refine (slotmeshlaw02_head.calls k  t590 _ ?side1 A4.out).mono ?_); (case side1 => exact Tx.GQ.aside hG (by repeat (first | (with_reducible first | exact HB.out | apply below_alloc | apply pw_below_drewN | apply below_drew1) | exact HB.out))); rintro e w6 ⟨rfl, hb⟩; have n0_ := Aside0.mk (below_step (by repeat (first | (with_reducible first | exact HB.out | apply below_alloc | apply pw_below_drewN | apply below_drew1) | exact HB.out)) hb); clear HB; have HB := n0_; clear n0_; (try clear hb); (try clear hb2); (try clear hk); (try clear hi)))
  repeat (go_quiet (first | (go_at_call 32; (with_reducible refine (slotmeshlaw02_head.calls k  t590 _ ?side1 A4.out).mono ?_); (case side1 => exact Tx.GQ.aside hG (by repeat (first | (with_reducible first | exact HB.out | apply below_alloc | apply pw_below_drewN | apply below_drew1) | exact HB.out))); rintro e w6 ⟨rfl, hb⟩; have n0_ := Aside0.mk (below_step (by repeat (first | (with_reducible first | exact HB.out | apply below_alloc | apply pw_below_drewN | apply below_drew1) | exact HB.out)) hb); clear HB; have HB := n0_; clear n0_; (try clear hb); (try clear hb2); (try clear hk); (try clear hi))); go_upto_region 2 with (first | (go_at_call 32; (with_reducible refine (slotmeshlaw02_head.calls k  t590 _ ?side1 A4.out).mono ?_); (case side1 => exact Tx.GQ.aside hG (by repeat (first | (with_reducible first | exact HB.out | apply below_alloc | apply pw_below_drewN | apply below_drew1) | exact HB.out))); rintro e w6 ⟨rfl, hb⟩; have n0_ := Aside0.mk (below_step (by repeat (first | (with_reducible first | exact HB.out | apply below_alloc | apply pw_below_drewN | apply below_drew1) | exact HB.out)) hb); clear HB; have HB := n0_; clear n0_; (try clear hb); (try clear hb2); (try clear hk); (try clear hi))))
  (try simp only [Act.put, List.setIfInBounds_toArray, List.set_cons_zero, List.set_cons_succ])
  go_cut [25] (fun v25 wc => ∃ (kq : Nat) (x25_4 : Bool), v25 = .bool x25_4 ∧ Aside0 (slotmeshlaw02_ParserErrors.j0 kq a0 a1 a2 t590 x25_4 = some r) ∧ Aside0 (kq ≤ k) ∧ Aside0 (Below w.heap.size w wc))
  case first =>
    have H := HC5.out
    clear HC5
    by_cases c7 : (a0.size : Int) > 8010
    · rw [if_pos c7] at H
      have c7b0 : decide (8010 < (a0.size : Int)) = true := decide_eq_true c7
      have c7b1 : decide (8010 < a0.size) = true := decide_eq_true (by omega)
      clear c7
      (first | rw [c7b0] | (simp only [i64_w, i32_w]; rw [c7b0]) | skip)
      have H' := Aside0.mk H
      clear H
      go_wp2
      repeat (go_quiet (fail); try go_wp2)
      go_meet
      case rel => exact ⟨_, (true), (by first | rfl | (simp; done) | (simp [*]; done)), H', ⟨by first | omega | exact Nat.le_refl _⟩, ⟨by repeat (first | (with_reducible first | exact HB.out | apply below_alloc | apply pw_below_drewN | apply below_drew1) | exact HB.out)⟩⟩
    · rw [if_neg c7] at H
      have c7b0 : decide (8010 < (a0.size : Int)) = false := decide_eq_false c7
      have c7b1 : decide (8010 < a0.size) = false := decide_eq_false (by omega)
      clear c7
      (first | rw [c7b0] | (simp only [i64_w, i32_w]; rw [c7b0]) | skip)
      have H' := Aside0.mk H
      clear H
      go_wp2
      repeat (go_quiet (fail); try go_wp2)
      go_meet
      case rel => exact ⟨_, (decide ((a1.size : Int) > 8010)), (by first | rfl | (simp; done) | (simp [*]; done)), H', ⟨by first | omega | exact Nat.le_refl _⟩, ⟨by repeat (first | (with_reducible first | exact HB.out | apply below_alloc | apply pw_below_drewN | apply below_drew1) | exact HB.out)⟩⟩
  case rest =>
    clear HC5
    try clear c1
    try clear p2
    try clear c7
    try clear c7b0
    try clear c7b1
    obtain ⟨kq, x25_4, rfl, HA, HJ4, HB⟩ := hcut
    cases kq with
    | zero => exact absurd HA.out (by simp [slotmeshlaw02_ParserErrors.j0])
    | succ kj4 =>
      have H := HA.out
      clear HA
      simp only [slotmeshlaw02_ParserErrors.j0] at H
      by_cases c8 : x25_4 = true
      · subst c8
        have H1 : (some t590) = some r := by rw [if_pos rfl] at H; exact H
        clear H
        have H := H1
        clear H1
        clear hr_
        obtain rfl := Option.some.inj H
        go_wp2
        repeat (go_quiet (fail); try go_wp2)
        go_ret
        exact ⟨by first | rfl | (simp [errW_none, errW_some] <;> rfl) | (simp [*, errW_none, errW_some] <;> rfl), by repeat (first | (with_reducible first | exact HB.out | apply below_alloc | apply pw_below_drewN | apply below_drew1) | exact HB.out)⟩
      · replace c8 := Bool.eq_false_iff.mpr c8
        subst c8
        have H1 : ((parser_Parse.f a0).bind fun bt591 => (slotmeshlaw02_ParserErrors.l0 kj4 a0 a1 a2 t590 bt591.2 (bt591.2.length : Int) 0)) = some r := by rw [if_neg (show ¬ (false = true) by decide)] at H; exact H
        clear H
        have H := H1
        clear H1
        replace H := Option.bind_eq_some_iff.mp H
        obtain ⟨⟨t591, t592⟩, A90, H⟩ := H
        replace H : (slotmeshlaw02_ParserErrors.l0 kj4 a0 a1 a2 t590 t592 (t592.length : Int) 0) = some r := H
        have A9 := Aside0.mk A90
        clear A90
        have H' := Aside0.mk H
        clear H
        go_wp2_with (first | (go_at_call 20; (with_reducible refine (parser_Parse.calls a0 t591 t592 _ ?side1 A9.out).mono ?_); (case side1 => exact Tx.GQ.aside hG (by repeat (first | (with_reducible first | exact HB.out | apply below_alloc | apply pw_below_drewN | apply below_drew1) | exact HB.out))); rintro e w10 ⟨v593, v595, rfl, ho0, ho1, hb⟩; have n0_ := Aside0.mk (Kd.N_lower (Kd.N_mono (ok' := fun k_ => some k_ ≠ (v595 : Value).ownBlock) (Kd.R_N (Kd.R_bound (Kd.R_apart' ho0 (Kd.R_typed ho1) (by decide)))) (fun k_ hk_ => hk_.1.2)) (below_size (by repeat (first | (with_reducible first | exact HB.out | apply below_alloc | apply pw_below_drewN | apply below_drew1) | exact HB.out)))); have n1_ := Aside0.mk (Kd.R_lower ho1 (below_size (by repeat (first | (with_reducible first | exact HB.out | apply below_alloc | apply pw_below_drewN | apply below_drew1) | exact HB.out)))); have n2_ := Aside0.mk (below_step (by repeat (first | (with_reducible first | exact HB.out | apply below_alloc | apply pw_below_drewN | apply below_drew1) | exact HB.out)) hb); clear HB; have HO594 := n0_; have HO596 := n1_; have HB := n2_; clear n0_ n1_ n2_; (try clear hb); (try clear hb2); (try clear hk); (try clear hi); (try clear ho0); (try clear ho1); obtain ⟨Ao11, co11, eo11⟩ := Kd.R_slice HO596.out; subst eo11))
        repeat (go_quiet (first | (go_at_call 20; (with_reducible refine (parser_Parse.calls a0 t591 t592 _ ?side1 A9.out).mono ?_); (case side1 => exact Tx.GQ.aside hG (by repeat (first | (with_reducible first | exact HB.out | apply below_alloc | apply pw_below_drewN | apply below_drew1) | exact HB.out))); rintro e w10 ⟨v593, v595, rfl, ho0, ho1, hb⟩; have n0_ := Aside0.mk (Kd.N_lower (Kd.N_mono (ok' := fun k_ => some k_ ≠ (v595 : Value).ownBlock) (Kd.R_N (Kd.R_bound (Kd.R_apart' ho0 (Kd.R_typed ho1) (by decide)))) (fun k_ hk_ => hk_.1.2)) (below_size (by repeat (first | (with_reducible first | exact HB.out | apply below_alloc | apply pw_below_drewN | apply below_drew1) | exact HB.out)))); have n1_ := Aside0.mk (Kd.R_lower ho1 (below_size (by repeat (first | (with_reducible first | exact HB.out | apply below_alloc | apply pw_below_drewN | apply below_drew1) | exact HB.out)))); have n2_ := Aside0.mk (below_step (by repeat (first | (with_reducible first | exact HB.out | apply below_alloc | apply pw_below_drewN | apply below_drew1) | exact HB.out)) hb); clear HB; have HO594 := n0_; have HO596 := n1_; have HB := n2_; clear n0_ n1_ n2_; (try clear hb); (try clear hb2); (try clear hk); (try clear hi); (try clear ho0); (try clear ho1); obtain ⟨Ao11, co11, eo11⟩ := Kd.R_slice HO596.out; subst eo11)); try go_wp2_with (first | (go_at_call 20; (with_reducible refine (parser_Parse.calls a0 t591 t592 _ ?side1 A9.out).mono ?_); (case side1 => exact Tx.GQ.aside hG (by repeat (first | (with_reducible first | exact HB.out | apply below_alloc | apply pw_below_drewN | apply below_drew1) | exact HB.out))); rintro e w10 ⟨v593, v595, rfl, ho0, ho1, hb⟩; have n0_ := Aside0.mk (Kd.N_lower (Kd.N_mono (ok' := fun k_ => some k_ ≠ (v595 : Value).ownBlock) (Kd.R_N (Kd.R_bound (Kd.R_apart' ho0 (Kd.R_typed ho1) (by decide)))) (fun k_ hk_ => hk_.1.2)) (below_size (by repeat (first | (with_reducible first | exact HB.out | apply below_alloc | apply pw_below_drewN | apply below_drew1) | exact HB.out)))); have n1_ := Aside0.mk (Kd.R_lower ho1 (below_size (by repeat (first | (with_reducible first | exact HB.out | apply below_alloc | apply pw_below_drewN | apply below_drew1) | exact HB.out)))); have n2_ := Aside0.mk (below_step (by repeat (first | (with_reducible first | exact HB.out | apply below_alloc | apply pw_below_drewN | apply below_drew1) | exact HB.out)) hb); clear HB; have HO594 := n0_; have HO596 := n1_; have HB := n2_; clear n0_ n1_ n2_; (try clear hb); (try clear hb2); (try clear hk); (try clear hi); (try clear ho0); (try clear ho1); obtain ⟨Ao11, co11, eo11⟩ := Kd.R_slice HO596.out; subst eo11)))
        go_loopg [34] kj4 (fun kq v34 w' => ∃ (x34_2 : Int), v34 = .int .i64 x34_2 ∧ Aside0 (slotmeshlaw02_ParserErrors.l0 kq a0 a1 a2 t590 t592 (t592.length : Int) x34_2 = some r) ∧ Aside0 (kq ≤ kj4) ∧ Aside0 (Kd.R k54 54 w' w.heap.size (fun _ => True) (.slice Ao11 t592.length co11) t592) ∧ Aside0 (Below w.heap.size w w'))
        case atStart => exact ⟨(0), (by first | rfl | (simp; done) | (simp [*]; done)), H', ⟨Nat.le_refl _⟩, ⟨by (with_reducible repeat (first | apply Kd.R_alloc | apply Kd.R_drewN | apply Kd.R_drew)); exact HO596.out⟩, ⟨by repeat (first | (with_reducible first | exact HB.out | apply below_alloc | apply pw_below_drewN | apply below_drew1) | exact HB.out)⟩⟩
        case round =>
          clear H'
          try clear c1
          try clear p2
          try clear c7
          try clear c7b0
          try clear c7b1
          try clear c8
          try clear p2
          obtain ⟨x34_2, rfl, HA, HK2, HO_9, HB⟩ := hrel
          cases gk with
          | zero => exact absurd HA.out (by simp [slotmeshlaw02_ParserErrors.l0])
          | succ k2 =>
            have H := HA.out
            clear HA
            simp only [slotmeshlaw02_ParserErrors.l0] at H
            by_cases c12 : x34_2 < (t592.length : Int)
            · rw [if_pos c12] at H
              have c12b0 : decide (x34_2 < (t592.length : Int)) = true := decide_eq_true c12
              clear c12
              by_cases c13 : 0 ≤ x34_2
              · rw [if_pos c13] at H
                have c13b0 : decide (0 ≤ x34_2) = true := decide_eq_true c13
                clear c13
                by_cases c14 : x34_2 < (t592.length : Int)
                · rw [if_pos c14] at H
                  have c14b0 : decide (x34_2 < (t592.length : Int)) = true := decide_eq_true c14
                  clear c14
                  by_cases c15 : ((rd_T54 t592 x34_2).f1) < 0
                  · rw [if_pos c15] at H
                    have c15b0 : decide (((rd_T54 t592 x34_2).f1) < 0) = true := decide_eq_true c15
                    clear c15
                    exact absurd ((Option.some.inj H).trans hr_.out) (by decide)
                  · rw [if_neg c15] at H
                    have c15b0 : decide (((rd_T54 t592 x34_2).f1) < 0) = false := decide_eq_false c15
                    clear c15
                    by_cases c16 : ((rd_T54 t592 x34_2).f1) > (a0.size : Int)
                    · rw [if_pos c16] at H
                      have c16b0 : decide ((a0.size : Int) < ((rd_T54 t592 x34_2).f1)) = true := decide_eq_true c16
                      clear c16
                      exact absurd ((Option.some.inj H).trans hr_.out) (by decide)
                    · rw [if_neg c16] at H
                      have c16b0 : decide ((a0.size : Int) < ((rd_T54 t592 x34_2).f1)) = false := decide_eq_false c16
                      clear c16
                      by_cases c17 : x34_2 > 0
                      · rw [if_pos c17] at H
                        have c17b0 : decide (0 < x34_2) = true := decide_eq_true c17
                        clear c17
                        obtain ⟨ji18, hji18⟩ : ∃ j_ : Int, (wrap64 (x34_2 - 1)) = j_ := ⟨_, rfl⟩
                        replace H : (if 0 ≤ (ji18) then (if (ji18) < (t592.length : Int) then (if ((rd_T54 t592 x34_2).f1) ≤ ((rd_T54 t592 (ji18)).f1) then (some false) else (if ((rd_T54 t592 x34_2).f0) = 0 then (some false) else (slotmeshlaw02_ParserErrors.l0 k2 a0 a1 a2 t590 t592 (t592.length : Int) (wrap64 (x34_2 + 1))))) else (none)) else (none)) = some r := by first | (rw [hji18] at H; exact H) | (simp only [hji18] at H ⊢; exact H)
                        have hji18w : (IntKind.i64.wrap (x34_2 - 1)) = ji18 := (i64_w _).trans hji18
                        by_cases c19 : 0 ≤ (ji18)
                        · rw [if_pos c19] at H
                          have c19b0 : decide (0 ≤ (ji18)) = true := decide_eq_true c19
                          clear c19
                          by_cases c20 : (ji18) < (t592.length : Int)
                          · rw [if_pos c20] at H
                            have c20b0 : decide ((ji18) < (t592.length : Int)) = true := decide_eq_true c20
                            clear c20
                            by_cases c21 : ((rd_T54 t592 x34_2).f1) ≤ ((rd_T54 t592 (ji18)).f1)
                            · rw [if_pos c21] at H
                              have c21b0 : decide (((rd_T54 t592 x34_2).f1) ≤ ((rd_T54 t592 (ji18)).f1)) = true := decide_eq_true c21
                              clear c21
                              exact absurd ((Option.some.inj H).trans hr_.out) (by decide)
                            · rw [if_neg c21] at H
                              have c21b0 : decide (((rd_T54 t592 x34_2).f1) ≤ ((rd_T54 t592 (ji18)).f1)) = false := decide_eq_false c21
                              clear c21
                              by_cases c22 : ((rd_T54 t592 x34_2).f0) = 0
                              · rw [if_pos c22] at H
                                have c22b0 : (((rd_T54 t592 x34_2).f0) == 0) = true := beq_iff_eq.mpr c22
                                have c22b1 : (((rd_T54 t592 x34_2).f0) != 0) = false := bne_eq_false_iff_eq.mpr c22
                                clear c22
                                exact absurd ((Option.some.inj H).trans hr_.out) (by decide)
                              · rw [if_neg c22] at H
                                have c22b0 : (((rd_T54 t592 x34_2).f0) == 0) = false := beq_eq_false_iff_ne.mpr c22
                                have c22b1 : (((rd_T54 t592 x34_2).f0) != 0) = true := bne_iff_ne.mpr c22
                                have H' := Aside0.mk H
                                clear H
                                have p597 : 0 ≤ (x34_2 : Int) := of_decide_eq_true (by first | (with_reducible assumption) | assumption)
                                have q597 : x34_2 < (t592.length : Int) := of_decide_eq_true (by first | (with_reducible assumption) | assumption)
                                obtain ⟨ad597, e597, hx597_0, hx597_1⟩ := at_T54 (Kd.R_reads' HO_9.out).2.2 x34_2 p597 q597
                                cases e597
                                replace p597 := eq_true p597
                                replace q597 := eq_true q597
                                have p598 : 0 ≤ (x34_2 : Int) := of_decide_eq_true (by first | (with_reducible assumption) | assumption)
                                have q598 : x34_2 < (t592.length : Int) := of_decide_eq_true (by first | (with_reducible assumption) | assumption)
                                obtain ⟨ad598, e598, hx598_0, hx598_1⟩ := at_T54 (Kd.R_reads' HO_9.out).2.2 x34_2 p598 q598
                                obtain rfl : ad597 = ad598 := (by injection e598)
                                replace p598 := eq_true p598
                                replace q598 := eq_true q598
                                have p599 : 0 ≤ (x34_2 : Int) := of_decide_eq_true (by first | (with_reducible assumption) | assumption)
                                have q599 : x34_2 < (t592.length : Int) := of_decide_eq_true (by first | (with_reducible assumption) | assumption)
                                obtain ⟨ad599, e599, hx599_0, hx599_1⟩ := at_T54 (Kd.R_reads' HO_9.out).2.2 x34_2 p599 q599
                                obtain rfl : ad597 = ad599 := (by injection e599)
                                replace p599 := eq_true p599
                                replace q599 := eq_true q599
                                have p600 : 0 ≤ ((ji18) : Int) := of_decide_eq_true (by first | (with_reducible assumption) | assumption)
                                have q600 : (ji18) < (t592.length : Int) := of_decide_eq_true (by first | (with_reducible assumption) | assumption)
                                obtain ⟨ad600, e600, hx600_0, hx600_1⟩ := at_T54 (Kd.R_reads' HO_9.out).2.2 (ji18) p600 q600
                                obtain rfl : ad597 = ad600 := (by injection e600)
                                replace p600 := eq_true p600
                                replace q600 := eq_true q600
                                have p601 : 0 ≤ (x34_2 : Int) := of_decide_eq_true (by first | (with_reducible assumption) | assumption)
                                have q601 : x34_2 < (t592.length : Int) := of_decide_eq_true (by first | (with_reducible assumption) | assumption)
                                obtain ⟨ad601, e601, hx601_0, hx601_1⟩ := at_T54 (Kd.R_reads' HO_9.out).2.2 x34_2 p601 q601
                                obtain rfl : ad597 = ad601 := (by injection e601)
                                replace p601 := eq_true p601
                                replace q601 := eq_true q601
                                go_wp2
                                repeat (go_quiet (fail); try go_wp2)
                                go_roundg k2
                                case measure => have := HJ4.out; have := HK2.out; omega
                                case rel => exact ⟨(wrap64 (x34_2 + 1)), (by first | rfl | (simp; done) | (simp [*]; done)), H', ⟨by have := HJ4.out; have := HK2.out; omega⟩, ⟨by (with_reducible repeat (first | apply Kd.R_alloc | apply Kd.R_drewN | apply Kd.R_drew)); exact HO_9.out⟩, ⟨by repeat (first | (with_reducible first | exact HB.out | apply below_alloc | apply pw_below_drewN | apply below_drew1) | exact HB.out)⟩⟩
                          · rw [if_neg c20] at H
                            exact absurd H (by simp)
                        · rw [if_neg c19] at H
                          exact absurd H (by simp)
                      · rw [if_neg c17] at H
                        have c17b0 : decide (0 < x34_2) = false := decide_eq_false c17
                        clear c17
                        by_cases c23 : ((rd_T54 t592 x34_2).f0) = 0
                        · rw [if_pos c23] at H
                          have c23b0 : (((rd_T54 t592 x34_2).f0) == 0) = true := beq_iff_eq.mpr c23
                          have c23b1 : (((rd_T54 t592 x34_2).f0) != 0) = false := bne_eq_false_iff_eq.mpr c23
                          clear c23
                          exact absurd ((Option.some.inj H).trans hr_.out) (by decide)
                        · rw [if_neg c23] at H
                          have c23b0 : (((rd_T54 t592 x34_2).f0) == 0) = false := beq_eq_false_iff_ne.mpr c23
                          have c23b1 : (((rd_T54 t592 x34_2).f0) != 0) = true := bne_iff_ne.mpr c23
                          have H' := Aside0.mk H
                          clear H
                          have p597 : 0 ≤ (x34_2 : Int) := of_decide_eq_true (by first | (with_reducible assumption) | assumption)
                          have q597 : x34_2 < (t592.length : Int) := of_decide_eq_true (by first | (with_reducible assumption) | assumption)
                          obtain ⟨ad597, e597, hx597_0, hx597_1⟩ := at_T54 (Kd.R_reads' HO_9.out).2.2 x34_2 p597 q597
                          cases e597
                          replace p597 := eq_true p597
                          replace q597 := eq_true q597
                          have p598 : 0 ≤ (x34_2 : Int) := of_decide_eq_true (by first | (with_reducible assumption) | assumption)
                          have q598 : x34_2 < (t592.length : Int) := of_decide_eq_true (by first | (with_reducible assumption) | assumption)
                          obtain ⟨ad598, e598, hx598_0, hx598_1⟩ := at_T54 (Kd.R_reads' HO_9.out).2.2 x34_2 p598 q598
                          obtain rfl : ad597 = ad598 := (by injection e598)
                          replace p598 := eq_true p598
                          replace q598 := eq_true q598
                          have p602 : 0 ≤ (x34_2 : Int) := of_decide_eq_true (by first | (with_reducible assumption) | assumption)
                          have q602 : x34_2 < (t592.length : Int) := of_decide_eq_true (by first | (with_reducible assumption) | assumption)
                          obtain ⟨ad602, e602, hx602_0, hx602_1⟩ := at_T54 (Kd.R_reads' HO_9.out).2.2 x34_2 p602 q602
                          obtain rfl : ad597 = ad602 := (by injection e602)
                          replace p602 := eq_true p602
                          replace q602 := eq_true q602
                          go_wp2
                          repeat (go_quiet (fail); try go_wp2)
                          go_roundg k2
                          case measure => have := HJ4.out; have := HK2.out; omega
                          case rel => exact ⟨(wrap64 (x34_2 + 1)), (by first | rfl | (simp; done) | (simp [*]; done)), H', ⟨by have := HJ4.out; have := HK2.out; omega⟩, ⟨by (with_reducible repeat (first | apply Kd.R_alloc | apply Kd.R_drewN | apply Kd.R_drew)); exact HO_9.out⟩, ⟨by repeat (first | (with_reducible first | exact HB.out | apply below_alloc | apply pw_below_drewN | apply below_drew1) | exact HB.out)⟩⟩
                · rw [if_neg c14] at H
                  exact absurd H (by simp)
              · rw [if_neg c13] at H
                exact absurd H (by simp)
            · rw [if_neg c12] at H
              have c12b0 : decide (x34_2 < (t592.length : Int)) = false := decide_eq_false c12
              clear c12
              replace H := Option.bind_eq_some_iff.mp H
              obtain ⟨⟨t603, t604⟩, A240, H⟩ := H
              replace H : ((some (([(⟨#[]⟩ : ByteArray), (⟨#[120]⟩ : ByteArray), (⟨#[49, 50]⟩ : ByteArray), (⟨#[109, 111, 118, 101, 32, 97, 32, 51, 32, 52]⟩ : ByteArray), (⟨#[102, 97, 105, 108, 32, 97]⟩ : ByteArray), (⟨#[98, 97, 116, 116, 101, 114, 121, 32, 53]⟩ : ByteArray), (⟨#[102, 97, 115, 116, 32, 114, 117, 110, 32, 53]⟩ : ByteArray), (⟨#[100, 97, 116, 97, 32, 49, 32, 114, 97, 110, 103, 101, 32, 50]⟩ : ByteArray)] : List ByteArray) : List ByteArray)).bind fun y609 => (if 0 ≤ (Int.tmod (wrap64 (a2)) 8) then (if (Int.tmod (wrap64 (a2)) 8) < (y609.length : Int) then (if a0.size + 1 ≤ 9223372036854775807 then (if (a0 ++ (⟨#[10]⟩ : ByteArray)).size + (rdOf ByteArray.empty y609 (Int.tmod (wrap64 (a2)) 8)).size ≤ 9223372036854775807 then (if ((a0 ++ (⟨#[10]⟩ : ByteArray)) ++ (rdOf ByteArray.empty y609 (Int.tmod (wrap64 (a2)) 8))).size + 2 ≤ 9223372036854775807 then (if (((a0 ++ (⟨#[10]⟩ : ByteArray)) ++ (rdOf ByteArray.empty y609 (Int.tmod (wrap64 (a2)) 8))) ++ (⟨#[59, 10]⟩ : ByteArray)).size + a1.size ≤ 9223372036854775807 then (if (wrap64 ((t592.length : Int) + (t604.length : Int))) > 0 then (slotmeshlaw02_ParserErrors.j2 k2 a0 t590 ((((a0 ++ (⟨#[10]⟩ : ByteArray)) ++ (rdOf ByteArray.empty y609 (Int.tmod (wrap64 (a2)) 8))) ++ (⟨#[59, 10]⟩ : ByteArray)) ++ a1) true) else ((slotmeshlaw02_usable.f k2 ((((a0 ++ (⟨#[10]⟩ : ByteArray)) ++ (rdOf ByteArray.empty y609 (Int.tmod (wrap64 (a2)) 8))) ++ (⟨#[59, 10]⟩ : ByteArray)) ++ a1)).bind fun t613 => (slotmeshlaw02_ParserErrors.j2 k2 a0 t590 ((((a0 ++ (⟨#[10]⟩ : ByteArray)) ++ (rdOf ByteArray.empty y609 (Int.tmod (wrap64 (a2)) 8))) ++ (⟨#[59, 10]⟩ : ByteArray)) ++ a1) (!t613)))) else (none)) else (none)) else (none)) else (none)) else (none)) else (none))) = some r := H
              have A24 := Aside0.mk A240
              clear A240
              obtain ⟨y609, hy609⟩ : ∃ y_ : List ByteArray, y_ = (([(⟨#[]⟩ : ByteArray), (⟨#[120]⟩ : ByteArray), (⟨#[49, 50]⟩ : ByteArray), (⟨#[109, 111, 118, 101, 32, 97, 32, 51, 32, 52]⟩ : ByteArray), (⟨#[102, 97, 105, 108, 32, 97]⟩ : ByteArray), (⟨#[98, 97, 116, 116, 101, 114, 121, 32, 53]⟩ : ByteArray), (⟨#[102, 97, 115, 116, 32, 114, 117, 110, 32, 53]⟩ : ByteArray), (⟨#[100, 97, 116, 97, 32, 49, 32, 114, 97, 110, 103, 101, 32, 50]⟩ : ByteArray)] : List ByteArray)) := ⟨_, rfl⟩
              replace H : (if 0 ≤ (Int.tmod (wrap64 (a2)) 8) then (if (Int.tmod (wrap64 (a2)) 8) < (y609.length : Int) then (if a0.size + 1 ≤ 9223372036854775807 then (if (a0 ++ (⟨#[10]⟩ : ByteArray)).size + (rdOf ByteArray.empty y609 (Int.tmod (wrap64 (a2)) 8)).size ≤ 9223372036854775807 then (if ((a0 ++ (⟨#[10]⟩ : ByteArray)) ++ (rdOf ByteArray.empty y609 (Int.tmod (wrap64 (a2)) 8))).size + 2 ≤ 9223372036854775807 then (if (((a0 ++ (⟨#[10]⟩ : ByteArray)) ++ (rdOf ByteArray.empty y609 (Int.tmod (wrap64 (a2)) 8))) ++ (⟨#[59, 10]⟩ : ByteArray)).size + a1.size ≤ 9223372036854775807 then (if (wrap64 ((t592.length : Int) + (t604.length : Int))) > 0 then (slotmeshlaw02_ParserErrors.j2 k2 a0 t590 ((((a0 ++ (⟨#[10]⟩ : ByteArray)) ++ (rdOf ByteArray.empty y609 (Int.tmod (wrap64 (a2)) 8))) ++ (⟨#[59, 10]⟩ : ByteArray)) ++ a1) true) else ((slotmeshlaw02_usable.f k2 ((((a0 ++ (⟨#[10]⟩ : ByteArray)) ++ (rdOf ByteArray.empty y609 (Int.tmod (wrap64 (a2)) 8))) ++ (⟨#[59, 10]⟩ : ByteArray)) ++ a1)).bind fun t613 => (slotmeshlaw02_ParserErrors.j2 k2 a0 t590 ((((a0 ++ (⟨#[10]⟩ : ByteArray)) ++ (rdOf ByteArray.empty y609 (Int.tmod (wrap64 (a2)) 8))) ++ (⟨#[59, 10]⟩ : ByteArray)) ++ a1) (!t613)))) else (none)) else (none)) else (none)) else (none)) else (none)) else (none)) = some r := by first | (rw [hy609]; with_reducible exact H) | (have H2_ := (Option.bind_some _ _).symm.trans H; rw [hy609]; with_reducible exact H2_) | (have H2_ := (Option.bind_some _ _).symm.trans H; with_reducible exact H2_) | with_reducible exact H | (rw [hy609]; exact H) | exact H
              have Ny609 := Aside0.mk hy609
              clear hy609
              obtain ⟨ji25, hji25⟩ : ∃ j_ : Int, (Int.tmod (wrap64 (a2)) 8) = j_ := ⟨_, rfl⟩
              replace H : (if 0 ≤ (ji25) then (if (ji25) < (y609.length : Int) then (if a0.size + 1 ≤ 9223372036854775807 then (if (a0 ++ (⟨#[10]⟩ : ByteArray)).size + (rdOf ByteArray.empty y609 (ji25)).size ≤ 9223372036854775807 then (if ((a0 ++ (⟨#[10]⟩ : ByteArray)) ++ (rdOf ByteArray.empty y609 (ji25))).size + 2 ≤ 9223372036854775807 then (if (((a0 ++ (⟨#[10]⟩ : ByteArray)) ++ (rdOf ByteArray.empty y609 (ji25))) ++ (⟨#[59, 10]⟩ : ByteArray)).size + a1.size ≤ 9223372036854775807 then (if (wrap64 ((t592.length : Int) + (t604.length : Int))) > 0 then (slotmeshlaw02_ParserErrors.j2 k2 a0 t590 ((((a0 ++ (⟨#[10]⟩ : ByteArray)) ++ (rdOf ByteArray.empty y609 (ji25))) ++ (⟨#[59, 10]⟩ : ByteArray)) ++ a1) true) else ((slotmeshlaw02_usable.f k2 ((((a0 ++ (⟨#[10]⟩ : ByteArray)) ++ (rdOf ByteArray.empty y609 (ji25))) ++ (⟨#[59, 10]⟩ : ByteArray)) ++ a1)).bind fun t613 => (slotmeshlaw02_ParserErrors.j2 k2 a0 t590 ((((a0 ++ (⟨#[10]⟩ : ByteArray)) ++ (rdOf ByteArray.empty y609 (ji25))) ++ (⟨#[59, 10]⟩ : ByteArray)) ++ a1) (!t613)))) else (none)) else (none)) else (none)) else (none)) else (none)) else (none)) = some r := by first | (rw [hji25] at H; exact H) | (simp only [hji25] at H ⊢; exact H)
              (try rw [hji25] at A24)
              by_cases c26 : 0 ≤ (ji25)
              · rw [if_pos c26] at H
                have c26b0 : decide (0 ≤ (ji25)) = true := decide_eq_true c26
                clear c26
                by_cases c27 : (ji25) < (y609.length : Int)
                · rw [if_pos c27] at H
                  have c27b0 : decide ((ji25) < (y609.length : Int)) = true := decide_eq_true c27
                  clear c27
                  by_cases c28 : a0.size + 1 ≤ 9223372036854775807
                  · rw [if_pos c28] at H
                    have c28b0 := eq_true c28
                    have c28b1 : decide (a0.size + 1 ≤ 9223372036854775807) = true := decide_eq_true c28
                    try have c28b2 : (9223372036854775807 < a0.size + 1) = False := eq_false (Nat.not_lt.2 c28)
                    by_cases c29 : (a0 ++ (⟨#[10]⟩ : ByteArray)).size + (rdOf ByteArray.empty y609 (ji25)).size ≤ 9223372036854775807
                    · rw [if_pos c29] at H
                      have c29b0 := eq_true c29
                      have c29b1 : decide ((a0 ++ (⟨#[10]⟩ : ByteArray)).size + (rdOf ByteArray.empty y609 (ji25)).size ≤ 9223372036854775807) = true := decide_eq_true c29
                      try have c29b2 : (9223372036854775807 < (a0 ++ (⟨#[10]⟩ : ByteArray)).size + (rdOf ByteArray.empty y609 (ji25)).size) = False := eq_false (Nat.not_lt.2 c29)
                      by_cases c30 : ((a0 ++ (⟨#[10]⟩ : ByteArray)) ++ (rdOf ByteArray.empty y609 (ji25))).size + 2 ≤ 9223372036854775807
                      · rw [if_pos c30] at H
                        have c30b0 := eq_true c30
                        have c30b1 : decide (((a0 ++ (⟨#[10]⟩ : ByteArray)) ++ (rdOf ByteArray.empty y609 (ji25))).size + 2 ≤ 9223372036854775807) = true := decide_eq_true c30
                        try have c30b2 : (9223372036854775807 < ((a0 ++ (⟨#[10]⟩ : ByteArray)) ++ (rdOf ByteArray.empty y609 (ji25))).size + 2) = False := eq_false (Nat.not_lt.2 c30)
                        have c30b9 : (9223372036854775807 < a0.size + 1 + (rdOf ByteArray.empty y609 ji25).size + 2) = False := eq_false (Nat.not_lt.2 (by have h_ := c30; rw [ByteArray.size_append, ByteArray.size_append] at h_; exact h_))
                        by_cases c31 : (((a0 ++ (⟨#[10]⟩ : ByteArray)) ++ (rdOf ByteArray.empty y609 (ji25))) ++ (⟨#[59, 10]⟩ : ByteArray)).size + a1.size ≤ 9223372036854775807
                        · rw [if_pos c31] at H
                          have c31b0 := eq_true c31
                          have c31b1 : decide ((((a0 ++ (⟨#[10]⟩ : ByteArray)) ++ (rdOf ByteArray.empty y609 (ji25))) ++ (⟨#[59, 10]⟩ : ByteArray)).size + a1.size ≤ 9223372036854775807) = true := decide_eq_true c31
                          try have c31b2 : (9223372036854775807 < (((a0 ++ (⟨#[10]⟩ : ByteArray)) ++ (rdOf ByteArray.empty y609 (ji25))) ++ (⟨#[59, 10]⟩ : ByteArray)).size + a1.size) = False := eq_false (Nat.not_lt.2 c31)
                          have c31b9 : (9223372036854775807 < a0.size + 1 + (rdOf ByteArray.empty y609 ji25).size + 2 + a1.size) = False := eq_false (Nat.not_lt.2 (by have h_ := c31; rw [ByteArray.size_append, ByteArray.size_append, ByteArray.size_append] at h_; exact h_))
                          have HC32 := Aside0.mk H
                          clear H
                          go_upto_region 14 with (first | (go_at_call 20; (with_reducible refine (parser_Parse.calls a1 t603 t604 _ ?side1 A24.out).mono ?_); (case side1 => exact Tx.GQ.aside hG (by repeat (first | (with_reducible first | exact HB.out | apply below_alloc | apply pw_below_drewN | apply below_drew1) | exact HB.out))); rintro e w33 ⟨v605, v607, rfl, ho0, ho1, hb⟩; have n0_ := Aside0.mk (Kd.R_elder' (by (with_reducible repeat (first | apply Kd.R_alloc | apply Kd.R_drewN | apply Kd.R_drew)); exact HO_9.out) (Kd.R_base ho1) hb); have n1_ := Aside0.mk (Kd.N_lower (Kd.N_mono (ok' := fun k_ => some k_ ≠ (v607 : Value).ownBlock ∧ some k_ ≠ (.slice Ao11 t592.length co11 : Value).ownBlock) (Kd.R_N (Kd.R_bound (Kd.R_apart' ho0 (Kd.R_typed ho1) (by decide)))) (fun k_ hk_ => ⟨hk_.1.2, (Kd.fresh' (Kd.R_lt (by (with_reducible repeat (first | apply Kd.R_alloc | apply Kd.R_drewN | apply Kd.R_drew)); exact HO_9.out)) k_ hk_.2.1)⟩)) (below_size (by repeat (first | (with_reducible first | exact HB.out | apply below_alloc | apply pw_below_drewN | apply below_drew1) | exact HB.out)))); have n2_ := Aside0.mk (Kd.R_lower (Kd.R_new' ho1 (Kd.R_lt (by (with_reducible repeat (first | apply Kd.R_alloc | apply Kd.R_drewN | apply Kd.R_drew)); exact HO_9.out))) (below_size (by repeat (first | (with_reducible first | exact HB.out | apply below_alloc | apply pw_below_drewN | apply below_drew1) | exact HB.out)))); have n3_ := Aside0.mk (below_step (by repeat (first | (with_reducible first | exact HB.out | apply below_alloc | apply pw_below_drewN | apply below_drew1) | exact HB.out)) hb); clear HO_9; clear HB; have HO_9 := n0_; have HO606 := n1_; have HO608 := n2_; have HB := n3_; clear n0_ n1_ n2_ n3_; (try clear hb); (try clear hb2); (try clear hk); (try clear hi); (try clear ho0); (try clear ho1)) | ((with_reducible refine gate_dst (N := 85) rfl ?_); (try (refine gate_guard (by rfl) ?_; dsimp only)); refine Kd.R_lit Kd.string _ 9 ?hg (N := 85) ?hd (xs := ([(⟨#[]⟩ : ByteArray), (⟨#[120]⟩ : ByteArray), (⟨#[49, 50]⟩ : ByteArray), (⟨#[109, 111, 118, 101, 32, 97, 32, 51, 32, 52]⟩ : ByteArray), (⟨#[102, 97, 105, 108, 32, 97]⟩ : ByteArray), (⟨#[98, 97, 116, 116, 101, 114, 121, 32, 53]⟩ : ByteArray), (⟨#[102, 97, 115, 116, 32, 114, 117, 110, 32, 53]⟩ : ByteArray), (⟨#[100, 97, 116, 97, 32, 49, 32, 114, 97, 110, 103, 101, 32, 50]⟩ : ByteArray)] : List ByteArray)) (inner := [.string (⟨#[]⟩ : ByteArray), .string (⟨#[120]⟩ : ByteArray), .string (⟨#[49, 50]⟩ : ByteArray), .string (⟨#[109, 111, 118, 101, 32, 97, 32, 51, 32, 52]⟩ : ByteArray), .string (⟨#[102, 97, 105, 108, 32, 97]⟩ : ByteArray), .string (⟨#[98, 97, 116, 116, 101, 114, 121, 32, 53]⟩ : ByteArray), .string (⟨#[102, 97, 115, 116, 32, 114, 117, 110, 32, 53]⟩ : ByteArray), .string (⟨#[100, 97, 116, 97, 32, 49, 32, 114, 97, 110, 103, 101, 32, 50]⟩ : ByteArray)]) (ok := fun _ => True) (okp := fun _ => True) ?hr ?hp (fun _ hk => hk) trivial (Below.refl _ _) (Nat.le_refl _) (by simp) ?_; (case hd => rfl); (case hg => rfl); (case hr => first | (go_simp; done) | (go_simp; rfl)); (case hp => exact (Reps.one (show Kd.M Kd.string _ _ _ (⟨#[]⟩ : ByteArray) [.string (⟨#[]⟩ : ByteArray)] from rfl) (Reps.one (show Kd.M Kd.string _ _ _ (⟨#[120]⟩ : ByteArray) [.string (⟨#[120]⟩ : ByteArray)] from rfl) (Reps.one (show Kd.M Kd.string _ _ _ (⟨#[49, 50]⟩ : ByteArray) [.string (⟨#[49, 50]⟩ : ByteArray)] from rfl) (Reps.one (show Kd.M Kd.string _ _ _ (⟨#[109, 111, 118, 101, 32, 97, 32, 51, 32, 52]⟩ : ByteArray) [.string (⟨#[109, 111, 118, 101, 32, 97, 32, 51, 32, 52]⟩ : ByteArray)] from rfl) (Reps.one (show Kd.M Kd.string _ _ _ (⟨#[102, 97, 105, 108, 32, 97]⟩ : ByteArray) [.string (⟨#[102, 97, 105, 108, 32, 97]⟩ : ByteArray)] from rfl) (Reps.one (show Kd.M Kd.string _ _ _ (⟨#[98, 97, 116, 116, 101, 114, 121, 32, 53]⟩ : ByteArray) [.string (⟨#[98, 97, 116, 116, 101, 114, 121, 32, 53]⟩ : ByteArray)] from rfl) (Reps.one (show Kd.M Kd.string _ _ _ (⟨#[102, 97, 115, 116, 32, 114, 117, 110, 32, 53]⟩ : ByteArray) [.string (⟨#[102, 97, 115, 116, 32, 114, 117, 110, 32, 53]⟩ : ByteArray)] from rfl) (Reps.one (show Kd.M Kd.string _ _ _ (⟨#[100, 97, 116, 97, 32, 49, 32, 114, 97, 110, 103, 101, 32, 50]⟩ : ByteArray) [.string (⟨#[100, 97, 116, 97, 32, 49, 32, 114, 97, 110, 103, 101, 32, 50]⟩ : ByteArray)] from rfl) (Reps.none _ _)))))))))); intro v610 w34 ho35 hb hg_ hnew_; clear hg_ hnew_; (first | rw [← Ny609.out] at ho35 | (simp only [Int.reduceToNat] at ho35; rw [← Ny609.out] at ho35)); have n0_ := Aside0.mk (Kd.R_below (by (with_reducible repeat (first | apply Kd.R_alloc | apply Kd.R_drewN | apply Kd.R_drew)); exact HO_9.out) hb); have n1_ := Aside0.mk (Kd.N_elder' (by (with_reducible repeat (first | apply Kd.N_alloc | apply Kd.N_drewN | apply Kd.N_drew)); exact HO606.out) (Kd.R_base ho35) hb); have n2_ := Aside0.mk (Kd.R_below (by (with_reducible repeat (first | apply Kd.R_alloc | apply Kd.R_drewN | apply Kd.R_drew)); exact HO608.out) hb); have n3_ := Aside0.mk (Kd.R_lower ho35 (below_size (by repeat (first | (with_reducible first | exact HB.out | apply below_alloc | apply pw_below_drewN | apply below_drew1) | exact HB.out)))); have n4_ := Aside0.mk (below_step (by repeat (first | (with_reducible first | exact HB.out | apply below_alloc | apply pw_below_drewN | apply below_drew1) | exact HB.out)) hb); clear HO_9; clear HO606; clear HO608; clear HB; have HO_9 := n0_; have HO606 := n1_; have HO608 := n2_; have HO611 := n3_; have HB := n4_; clear n0_ n1_ n2_ n3_ n4_; clear hb ho35; obtain ⟨Ao36, co36, eo36⟩ := Kd.R_slice HO611.out; subst eo36; have p612 : 0 ≤ ((ji25) : Int) := of_decide_eq_true (by first | (with_reducible assumption) | assumption); have q612 : (ji25) < (y609.length : Int) := of_decide_eq_true (by first | (with_reducible assumption) | assumption); obtain ⟨ad612, e612, hx612_0⟩ := Kd.at_string (Kd.R_reads' HO611.out).2.2 (ji25) p612 q612; cases e612; replace p612 := eq_true p612; replace q612 := eq_true q612))
                          repeat (go_quiet (first | (go_at_call 20; (with_reducible refine (parser_Parse.calls a1 t603 t604 _ ?side1 A24.out).mono ?_); (case side1 => exact Tx.GQ.aside hG (by repeat (first | (with_reducible first | exact HB.out | apply below_alloc | apply pw_below_drewN | apply below_drew1) | exact HB.out))); rintro e w33 ⟨v605, v607, rfl, ho0, ho1, hb⟩; have n0_ := Aside0.mk (Kd.R_elder' (by (with_reducible repeat (first | apply Kd.R_alloc | apply Kd.R_drewN | apply Kd.R_drew)); exact HO_9.out) (Kd.R_base ho1) hb); have n1_ := Aside0.mk (Kd.N_lower (Kd.N_mono (ok' := fun k_ => some k_ ≠ (v607 : Value).ownBlock ∧ some k_ ≠ (.slice Ao11 t592.length co11 : Value).ownBlock) (Kd.R_N (Kd.R_bound (Kd.R_apart' ho0 (Kd.R_typed ho1) (by decide)))) (fun k_ hk_ => ⟨hk_.1.2, (Kd.fresh' (Kd.R_lt (by (with_reducible repeat (first | apply Kd.R_alloc | apply Kd.R_drewN | apply Kd.R_drew)); exact HO_9.out)) k_ hk_.2.1)⟩)) (below_size (by repeat (first | (with_reducible first | exact HB.out | apply below_alloc | apply pw_below_drewN | apply below_drew1) | exact HB.out)))); have n2_ := Aside0.mk (Kd.R_lower (Kd.R_new' ho1 (Kd.R_lt (by (with_reducible repeat (first | apply Kd.R_alloc | apply Kd.R_drewN | apply Kd.R_drew)); exact HO_9.out))) (below_size (by repeat (first | (with_reducible first | exact HB.out | apply below_alloc | apply pw_below_drewN | apply below_drew1) | exact HB.out)))); have n3_ := Aside0.mk (below_step (by repeat (first | (with_reducible first | exact HB.out | apply below_alloc | apply pw_below_drewN | apply below_drew1) | exact HB.out)) hb); clear HO_9; clear HB; have HO_9 := n0_; have HO606 := n1_; have HO608 := n2_; have HB := n3_; clear n0_ n1_ n2_ n3_; (try clear hb); (try clear hb2); (try clear hk); (try clear hi); (try clear ho0); (try clear ho1)) | ((with_reducible refine gate_dst (N := 85) rfl ?_); (try (refine gate_guard (by rfl) ?_; dsimp only)); refine Kd.R_lit Kd.string _ 9 ?hg (N := 85) ?hd (xs := ([(⟨#[]⟩ : ByteArray), (⟨#[120]⟩ : ByteArray), (⟨#[49, 50]⟩ : ByteArray), (⟨#[109, 111, 118, 101, 32, 97, 32, 51, 32, 52]⟩ : ByteArray), (⟨#[102, 97, 105, 108, 32, 97]⟩ : ByteArray), (⟨#[98, 97, 116, 116, 101, 114, 121, 32, 53]⟩ : ByteArray), (⟨#[102, 97, 115, 116, 32, 114, 117, 110, 32, 53]⟩ : ByteArray), (⟨#[100, 97, 116, 97, 32, 49, 32, 114, 97, 110, 103, 101, 32, 50]⟩ : ByteArray)] : List ByteArray)) (inner := [.string (⟨#[]⟩ : ByteArray), .string (⟨#[120]⟩ : ByteArray), .string (⟨#[49, 50]⟩ : ByteArray), .string (⟨#[109, 111, 118, 101, 32, 97, 32, 51, 32, 52]⟩ : ByteArray), .string (⟨#[102, 97, 105, 108, 32, 97]⟩ : ByteArray), .string (⟨#[98, 97, 116, 116, 101, 114, 121, 32, 53]⟩ : ByteArray), .string (⟨#[102, 97, 115, 116, 32, 114, 117, 110, 32, 53]⟩ : ByteArray), .string (⟨#[100, 97, 116, 97, 32, 49, 32, 114, 97, 110, 103, 101, 32, 50]⟩ : ByteArray)]) (ok := fun _ => True) (okp := fun _ => True) ?hr ?hp (fun _ hk => hk) trivial (Below.refl _ _) (Nat.le_refl _) (by simp) ?_; (case hd => rfl); (case hg => rfl); (case hr => first | (go_simp; done) | (go_simp; rfl)); (case hp => exact (Reps.one (show Kd.M Kd.string _ _ _ (⟨#[]⟩ : ByteArray) [.string (⟨#[]⟩ : ByteArray)] from rfl) (Reps.one (show Kd.M Kd.string _ _ _ (⟨#[120]⟩ : ByteArray) [.string (⟨#[120]⟩ : ByteArray)] from rfl) (Reps.one (show Kd.M Kd.string _ _ _ (⟨#[49, 50]⟩ : ByteArray) [.string (⟨#[49, 50]⟩ : ByteArray)] from rfl) (Reps.one (show Kd.M Kd.string _ _ _ (⟨#[109, 111, 118, 101, 32, 97, 32, 51, 32, 52]⟩ : ByteArray) [.string (⟨#[109, 111, 118, 101, 32, 97, 32, 51, 32, 52]⟩ : ByteArray)] from rfl) (Reps.one (show Kd.M Kd.string _ _ _ (⟨#[102, 97, 105, 108, 32, 97]⟩ : ByteArray) [.string (⟨#[102, 97, 105, 108, 32, 97]⟩ : ByteArray)] from rfl) (Reps.one (show Kd.M Kd.string _ _ _ (⟨#[98, 97, 116, 116, 101, 114, 121, 32, 53]⟩ : ByteArray) [.string (⟨#[98, 97, 116, 116, 101, 114, 121, 32, 53]⟩ : ByteArray)] from rfl) (Reps.one (show Kd.M Kd.string _ _ _ (⟨#[102, 97, 115, 116, 32, 114, 117, 110, 32, 53]⟩ : ByteArray) [.string (⟨#[102, 97, 115, 116, 32, 114, 117, 110, 32, 53]⟩ : ByteArray)] from rfl) (Reps.one (show Kd.M Kd.string _ _ _ (⟨#[100, 97, 116, 97, 32, 49, 32, 114, 97, 110, 103, 101, 32, 50]⟩ : ByteArray) [.string (⟨#[100, 97, 116, 97, 32, 49, 32, 114, 97, 110, 103, 101, 32, 50]⟩ : ByteArray)] from rfl) (Reps.none _ _)))))))))); intro v610 w34 ho35 hb hg_ hnew_; clear hg_ hnew_; (first | rw [← Ny609.out] at ho35 | (simp only [Int.reduceToNat] at ho35; rw [← Ny609.out] at ho35)); have n0_ := Aside0.mk (Kd.R_below (by (with_reducible repeat (first | apply Kd.R_alloc | apply Kd.R_drewN | apply Kd.R_drew)); exact HO_9.out) hb); have n1_ := Aside0.mk (Kd.N_elder' (by (with_reducible repeat (first | apply Kd.N_alloc | apply Kd.N_drewN | apply Kd.N_drew)); exact HO606.out) (Kd.R_base ho35) hb); have n2_ := Aside0.mk (Kd.R_below (by (with_reducible repeat (first | apply Kd.R_alloc | apply Kd.R_drewN | apply Kd.R_drew)); exact HO608.out) hb); have n3_ := Aside0.mk (Kd.R_lower ho35 (below_size (by repeat (first | (with_reducible first | exact HB.out | apply below_alloc | apply pw_below_drewN | apply below_drew1) | exact HB.out)))); have n4_ := Aside0.mk (below_step (by repeat (first | (with_reducible first | exact HB.out | apply below_alloc | apply pw_below_drewN | apply below_drew1) | exact HB.out)) hb); clear HO_9; clear HO606; clear HO608; clear HB; have HO_9 := n0_; have HO606 := n1_; have HO608 := n2_; have HO611 := n3_; have HB := n4_; clear n0_ n1_ n2_ n3_ n4_; clear hb ho35; obtain ⟨Ao36, co36, eo36⟩ := Kd.R_slice HO611.out; subst eo36; have p612 : 0 ≤ ((ji25) : Int) := of_decide_eq_true (by first | (with_reducible assumption) | assumption); have q612 : (ji25) < (y609.length : Int) := of_decide_eq_true (by first | (with_reducible assumption) | assumption); obtain ⟨ad612, e612, hx612_0⟩ := Kd.at_string (Kd.R_reads' HO611.out).2.2 (ji25) p612 q612; cases e612; replace p612 := eq_true p612; replace q612 := eq_true q612)); go_upto_region 14 with (first | (go_at_call 20; (with_reducible refine (parser_Parse.calls a1 t603 t604 _ ?side1 A24.out).mono ?_); (case side1 => exact Tx.GQ.aside hG (by repeat (first | (with_reducible first | exact HB.out | apply below_alloc | apply pw_below_drewN | apply below_drew1) | exact HB.out))); rintro e w33 ⟨v605, v607, rfl, ho0, ho1, hb⟩; have n0_ := Aside0.mk (Kd.R_elder' (by (with_reducible repeat (first | apply Kd.R_alloc | apply Kd.R_drewN | apply Kd.R_drew)); exact HO_9.out) (Kd.R_base ho1) hb); have n1_ := Aside0.mk (Kd.N_lower (Kd.N_mono (ok' := fun k_ => some k_ ≠ (v607 : Value).ownBlock ∧ some k_ ≠ (.slice Ao11 t592.length co11 : Value).ownBlock) (Kd.R_N (Kd.R_bound (Kd.R_apart' ho0 (Kd.R_typed ho1) (by decide)))) (fun k_ hk_ => ⟨hk_.1.2, (Kd.fresh' (Kd.R_lt (by (with_reducible repeat (first | apply Kd.R_alloc | apply Kd.R_drewN | apply Kd.R_drew)); exact HO_9.out)) k_ hk_.2.1)⟩)) (below_size (by repeat (first | (with_reducible first | exact HB.out | apply below_alloc | apply pw_below_drewN | apply below_drew1) | exact HB.out)))); have n2_ := Aside0.mk (Kd.R_lower (Kd.R_new' ho1 (Kd.R_lt (by (with_reducible repeat (first | apply Kd.R_alloc | apply Kd.R_drewN | apply Kd.R_drew)); exact HO_9.out))) (below_size (by repeat (first | (with_reducible first | exact HB.out | apply below_alloc | apply pw_below_drewN | apply below_drew1) | exact HB.out)))); have n3_ := Aside0.mk (below_step (by repeat (first | (with_reducible first | exact HB.out | apply below_alloc | apply pw_below_drewN | apply below_drew1) | exact HB.out)) hb); clear HO_9; clear HB; have HO_9 := n0_; have HO606 := n1_; have HO608 := n2_; have HB := n3_; clear n0_ n1_ n2_ n3_; (try clear hb); (try clear hb2); (try clear hk); (try clear hi); (try clear ho0); (try clear ho1)) | ((with_reducible refine gate_dst (N := 85) rfl ?_); (try (refine gate_guard (by rfl) ?_; dsimp only)); refine Kd.R_lit Kd.string _ 9 ?hg (N := 85) ?hd (xs := ([(⟨#[]⟩ : ByteArray), (⟨#[120]⟩ : ByteArray), (⟨#[49, 50]⟩ : ByteArray), (⟨#[109, 111, 118, 101, 32, 97, 32, 51, 32, 52]⟩ : ByteArray), (⟨#[102, 97, 105, 108, 32, 97]⟩ : ByteArray), (⟨#[98, 97, 116, 116, 101, 114, 121, 32, 53]⟩ : ByteArray), (⟨#[102, 97, 115, 116, 32, 114, 117, 110, 32, 53]⟩ : ByteArray), (⟨#[100, 97, 116, 97, 32, 49, 32, 114, 97, 110, 103, 101, 32, 50]⟩ : ByteArray)] : List ByteArray)) (inner := [.string (⟨#[]⟩ : ByteArray), .string (⟨#[120]⟩ : ByteArray), .string (⟨#[49, 50]⟩ : ByteArray), .string (⟨#[109, 111, 118, 101, 32, 97, 32, 51, 32, 52]⟩ : ByteArray), .string (⟨#[102, 97, 105, 108, 32, 97]⟩ : ByteArray), .string (⟨#[98, 97, 116, 116, 101, 114, 121, 32, 53]⟩ : ByteArray), .string (⟨#[102, 97, 115, 116, 32, 114, 117, 110, 32, 53]⟩ : ByteArray), .string (⟨#[100, 97, 116, 97, 32, 49, 32, 114, 97, 110, 103, 101, 32, 50]⟩ : ByteArray)]) (ok := fun _ => True) (okp := fun _ => True) ?hr ?hp (fun _ hk => hk) trivial (Below.refl _ _) (Nat.le_refl _) (by simp) ?_; (case hd => rfl); (case hg => rfl); (case hr => first | (go_simp; done) | (go_simp; rfl)); (case hp => exact (Reps.one (show Kd.M Kd.string _ _ _ (⟨#[]⟩ : ByteArray) [.string (⟨#[]⟩ : ByteArray)] from rfl) (Reps.one (show Kd.M Kd.string _ _ _ (⟨#[120]⟩ : ByteArray) [.string (⟨#[120]⟩ : ByteArray)] from rfl) (Reps.one (show Kd.M Kd.string _ _ _ (⟨#[49, 50]⟩ : ByteArray) [.string (⟨#[49, 50]⟩ : ByteArray)] from rfl) (Reps.one (show Kd.M Kd.string _ _ _ (⟨#[109, 111, 118, 101, 32, 97, 32, 51, 32, 52]⟩ : ByteArray) [.string (⟨#[109, 111, 118, 101, 32, 97, 32, 51, 32, 52]⟩ : ByteArray)] from rfl) (Reps.one (show Kd.M Kd.string _ _ _ (⟨#[102, 97, 105, 108, 32, 97]⟩ : ByteArray) [.string (⟨#[102, 97, 105, 108, 32, 97]⟩ : ByteArray)] from rfl) (Reps.one (show Kd.M Kd.string _ _ _ (⟨#[98, 97, 116, 116, 101, 114, 121, 32, 53]⟩ : ByteArray) [.string (⟨#[98, 97, 116, 116, 101, 114, 121, 32, 53]⟩ : ByteArray)] from rfl) (Reps.one (show Kd.M Kd.string _ _ _ (⟨#[102, 97, 115, 116, 32, 114, 117, 110, 32, 53]⟩ : ByteArray) [.string (⟨#[102, 97, 115, 116, 32, 114, 117, 110, 32, 53]⟩ : ByteArray)] from rfl) (Reps.one (show Kd.M Kd.string _ _ _ (⟨#[100, 97, 116, 97, 32, 49, 32, 114, 97, 110, 103, 101, 32, 50]⟩ : ByteArray) [.string (⟨#[100, 97, 116, 97, 32, 49, 32, 114, 97, 110, 103, 101, 32, 50]⟩ : ByteArray)] from rfl) (Reps.none _ _)))))))))); intro v610 w34 ho35 hb hg_ hnew_; clear hg_ hnew_; (first | rw [← Ny609.out] at ho35 | (simp only [Int.reduceToNat] at ho35; rw [← Ny609.out] at ho35)); have n0_ := Aside0.mk (Kd.R_below (by (with_reducible repeat (first | apply Kd.R_alloc | apply Kd.R_drewN | apply Kd.R_drew)); exact HO_9.out) hb); have n1_ := Aside0.mk (Kd.N_elder' (by (with_reducible repeat (first | apply Kd.N_alloc | apply Kd.N_drewN | apply Kd.N_drew)); exact HO606.out) (Kd.R_base ho35) hb); have n2_ := Aside0.mk (Kd.R_below (by (with_reducible repeat (first | apply Kd.R_alloc | apply Kd.R_drewN | apply Kd.R_drew)); exact HO608.out) hb); have n3_ := Aside0.mk (Kd.R_lower ho35 (below_size (by repeat (first | (with_reducible first | exact HB.out | apply below_alloc | apply pw_below_drewN | apply below_drew1) | exact HB.out)))); have n4_ := Aside0.mk (below_step (by repeat (first | (with_reducible first | exact HB.out | apply below_alloc | apply pw_below_drewN | apply below_drew1) | exact HB.out)) hb); clear HO_9; clear HO606; clear HO608; clear HB; have HO_9 := n0_; have HO606 := n1_; have HO608 := n2_; have HO611 := n3_; have HB := n4_; clear n0_ n1_ n2_ n3_ n4_; clear hb ho35; obtain ⟨Ao36, co36, eo36⟩ := Kd.R_slice HO611.out; subst eo36; have p612 : 0 ≤ ((ji25) : Int) := of_decide_eq_true (by first | (with_reducible assumption) | assumption); have q612 : (ji25) < (y609.length : Int) := of_decide_eq_true (by first | (with_reducible assumption) | assumption); obtain ⟨ad612, e612, hx612_0⟩ := Kd.at_string (Kd.R_reads' HO611.out).2.2 (ji25) p612 q612; cases e612; replace p612 := eq_true p612; replace q612 := eq_true q612)))
                          (try simp only [Act.put, List.setIfInBounds_toArray, List.set_cons_zero, List.set_cons_succ])
                          go_cut [108] (fun v108 wc => ∃ (kq : Nat) (x108_31 : Bool), v108 = .bool x108_31 ∧ Aside0 (slotmeshlaw02_ParserErrors.j2 kq a0 t590 ((((a0 ++ (⟨#[10]⟩ : ByteArray)) ++ (rdOf ByteArray.empty y609 (ji25))) ++ (⟨#[59, 10]⟩ : ByteArray)) ++ a1) x108_31 = some r) ∧ Aside0 (kq ≤ k2) ∧ Aside0 (Below w.heap.size w wc))
                          case first =>
                            have H := HC32.out
                            clear HC32
                            by_cases c37 : (wrap64 ((t592.length : Int) + (t604.length : Int))) > 0
                            · rw [if_pos c37] at H
                              have c37b0 : decide (0 < (wrap64 ((t592.length : Int) + (t604.length : Int)))) = true := decide_eq_true c37
                              clear c37
                              (first | rw [c37b0] | (simp only [i64_w, i32_w]; rw [c37b0]) | skip)
                              have H' := Aside0.mk H
                              clear H
                              obtain ⟨Ao38, co38, eo38⟩ := Kd.R_slice HO608.out
                              subst eo38
                              go_wp2
                              repeat (go_quiet (fail); try go_wp2)
                              go_meet
                              case rel => exact ⟨_, (true), (by first | rfl | (simp; done) | (simp [*]; done)), H', ⟨by have := HJ4.out; have := HK2.out; first | omega | exact Nat.le_refl _⟩, ⟨by repeat (first | (with_reducible first | exact HB.out | apply below_alloc | apply pw_below_drewN | apply below_drew1) | exact HB.out)⟩⟩
                            · rw [if_neg c37] at H
                              have c37b0 : decide (0 < (wrap64 ((t592.length : Int) + (t604.length : Int)))) = false := decide_eq_false c37
                              clear c37
                              (first | rw [c37b0] | (simp only [i64_w, i32_w]; rw [c37b0]) | skip)
                              replace H := Option.bind_eq_some_iff.mp H
                              obtain ⟨t613, A390, H⟩ := H
                              replace H : (slotmeshlaw02_ParserErrors.j2 k2 a0 t590 ((((a0 ++ (⟨#[10]⟩ : ByteArray)) ++ (rdOf ByteArray.empty y609 (ji25))) ++ (⟨#[59, 10]⟩ : ByteArray)) ++ a1) (!t613)) = some r := H
                              have A39 := Aside0.mk A390
                              clear A390
                              have H' := Aside0.mk H
                              clear H
                              obtain ⟨Ao40, co40, eo40⟩ := Kd.R_slice HO608.out
                              subst eo40
                              go_wp2_with (first | (go_at_call 38; (with_reducible refine (slotmeshlaw02_usable.calls k2 ((((a0 ++ (⟨#[10]⟩ : ByteArray)) ++ (rdOf ByteArray.empty y609 (ji25))) ++ (⟨#[59, 10]⟩ : ByteArray)) ++ a1) t613 _ A39.out).mono ?_); rintro e w41 ⟨rfl, hb⟩; have n0_ := Aside0.mk (Kd.R_below (by (with_reducible repeat (first | apply Kd.R_alloc | apply Kd.R_drewN | apply Kd.R_drew)); exact HO_9.out) hb); have n1_ := Aside0.mk (Kd.N_below (by (with_reducible repeat (first | apply Kd.N_alloc | apply Kd.N_drewN | apply Kd.N_drew)); exact HO606.out) hb); have n2_ := Aside0.mk (Kd.R_below (by (with_reducible repeat (first | apply Kd.R_alloc | apply Kd.R_drewN | apply Kd.R_drew)); exact HO608.out) hb); have n3_ := Aside0.mk (Kd.R_below (by (with_reducible repeat (first | apply Kd.R_alloc | apply Kd.R_drewN | apply Kd.R_drew)); exact HO611.out) hb); have n4_ := Aside0.mk (below_step (by repeat (first | (with_reducible first | exact HB.out | apply below_alloc | apply pw_below_drewN | apply below_drew1) | exact HB.out)) hb); clear HO_9; clear HO606; clear HO608; clear HO611; clear HB; have HO_9 := n0_; have HO606 := n1_; have HO608 := n2_; have HO611 := n3_; have HB := n4_; clear n0_ n1_ n2_ n3_ n4_; (try clear hb); (try clear hb2); (try clear hk); (try clear hi)))
                              repeat (go_quiet (first | (go_at_call 38; (with_reducible refine (slotmeshlaw02_usable.calls k2 ((((a0 ++ (⟨#[10]⟩ : ByteArray)) ++ (rdOf ByteArray.empty y609 (ji25))) ++ (⟨#[59, 10]⟩ : ByteArray)) ++ a1) t613 _ A39.out).mono ?_); rintro e w41 ⟨rfl, hb⟩; have n0_ := Aside0.mk (Kd.R_below (by (with_reducible repeat (first | apply Kd.R_alloc | apply Kd.R_drewN | apply Kd.R_drew)); exact HO_9.out) hb); have n1_ := Aside0.mk (Kd.N_below (by (with_reducible repeat (first | apply Kd.N_alloc | apply Kd.N_drewN | apply Kd.N_drew)); exact HO606.out) hb); have n2_ := Aside0.mk (Kd.R_below (by (with_reducible repeat (first | apply Kd.R_alloc | apply Kd.R_drewN | apply Kd.R_drew)); exact HO608.out) hb); have n3_ := Aside0.mk (Kd.R_below (by (with_reducible repeat (first | apply Kd.R_alloc | apply Kd.R_drewN | apply Kd.R_drew)); exact HO611.out) hb); have n4_ := Aside0.mk (below_step (by repeat (first | (with_reducible first | exact HB.out | apply below_alloc | apply pw_below_drewN | apply below_drew1) | exact HB.out)) hb); clear HO_9; clear HO606; clear HO608; clear HO611; clear HB; have HO_9 := n0_; have HO606 := n1_; have HO608 := n2_; have HO611 := n3_; have HB := n4_; clear n0_ n1_ n2_ n3_ n4_; (try clear hb); (try clear hb2); (try clear hk); (try clear hi))); try go_wp2_with (first | (go_at_call 38; (with_reducible refine (slotmeshlaw02_usable.calls k2 ((((a0 ++ (⟨#[10]⟩ : ByteArray)) ++ (rdOf ByteArray.empty y609 (ji25))) ++ (⟨#[59, 10]⟩ : ByteArray)) ++ a1) t613 _ A39.out).mono ?_); rintro e w41 ⟨rfl, hb⟩; have n0_ := Aside0.mk (Kd.R_below (by (with_reducible repeat (first | apply Kd.R_alloc | apply Kd.R_drewN | apply Kd.R_drew)); exact HO_9.out) hb); have n1_ := Aside0.mk (Kd.N_below (by (with_reducible repeat (first | apply Kd.N_alloc | apply Kd.N_drewN | apply Kd.N_drew)); exact HO606.out) hb); have n2_ := Aside0.mk (Kd.R_below (by (with_reducible repeat (first | apply Kd.R_alloc | apply Kd.R_drewN | apply Kd.R_drew)); exact HO608.out) hb); have n3_ := Aside0.mk (Kd.R_below (by (with_reducible repeat (first | apply Kd.R_alloc | apply Kd.R_drewN | apply Kd.R_drew)); exact HO611.out) hb); have n4_ := Aside0.mk (below_step (by repeat (first | (with_reducible first | exact HB.out | apply below_alloc | apply pw_below_drewN | apply below_drew1) | exact HB.out)) hb); clear HO_9; clear HO606; clear HO608; clear HO611; clear HB; have HO_9 := n0_; have HO606 := n1_; have HO608 := n2_; have HO611 := n3_; have HB := n4_; clear n0_ n1_ n2_ n3_ n4_; (try clear hb); (try clear hb2); (try clear hk); (try clear hi))))
                              go_meet
                              case rel => exact ⟨_, (!t613), (by first | rfl | (simp; done) | (simp [*]; done)), H', ⟨by have := HJ4.out; have := HK2.out; first | omega | exact Nat.le_refl _⟩, ⟨by repeat (first | (with_reducible first | exact HB.out | apply below_alloc | apply pw_below_drewN | apply below_drew1) | exact HB.out)⟩⟩
                          case rest =>
                            clear HC32
                            try clear c1
                            try clear c2
                            try clear p2
                            try clear c3
                            try clear p5
                            try clear q5
                            try clear hx5
                            try clear p6
                            try clear q6
                            try clear hx6
                            try clear c7
                            try clear c7b0
                            try clear c7b1
                            try clear c8
                            try clear c12
                            try clear c12b0
                            try clear c13
                            try clear c13b0
                            try clear c14
                            try clear c14b0
                            try clear c15
                            try clear c15b0
                            try clear c16
                            try clear c16b0
                            try clear c17
                            try clear c17b0
                            try clear c19
                            try clear c19b0
                            try clear c20
                            try clear c20b0
                            try clear c21
                            try clear c21b0
                            try clear c22
                            try clear c22b0
                            try clear c22b1
                            try clear c23
                            try clear c23b0
                            try clear c23b1
                            try clear c26
                            try clear c26b0
                            try clear c27
                            try clear c27b0
                            try clear c28
                            try clear c28b0
                            try clear c28b1
                            try clear c28b2
                            try clear c29
                            try clear c29b0
                            try clear c29b1
                            try clear c29b2
                            try clear c30
                            try clear c30b0
                            try clear c30b1
                            try clear c30b2
                            try clear c31
                            try clear c31b0
                            try clear c31b1
                            try clear c31b2
                            try clear c37
                            try clear c37b0
                            try clear hx597_0
                            try clear hx597_1
                            try clear hx598_0
                            try clear hx598_1
                            try clear hx599_0
                            try clear hx599_1
                            try clear hx600_0
                            try clear hx600_1
                            try clear hx601_0
                            try clear hx601_1
                            try clear hx602_0
                            try clear hx602_1
                            try clear hx612_0
                            try clear p2
                            try clear p597
                            try clear p598
                            try clear p599
                            try clear p600
                            try clear p601
                            try clear p602
                            try clear p612
                            try clear q597
                            try clear q598
                            try clear q599
                            try clear q600
                            try clear q601
                            try clear q602
                            try clear q612
                            obtain ⟨kq, x108_31, rfl, HA, HJ31, HB⟩ := hcut
                            cases kq with
                            | zero => exact absurd HA.out (by simp [slotmeshlaw02_ParserErrors.j2])
                            | succ kj31 =>
                              have H := HA.out
                              clear HA
                              simp only [slotmeshlaw02_ParserErrors.j2] at H
                              by_cases c42 : x108_31 = true
                              · subst c42
                                have H1 : (some t590) = some r := by rw [if_pos rfl] at H; exact H
                                clear H
                                have H := H1
                                clear H1
                                clear hr_
                                obtain rfl := Option.some.inj H
                                go_wp2
                                repeat (go_quiet (fail); try go_wp2)
                                go_ret
                                exact ⟨by first | rfl | (simp [errW_none, errW_some] <;> rfl) | (simp only [← hji25]; first | rfl | (simp [errW_none, errW_some] <;> rfl)) | (simp [*, errW_none, errW_some] <;> rfl), by repeat (first | (with_reducible first | exact HB.out | apply below_alloc | apply pw_below_drewN | apply below_drew1) | exact HB.out)⟩
                              · replace c42 := Bool.eq_false_iff.mpr c42
                                subst c42
                                have H1 : ((parser_Parse.f ((((a0 ++ (⟨#[10]⟩ : ByteArray)) ++ (rdOf ByteArray.empty y609 (ji25))) ++ (⟨#[59, 10]⟩ : ByteArray)) ++ a1)).bind fun bt614 => (if t590 = true then ((slotmeshref02_SameDiags.f kj31 bt614.2 (([(⟨7, wrap64 ((a0.size : Int) + 1)⟩ : S54)] : List (S54)))).bind fun t623 => (some t623)) else (some false))) = some r := by rw [if_neg (show ¬ (false = true) by decide)] at H; exact H
                                clear H
                                have H := H1
                                clear H1
                                replace H := Option.bind_eq_some_iff.mp H
                                obtain ⟨⟨t614, t615⟩, A430, H⟩ := H
                                replace H : (if t590 = true then ((slotmeshref02_SameDiags.f kj31 t615 (([(⟨7, wrap64 ((a0.size : Int) + 1)⟩ : S54)] : List (S54)))).bind fun t623 => (some t623)) else (some false)) = some r := H
                                have A43 := Aside0.mk A430
                                clear A430
                                by_cases c44 : t590 = true
                                · subst c44
                                  have H1 : ((slotmeshref02_SameDiags.f kj31 t615 (([(⟨7, wrap64 ((a0.size : Int) + 1)⟩ : S54)] : List (S54)))).bind fun t623 => (some t623)) = some r := by rw [if_pos rfl] at H; exact H
                                  clear H
                                  have H := H1
                                  clear H1
                                  obtain ⟨y620, hy620⟩ : ∃ y_ : List (S54), y_ = (([(⟨7, wrap64 ((a0.size : Int) + 1)⟩ : S54)] : List (S54))) := ⟨_, rfl⟩
                                  replace H : ((slotmeshref02_SameDiags.f kj31 t615 y620).bind fun t623 => (some t623)) = some r := by first | (rw [hy620]; with_reducible exact H) | (have H2_ := (Option.bind_some _ _).symm.trans H; rw [hy620]; with_reducible exact H2_) | (have H2_ := (Option.bind_some _ _).symm.trans H; with_reducible exact H2_) | with_reducible exact H | (rw [hy620]; exact H) | exact H
                                  have Ny620 := Aside0.mk hy620
                                  clear hy620
                                  replace H := Option.bind_eq_some_iff.mp H
                                  obtain ⟨t623, A450, H⟩ := H
                                  replace H : (some t623) = some r := H
                                  have A45 := Aside0.mk A450
                                  clear A450
                                  clear hr_
                                  obtain rfl := Option.some.inj H
                                  go_wp2_with (first | (go_at_call 20; (with_reducible refine (parser_Parse.calls ((((a0 ++ (⟨#[10]⟩ : ByteArray)) ++ (rdOf ByteArray.empty y609 (ji25))) ++ (⟨#[59, 10]⟩ : ByteArray)) ++ a1) t614 t615 _ ?side1 A43.out).mono ?_); (case side1 => exact Tx.GQ.aside hG (by repeat (first | (with_reducible first | exact HB.out | apply below_alloc | apply pw_below_drewN | apply below_drew1) | exact HB.out))); rintro e w46 ⟨v616, v618, rfl, ho0, ho1, hb⟩; have n0_ := Aside0.mk (Kd.N_lower (Kd.N_mono (ok' := fun k_ => some k_ ≠ (v618 : Value).ownBlock) (Kd.R_N (Kd.R_bound (Kd.R_apart' ho0 (Kd.R_typed ho1) (by decide)))) (fun k_ hk_ => hk_.1.2)) (below_size (by repeat (first | (with_reducible first | exact HB.out | apply below_alloc | apply pw_below_drewN | apply below_drew1) | exact HB.out)))); have n1_ := Aside0.mk (Kd.R_lower ho1 (below_size (by repeat (first | (with_reducible first | exact HB.out | apply below_alloc | apply pw_below_drewN | apply below_drew1) | exact HB.out)))); have n2_ := Aside0.mk (below_step (by repeat (first | (with_reducible first | exact HB.out | apply below_alloc | apply pw_below_drewN | apply below_drew1) | exact HB.out)) hb); clear HB; have HO617 := n0_; have HO619 := n1_; have HB := n2_; clear n0_ n1_ n2_; (try clear hb); (try clear hb2); (try clear hk); (try clear hi); (try clear ho0); (try clear ho1)) | ((with_reducible refine gate_dst (N := 122) rfl ?_); (try (refine gate_guard (by rfl) ?_; dsimp only)); refine Kd.R_lit k54 _ 54 ?hg (N := 122) ?hd (xs := ([(⟨7, wrap64 ((a0.size : Int) + 1)⟩ : S54)] : List (S54))) (inner := [.int .i64 7, .int .i64 (wrap64 ((a0.size : Int) + 1))]) (ok := fun _ => True) (okp := fun _ => True) ?hr ?hp (fun _ hk => hk) trivial (Below.refl _ _) (Nat.le_refl _) (by simp) ?_; (case hd => rfl); (case hg => rfl); (case hr => first | (go_simp; done) | (go_simp; rfl)); (case hp => exact (Reps.c2 (show Kd.M k54 _ _ _ (⟨7, wrap64 ((a0.size : Int) + 1)⟩ : S54) [.int .i64 7, .int .i64 (wrap64 ((a0.size : Int) + 1))] from (k54_mkM _ _ _ (⟨7, wrap64 ((a0.size : Int) + 1)⟩ : S54) )) (Reps.none _ _))); intro v621 w47 ho48 hb hg_ hnew_; clear hg_ hnew_; (first | rw [← Ny620.out] at ho48 | (simp only [Int.reduceToNat] at ho48; rw [← Ny620.out] at ho48)); have n0_ := Aside0.mk (Kd.N_elder' (by (with_reducible repeat (first | apply Kd.N_alloc | apply Kd.N_drewN | apply Kd.N_drew)); exact HO617.out) (Kd.R_base ho48) hb); have n1_ := Aside0.mk (Kd.R_elder' (by (with_reducible repeat (first | apply Kd.R_alloc | apply Kd.R_drewN | apply Kd.R_drew)); exact HO619.out) (Kd.R_base ho48) hb); have n2_ := Aside0.mk (Kd.R_lower (Kd.R_new' ho48 (Kd.R_lt (by (with_reducible repeat (first | apply Kd.R_alloc | apply Kd.R_drewN | apply Kd.R_drew)); exact HO619.out))) (below_size (by repeat (first | (with_reducible first | exact HB.out | apply below_alloc | apply pw_below_drewN | apply below_drew1) | exact HB.out)))); have n3_ := Aside0.mk (below_step (by repeat (first | (with_reducible first | exact HB.out | apply below_alloc | apply pw_below_drewN | apply below_drew1) | exact HB.out)) hb); clear HO617; clear HO619; clear HB; have HO617 := n0_; have HO619 := n1_; have HO622 := n2_; have HB := n3_; clear n0_ n1_ n2_ n3_; clear hb ho48; obtain ⟨Ao49, co49, eo49⟩ := Kd.R_slice HO619.out; subst eo49; obtain ⟨Ao50, co50, eo50⟩ := Kd.R_slice HO622.out; subst eo50) | (go_at_call 39; (with_reducible refine (slotmeshref02_SameDiags.calls kj31 _ _ t615 _ _ y620 t623 _ ?side1 ?side2 ?side3 ?side4 A45.out).mono ?_); (case side1 => repeat (first | exact (Kd.R_reads' HO619.out).2.2 | (with_reducible refine Kd.C_alloc ?_ _) | (with_reducible refine Kd.C_drewN ?_ _) | (with_reducible refine Kd.C_drew ?_))); (case side2 => exact (Kd.R_reads' HO619.out).2.1); (case side3 => repeat (first | exact (Kd.R_reads' HO622.out).2.2 | (with_reducible refine Kd.C_alloc ?_ _) | (with_reducible refine Kd.C_drewN ?_ _) | (with_reducible refine Kd.C_drew ?_))); (case side4 => exact (Kd.R_reads' HO622.out).2.1); rintro e w' ⟨rfl, ⟨nd, rfl⟩⟩; (try first | exact ⟨rfl, _, World.drewN_drewN _ _ _⟩ | exact ⟨rfl, _, Eq.trans (World.drewN_drewN _ _ _) (congrArg (World.drewN _) (Nat.add_assoc _ _ _))⟩)))
                                  repeat (go_quiet (first | (go_at_call 20; (with_reducible refine (parser_Parse.calls ((((a0 ++ (⟨#[10]⟩ : ByteArray)) ++ (rdOf ByteArray.empty y609 (ji25))) ++ (⟨#[59, 10]⟩ : ByteArray)) ++ a1) t614 t615 _ ?side1 A43.out).mono ?_); (case side1 => exact Tx.GQ.aside hG (by repeat (first | (with_reducible first | exact HB.out | apply below_alloc | apply pw_below_drewN | apply below_drew1) | exact HB.out))); rintro e w46 ⟨v616, v618, rfl, ho0, ho1, hb⟩; have n0_ := Aside0.mk (Kd.N_lower (Kd.N_mono (ok' := fun k_ => some k_ ≠ (v618 : Value).ownBlock) (Kd.R_N (Kd.R_bound (Kd.R_apart' ho0 (Kd.R_typed ho1) (by decide)))) (fun k_ hk_ => hk_.1.2)) (below_size (by repeat (first | (with_reducible first | exact HB.out | apply below_alloc | apply pw_below_drewN | apply below_drew1) | exact HB.out)))); have n1_ := Aside0.mk (Kd.R_lower ho1 (below_size (by repeat (first | (with_reducible first | exact HB.out | apply below_alloc | apply pw_below_drewN | apply below_drew1) | exact HB.out)))); have n2_ := Aside0.mk (below_step (by repeat (first | (with_reducible first | exact HB.out | apply below_alloc | apply pw_below_drewN | apply below_drew1) | exact HB.out)) hb); clear HB; have HO617 := n0_; have HO619 := n1_; have HB := n2_; clear n0_ n1_ n2_; (try clear hb); (try clear hb2); (try clear hk); (try clear hi); (try clear ho0); (try clear ho1)) | ((with_reducible refine gate_dst (N := 122) rfl ?_); (try (refine gate_guard (by rfl) ?_; dsimp only)); refine Kd.R_lit k54 _ 54 ?hg (N := 122) ?hd (xs := ([(⟨7, wrap64 ((a0.size : Int) + 1)⟩ : S54)] : List (S54))) (inner := [.int .i64 7, .int .i64 (wrap64 ((a0.size : Int) + 1))]) (ok := fun _ => True) (okp := fun _ => True) ?hr ?hp (fun _ hk => hk) trivial (Below.refl _ _) (Nat.le_refl _) (by simp) ?_; (case hd => rfl); (case hg => rfl); (case hr => first | (go_simp; done) | (go_simp; rfl)); (case hp => exact (Reps.c2 (show Kd.M k54 _ _ _ (⟨7, wrap64 ((a0.size : Int) + 1)⟩ : S54) [.int .i64 7, .int .i64 (wrap64 ((a0.size : Int) + 1))] from (k54_mkM _ _ _ (⟨7, wrap64 ((a0.size : Int) + 1)⟩ : S54) )) (Reps.none _ _))); intro v621 w47 ho48 hb hg_ hnew_; clear hg_ hnew_; (first | rw [← Ny620.out] at ho48 | (simp only [Int.reduceToNat] at ho48; rw [← Ny620.out] at ho48)); have n0_ := Aside0.mk (Kd.N_elder' (by (with_reducible repeat (first | apply Kd.N_alloc | apply Kd.N_drewN | apply Kd.N_drew)); exact HO617.out) (Kd.R_base ho48) hb); have n1_ := Aside0.mk (Kd.R_elder' (by (with_reducible repeat (first | apply Kd.R_alloc | apply Kd.R_drewN | apply Kd.R_drew)); exact HO619.out) (Kd.R_base ho48) hb); have n2_ := Aside0.mk (Kd.R_lower (Kd.R_new' ho48 (Kd.R_lt (by (with_reducible repeat (first | apply Kd.R_alloc | apply Kd.R_drewN | apply Kd.R_drew)); exact HO619.out))) (below_size (by repeat (first | (with_reducible first | exact HB.out | apply below_alloc | apply pw_below_drewN | apply below_drew1) | exact HB.out)))); have n3_ := Aside0.mk (below_step (by repeat (first | (with_reducible first | exact HB.out | apply below_alloc | apply pw_below_drewN | apply below_drew1) | exact HB.out)) hb); clear HO617; clear HO619; clear HB; have HO617 := n0_; have HO619 := n1_; have HO622 := n2_; have HB := n3_; clear n0_ n1_ n2_ n3_; clear hb ho48; obtain ⟨Ao49, co49, eo49⟩ := Kd.R_slice HO619.out; subst eo49; obtain ⟨Ao50, co50, eo50⟩ := Kd.R_slice HO622.out; subst eo50) | (go_at_call 39; (with_reducible refine (slotmeshref02_SameDiags.calls kj31 _ _ t615 _ _ y620 t623 _ ?side1 ?side2 ?side3 ?side4 A45.out).mono ?_); (case side1 => repeat (first | exact (Kd.R_reads' HO619.out).2.2 | (with_reducible refine Kd.C_alloc ?_ _) | (with_reducible refine Kd.C_drewN ?_ _) | (with_reducible refine Kd.C_drew ?_))); (case side2 => exact (Kd.R_reads' HO619.out).2.1); (case side3 => repeat (first | exact (Kd.R_reads' HO622.out).2.2 | (with_reducible refine Kd.C_alloc ?_ _) | (with_reducible refine Kd.C_drewN ?_ _) | (with_reducible refine Kd.C_drew ?_))); (case side4 => exact (Kd.R_reads' HO622.out).2.1); rintro e w' ⟨rfl, ⟨nd, rfl⟩⟩; (try first | exact ⟨rfl, _, World.drewN_drewN _ _ _⟩ | exact ⟨rfl, _, Eq.trans (World.drewN_drewN _ _ _) (congrArg (World.drewN _) (Nat.add_assoc _ _ _))⟩))); try go_wp2_with (first | (go_at_call 20; (with_reducible refine (parser_Parse.calls ((((a0 ++ (⟨#[10]⟩ : ByteArray)) ++ (rdOf ByteArray.empty y609 (ji25))) ++ (⟨#[59, 10]⟩ : ByteArray)) ++ a1) t614 t615 _ ?side1 A43.out).mono ?_); (case side1 => exact Tx.GQ.aside hG (by repeat (first | (with_reducible first | exact HB.out | apply below_alloc | apply pw_below_drewN | apply below_drew1) | exact HB.out))); rintro e w46 ⟨v616, v618, rfl, ho0, ho1, hb⟩; have n0_ := Aside0.mk (Kd.N_lower (Kd.N_mono (ok' := fun k_ => some k_ ≠ (v618 : Value).ownBlock) (Kd.R_N (Kd.R_bound (Kd.R_apart' ho0 (Kd.R_typed ho1) (by decide)))) (fun k_ hk_ => hk_.1.2)) (below_size (by repeat (first | (with_reducible first | exact HB.out | apply below_alloc | apply pw_below_drewN | apply below_drew1) | exact HB.out)))); have n1_ := Aside0.mk (Kd.R_lower ho1 (below_size (by repeat (first | (with_reducible first | exact HB.out | apply below_alloc | apply pw_below_drewN | apply below_drew1) | exact HB.out)))); have n2_ := Aside0.mk (below_step (by repeat (first | (with_reducible first | exact HB.out | apply below_alloc | apply pw_below_drewN | apply below_drew1) | exact HB.out)) hb); clear HB; have HO617 := n0_; have HO619 := n1_; have HB := n2_; clear n0_ n1_ n2_; (try clear hb); (try clear hb2); (try clear hk); (try clear hi); (try clear ho0); (try clear ho1)) | ((with_reducible refine gate_dst (N := 122) rfl ?_); (try (refine gate_guard (by rfl) ?_; dsimp only)); refine Kd.R_lit k54 _ 54 ?hg (N := 122) ?hd (xs := ([(⟨7, wrap64 ((a0.size : Int) + 1)⟩ : S54)] : List (S54))) (inner := [.int .i64 7, .int .i64 (wrap64 ((a0.size : Int) + 1))]) (ok := fun _ => True) (okp := fun _ => True) ?hr ?hp (fun _ hk => hk) trivial (Below.refl _ _) (Nat.le_refl _) (by simp) ?_; (case hd => rfl); (case hg => rfl); (case hr => first | (go_simp; done) | (go_simp; rfl)); (case hp => exact (Reps.c2 (show Kd.M k54 _ _ _ (⟨7, wrap64 ((a0.size : Int) + 1)⟩ : S54) [.int .i64 7, .int .i64 (wrap64 ((a0.size : Int) + 1))] from (k54_mkM _ _ _ (⟨7, wrap64 ((a0.size : Int) + 1)⟩ : S54) )) (Reps.none _ _))); intro v621 w47 ho48 hb hg_ hnew_; clear hg_ hnew_; (first | rw [← Ny620.out] at ho48 | (simp only [Int.reduceToNat] at ho48; rw [← Ny620.out] at ho48)); have n0_ := Aside0.mk (Kd.N_elder' (by (with_reducible repeat (first | apply Kd.N_alloc | apply Kd.N_drewN | apply Kd.N_drew)); exact HO617.out) (Kd.R_base ho48) hb); have n1_ := Aside0.mk (Kd.R_elder' (by (with_reducible repeat (first | apply Kd.R_alloc | apply Kd.R_drewN | apply Kd.R_drew)); exact HO619.out) (Kd.R_base ho48) hb); have n2_ := Aside0.mk (Kd.R_lower (Kd.R_new' ho48 (Kd.R_lt (by (with_reducible repeat (first | apply Kd.R_alloc | apply Kd.R_drewN | apply Kd.R_drew)); exact HO619.out))) (below_size (by repeat (first | (with_reducible first | exact HB.out | apply below_alloc | apply pw_below_drewN | apply below_drew1) | exact HB.out)))); have n3_ := Aside0.mk (below_step (by repeat (first | (with_reducible first | exact HB.out | apply below_alloc | apply pw_below_drewN | apply below_drew1) | exact HB.out)) hb); clear HO617; clear HO619; clear HB; have HO617 := n0_; have HO619 := n1_; have HO622 := n2_; have HB := n3_; clear n0_ n1_ n2_ n3_; clear hb ho48; obtain ⟨Ao49, co49, eo49⟩ := Kd.R_slice HO619.out; subst eo49; obtain ⟨Ao50, co50, eo50⟩ := Kd.R_slice HO622.out; subst eo50) | (go_at_call 39; (with_reducible refine (slotmeshref02_SameDiags.calls kj31 _ _ t615 _ _ y620 t623 _ ?side1 ?side2 ?side3 ?side4 A45.out).mono ?_); (case side1 => repeat (first | exact (Kd.R_reads' HO619.out).2.2 | (with_reducible refine Kd.C_alloc ?_ _) | (with_reducible refine Kd.C_drewN ?_ _) | (with_reducible refine Kd.C_drew ?_))); (case side2 => exact (Kd.R_reads' HO619.out).2.1); (case side3 => repeat (first | exact (Kd.R_reads' HO622.out).2.2 | (with_reducible refine Kd.C_alloc ?_ _) | (with_reducible refine Kd.C_drewN ?_ _) | (with_reducible refine Kd.C_drew ?_))); (case side4 => exact (Kd.R_reads' HO622.out).2.1); rintro e w' ⟨rfl, ⟨nd, rfl⟩⟩; (try first | exact ⟨rfl, _, World.drewN_drewN _ _ _⟩ | exact ⟨rfl, _, Eq.trans (World.drewN_drewN _ _ _) (congrArg (World.drewN _) (Nat.add_assoc _ _ _))⟩))))
                                  go_ret
                                  exact ⟨by first | rfl | (simp [errW_none, errW_some] <;> rfl) | (simp only [← hji25]; first | rfl | (simp [errW_none, errW_some] <;> rfl)) | (simp [*, errW_none, errW_some] <;> rfl), by repeat (first | (with_reducible first | exact HB.out | apply below_alloc | apply pw_below_drewN | apply below_drew1) | exact HB.out)⟩
                                · replace c44 := Bool.eq_false_iff.mpr c44
                                  subst c44
                                  have H1 : (some false) = some r := by rw [if_neg (show ¬ (false = true) by decide)] at H; exact H
                                  clear H
                                  have H := H1
                                  clear H1
                                  exact absurd ((Option.some.inj H).trans hr_.out) (by decide)
                        · rw [if_neg c31] at H
                          exact absurd H (by simp)
                      · rw [if_neg c30] at H
                        exact absurd H (by simp)
                    · rw [if_neg c29] at H
                      exact absurd H (by simp)
                  · rw [if_neg c28] at H
                    exact absurd H (by simp)
                · rw [if_neg c27] at H
                  exact absurd H (by simp)
              · rw [if_neg c26] at H
                exact absurd H (by simp)
end Go.Proofs.YtdedlchpjboceaaDoor.PE
end
