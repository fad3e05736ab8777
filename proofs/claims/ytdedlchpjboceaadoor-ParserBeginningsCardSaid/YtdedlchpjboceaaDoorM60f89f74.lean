/- Texts of proofs: plain words, and walks through the program's functions. -/
import Derived.Test.YtdedlchpjboceaaDoorM1a9a2473
import Derived.Test.YtdedlchpjboceaaDoorMdb8406fd
import Derived.Test.YtdedlchpjboceaaDoorMf22955d3
import Derived.Test.YtdedlchpjboceaaDoorM0c654a18
import Derived.Test.YtdedlchpjboceaaDoorMa3af8169
import Derived.Test.YtdedlchpjboceaaDoorMa30184cd
import Derived.Test.YtdedlchpjboceaaDoorMa73156ca
import Derived.Test.YtdedlchpjboceaaDoorMdbea204d
import Derived.Test.YtdedlchpjboceaaDoorMbd2141b7

section
namespace Go.Proofs.YtdedlchpjboceaaDoor.PE
open Go.RowKit Go.Proofs.YtdedlchpjboceaaDoorW.PrintWords Go.Proofs.YtdedlchpjboceaaDoorW.PrintLast Go.Proofs.YtdedlchpjboceaaDoorW.PrintMore
attribute [local go_sem] max2_int min2_int max_two min_two max_three min_three max_four min_four   -- for this text's walks alone
/-- What Itoa answers. -/
def strconv_Itoa.f (a0 : Int) : Option ByteArray := if -9223372036854775808 ≤ a0 ∧ a0 ≤ 9223372036854775807 then some ⟨(Lib.itoa a0).toArray⟩ else none
theorem strconv_Itoa.calls (a0 : Int) (r : ByteArray) (w : World) (hG : Aside0 (Tx.GQ w)) (h : strconv_Itoa.f a0 = some r) :
    Calls Tryd.prog 40 #[.int .i64 a0] w fun e w' => e = .returned (.string r) ∧ Below w.heap.size w w' := by
  unfold strconv_Itoa.f at h
  by_cases hn : -9223372036854775808 ≤ a0 ∧ a0 ≤ 9223372036854775807
  · rw [if_pos hn] at h
    have h' := Option.some.inj h
    subst h'
    refine (Tryd.strconv_Itoa a0 hn.1 hn.2 w hG.out.tab).mono ?_
    rintro e w' ⟨rfl, k, os, rfl⟩
    exact ⟨rfl, Lib.below_grow _ w (Nat.le_refl _) k os⟩
  · rw [if_neg hn] at h; cases h
end Go.Proofs.YtdedlchpjboceaaDoor.PE
end

section
namespace Go.Proofs.YtdedlchpjboceaaDoor.PE
open Go.RowKit Go.Proofs.YtdedlchpjboceaaDoorW.PrintWords Go.Proofs.YtdedlchpjboceaaDoorW.PrintLast Go.Proofs.YtdedlchpjboceaaDoorW.PrintMore
attribute [local go_sem] max2_int min2_int max_two min_two max_three min_three max_four min_four   -- for this text's walks alone
def slotmeshlaw02_usable.f (k : Nat) (a0 : ByteArray) : Option (Bool) := (slotmeshref01_Lex.f k a0).bind fun bt535 => (some (bt535.2.1 == 0))
theorem slotmeshlaw02_usable.mono : ∀ a0 k, LeO (slotmeshlaw02_usable.f k a0) (slotmeshlaw02_usable.f (k + 1) a0) := by
  intro a0 k
  unfold slotmeshlaw02_usable.f
  repeat' first
      | (with_reducible exact slotmeshref01_Lex.mono _ _)
      | (with_reducible exact LeO.refl _)
      | (with_reducible exact LeO.none _)
      | (with_reducible refine LeO.ite ?_ ?_)
      | (with_reducible refine LeO.bind ?_ (fun _ => ?_))
      | exact slotmeshref01_Lex.mono _ _
      | exact LeO.none _
      | refine LeO.ite ?_ ?_
      | refine LeO.bind ?_ (fun _ => ?_)
set_option maxHeartbeats 8000000 in
set_option maxRecDepth 100000 in
theorem slotmeshlaw02_usable.calls (k : Nat) (a0 : ByteArray) (r : Bool) (w : World) (h : slotmeshlaw02_usable.f k a0 = some r) :
    Calls Tryd.prog 38 #[.string a0] w fun e w' => e = .returned (.bool r) ∧ Below w.heap.size w w' := by
  have HB := Aside0.mk (Below.refl w.heap.size w)
  have H : ((slotmeshref01_Lex.f k a0).bind fun bt535 => (some (bt535.2.1 == 0))) = some r := h
  clear h
  replace H := Option.bind_eq_some_iff.mp H
  obtain ⟨⟨t535, t536, t537⟩, A20, H⟩ := H
  replace H : (some (t536 == 0)) = some r := H
  have A2 := Aside0.mk A20
  clear A20
  obtain rfl := Option.some.inj H
  go_enter Tryd.func38, Tryd.ntmps38
  go_wp2_with (first | ((with_reducible refine gate_callee (f := 31) rfl ?_); refine goesL_ (some 8) rfl rfl Tryd.func31 (by kernel_rfl) rfl #[.string a0] rfl (by (try simp only [List.map_toArray, List.map_cons, List.map_nil]); first | done | rfl | (simp only [List.length_drop, List.length_take]; rfl) | (simp (disch := omega) only [IntWalk.wrap64_in]; done)) ?_; (with_reducible refine (slotmeshref01_Lex.calls k a0 t535 t536 t537 _ A2.out).mono ?_); rintro e w3 ⟨v538, rfl, ho0, hb⟩; refine ⟨_, rfl, ?_⟩; have n0_ := Aside0.mk (Kd.R_lower ho0 (below_size (by repeat (first | (with_reducible first | exact HB.out | apply below_alloc | apply pw_below_drewN | apply below_drew1) | exact HB.out)))); have n1_ := Aside0.mk (below_step (by repeat (first | (with_reducible first | exact HB.out | apply below_alloc | apply pw_below_drewN | apply below_drew1) | exact HB.out)) hb); clear HB; have HO539 := n0_; have HB := n1_; clear n0_ n1_; (try clear hb); (try clear hb2); (try clear hk); (try clear hi); (try clear ho0)))
  go_ret
  exact ⟨by first | rfl | (simp [errW_none, errW_some] <;> rfl) | (simp [*, errW_none, errW_some] <;> rfl), by repeat (first | (with_reducible first | exact HB.out | apply below_alloc | apply pw_below_drewN | apply below_drew1) | exact HB.out)⟩
end Go.Proofs.YtdedlchpjboceaaDoor.PE
end

section
namespace Go.Proofs.YtdedlchpjboceaaDoor.Qy
open Go.RowKit Go.Proofs.YtdedlchpjboceaaDoorW.PrintWords Go.Proofs.YtdedlchpjboceaaDoorW.PrintLast Go.Proofs.YtdedlchpjboceaaDoor.Lx Go.Proofs.YtdedlchpjboceaaDoor.Px Go.Proofs.YtdedlchpjboceaaDoor.Tx Go.Proofs.YtdedlchpjboceaaDoor.Qz Go.Proofs.YtdedlchpjboceaaDoor.PE
theorem rd_dg (l : List S54) (j : Nat) (h : j < l.length) : rd_T54 l (j : Int) = l[j] := by
  unfold rd_T54
  rw [Int.toNat_natCast, List.getD_eq_getElem?_getD, List.getElem?_eq_getElem h]; rfl
theorem diags_loop (l : List S54) (hl : l.length ≤ 1000000) (d : Nat) : ∀ j : Nat, j ≤ l.length → l.length - j = d → Ev (fun k => slotmeshref02_SameDiags.l0 k l l (j : Int)) true := by
  induction d with
  | zero =>
    intro j hj hd
    refine Ev.step (f := _) (fun k => by rw [slotmeshref02_SameDiags.l0]) (evNeg (by omega) (Ev.now _))
  | succ d ih =>
    intro j hj hd
    have hlt : j < l.length := by omega
    have hih := ih (j + 1) (by omega) (by omega)
    have hw : wrap64 ((j : Int) + 1) = ((j + 1 : Nat) : Int) := by rw [w64 (by omega) (by omega)]; omega
    refine Ev.step (f := _) (fun k => by rw [slotmeshref02_SameDiags.l0]) ?_
    refine evPos (by omega) (evPos (by omega) (evPos (by omega) ?_))
    rw [rd_dg l j hlt, hw]
    exact evNeg (by simp) hih
theorem diags_self (l : List S54) (hl : l.length ≤ 1000000) : Ev (fun k => slotmeshref02_SameDiags.f k l l) true := by
  unfold slotmeshref02_SameDiags.f
  exact evPos rfl (diags_loop l hl l.length 0 (Nat.zero_le _) rfl)
theorem lex_err_ne {s : List UInt8} {e : Int × Nat} (h : Lx.lex s = .error e) : ¬ e.1 = 0 := by
  intro he
  by_cases h8 : 8000 < s.length
  · have : e = (2, 0) := by unfold Lx.lex at h; rw [if_pos h8] at h; injection h with h; exact h.symm
    rw [this] at he; cases he
  · obtain ⟨_, _, _, _, _, _, _, _, _, _, _, _, _, hp, _⟩ := Lr.lex_error_inv (by omega) h
    have := (Lr.err_pos hp).1
    omega
theorem usableK (s : ByteArray) : Ev (fun k => slotmeshlaw02_usable.f k s) (match Lx.lex s.data.toList with | .ok _ => true | .error _ => false) := by
  unfold slotmeshlaw02_usable.f
  refine Ev.bind (Lr.ref_lex s) (evEq (Ev.now _) ?_)
  cases hl : Lx.lex s.data.toList with
  | ok ts => rfl
  | error e =>
    show (e.1 == 0) = false
    rw [beq_eq_false_iff_ne]
    exact lex_err_ne hl
end Go.Proofs.YtdedlchpjboceaaDoor.Qy
end

section
namespace Go.Proofs.YtdedlchpjboceaaDoor.PE
open Go.RowKit Go.Proofs.YtdedlchpjboceaaDoorW.PrintWords Go.Proofs.YtdedlchpjboceaaDoorW.PrintLast Go.Proofs.YtdedlchpjboceaaDoorW.PrintMore
attribute [local go_sem] max2_int min2_int max_two min_two max_three min_three max_four min_four   -- for this text's walks alone
mutual
def slotmeshlaw02_ParserBeginnings.j0 : Nat → ByteArray → Int → Bool → List (S45) → List (S40) → Bool → Option (Bool)
  | 0, _, _, _, _, _, _ => none
  | k + 1, x0, x1, x5, x6, x9, x42 => if x42 = true then (some x5) else (if (x6.length : Int) = 0 then (none) else (if 0 ≤ (Int.tmod (wrap64 (x1)) (x6.length : Int)) then (if (Int.tmod (wrap64 (x1)) (x6.length : Int)) < (x6.length : Int) then (if ((rd_T45 x6 (Int.tmod (wrap64 (x1)) (x6.length : Int))).f0) = 2 then ((strconv_Itoa.f ((rd_T45 x6 (Int.tmod (wrap64 (x1)) (x6.length : Int))).f2)).bind fun t639 => (slotmeshlaw02_ParserBeginnings.j1 k x0 x5 x6 x9 (Int.tmod (wrap64 (x1)) (x6.length : Int)) (t639.size : Int))) else (slotmeshlaw02_ParserBeginnings.j1 k x0 x5 x6 x9 (Int.tmod (wrap64 (x1)) (x6.length : Int)) (((rd_T45 x6 (Int.tmod (wrap64 (x1)) (x6.length : Int))).f1).size : Int))) else (none)) else (none)))
def slotmeshlaw02_ParserBeginnings.j1 : Nat → ByteArray → Bool → List (S45) → List (S40) → Int → Int → Option (Bool)
  | 0, _, _, _, _, _, _ => none
  | k + 1, x0, x5, x6, x9, x11, x12 => if 0 ≤ x11 then (if x11 < (x6.length : Int) then (if 0 ≤ (wrap64 (((rd_T45 x6 x11).f3) + x12)) then (if (wrap64 (((rd_T45 x6 x11).f3) + x12)) ≤ (x0.size : Int) then ((parser_Parse.f (x0.extract 0 ((wrap64 (((rd_T45 x6 x11).f3) + x12)) : Int).toNat)).bind fun bt641 => (if ((rd_T45 x6 x11).f0) = 3 then (if 0 ≤ (wrap64 (x11 + 1)) then (if (wrap64 (x11 + 1)) ≤ (x6.length : Int) then ((some (x6.take ((wrap64 (x11 + 1)) : Int).toNat : List (S45))).bind fun y652 => (slotmeshlaw02_ParserBeginnings.l0 k x5 x9 bt641.1 bt641.2 0 y652 (y652.length : Int) 0)) else (none)) else (none)) else (if x5 = true then ((slotmeshref02_SameDiags.f k bt641.2 (([(⟨7, ((x0.extract 0 ((wrap64 (((rd_T45 x6 x11).f3) + x12)) : Int).toNat).size : Int)⟩ : S54)] : List (S54)))).bind fun t651 => (some t651)) else (some false)))) else (none)) else (none)) else (none)) else (none)
def slotmeshlaw02_ParserBeginnings.l0 : Nat → Bool → List (S40) → List (S40) → List (S54) → Int → List (S45) → Int → Int → Option (Bool)
  | 0, _, _, _, _, _, _, _, _ => none
  | k + 1, x5, x9, x14, x15, x16, x100, x101, x102 => if x102 < x101 then (if 0 ≤ x102 then (if x102 < (x100.length : Int) then (if ((rd_T45 x100 x102).f0) = 3 then (slotmeshlaw02_ParserBeginnings.l0 k x5 x9 x14 x15 (wrap64 (x16 + 1)) x100 x101 (wrap64 (x102 + 1))) else (slotmeshlaw02_ParserBeginnings.l0 k x5 x9 x14 x15 x16 x100 x101 (wrap64 (x102 + 1)))) else (none)) else (none)) else (if x5 = true then (if (x15.length : Int) = 0 then (if x16 ≤ (x9.length : Int) then (if 0 ≤ x16 then ((slotmeshref02_Same.f k x14 (x9.take (x16 : Int).toNat)).bind fun t664 => (some t664)) else (none)) else (some false)) else (some false)) else (some false))
end
def slotmeshlaw02_ParserBeginnings.f (k : Nat) (a0 : ByteArray) (a1 : Int) : Option (Bool) := (slotmeshlaw02_head.f k).bind fun t624 => ((slotmeshref01_Lex.f k a0).bind fun bt625 => ((parser_Parse.f a0).bind fun bt630 => (if bt625.2.1 = 0 then (if (bt630.2.length : Int) > 0 then (slotmeshlaw02_ParserBeginnings.j0 k a0 a1 t624 bt625.1 bt630.1 true) else (slotmeshlaw02_ParserBeginnings.j0 k a0 a1 t624 bt625.1 bt630.1 ((bt625.1.length : Int) == 0))) else (slotmeshlaw02_ParserBeginnings.j0 k a0 a1 t624 bt625.1 bt630.1 true))))
theorem slotmeshlaw02_ParserBeginnings.mono_l : ∀ k, (∀ y0 y1 y2 y3 y4 y5, LeO (slotmeshlaw02_ParserBeginnings.j0 k y0 y1 y2 y3 y4 y5) (slotmeshlaw02_ParserBeginnings.j0 (k + 1) y0 y1 y2 y3 y4 y5)) ∧ (∀ y0 y1 y2 y3 y4 y5, LeO (slotmeshlaw02_ParserBeginnings.j1 k y0 y1 y2 y3 y4 y5) (slotmeshlaw02_ParserBeginnings.j1 (k + 1) y0 y1 y2 y3 y4 y5)) ∧ (∀ y0 y1 y2 y3 y4 y5 y6 y7, LeO (slotmeshlaw02_ParserBeginnings.l0 k y0 y1 y2 y3 y4 y5 y6 y7) (slotmeshlaw02_ParserBeginnings.l0 (k + 1) y0 y1 y2 y3 y4 y5 y6 y7))
  | 0 => ⟨fun _ _ _ _ _ _ r h => by simp [slotmeshlaw02_ParserBeginnings.j0] at h, fun _ _ _ _ _ _ r h => by simp [slotmeshlaw02_ParserBeginnings.j1] at h, fun _ _ _ _ _ _ _ _ r h => by simp [slotmeshlaw02_ParserBeginnings.l0] at h⟩
  | k + 1 => by
    obtain ⟨ih0, ih1, ih2⟩ := slotmeshlaw02_ParserBeginnings.mono_l k
    refine ⟨?_, ?_, ?_⟩
    · intro y0 y1 y2 y3 y4 y5
      unfold slotmeshlaw02_ParserBeginnings.j0
      repeat' first
      | (with_reducible exact ih0 _ _ _ _ _ _)
      | (with_reducible exact ih1 _ _ _ _ _ _)
      | (with_reducible exact ih2 _ _ _ _ _ _ _ _)
      | (with_reducible exact slotmeshlaw02_head.mono _)
      | (with_reducible exact slotmeshref01_Lex.mono _ _)
      | (with_reducible exact slotmeshref02_Same.mono _ _ _)
      | (with_reducible exact slotmeshref02_SameDiags.mono _ _ _)
      | (with_reducible exact LeO.refl _)
      | (with_reducible exact LeO.none _)
      | (with_reducible refine LeO.ite ?_ ?_)
      | (with_reducible refine LeO.bind ?_ (fun _ => ?_))
      | exact ih0 _ _ _ _ _ _
      | exact ih1 _ _ _ _ _ _
      | exact ih2 _ _ _ _ _ _ _ _
      | exact slotmeshlaw02_head.mono _
      | exact slotmeshref01_Lex.mono _ _
      | exact slotmeshref02_Same.mono _ _ _
      | exact slotmeshref02_SameDiags.mono _ _ _
      | exact LeO.none _
      | refine LeO.ite ?_ ?_
      | refine LeO.bind ?_ (fun _ => ?_)
    · intro y0 y1 y2 y3 y4 y5
      unfold slotmeshlaw02_ParserBeginnings.j1
      repeat' first
      | (with_reducible exact ih0 _ _ _ _ _ _)
      | (with_reducible exact ih1 _ _ _ _ _ _)
      | (with_reducible exact ih2 _ _ _ _ _ _ _ _)
      | (with_reducible exact slotmeshlaw02_head.mono _)
      | (with_reducible exact slotmeshref01_Lex.mono _ _)
      | (with_reducible exact slotmeshref02_Same.mono _ _ _)
      | (with_reducible exact slotmeshref02_SameDiags.mono _ _ _)
      | (with_reducible exact LeO.refl _)
      | (with_reducible exact LeO.none _)
      | (with_reducible refine LeO.ite ?_ ?_)
      | (with_reducible refine LeO.bind ?_ (fun _ => ?_))
      | exact ih0 _ _ _ _ _ _
      | exact ih1 _ _ _ _ _ _
      | exact ih2 _ _ _ _ _ _ _ _
      | exact slotmeshlaw02_head.mono _
      | exact slotmeshref01_Lex.mono _ _
      | exact slotmeshref02_Same.mono _ _ _
      | exact slotmeshref02_SameDiags.mono _ _ _
      | exact LeO.none _
      | refine LeO.ite ?_ ?_
      | refine LeO.bind ?_ (fun _ => ?_)
    · intro y0 y1 y2 y3 y4 y5 y6 y7
      unfold slotmeshlaw02_ParserBeginnings.l0
      repeat' first
      | (with_reducible exact ih0 _ _ _ _ _ _)
      | (with_reducible exact ih1 _ _ _ _ _ _)
      | (with_reducible exact ih2 _ _ _ _ _ _ _ _)
      | (with_reducible exact slotmeshlaw02_head.mono _)
      | (with_reducible exact slotmeshref01_Lex.mono _ _)
      | (with_reducible exact slotmeshref02_Same.mono _ _ _)
      | (with_reducible exact slotmeshref02_SameDiags.mono _ _ _)
      | (with_reducible exact LeO.refl _)
      | (with_reducible exact LeO.none _)
      | (with_reducible refine LeO.ite ?_ ?_)
      | (with_reducible refine LeO.bind ?_ (fun _ => ?_))
      | exact ih0 _ _ _ _ _ _
      | exact ih1 _ _ _ _ _ _
      | exact ih2 _ _ _ _ _ _ _ _
      | exact slotmeshlaw02_head.mono _
      | exact slotmeshref01_Lex.mono _ _
      | exact slotmeshref02_Same.mono _ _ _
      | exact slotmeshref02_SameDiags.mono _ _ _
      | exact LeO.none _
      | refine LeO.ite ?_ ?_
      | refine LeO.bind ?_ (fun _ => ?_)
theorem slotmeshlaw02_ParserBeginnings.mono : ∀ a0 a1 k, LeO (slotmeshlaw02_ParserBeginnings.f k a0 a1) (slotmeshlaw02_ParserBeginnings.f (k + 1) a0 a1) := by
  intro a0 a1 k
  obtain ⟨ih0, ih1, ih2⟩ := slotmeshlaw02_ParserBeginnings.mono_l k
  unfold slotmeshlaw02_ParserBeginnings.f
  repeat' first
      | (with_reducible exact ih0 _ _ _ _ _ _)
      | (with_reducible exact ih1 _ _ _ _ _ _)
      | (with_reducible exact ih2 _ _ _ _ _ _ _ _)
      | (with_reducible exact slotmeshlaw02_head.mono _)
      | (with_reducible exact slotmeshref01_Lex.mono _ _)
      | (with_reducible exact slotmeshref02_Same.mono _ _ _)
      | (with_reducible exact slotmeshref02_SameDiags.mono _ _ _)
      | (with_reducible exact LeO.refl _)
      | (with_reducible exact LeO.none _)
      | (with_reducible refine LeO.ite ?_ ?_)
      | (with_reducible refine LeO.bind ?_ (fun _ => ?_))
      | exact ih0 _ _ _ _ _ _
      | exact ih1 _ _ _ _ _ _
      | exact ih2 _ _ _ _ _ _ _ _
      | exact slotmeshlaw02_head.mono _
      | exact slotmeshref01_Lex.mono _ _
      | exact slotmeshref02_Same.mono _ _ _
      | exact slotmeshref02_SameDiags.mono _ _ _
      | exact LeO.none _
      | refine LeO.ite ?_ ?_
      | refine LeO.bind ?_ (fun _ => ?_)
set_option maxHeartbeats 8000000 in
set_option maxRecDepth 100000 in
theorem slotmeshlaw02_ParserBeginnings.calls (k : Nat) (a0 : ByteArray) (a1 : Int) (r : Bool) (w : World) (hG : Aside0 (Tx.GQ w)) (h : slotmeshlaw02_ParserBeginnings.f k a0 a1 = some r) (hr0_ : r = true) :
    Calls Tryd.prog 13 #[.string a0, .int .u16 a1] w fun e w' => e = .returned (.bool r) ∧ Below w.heap.size w w' := by
  have hr_ := Aside0.mk hr0_
  clear hr0_
  have hu54 := Tryd.underlying54
  have hu45 := Tryd.underlying45
  have HB := Aside0.mk (Below.refl w.heap.size w)
  have H : ((slotmeshlaw02_head.f k).bind fun t624 => ((slotmeshref01_Lex.f k a0).bind fun bt625 => ((parser_Parse.f a0).bind fun bt630 => (if bt625.2.1 = 0 then (if (bt630.2.length : Int) > 0 then (slotmeshlaw02_ParserBeginnings.j0 k a0 a1 t624 bt625.1 bt630.1 true) else (slotmeshlaw02_ParserBeginnings.j0 k a0 a1 t624 bt625.1 bt630.1 ((bt625.1.length : Int) == 0))) else (slotmeshlaw02_ParserBeginnings.j0 k a0 a1 t624 bt625.1 bt630.1 true))))) = some r := h
  clear h
  replace H := Option.bind_eq_some_iff.mp H
  obtain ⟨t624, A30, H⟩ := H
  replace H : ((slotmeshref01_Lex.f k a0).bind fun bt625 => ((parser_Parse.f a0).bind fun bt630 => (if bt625.2.1 = 0 then (if (bt630.2.length : Int) > 0 then (slotmeshlaw02_ParserBeginnings.j0 k a0 a1 t624 bt625.1 bt630.1 true) else (slotmeshlaw02_ParserBeginnings.j0 k a0 a1 t624 bt625.1 bt630.1 ((bt625.1.length : Int) == 0))) else (slotmeshlaw02_ParserBeginnings.j0 k a0 a1 t624 bt625.1 bt630.1 true)))) = some r := H
  have A3 := Aside0.mk A30
  clear A30
  replace H := Option.bind_eq_some_iff.mp H
  obtain ⟨⟨t625, t626, t627⟩, A40, H⟩ := H
  replace H : ((parser_Parse.f a0).bind fun bt630 => (if t626 = 0 then (if (bt630.2.length : Int) > 0 then (slotmeshlaw02_ParserBeginnings.j0 k a0 a1 t624 t625 bt630.1 true) else (slotmeshlaw02_ParserBeginnings.j0 k a0 a1 t624 t625 bt630.1 ((t625.length : Int) == 0))) else (slotmeshlaw02_ParserBeginnings.j0 k a0 a1 t624 t625 bt630.1 true))) = some r := H
  have A4 := Aside0.mk A40
  clear A40
  replace H := Option.bind_eq_some_iff.mp H
  obtain ⟨⟨t630, t631⟩, A50, H⟩ := H
  replace H : (if t626 = 0 then (if (t631.length : Int) > 0 then (slotmeshlaw02_ParserBeginnings.j0 k a0 a1 t624 t625 t630 true) else (slotmeshlaw02_ParserBeginnings.j0 k a0 a1 t624 t625 t630 ((t625.length : Int) == 0))) else (slotmeshlaw02_ParserBeginnings.j0 k a0 a1 t624 t625 t630 true)) = some r := H
  have A5 := Aside0.mk A50
  clear A50
  have HC6 := Aside0.mk H
  clear H
  go_enter Tryd.func13, Tryd.ntmps13
  go_upto_region 4 with (first | ((with_reducible refine gate_callee (f := 32) rfl ?_); refine goesL_ (some 19) rfl rfl Tryd.func32 (by kernel_rfl) rfl #[] rfl (by (try simp only [List.map_toArray, List.map_nil]); first | done | rfl | (simp only [List.length_drop, List.length_take]; rfl) | (simp (disch := omega) only [IntWalk.wrap64_in]; done)) ?_; (with_reducible refine (slotmeshlaw02_head.calls k  t624 _ ?side1 A3.out).mono ?_); (case side1 => exact Tx.GQ.aside hG (by repeat (first | (with_reducible first | exact HB.out | apply below_alloc | apply pw_below_drewN | apply below_drew1) | exact HB.out))); rintro e w7 ⟨rfl, hb⟩; refine ⟨_, rfl, ?_⟩; have n0_ := Aside0.mk (below_step (by repeat (first | (with_reducible first | exact HB.out | apply below_alloc | apply pw_below_drewN | apply below_drew1) | exact HB.out)) hb); clear HB; have HB := n0_; clear n0_; (try clear hb); (try clear hb2); (try clear hk); (try clear hi)) | ((with_reducible refine gate_callee (f := 31) rfl ?_); refine goesL_ (some 22) rfl rfl Tryd.func31 (by kernel_rfl) rfl #[.string a0] rfl (by (try simp only [List.map_toArray, List.map_cons, List.map_nil]); first | done | rfl | (simp only [List.length_drop, List.length_take]; rfl) | (simp (disch := omega) only [IntWalk.wrap64_in]; done)) ?_; (with_reducible refine (slotmeshref01_Lex.calls k a0 t625 t626 t627 _ A4.out).mono ?_); rintro e w8 ⟨v628, rfl, ho0, hb⟩; refine ⟨_, rfl, ?_⟩; have n0_ := Aside0.mk (Kd.R_lower ho0 (below_size (by repeat (first | (with_reducible first | exact HB.out | apply below_alloc | apply pw_below_drewN | apply below_drew1) | exact HB.out)))); have n1_ := Aside0.mk (below_step (by repeat (first | (with_reducible first | exact HB.out | apply below_alloc | apply pw_below_drewN | apply below_drew1) | exact HB.out)) hb); clear HB; have HO629 := n0_; have HB := n1_; clear n0_ n1_; (try clear hb); (try clear hb2); (try clear hk); (try clear hi); (try clear ho0)) | ((with_reducible refine gate_callee (f := 20) rfl ?_); refine goesL_ (some 28) rfl rfl Tryd.func20 (by kernel_rfl) rfl #[.string a0] rfl (by (try simp only [List.map_toArray, List.map_cons, List.map_nil]); first | done | rfl | (simp only [List.length_drop, List.length_take]; rfl) | (simp (disch := omega) only [IntWalk.wrap64_in]; done)) ?_; (with_reducible refine (parser_Parse.calls a0 t630 t631 _ ?side1 A5.out).mono ?_); (case side1 => exact Tx.GQ.aside hG (by repeat (first | (with_reducible first | exact HB.out | apply below_alloc | apply pw_below_drewN | apply below_drew1) | exact HB.out))); rintro e w9 ⟨v632, v634, rfl, ho0, ho1, hb⟩; refine ⟨_, rfl, ?_⟩; have n0_ := Aside0.mk (Kd.R_below (by (with_reducible repeat (first | apply Kd.R_alloc | apply Kd.R_drewN | apply Kd.R_drew)); exact HO629.out) hb); have n1_ := Aside0.mk (Kd.N_lower (Kd.N_mono (ok' := fun k_ => some k_ ≠ (v634 : Value).ownBlock ∧ some k_ ≠ (v628 : Value).ownBlock) (Kd.R_N (Kd.R_bound (Kd.R_apart' ho0 (Kd.R_typed ho1) (by decide)))) (fun k_ hk_ => ⟨hk_.1.2, (Kd.fresh' (Kd.R_lt (by (with_reducible repeat (first | apply Kd.R_alloc | apply Kd.R_drewN | apply Kd.R_drew)); exact HO629.out)) k_ hk_.2.1)⟩)) (below_size (by repeat (first | (with_reducible first | exact HB.out | apply below_alloc | apply pw_below_drewN | apply below_drew1) | exact HB.out)))); have n2_ := Aside0.mk (Kd.R_lower ho1 (below_size (by repeat (first | (with_reducible first | exact HB.out | apply below_alloc | apply pw_below_drewN | apply below_drew1) | exact HB.out)))); have n3_ := Aside0.mk (below_step (by repeat (first | (with_reducible first | exact HB.out | apply below_alloc | apply pw_below_drewN | apply below_drew1) | exact HB.out)) hb); clear HO629; clear HB; have HO629 := n0_; have HO633 := n1_; have HO635 := n2_; have HB := n3_; clear n0_ n1_ n2_ n3_; (try clear hb); (try clear hb2); (try clear hk); (try clear hi); (try clear ho0); (try clear ho1)))
  (try simp only [Act.put, List.setIfInBounds_toArray, List.set_cons_zero, List.set_cons_succ])
  go_cut [42] (fun v42 wc => ∃ (kq : Nat) (x42_5 : Bool), v42 = .bool x42_5 ∧ Aside0 (slotmeshlaw02_ParserBeginnings.j0 kq a0 a1 t624 t625 t630 x42_5 = some r) ∧ Aside0 (kq ≤ k) ∧ Aside0 (Kd.R k45 45 wc w.heap.size (fun _ => True) v628 t625) ∧ Aside0 (Kd.N k40 40 wc w.heap.size (fun k_ => some k_ ≠ (v628 : Value).ownBlock) v632 t630) ∧ Aside0 (Below w.heap.size w wc))
  case first =>
    have H := HC6.out
    clear HC6
    by_cases c10 : t626 = 0
    · rw [if_pos c10] at H
      have c10b0 : (t626 == 0) = true := beq_iff_eq.mpr c10
      have c10b1 : (t626 != 0) = false := bne_eq_false_iff_eq.mpr c10
      clear c10
      (first | rw [c10b0] | (simp only [i64_w, i32_w]; rw [c10b0]) | skip)
      by_cases c11 : (t631.length : Int) > 0
      · rw [if_pos c11] at H
        have c11b0 : decide (0 < (t631.length : Int)) = true := decide_eq_true c11
        have c11b1 : decide (0 < t631.length) = true := decide_eq_true (by omega)
        clear c11
        have H' := Aside0.mk H
        clear H
        obtain ⟨Ao12, co12, eo12⟩ := Kd.R_slice HO635.out
        subst eo12
        go_wp2
        go_meet
        case rel => exact ⟨_, (true), (by first | rfl | (simp; done) | (simp [*]; done)), H', ⟨by first | omega | exact Nat.le_refl _⟩, ⟨by (with_reducible repeat (first | apply Kd.R_alloc | apply Kd.R_drewN | apply Kd.R_drew)); exact HO629.out⟩, ⟨by (with_reducible repeat (first | apply Kd.N_alloc | apply Kd.N_drewN | apply Kd.N_drew)); exact Kd.N_mono HO633.out (fun _ hk => hk.2)⟩, ⟨by repeat (first | (with_reducible first | exact HB.out | apply below_alloc | apply pw_below_drewN | apply below_drew1) | exact HB.out)⟩⟩
      · rw [if_neg c11] at H
        have c11b0 : decide (0 < (t631.length : Int)) = false := decide_eq_false c11
        have c11b1 : decide (0 < t631.length) = false := decide_eq_false (by omega)
        clear c11
        have H' := Aside0.mk H
        clear H
        obtain ⟨Ao13, co13, eo13⟩ := Kd.R_slice HO635.out
        subst eo13
        obtain ⟨Ao14, co14, eo14⟩ := Kd.R_slice HO629.out
        subst eo14
        go_wp2
        go_meet
        case rel => exact ⟨_, (((t625.length : Int) == 0)), (by first | rfl | (simp; done) | (simp [*]; done)), H', ⟨by first | omega | exact Nat.le_refl _⟩, ⟨by (with_reducible repeat (first | apply Kd.R_alloc | apply Kd.R_drewN | apply Kd.R_drew)); exact HO629.out⟩, ⟨by (with_reducible repeat (first | apply Kd.N_alloc | apply Kd.N_drewN | apply Kd.N_drew)); exact Kd.N_mono HO633.out (fun _ hk => hk.2)⟩, ⟨by repeat (first | (with_reducible first | exact HB.out | apply below_alloc | apply pw_below_drewN | apply below_drew1) | exact HB.out)⟩⟩
    · rw [if_neg c10] at H
      have c10b0 : (t626 == 0) = false := beq_eq_false_iff_ne.mpr c10
      have c10b1 : (t626 != 0) = true := bne_iff_ne.mpr c10
      (first | rw [c10b0] | (simp only [i64_w, i32_w]; rw [c10b0]) | skip)
      have H' := Aside0.mk H
      clear H
      go_wp2
      go_meet
      case rel => exact ⟨_, (true), (by first | rfl | (simp; done) | (simp [*]; done)), H', ⟨by first | omega | exact Nat.le_refl _⟩, ⟨by (with_reducible repeat (first | apply Kd.R_alloc | apply Kd.R_drewN | apply Kd.R_drew)); exact HO629.out⟩, ⟨by (with_reducible repeat (first | apply Kd.N_alloc | apply Kd.N_drewN | apply Kd.N_drew)); exact Kd.N_mono HO633.out (fun _ hk => hk.2)⟩, ⟨by repeat (first | (with_reducible first | exact HB.out | apply below_alloc | apply pw_below_drewN | apply below_drew1) | exact HB.out)⟩⟩
  case rest =>
    clear HC6
    try clear c1
    try clear c2
    try clear p2
    try clear c3
    try clear c10
    try clear c10b0
    try clear c10b1
    try clear c11
    try clear c11b0
    try clear c11b1
    try clear c13
    obtain ⟨kq, x42_5, rfl, HA, HJ5, HO_6, HO_9, HB⟩ := hcut
    cases kq with
    | zero => exact absurd HA.out (by simp [slotmeshlaw02_ParserBeginnings.j0])
    | succ kj5 =>
      have H := HA.out
      clear HA
      simp only [slotmeshlaw02_ParserBeginnings.j0] at H
      by_cases c15 : x42_5 = true
      · subst c15
        have H1 : (some t624) = some r := by rw [if_pos rfl] at H; exact H
        clear H
        have H := H1
        clear H1
        clear hr_
        obtain rfl := Option.some.inj H
        go_wp2
        go_ret
        exact ⟨by first | rfl | (simp [errW_none, errW_some] <;> rfl) | (simp [*, errW_none, errW_some] <;> rfl), by repeat (first | (with_reducible first | exact HB.out | apply below_alloc | apply pw_below_drewN | apply below_drew1) | exact HB.out)⟩
      · replace c15 := Bool.eq_false_iff.mpr c15
        subst c15
        have H1 : (if (t625.length : Int) = 0 then (none) else (if 0 ≤ (Int.tmod (wrap64 (a1)) (t625.length : Int)) then (if (Int.tmod (wrap64 (a1)) (t625.length : Int)) < (t625.length : Int) then (if ((rd_T45 t625 (Int.tmod (wrap64 (a1)) (t625.length : Int))).f0) = 2 then ((strconv_Itoa.f ((rd_T45 t625 (Int.tmod (wrap64 (a1)) (t625.length : Int))).f2)).bind fun t639 => (slotmeshlaw02_ParserBeginnings.j1 kj5 a0 t624 t625 t630 (Int.tmod (wrap64 (a1)) (t625.length : Int)) (t639.size : Int))) else (slotmeshlaw02_ParserBeginnings.j1 kj5 a0 t624 t625 t630 (Int.tmod (wrap64 (a1)) (t625.length : Int)) (((rd_T45 t625 (Int.tmod (wrap64 (a1)) (t625.length : Int))).f1).size : Int))) else (none)) else (none))) = some r := by rw [if_neg (show ¬ (false = true) by decide)] at H; exact H
        clear H
        have H := H1
        clear H1
        by_cases c16 : (t625.length : Int) = 0
        · rw [if_pos c16] at H
          exact absurd H (by simp)
        · rw [if_neg c16] at H
          have c16b0 : ((t625.length : Int) == 0) = false := beq_eq_false_iff_ne.mpr c16
          have c16b1 : ((t625.length : Int) != 0) = true := bne_iff_ne.mpr c16
          have c16b2 : ¬ (t625 = []) := fun h_ => c16 (by rw [h_]; rfl)
          obtain ⟨ji17, hji17⟩ : ∃ j_ : Int, (Int.tmod (wrap64 (a1)) (t625.length : Int)) = j_ := ⟨_, rfl⟩
          replace H : (if 0 ≤ (ji17) then (if (ji17) < (t625.length : Int) then (if ((rd_T45 t625 (ji17)).f0) = 2 then ((strconv_Itoa.f ((rd_T45 t625 (ji17)).f2)).bind fun t639 => (slotmeshlaw02_ParserBeginnings.j1 kj5 a0 t624 t625 t630 ji17 (t639.size : Int))) else (slotmeshlaw02_ParserBeginnings.j1 kj5 a0 t624 t625 t630 ji17 (((rd_T45 t625 (ji17)).f1).size : Int))) else (none)) else (none)) = some r := by first | (rw [hji17] at H; exact H) | (simp only [hji17] at H ⊢; exact H)
          by_cases c18 : 0 ≤ (ji17)
          · rw [if_pos c18] at H
            have c18b0 : decide (0 ≤ (ji17)) = true := decide_eq_true c18
            clear c18
            by_cases c19 : (ji17) < (t625.length : Int)
            · rw [if_pos c19] at H
              have c19b0 : decide ((ji17) < (t625.length : Int)) = true := decide_eq_true c19
              clear c19
              have HC20 := Aside0.mk H
              clear H
              obtain ⟨Ao21, co21, eo21⟩ := Kd.R_slice HO_6.out
              subst eo21
              have p636 : 0 ≤ ((ji17) : Int) := of_decide_eq_true (by first | (with_reducible assumption) | assumption)
              have q636 : (ji17) < (t625.length : Int) := of_decide_eq_true (by first | (with_reducible assumption) | assumption)
              obtain ⟨ad636, e636, hx636_0, hx636_1, hx636_2, hx636_3⟩ := at_T45 (Kd.R_reads' HO_6.out).2.2 (ji17) p636 q636
              cases e636
              replace p636 := eq_true p636
              replace q636 := eq_true q636
              have p637 : 0 ≤ ((ji17) : Int) := of_decide_eq_true (by first | (with_reducible assumption) | assumption)
              have q637 : (ji17) < (t625.length : Int) := of_decide_eq_true (by first | (with_reducible assumption) | assumption)
              obtain ⟨ad637, e637, hx637_0, hx637_1, hx637_2, hx637_3⟩ := at_T45 (Kd.R_reads' HO_6.out).2.2 (ji17) p637 q637
              obtain rfl : ad636 = ad637 := (by injection e637)
              replace p637 := eq_true p637
              replace q637 := eq_true q637
              go_upto_if 60 with (fail)
              go_cut [12] (fun v12 wc => ∃ (kq : Nat) (x12_19 : Int), v12 = .int .i64 x12_19 ∧ Aside0 (slotmeshlaw02_ParserBeginnings.j1 kq a0 t624 t625 t630 ji17 x12_19 = some r) ∧ Aside0 (kq ≤ kj5) ∧ Aside0 (Kd.R k45 45 wc w.heap.size (fun _ => True) (.slice (some ad636) t625.length co21) t625) ∧ Aside0 (Kd.N k40 40 wc w.heap.size (fun k_ => some k_ ≠ ((.slice (some ad636) t625.length co21) : Value).ownBlock) v632 t630) ∧ Aside0 (Below w.heap.size w wc))
              case first =>
                have H := HC20.out
                clear HC20
                by_cases c22 : ((rd_T45 t625 (ji17)).f0) = 2
                · rw [if_pos c22] at H
                  have c22b0 : (((rd_T45 t625 (ji17)).f0) == 2) = true := beq_iff_eq.mpr c22
                  have c22b1 : (((rd_T45 t625 (ji17)).f0) != 2) = false := bne_eq_false_iff_eq.mpr c22
                  clear c22
                  (first | rw [c22b0] | (simp only [i64_w, i32_w]; rw [c22b0]) | skip)
                  replace H := Option.bind_eq_some_iff.mp H
                  obtain ⟨t639, A230, H⟩ := H
                  replace H : (slotmeshlaw02_ParserBeginnings.j1 kj5 a0 t624 t625 t630 ji17 (t639.size : Int)) = some r := H
                  have A23 := Aside0.mk A230
                  clear A230
                  have H' := Aside0.mk H
                  clear H
                  have p638 : 0 ≤ ((ji17) : Int) := of_decide_eq_true (by first | (with_reducible assumption) | assumption)
                  have q638 : (ji17) < (t625.length : Int) := of_decide_eq_true (by first | (with_reducible assumption) | assumption)
                  obtain ⟨ad638, e638, hx638_0, hx638_1, hx638_2, hx638_3⟩ := at_T45 (Kd.R_reads' HO_6.out).2.2 (ji17) p638 q638
                  obtain rfl : ad636 = ad638 := (by injection e638)
                  replace p638 := eq_true p638
                  replace q638 := eq_true q638
                  go_wp2_with (first | ((with_reducible refine gate_callee (f := 40) rfl ?_); refine goesL_ (some 66) rfl rfl Tryd.func40 (by kernel_rfl) rfl #[.int .i64 ((rd_T45 t625 (ji17)).f2)] rfl (by (try simp only [List.map_toArray, List.map_cons, List.map_nil]); first | done | (simp only [hji17]; rfl) | rfl | (simp only [List.length_drop, List.length_take]; rfl)) ?_; (with_reducible refine (strconv_Itoa.calls ((rd_T45 t625 (ji17)).f2) t639 _ ?side1 A23.out).mono ?_); (case side1 => exact Tx.GQ.aside hG (by repeat (first | (with_reducible first | exact HB.out | apply below_alloc | apply pw_below_drewN | apply below_drew1) | exact HB.out))); rintro e w24 ⟨rfl, hb⟩; refine ⟨_, rfl, ?_⟩; have n0_ := Aside0.mk (Kd.R_below (by (with_reducible repeat (first | apply Kd.R_alloc | apply Kd.R_drewN | apply Kd.R_drew)); exact HO_6.out) hb); have n1_ := Aside0.mk (Kd.N_below (by (with_reducible repeat (first | apply Kd.N_alloc | apply Kd.N_drewN | apply Kd.N_drew)); exact HO_9.out) hb); have n2_ := Aside0.mk (below_step (by repeat (first | (with_reducible first | exact HB.out | apply below_alloc | apply pw_below_drewN | apply below_drew1) | exact HB.out)) hb); clear HO_6; clear HO_9; clear HB; have HO_6 := n0_; have HO_9 := n1_; have HB := n2_; clear n0_ n1_ n2_; (try clear hb); (try clear hb2); (try clear hk); (try clear hi)))
                  go_meet
                  case rel => exact ⟨_, ((t639.size : Int)), (by first | rfl | (simp; done) | (simp [*]; done)), H', ⟨by have := HJ5.out; first | omega | exact Nat.le_refl _⟩, ⟨by (with_reducible repeat (first | apply Kd.R_alloc | apply Kd.R_drewN | apply Kd.R_drew)); exact HO_6.out⟩, ⟨by (with_reducible repeat (first | apply Kd.N_alloc | apply Kd.N_drewN | apply Kd.N_drew)); exact HO_9.out⟩, ⟨by repeat (first | (with_reducible first | exact HB.out | apply below_alloc | apply pw_below_drewN | apply below_drew1) | exact HB.out)⟩⟩
                · rw [if_neg c22] at H
                  have c22b0 : (((rd_T45 t625 (ji17)).f0) == 2) = false := beq_eq_false_iff_ne.mpr c22
                  have c22b1 : (((rd_T45 t625 (ji17)).f0) != 2) = true := bne_iff_ne.mpr c22
                  (first | rw [c22b0] | (simp only [i64_w, i32_w]; rw [c22b0]) | skip)
                  have H' := Aside0.mk H
                  clear H
                  go_wp2
                  go_meet
                  case rel => exact ⟨_, ((((rd_T45 t625 (ji17)).f1).size : Int)), (by first | rfl | (simp; done) | (simp only [← hji17] <;> (first | rfl | simp)) | (simp [*]; done)), H', ⟨by have := HJ5.out; first | omega | exact Nat.le_refl _⟩, ⟨by (with_reducible repeat (first | apply Kd.R_alloc | apply Kd.R_drewN | apply Kd.R_drew)); exact HO_6.out⟩, ⟨by (with_reducible repeat (first | apply Kd.N_alloc | apply Kd.N_drewN | apply Kd.N_drew)); exact HO_9.out⟩, ⟨by repeat (first | (with_reducible first | exact HB.out | apply below_alloc | apply pw_below_drewN | apply below_drew1) | exact HB.out)⟩⟩
              case rest =>
                clear HC20
                try clear c1
                try clear c2
                try clear p2
                try clear c3
                try clear c4
                try clear p6
                try clear q6
                try clear hx6
                try clear c10
                try clear c10b0
                try clear c10b1
                try clear c11
                try clear c11b0
                try clear c11b1
                try clear c13
                try clear c15
                try clear c16
                try clear c16b0
                try clear c16b1
                try clear c16b2
                try clear c18
                try clear c18b0
                try clear c19
                try clear c19b0
                try clear c20
                try clear c22
                try clear c22b0
                try clear c22b1
                try clear hx636_0
                try clear hx636_1
                try clear hx636_2
                try clear hx636_3
                try clear hx637_0
                try clear hx637_1
                try clear hx637_2
                try clear hx637_3
                try clear hx638_0
                try clear hx638_1
                try clear hx638_2
                try clear hx638_3
                try clear p2
                try clear p636
                try clear p637
                try clear p638
                try clear q636
                try clear q637
                try clear q638
                obtain ⟨kq, x12_19, rfl, HA, HJ19, HO_6, HO_9, HB⟩ := hcut
                cases kq with
                | zero => exact absurd HA.out (by simp [slotmeshlaw02_ParserBeginnings.j1])
                | succ kj19 =>
                  have H := HA.out
                  clear HA
                  simp only [slotmeshlaw02_ParserBeginnings.j1] at H
                  by_cases c25 : 0 ≤ ji17
                  · rw [if_pos c25] at H
                    have c25b0 : decide (0 ≤ ji17) = true := decide_eq_true c25
                    clear c25
                    by_cases c26 : ji17 < (t625.length : Int)
                    · rw [if_pos c26] at H
                      have c26b0 : decide (ji17 < (t625.length : Int)) = true := decide_eq_true c26
                      clear c26
                      obtain ⟨ji27, hji27⟩ : ∃ j_ : Int, (wrap64 (((rd_T45 t625 ji17).f3) + x12_19)) = j_ := ⟨_, rfl⟩
                      replace H : (if 0 ≤ (ji27) then (if (ji27) ≤ (a0.size : Int) then ((parser_Parse.f (a0.extract 0 ((ji27) : Int).toNat)).bind fun bt641 => (if ((rd_T45 t625 ji17).f0) = 3 then (if 0 ≤ (wrap64 (ji17 + 1)) then (if (wrap64 (ji17 + 1)) ≤ (t625.length : Int) then ((some (t625.take ((wrap64 (ji17 + 1)) : Int).toNat : List (S45))).bind fun y652 => (slotmeshlaw02_ParserBeginnings.l0 kj19 t624 t630 bt641.1 bt641.2 0 y652 (y652.length : Int) 0)) else (none)) else (none)) else (if t624 = true then ((slotmeshref02_SameDiags.f kj19 bt641.2 (([(⟨7, ((a0.extract 0 ((ji27) : Int).toNat).size : Int)⟩ : S54)] : List (S54)))).bind fun t651 => (some t651)) else (some false)))) else (none)) else (none)) = some r := by first | (rw [hji27] at H; exact H) | (simp only [hji27] at H ⊢; exact H)
                      have hji27w : (IntKind.i64.wrap (((rd_T45 t625 ji17).f3) + x12_19)) = ji27 := (i64_w _).trans hji27
                      by_cases c28 : 0 ≤ (ji27)
                      · rw [if_pos c28] at H
                        have c28b0 := eq_true c28
                        have c28b1 : decide (0 ≤ (ji27)) = true := decide_eq_true c28
                        clear c28
                        by_cases c29 : (ji27) ≤ (a0.size : Int)
                        · rw [if_pos c29] at H
                          have c29b0 := eq_true c29
                          have c29b1 : decide ((ji27) ≤ (a0.size : Int)) = true := decide_eq_true c29
                          clear c29
                          replace H := Option.bind_eq_some_iff.mp H
                          obtain ⟨⟨t641, t642⟩, A300, H⟩ := H
                          replace H : (if ((rd_T45 t625 ji17).f0) = 3 then (if 0 ≤ (wrap64 (ji17 + 1)) then (if (wrap64 (ji17 + 1)) ≤ (t625.length : Int) then ((some (t625.take ((wrap64 (ji17 + 1)) : Int).toNat : List (S45))).bind fun y652 => (slotmeshlaw02_ParserBeginnings.l0 kj19 t624 t630 t641 t642 0 y652 (y652.length : Int) 0)) else (none)) else (none)) else (if t624 = true then ((slotmeshref02_SameDiags.f kj19 t642 (([(⟨7, ((a0.extract 0 ((ji27) : Int).toNat).size : Int)⟩ : S54)] : List (S54)))).bind fun t651 => (some t651)) else (some false))) = some r := H
                          have A30 := Aside0.mk A300
                          clear A300
                          by_cases c31 : ((rd_T45 t625 ji17).f0) = 3
                          · rw [if_pos c31] at H
                            have c31b0 : (((rd_T45 t625 ji17).f0) == 3) = true := beq_iff_eq.mpr c31
                            have c31b1 : (((rd_T45 t625 ji17).f0) != 3) = false := bne_eq_false_iff_eq.mpr c31
                            clear c31
                            obtain ⟨ji32, hji32⟩ : ∃ j_ : Int, (wrap64 (ji17 + 1)) = j_ := ⟨_, rfl⟩
                            replace H : (if 0 ≤ (ji32) then (if (ji32) ≤ (t625.length : Int) then ((some (t625.take ((ji32) : Int).toNat : List (S45))).bind fun y652 => (slotmeshlaw02_ParserBeginnings.l0 kj19 t624 t630 t641 t642 0 y652 (y652.length : Int) 0)) else (none)) else (none)) = some r := by first | (rw [hji32] at H; exact H) | (simp only [hji32] at H ⊢; exact H)
                            (try rw [hji32] at A30)
                            have hji32w : (IntKind.i64.wrap (ji17 + 1)) = ji32 := (i64_w _).trans hji32
                            by_cases c33 : 0 ≤ (ji32)
                            · rw [if_pos c33] at H
                              have c33b0 := eq_true c33
                              have c33b1 : decide (0 ≤ (ji32)) = true := decide_eq_true c33
                              clear c33
                              by_cases c34 : (ji32) ≤ (t625.length : Int)
                              · rw [if_pos c34] at H
                                have c34b0 := eq_true c34
                                have c34b1 : decide ((ji32) ≤ (t625.length : Int)) = true := decide_eq_true c34
                                clear c34
                                obtain ⟨y652, hy652⟩ : ∃ y_ : List (S45), y_ = (t625.take ((ji32) : Int).toNat) := ⟨_, rfl⟩
                                replace H : (slotmeshlaw02_ParserBeginnings.l0 kj19 t624 t630 t641 t642 0 y652 (y652.length : Int) 0) = some r := by first | (rw [hy652]; with_reducible exact H) | (have H2_ := (Option.bind_some _ _).symm.trans H; rw [hy652]; with_reducible exact H2_) | (have H2_ := (Option.bind_some _ _).symm.trans H; with_reducible exact H2_) | with_reducible exact H | (rw [hy652]; exact H) | exact H
                                have Ny652 := Aside0.mk hy652
                                clear hy652
                                have H' := Aside0.mk H
                                clear H
                                have p640 : 0 ≤ (ji17 : Int) := of_decide_eq_true (by first | (with_reducible assumption) | assumption)
                                have q640 : ji17 < (t625.length : Int) := of_decide_eq_true (by first | (with_reducible assumption) | assumption)
                                obtain ⟨ad640, e640, hx640_0, hx640_1, hx640_2, hx640_3⟩ := at_T45 (Kd.R_reads' HO_6.out).2.2 ji17 p640 q640
                                obtain rfl : ad636 = ad640 := (by injection e640)
                                replace p640 := eq_true p640
                                replace q640 := eq_true q640
                                go_wp2_with (first | ((with_reducible refine gate_callee (f := 20) rfl ?_); refine goesL_ (some 79) rfl rfl Tryd.func20 (by kernel_rfl) rfl #[.string (a0.extract 0 ((ji27) : Int).toNat)] rfl (by (try simp only [List.map_toArray, List.map_cons, List.map_nil]); first | done | (simp only [hji27]; rfl) | rfl | (simp only [List.length_drop, List.length_take]; rfl)) ?_; (with_reducible refine (parser_Parse.calls (a0.extract 0 ((ji27) : Int).toNat) t641 t642 _ ?side1 A30.out).mono ?_); (case side1 => exact Tx.GQ.aside hG (by repeat (first | (with_reducible first | exact HB.out | apply below_alloc | apply pw_below_drewN | apply below_drew1) | exact HB.out))); rintro e w35 ⟨v643, v645, rfl, ho0, ho1, hb⟩; refine ⟨_, rfl, ?_⟩; have n0_ := Aside0.mk (Kd.R_below (by (with_reducible repeat (first | apply Kd.R_alloc | apply Kd.R_drewN | apply Kd.R_drew)); exact HO_6.out) hb); have n1_ := Aside0.mk (Kd.N_mono (Kd.N_told (Kd.N_told (Kd.N_old (by (with_reducible repeat (first | apply Kd.N_alloc | apply Kd.N_drewN | apply Kd.N_drew)); exact HO_9.out) hb) (Kd.R_base ho0)) (Kd.R_base ho1)) (fun _ h_ => h_.1)); have n2_ := Aside0.mk (Kd.N_lower (Kd.N_mono (ok' := fun k_ => some k_ ≠ (v645 : Value).ownBlock ∧ some k_ ≠ (.slice (some ad636) t625.length co21 : Value).ownBlock ∧ some k_ ≠ (v632 : Value).ownBlock) (Kd.R_N (Kd.R_bound (Kd.R_apart' ho0 (Kd.R_typed ho1) (by decide)))) (fun k_ hk_ => ⟨hk_.1.2, (Kd.fresh' (Kd.R_lt (by (with_reducible repeat (first | apply Kd.R_alloc | apply Kd.R_drewN | apply Kd.R_drew)); exact HO_6.out)) k_ hk_.2.1), (Kd.fresh' (Kd.N_lt (by (with_reducible repeat (first | apply Kd.N_alloc | apply Kd.N_drewN | apply Kd.N_drew)); exact HO_9.out)) k_ hk_.2.1)⟩)) (below_size (by repeat (first | (with_reducible first | exact HB.out | apply below_alloc | apply pw_below_drewN | apply below_drew1) | exact HB.out)))); have n3_ := Aside0.mk (Kd.R_lower ho1 (below_size (by repeat (first | (with_reducible first | exact HB.out | apply below_alloc | apply pw_below_drewN | apply below_drew1) | exact HB.out)))); have n4_ := Aside0.mk (below_step (by repeat (first | (with_reducible first | exact HB.out | apply below_alloc | apply pw_below_drewN | apply below_drew1) | exact HB.out)) hb); clear HO_6; clear HO_9; clear HB; have HO_6 := n0_; have HO_9 := n1_; have HO644 := n2_; have HO646 := n3_; have HB := n4_; clear n0_ n1_ n2_ n3_ n4_; (try clear hb); (try clear hb2); (try clear hk); (try clear hi); (try clear ho0); (try clear ho1); have p647 : 0 ≤ (ji17 : Int) := of_decide_eq_true (by first | (with_reducible assumption) | assumption); have q647 : ji17 < (t625.length : Int) := of_decide_eq_true (by first | (with_reducible assumption) | assumption); obtain ⟨ad647, e647, hx647_0, hx647_1, hx647_2, hx647_3⟩ := at_T45 (Kd.R_reads' HO_6.out).2.2 ji17 p647 q647; obtain rfl : ad636 = ad647 := (by injection e647); replace p647 := eq_true p647; replace q647 := eq_true q647; have q36 : ((ji32) : Int) ≤ ((t625.length : Int) : Int) := of_decide_eq_true (by first | (with_reducible assumption) | assumption); obtain ⟨i036, hi036, _, hsz36, _⟩ := info_parts info45; have hroom36 : t625.length ≤ co21 := (Kd.R_reads' HO_6.out).2.1; have hC36 : Kd.F k45 _ _ (some ad636) t625.length t625 := (Kd.V_at (base := w.heap.size) (Kd.R_V (Kd.R_apart' (Kd.R_apart' (Kd.R_apart' (HO_6.out) (Kd.N_typed HO_9.out) (by decide)) (Kd.N_typed HO644.out) (by decide)) (Kd.R_typed HO646.out) (by decide)))).2.2; have hcut36 := cut_to (P := Tryd.prog) 29 45 .i64 Tryd.underlying29 hi036 (some ad636) t625.length co21 (ji32) (of_decide_eq_true (by first | (with_reducible assumption) | assumption)) q36 hroom36; have hr36 := Kd.F_take (m := ((ji32) : Int).toNat) hC36 (by omega); have hy36 : y652.length = ((ji32) : Int).toNat := (by rw [Ny652.out, List.length_take]; omega); rw [← Ny652.out] at hr36; rw [← hy36] at hcut36; have HO656 := Aside0.mk (show Kd.V k45 45 _ w.heap.size _ (.slice (some ad636) y652.length co21) y652 from Kd.V_mk (by omega) hr36); have HC656 := Aside0.mk (show y652.length ≤ co21 from by omega); clear hr36 hC36 hroom36 hi036 hsz36; have KY36 := Aside0.mk hy36; clear hy36; replace q36 := eq_true q36))
                                go_loopg [16, 102] kj19 (fun kq v16 v102 w' => ∃ (x16_3 : Int) (x102_3 : Int), v16 = .int .i64 x16_3 ∧ v102 = .int .i64 x102_3 ∧ Aside0 (slotmeshlaw02_ParserBeginnings.l0 kq t624 t630 t641 t642 x16_3 y652 (y652.length : Int) x102_3 = some r) ∧ Aside0 (kq ≤ kj19) ∧ Aside0 (Kd.N k40 40 w' w.heap.size (fun k_ => some k_ ≠ (v643 : Value).ownBlock ∧ some k_ ≠ (v645 : Value).ownBlock) v632 t630) ∧ Aside0 (Kd.N k40 40 w' w.heap.size (fun k_ => some k_ ≠ (v632 : Value).ownBlock ∧ some k_ ≠ (v645 : Value).ownBlock) v643 t641) ∧ Aside0 (Kd.R k54 54 w' w.heap.size (fun _ => True) v645 t642) ∧ Aside0 (Kd.V k45 45 w' w.heap.size (fun k_ => some k_ ≠ (v632 : Value).ownBlock ∧ some k_ ≠ (v643 : Value).ownBlock ∧ some k_ ≠ (v645 : Value).ownBlock) (.slice (some ad636) y652.length co21) y652) ∧ Aside0 (Below w.heap.size w w'))
                                case atStart => exact ⟨(0), (0), (by first | rfl | (simp; done) | (simp [*]; done)), (by first | rfl | (simp; done) | (simp [*]; done)), H', ⟨Nat.le_refl _⟩, ⟨by (with_reducible repeat (first | apply Kd.N_alloc | apply Kd.N_drewN | apply Kd.N_drew)); exact Kd.N_mono HO_9.out (fun _ hk => ⟨hk.1.2, hk.2⟩)⟩, ⟨by (with_reducible repeat (first | apply Kd.N_alloc | apply Kd.N_drewN | apply Kd.N_drew)); exact Kd.N_mono HO644.out (fun _ hk => ⟨hk.2.2, hk.1⟩)⟩, ⟨by (with_reducible repeat (first | apply Kd.R_alloc | apply Kd.R_drewN | apply Kd.R_drew)); exact HO646.out⟩, ⟨by (with_reducible repeat (first | apply Kd.V_alloc | apply Kd.V_drewN | apply Kd.V_drew)); exact Kd.V_mono HO656.out (fun _ hk => ⟨hk.1.1.2, ⟨hk.1.2, hk.2⟩⟩)⟩, ⟨by repeat (first | (with_reducible first | exact HB.out | apply below_alloc | apply pw_below_drewN | apply below_drew1) | exact HB.out)⟩⟩
                                case round =>
                                  clear H'
                                  try clear c1
                                  try clear c2
                                  try clear p2
                                  try clear c3
                                  try clear q3
                                  try clear c4
                                  try clear p6
                                  try clear q6
                                  try clear hx6
                                  try clear c10
                                  try clear c10b0
                                  try clear c10b1
                                  try clear c11
                                  try clear c11b0
                                  try clear c11b1
                                  try clear c13
                                  try clear c15
                                  try clear c16
                                  try clear c16b0
                                  try clear c16b1
                                  try clear c16b2
                                  try clear c18
                                  try clear c18b0
                                  try clear c19
                                  try clear c19b0
                                  try clear c20
                                  try clear c22
                                  try clear c22b0
                                  try clear c22b1
                                  try clear c25
                                  try clear c25b0
                                  try clear c26
                                  try clear c26b0
                                  try clear c28
                                  try clear c28b0
                                  try clear c28b1
                                  try clear c29
                                  try clear c29b0
                                  try clear c29b1
                                  try clear c31
                                  try clear c31b0
                                  try clear c31b1
                                  try clear c32
                                  try clear c33
                                  try clear c33b0
                                  try clear c33b1
                                  try clear c34
                                  try clear c34b0
                                  try clear c34b1
                                  try clear q36
                                  try clear hx636_0
                                  try clear hx636_1
                                  try clear hx636_2
                                  try clear hx636_3
                                  try clear hx637_0
                                  try clear hx637_1
                                  try clear hx637_2
                                  try clear hx637_3
                                  try clear hx638_0
                                  try clear hx638_1
                                  try clear hx638_2
                                  try clear hx638_3
                                  try clear hx640_0
                                  try clear hx640_1
                                  try clear hx640_2
                                  try clear hx640_3
                                  try clear hx647_0
                                  try clear hx647_1
                                  try clear hx647_2
                                  try clear hx647_3
                                  try clear p2
                                  try clear p6
                                  try clear p636
                                  try clear p637
                                  try clear p638
                                  try clear p640
                                  try clear p647
                                  try clear q36
                                  try clear q6
                                  try clear q636
                                  try clear q637
                                  try clear q638
                                  try clear q640
                                  try clear q647
                                  obtain ⟨x16_3, x102_3, rfl, rfl, HA, HK3, HO_9, HO_14, HO_15, HO_100, HB⟩ := hrel
                                  cases gk with
                                  | zero => exact absurd HA.out (by simp [slotmeshlaw02_ParserBeginnings.l0])
                                  | succ k3 =>
                                    have H := HA.out
                                    clear HA
                                    simp only [slotmeshlaw02_ParserBeginnings.l0] at H
                                    by_cases c37 : x102_3 < (y652.length : Int)
                                    · rw [if_pos c37] at H
                                      have c37b0 : decide (x102_3 < (y652.length : Int)) = true := decide_eq_true c37
                                      clear c37
                                      by_cases c38 : 0 ≤ x102_3
                                      · rw [if_pos c38] at H
                                        have c38b0 : decide (0 ≤ x102_3) = true := decide_eq_true c38
                                        clear c38
                                        by_cases c39 : x102_3 < (y652.length : Int)
                                        · rw [if_pos c39] at H
                                          have c39b0 : decide (x102_3 < (y652.length : Int)) = true := decide_eq_true c39
                                          clear c39
                                          by_cases c40 : ((rd_T45 y652 x102_3).f0) = 3
                                          · rw [if_pos c40] at H
                                            have c40b0 : (((rd_T45 y652 x102_3).f0) == 3) = true := beq_iff_eq.mpr c40
                                            have c40b1 : (((rd_T45 y652 x102_3).f0) != 3) = false := bne_eq_false_iff_eq.mpr c40
                                            clear c40
                                            have H' := Aside0.mk H
                                            clear H
                                            have p657 : 0 ≤ (x102_3 : Int) := of_decide_eq_true (by first | (with_reducible assumption) | assumption)
                                            have q657 : x102_3 < (y652.length : Int) := of_decide_eq_true (by first | (with_reducible assumption) | assumption)
                                            obtain ⟨ad657, e657, hx657_0, hx657_1, hx657_2, hx657_3⟩ := at_T45 (Kd.V_reads' HO_100.out).2.2 x102_3 p657 q657
                                            obtain rfl : ad636 = ad657 := (by injection e657)
                                            replace p657 := eq_true p657
                                            replace q657 := eq_true q657
                                            go_wp2_with (first | ((with_reducible refine gate_dst (N := 18) rfl ?_); (try (refine gate_guard (by rfl) ?_; dsimp only)); refine box_event ?hg (N := 18) ?hd (cs := #[.int .i64 0, .string (⟨#[]⟩ : ByteArray), .int .i64 0, .int .i64 0]) (t := 45) ?hr ?_; (case hd => rfl); (case hg => rfl); (case hr => first | (go_simp; done) | (go_simp; rfl)); intro gb658 hg w41 hbox hb; have n0_ := Aside0.mk (Kd.N_below (Kd.N_elderB (by (with_reducible repeat (first | apply Kd.N_alloc | apply Kd.N_drewN | apply Kd.N_drew)); exact HO_9.out) gb658 (Nat.le_of_eq hg.symm)) hb); have n1_ := Aside0.mk (Kd.N_below (Kd.N_elderB (by (with_reducible repeat (first | apply Kd.N_alloc | apply Kd.N_drewN | apply Kd.N_drew)); exact HO_14.out) gb658 (Nat.le_of_eq hg.symm)) hb); have n2_ := Aside0.mk (Kd.R_below (by (with_reducible repeat (first | apply Kd.R_alloc | apply Kd.R_drewN | apply Kd.R_drew)); exact HO_15.out) hb); have n3_ := Aside0.mk (Kd.V_below (Kd.V_elderB (by (with_reducible repeat (first | apply Kd.V_alloc | apply Kd.V_drewN | apply Kd.V_drew)); exact HO_100.out) gb658 (Nat.le_of_eq hg.symm)) hb); have n4_ := Aside0.mk (below_step (by repeat (first | (with_reducible first | exact HB.out | apply below_alloc | apply pw_below_drewN | apply below_drew1) | exact HB.out)) hb); have n5_ := Aside0.mk (hbox); have n6_ := Aside0.mk ((by rw [hg]; exact (below_size (by repeat (first | (with_reducible first | exact HB.out | apply below_alloc | apply pw_below_drewN | apply below_drew1) | exact HB.out))) : w.heap.size ≤ gb658)); have n7_ := Aside0.mk ((by rw [hg]; exact (below_size (by repeat (first | (with_reducible first | exact HB.out | apply below_alloc | apply pw_below_drewN | apply below_drew1) | exact HB.out))) : w.heap.size ≤ gb658)); clear HO_9; clear HO_14; clear HO_15; clear HO_100; clear HB; have HO_9 := n0_; have HO_14 := n1_; have HO_15 := n2_; have HO_100 := n3_; have HB := n4_; have BK658 := n5_; have GW658 := n6_; have GE658 := n7_; clear n0_ n1_ n2_ n3_ n4_ n5_ n6_ n7_; clear hb hbox hg; have hcz42_0 : w41.cell? ⟨gb658, 0, none⟩ = some (.int .i64 0) := (blk_cell BK658.out 0).trans rfl; have hcz42_1 : w41.cell? ⟨gb658, 1, none⟩ = some (.string (⟨#[]⟩ : ByteArray)) := (blk_cell BK658.out 1).trans rfl; have hcz42_2 : w41.cell? ⟨gb658, 2, none⟩ = some (.int .i64 0) := (blk_cell BK658.out 2).trans rfl; have hcz42_3 : w41.cell? ⟨gb658, 3, none⟩ = some (.int .i64 0) := (blk_cell BK658.out 3).trans rfl; have hfz42_0 := blk_frozen BK658.out 0; have hfz42_1 := blk_frozen BK658.out 1; have hfz42_2 := blk_frozen BK658.out 2; have hfz42_3 := blk_frozen BK658.out 3; have hZZgb658 : ∀ a b c d x : Value, (((((w41.setCell ⟨gb658, 0, none⟩ a).setCell ⟨gb658, 1, none⟩ b).setCell ⟨gb658, 2, none⟩ c).setCell ⟨gb658, 3, none⟩ d).setCell ⟨gb658, 3, none⟩ x).cell? ⟨gb658, 3, none⟩ = some x := fun a b c d x => (blk_cell (blk_set (blk_set (blk_set (blk_set (blk_set BK658.out 0 a) 1 b) 2 c) 3 d) 3 x) 3).trans rfl))
                                            go_roundg k3
                                            case measure => have := HJ5.out; have := HJ19.out; have := HK3.out; omega
                                            case rel => exact ⟨(wrap64 (x16_3 + 1)), (wrap64 (x102_3 + 1)), (by first | rfl | (simp; done) | (simp [*]; done)), (by first | rfl | (simp; done) | (simp [*]; done)), H', ⟨by have := HJ5.out; have := HJ19.out; have := HK3.out; omega⟩, ⟨by (with_reducible repeat (first | apply Kd.N_alloc | apply Kd.N_drewN | apply Kd.N_drew)); exact Kd.N_mono (Kd.N_far (p := ⟨gb658, 3, none⟩) (Kd.N_far (p := ⟨gb658, 2, none⟩) (Kd.N_far (p := ⟨gb658, 1, none⟩) (Kd.N_far (p := ⟨gb658, 0, none⟩) (Kd.N_mono HO_9.out (fun k_ hk => (⟨hk, hk.2⟩ : _ ∧ k_ ≠ gb658))) (fun _ hk => hk.2) (.int .i64 ((rd_T45 y652 x102_3).f0))) (fun _ hk => hk.2) (.string ((rd_T45 y652 x102_3).f1))) (fun _ hk => hk.2) (.int .i64 ((rd_T45 y652 x102_3).f2))) (fun _ hk => hk.2) (.int .i64 ((rd_T45 y652 x102_3).f3))) (fun _ hk => ⟨hk.1.1.1, hk.1.1.2⟩)⟩, ⟨by (with_reducible repeat (first | apply Kd.N_alloc | apply Kd.N_drewN | apply Kd.N_drew)); exact Kd.N_mono (Kd.N_far (p := ⟨gb658, 3, none⟩) (Kd.N_far (p := ⟨gb658, 2, none⟩) (Kd.N_far (p := ⟨gb658, 1, none⟩) (Kd.N_far (p := ⟨gb658, 0, none⟩) (Kd.N_mono HO_14.out (fun k_ hk => (⟨hk, hk.2⟩ : _ ∧ k_ ≠ gb658))) (fun _ hk => hk.2) (.int .i64 ((rd_T45 y652 x102_3).f0))) (fun _ hk => hk.2) (.string ((rd_T45 y652 x102_3).f1))) (fun _ hk => hk.2) (.int .i64 ((rd_T45 y652 x102_3).f2))) (fun _ hk => hk.2) (.int .i64 ((rd_T45 y652 x102_3).f3))) (fun _ hk => ⟨hk.1.1.1, hk.1.1.2⟩)⟩, ⟨by (with_reducible repeat (first | apply Kd.R_alloc | apply Kd.R_drewN | apply Kd.R_drew)); exact Kd.R_mono (Kd.R_far (p := ⟨gb658, 3, none⟩) (Kd.R_far (p := ⟨gb658, 2, none⟩) (Kd.R_far (p := ⟨gb658, 1, none⟩) (Kd.R_far (p := ⟨gb658, 0, none⟩) (Kd.R_types HO_15.out BK658.out (by decide)) (fun _ hk => hk.2) (.int .i64 ((rd_T45 y652 x102_3).f0))) (fun _ hk => hk.2) (.string ((rd_T45 y652 x102_3).f1))) (fun _ hk => hk.2) (.int .i64 ((rd_T45 y652 x102_3).f2))) (fun _ hk => hk.2) (.int .i64 ((rd_T45 y652 x102_3).f3))) (fun _ hk => trivial)⟩, ⟨by (with_reducible repeat (first | apply Kd.V_alloc | apply Kd.V_drewN | apply Kd.V_drew)); exact Kd.V_mono (Kd.V_far (p := ⟨gb658, 3, none⟩) (Kd.V_far (p := ⟨gb658, 2, none⟩) (Kd.V_far (p := ⟨gb658, 1, none⟩) (Kd.V_far (p := ⟨gb658, 0, none⟩) (Kd.V_mono HO_100.out (fun k_ hk => (⟨hk, hk.2⟩ : _ ∧ k_ ≠ gb658))) (fun _ hk => hk.2) (.int .i64 ((rd_T45 y652 x102_3).f0))) (fun _ hk => hk.2) (.string ((rd_T45 y652 x102_3).f1))) (fun _ hk => hk.2) (.int .i64 ((rd_T45 y652 x102_3).f2))) (fun _ hk => hk.2) (.int .i64 ((rd_T45 y652 x102_3).f3))) (fun _ hk => ⟨hk.1.1.1, ⟨hk.1.1.2.1, hk.1.1.2.2⟩⟩)⟩, ⟨by repeat (first | (with_reducible first | exact HB.out | apply below_alloc | apply pw_below_drewN | apply below_drew1 | refine below_set ?_ GE658.out) | exact HB.out)⟩⟩
                                          · rw [if_neg c40] at H
                                            have c40b0 : (((rd_T45 y652 x102_3).f0) == 3) = false := beq_eq_false_iff_ne.mpr c40
                                            have c40b1 : (((rd_T45 y652 x102_3).f0) != 3) = true := bne_iff_ne.mpr c40
                                            have H' := Aside0.mk H
                                            clear H
                                            have p657 : 0 ≤ (x102_3 : Int) := of_decide_eq_true (by first | (with_reducible assumption) | assumption)
                                            have q657 : x102_3 < (y652.length : Int) := of_decide_eq_true (by first | (with_reducible assumption) | assumption)
                                            obtain ⟨ad657, e657, hx657_0, hx657_1, hx657_2, hx657_3⟩ := at_T45 (Kd.V_reads' HO_100.out).2.2 x102_3 p657 q657
                                            obtain rfl : ad636 = ad657 := (by injection e657)
                                            replace p657 := eq_true p657
                                            replace q657 := eq_true q657
                                            go_wp2_with (first | ((with_reducible refine gate_dst (N := 18) rfl ?_); (try (refine gate_guard (by rfl) ?_; dsimp only)); refine box_event ?hg (N := 18) ?hd (cs := #[.int .i64 0, .string (⟨#[]⟩ : ByteArray), .int .i64 0, .int .i64 0]) (t := 45) ?hr ?_; (case hd => rfl); (case hg => rfl); (case hr => first | (go_simp; done) | (go_simp; rfl)); intro gb658 hg w43 hbox hb; have n0_ := Aside0.mk (Kd.N_below (Kd.N_elderB (by (with_reducible repeat (first | apply Kd.N_alloc | apply Kd.N_drewN | apply Kd.N_drew)); exact HO_9.out) gb658 (Nat.le_of_eq hg.symm)) hb); have n1_ := Aside0.mk (Kd.N_below (Kd.N_elderB (by (with_reducible repeat (first | apply Kd.N_alloc | apply Kd.N_drewN | apply Kd.N_drew)); exact HO_14.out) gb658 (Nat.le_of_eq hg.symm)) hb); have n2_ := Aside0.mk (Kd.R_below (by (with_reducible repeat (first | apply Kd.R_alloc | apply Kd.R_drewN | apply Kd.R_drew)); exact HO_15.out) hb); have n3_ := Aside0.mk (Kd.V_below (Kd.V_elderB (by (with_reducible repeat (first | apply Kd.V_alloc | apply Kd.V_drewN | apply Kd.V_drew)); exact HO_100.out) gb658 (Nat.le_of_eq hg.symm)) hb); have n4_ := Aside0.mk (below_step (by repeat (first | (with_reducible first | exact HB.out | apply below_alloc | apply pw_below_drewN | apply below_drew1) | exact HB.out)) hb); have n5_ := Aside0.mk (hbox); have n6_ := Aside0.mk ((by rw [hg]; exact (below_size (by repeat (first | (with_reducible first | exact HB.out | apply below_alloc | apply pw_below_drewN | apply below_drew1) | exact HB.out))) : w.heap.size ≤ gb658)); have n7_ := Aside0.mk ((by rw [hg]; exact (below_size (by repeat (first | (with_reducible first | exact HB.out | apply below_alloc | apply pw_below_drewN | apply below_drew1) | exact HB.out))) : w.heap.size ≤ gb658)); clear HO_9; clear HO_14; clear HO_15; clear HO_100; clear HB; have HO_9 := n0_; have HO_14 := n1_; have HO_15 := n2_; have HO_100 := n3_; have HB := n4_; have BK658 := n5_; have GW658 := n6_; have GE658 := n7_; clear n0_ n1_ n2_ n3_ n4_ n5_ n6_ n7_; clear hb hbox hg; have hcz44_0 : w43.cell? ⟨gb658, 0, none⟩ = some (.int .i64 0) := (blk_cell BK658.out 0).trans rfl; have hcz44_1 : w43.cell? ⟨gb658, 1, none⟩ = some (.string (⟨#[]⟩ : ByteArray)) := (blk_cell BK658.out 1).trans rfl; have hcz44_2 : w43.cell? ⟨gb658, 2, none⟩ = some (.int .i64 0) := (blk_cell BK658.out 2).trans rfl; have hcz44_3 : w43.cell? ⟨gb658, 3, none⟩ = some (.int .i64 0) := (blk_cell BK658.out 3).trans rfl; have hfz44_0 := blk_frozen BK658.out 0; have hfz44_1 := blk_frozen BK658.out 1; have hfz44_2 := blk_frozen BK658.out 2; have hfz44_3 := blk_frozen BK658.out 3; have hZZgb658 : ∀ a b c d x : Value, (((((w43.setCell ⟨gb658, 0, none⟩ a).setCell ⟨gb658, 1, none⟩ b).setCell ⟨gb658, 2, none⟩ c).setCell ⟨gb658, 3, none⟩ d).setCell ⟨gb658, 3, none⟩ x).cell? ⟨gb658, 3, none⟩ = some x := fun a b c d x => (blk_cell (blk_set (blk_set (blk_set (blk_set (blk_set BK658.out 0 a) 1 b) 2 c) 3 d) 3 x) 3).trans rfl))
                                            go_roundg k3
                                            case measure => have := HJ5.out; have := HJ19.out; have := HK3.out; omega
                                            case rel => exact ⟨(x16_3), (wrap64 (x102_3 + 1)), (by first | rfl | (simp; done) | (simp [*]; done)), (by first | rfl | (simp; done) | (simp [*]; done)), H', ⟨by have := HJ5.out; have := HJ19.out; have := HK3.out; omega⟩, ⟨by (with_reducible repeat (first | apply Kd.N_alloc | apply Kd.N_drewN | apply Kd.N_drew)); exact Kd.N_mono (Kd.N_far (p := ⟨gb658, 3, none⟩) (Kd.N_far (p := ⟨gb658, 2, none⟩) (Kd.N_far (p := ⟨gb658, 1, none⟩) (Kd.N_far (p := ⟨gb658, 0, none⟩) (Kd.N_mono HO_9.out (fun k_ hk => (⟨hk, hk.2⟩ : _ ∧ k_ ≠ gb658))) (fun _ hk => hk.2) (.int .i64 ((rd_T45 y652 x102_3).f0))) (fun _ hk => hk.2) (.string ((rd_T45 y652 x102_3).f1))) (fun _ hk => hk.2) (.int .i64 ((rd_T45 y652 x102_3).f2))) (fun _ hk => hk.2) (.int .i64 ((rd_T45 y652 x102_3).f3))) (fun _ hk => ⟨hk.1.1.1, hk.1.1.2⟩)⟩, ⟨by (with_reducible repeat (first | apply Kd.N_alloc | apply Kd.N_drewN | apply Kd.N_drew)); exact Kd.N_mono (Kd.N_far (p := ⟨gb658, 3, none⟩) (Kd.N_far (p := ⟨gb658, 2, none⟩) (Kd.N_far (p := ⟨gb658, 1, none⟩) (Kd.N_far (p := ⟨gb658, 0, none⟩) (Kd.N_mono HO_14.out (fun k_ hk => (⟨hk, hk.2⟩ : _ ∧ k_ ≠ gb658))) (fun _ hk => hk.2) (.int .i64 ((rd_T45 y652 x102_3).f0))) (fun _ hk => hk.2) (.string ((rd_T45 y652 x102_3).f1))) (fun _ hk => hk.2) (.int .i64 ((rd_T45 y652 x102_3).f2))) (fun _ hk => hk.2) (.int .i64 ((rd_T45 y652 x102_3).f3))) (fun _ hk => ⟨hk.1.1.1, hk.1.1.2⟩)⟩, ⟨by (with_reducible repeat (first | apply Kd.R_alloc | apply Kd.R_drewN | apply Kd.R_drew)); exact Kd.R_mono (Kd.R_far (p := ⟨gb658, 3, none⟩) (Kd.R_far (p := ⟨gb658, 2, none⟩) (Kd.R_far (p := ⟨gb658, 1, none⟩) (Kd.R_far (p := ⟨gb658, 0, none⟩) (Kd.R_types HO_15.out BK658.out (by decide)) (fun _ hk => hk.2) (.int .i64 ((rd_T45 y652 x102_3).f0))) (fun _ hk => hk.2) (.string ((rd_T45 y652 x102_3).f1))) (fun _ hk => hk.2) (.int .i64 ((rd_T45 y652 x102_3).f2))) (fun _ hk => hk.2) (.int .i64 ((rd_T45 y652 x102_3).f3))) (fun _ hk => trivial)⟩, ⟨by (with_reducible repeat (first | apply Kd.V_alloc | apply Kd.V_drewN | apply Kd.V_drew)); exact Kd.V_mono (Kd.V_far (p := ⟨gb658, 3, none⟩) (Kd.V_far (p := ⟨gb658, 2, none⟩) (Kd.V_far (p := ⟨gb658, 1, none⟩) (Kd.V_far (p := ⟨gb658, 0, none⟩) (Kd.V_mono HO_100.out (fun k_ hk => (⟨hk, hk.2⟩ : _ ∧ k_ ≠ gb658))) (fun _ hk => hk.2) (.int .i64 ((rd_T45 y652 x102_3).f0))) (fun _ hk => hk.2) (.string ((rd_T45 y652 x102_3).f1))) (fun _ hk => hk.2) (.int .i64 ((rd_T45 y652 x102_3).f2))) (fun _ hk => hk.2) (.int .i64 ((rd_T45 y652 x102_3).f3))) (fun _ hk => ⟨hk.1.1.1, ⟨hk.1.1.2.1, hk.1.1.2.2⟩⟩)⟩, ⟨by repeat (first | (with_reducible first | exact HB.out | apply below_alloc | apply pw_below_drewN | apply below_drew1 | refine below_set ?_ GE658.out) | exact HB.out)⟩⟩
                                        · rw [if_neg c39] at H
                                          exact absurd H (by simp)
                                      · rw [if_neg c38] at H
                                        exact absurd H (by simp)
                                    · rw [if_neg c37] at H
                                      have c37b0 : decide (x102_3 < (y652.length : Int)) = false := decide_eq_false c37
                                      clear c37
                                      by_cases c45 : t624 = true
                                      · subst c45
                                        have H1 : (if (t642.length : Int) = 0 then (if x16_3 ≤ (t630.length : Int) then (if 0 ≤ x16_3 then ((slotmeshref02_Same.f k3 t641 (t630.take (x16_3 : Int).toNat)).bind fun t664 => (some t664)) else (none)) else (some false)) else (some false)) = some r := by rw [if_pos rfl] at H; exact H
                                        clear H
                                        have H := H1
                                        clear H1
                                        by_cases c46 : (t642.length : Int) = 0
                                        · rw [if_pos c46] at H
                                          have c46b0 : ((t642.length : Int) == 0) = true := beq_iff_eq.mpr c46
                                          have c46b1 : ((t642.length : Int) != 0) = false := bne_eq_false_iff_eq.mpr c46
                                          clear c46
                                          by_cases c47 : x16_3 ≤ (t630.length : Int)
                                          · rw [if_pos c47] at H
                                            have c47b0 : decide (x16_3 ≤ (t630.length : Int)) = true := decide_eq_true c47
                                            clear c47
                                            by_cases c48 : 0 ≤ x16_3
                                            · rw [if_pos c48] at H
                                              have c48b0 := eq_true c48
                                              have c48b1 : decide (0 ≤ x16_3) = true := decide_eq_true c48
                                              clear c48
                                              have c49b0 := eq_true (of_decide_eq_true (by first | (with_reducible assumption) | assumption) : x16_3 ≤ (t630.length : Int))
                                              obtain ⟨y659, hy659⟩ : ∃ y_ : List (S40), y_ = (t630.take (x16_3 : Int).toNat) := ⟨_, rfl⟩
                                              replace H : ((slotmeshref02_Same.f k3 t641 y659).bind fun t664 => (some t664)) = some r := by first | (rw [hy659]; with_reducible exact H) | (have H2_ := (Option.bind_some _ _).symm.trans H; rw [hy659]; with_reducible exact H2_) | (have H2_ := (Option.bind_some _ _).symm.trans H; with_reducible exact H2_) | with_reducible exact H | (rw [hy659]; exact H) | exact H
                                              have Ny659 := Aside0.mk hy659
                                              clear hy659
                                              replace H := Option.bind_eq_some_iff.mp H
                                              obtain ⟨t664, A500, H⟩ := H
                                              replace H : (some t664) = some r := H
                                              have A50 := Aside0.mk A500
                                              clear A500
                                              clear hr_
                                              obtain rfl := Option.some.inj H
                                              obtain ⟨Ao51, co51, eo51⟩ := Kd.R_slice HO_15.out
                                              subst eo51
                                              obtain ⟨Ao52, co52, eo52⟩ := Kd.N_slice HO_9.out
                                              subst eo52
                                              have q53 : (x16_3 : Int) ≤ ((t630.length : Int) : Int) := of_decide_eq_true (by first | (with_reducible assumption) | assumption)
                                              obtain ⟨i053, hi053, _, hsz53, _⟩ := info_parts info40
                                              have hroom53 : t630.length ≤ co52 := (Kd.N_reads' HO_9.out).2.1
                                              have hC53 : Kd.F k40 _ _ Ao52 t630.length t630 := (Kd.V_at (base := w.heap.size) (Kd.N_V HO_9.out)).2.2
                                              have hcut53 := cut_to (P := Tryd.prog) 25 40 .i64 Tryd.underlying25 hi053 Ao52 t630.length co52 x16_3 (of_decide_eq_true (by first | (with_reducible assumption) | assumption)) q53 hroom53
                                              have hr53 := Kd.F_take (m := (x16_3 : Int).toNat) hC53 (by omega)
                                              have hy53 : y659.length = (x16_3 : Int).toNat := (by rw [Ny659.out, List.length_take]; omega)
                                              rw [← Ny659.out] at hr53
                                              rw [← hy53] at hcut53
                                              have HO663 := Aside0.mk (show Kd.V k40 40 _ w.heap.size _ (.slice Ao52 y659.length co52) y659 from Kd.V_mk (by omega) hr53)
                                              have HC663 := Aside0.mk (show y659.length ≤ co52 from by omega)
                                              clear hr53 hC53 hroom53 hi053 hsz53
                                              have KY53 := Aside0.mk hy53
                                              clear hy53
                                              replace q53 := eq_true q53
                                              obtain ⟨Ao54, co54, eo54⟩ := Kd.N_slice HO_14.out
                                              subst eo54
                                              go_wp2_with (first | (go_at_call 22; (with_reducible refine (slotmeshref02_Same.calls k3 _ _ t641 _ _ y659 t664 _ ?side1 ?side2 ?side3 ?side4 A50.out).mono ?_); (case side1 => repeat (first | exact (Kd.N_reads' HO_14.out).2.2 | (with_reducible refine Kd.C_alloc ?_ _) | (with_reducible refine Kd.C_drewN ?_ _) | (with_reducible refine Kd.C_drew ?_))); (case side2 => exact (Kd.N_reads' HO_14.out).2.1); (case side3 => repeat (first | exact (Kd.V_reads' HO663.out).2.2 | (with_reducible refine Kd.C_alloc ?_ _) | (with_reducible refine Kd.C_drewN ?_ _) | (with_reducible refine Kd.C_drew ?_))); (case side4 => exact (Kd.V_reads' HO663.out).2.1); rintro e w' ⟨rfl, ⟨nd, rfl⟩⟩))
                                              go_ret
                                              exact ⟨by first | rfl | (simp [errW_none, errW_some] <;> rfl) | (simp only [← hji17, ← hji27, ← hji32]; first | rfl | (simp [errW_none, errW_some] <;> rfl)) | (simp [*, errW_none, errW_some] <;> rfl), by repeat (first | (with_reducible first | exact HB.out | apply below_alloc | apply pw_below_drewN | apply below_drew1) | exact HB.out)⟩
                                            · rw [if_neg c48] at H
                                              exact absurd H (by simp)
                                          · rw [if_neg c47] at H
                                            have c47b0 : decide (x16_3 ≤ (t630.length : Int)) = false := decide_eq_false c47
                                            clear c47
                                            exact absurd ((Option.some.inj H).trans hr_.out) (by decide)
                                        · rw [if_neg c46] at H
                                          have c46b0 : ((t642.length : Int) == 0) = false := beq_eq_false_iff_ne.mpr c46
                                          have c46b1 : ((t642.length : Int) != 0) = true := bne_iff_ne.mpr c46
                                          have c46b2 : ¬ (t642 = []) := fun h_ => c46 (by rw [h_]; rfl)
                                          exact absurd ((Option.some.inj H).trans hr_.out) (by decide)
                                      · replace c45 := Bool.eq_false_iff.mpr c45
                                        subst c45
                                        have H1 : (some false) = some r := by rw [if_neg (show ¬ (false = true) by decide)] at H; exact H
                                        clear H
                                        have H := H1
                                        clear H1
                                        exact absurd ((Option.some.inj H).trans hr_.out) (by decide)
                              · rw [if_neg c34] at H
                                exact absurd H (by simp)
                            · rw [if_neg c33] at H
                              exact absurd H (by simp)
                          · rw [if_neg c31] at H
                            have c31b0 : (((rd_T45 t625 ji17).f0) == 3) = false := beq_eq_false_iff_ne.mpr c31
                            have c31b1 : (((rd_T45 t625 ji17).f0) != 3) = true := bne_iff_ne.mpr c31
                            by_cases c58 : t624 = true
                            · subst c58
                              have H1 : ((slotmeshref02_SameDiags.f kj19 t642 (([(⟨7, ((a0.extract 0 ((ji27) : Int).toNat).size : Int)⟩ : S54)] : List (S54)))).bind fun t651 => (some t651)) = some r := by rw [if_pos rfl] at H; exact H
                              clear H
                              have H := H1
                              clear H1
                              obtain ⟨y648, hy648⟩ : ∃ y_ : List (S54), y_ = (([(⟨7, ((a0.extract 0 ((ji27) : Int).toNat).size : Int)⟩ : S54)] : List (S54))) := ⟨_, rfl⟩
                              replace H : ((slotmeshref02_SameDiags.f kj19 t642 y648).bind fun t651 => (some t651)) = some r := by first | (rw [hy648]; with_reducible exact H) | (have H2_ := (Option.bind_some _ _).symm.trans H; rw [hy648]; with_reducible exact H2_) | (have H2_ := (Option.bind_some _ _).symm.trans H; with_reducible exact H2_) | with_reducible exact H | (rw [hy648]; exact H) | exact H
                              have Ny648 := Aside0.mk hy648
                              clear hy648
                              replace H := Option.bind_eq_some_iff.mp H
                              obtain ⟨t651, A590, H⟩ := H
                              replace H : (some t651) = some r := H
                              have A59 := Aside0.mk A590
                              clear A590
                              clear hr_
                              obtain rfl := Option.some.inj H
                              have p640 : 0 ≤ (ji17 : Int) := of_decide_eq_true (by first | (with_reducible assumption) | assumption)
                              have q640 : ji17 < (t625.length : Int) := of_decide_eq_true (by first | (with_reducible assumption) | assumption)
                              obtain ⟨ad640, e640, hx640_0, hx640_1, hx640_2, hx640_3⟩ := at_T45 (Kd.R_reads' HO_6.out).2.2 ji17 p640 q640
                              obtain rfl : ad636 = ad640 := (by injection e640)
                              replace p640 := eq_true p640
                              replace q640 := eq_true q640
                              go_wp2_with (first | ((with_reducible refine gate_callee (f := 20) rfl ?_); refine goesL_ (some 79) rfl rfl Tryd.func20 (by kernel_rfl) rfl #[.string (a0.extract 0 ((ji27) : Int).toNat)] rfl (by (try simp only [List.map_toArray, List.map_cons, List.map_nil]); first | done | (simp only [hji27]; rfl) | rfl | (simp only [List.length_drop, List.length_take]; rfl)) ?_; (with_reducible refine (parser_Parse.calls (a0.extract 0 ((ji27) : Int).toNat) t641 t642 _ ?side1 A30.out).mono ?_); (case side1 => exact Tx.GQ.aside hG (by repeat (first | (with_reducible first | exact HB.out | apply below_alloc | apply pw_below_drewN | apply below_drew1) | exact HB.out))); rintro e w60 ⟨v643, v645, rfl, ho0, ho1, hb⟩; refine ⟨_, rfl, ?_⟩; have n0_ := Aside0.mk (Kd.R_below (by (with_reducible repeat (first | apply Kd.R_alloc | apply Kd.R_drewN | apply Kd.R_drew)); exact HO_6.out) hb); have n1_ := Aside0.mk (Kd.N_mono (Kd.N_told (Kd.N_told (Kd.N_old (by (with_reducible repeat (first | apply Kd.N_alloc | apply Kd.N_drewN | apply Kd.N_drew)); exact HO_9.out) hb) (Kd.R_base ho0)) (Kd.R_base ho1)) (fun _ h_ => h_.1)); have n2_ := Aside0.mk (Kd.N_lower (Kd.N_mono (ok' := fun k_ => some k_ ≠ (v645 : Value).ownBlock ∧ some k_ ≠ (.slice (some ad636) t625.length co21 : Value).ownBlock ∧ some k_ ≠ (v632 : Value).ownBlock) (Kd.R_N (Kd.R_bound (Kd.R_apart' ho0 (Kd.R_typed ho1) (by decide)))) (fun k_ hk_ => ⟨hk_.1.2, (Kd.fresh' (Kd.R_lt (by (with_reducible repeat (first | apply Kd.R_alloc | apply Kd.R_drewN | apply Kd.R_drew)); exact HO_6.out)) k_ hk_.2.1), (Kd.fresh' (Kd.N_lt (by (with_reducible repeat (first | apply Kd.N_alloc | apply Kd.N_drewN | apply Kd.N_drew)); exact HO_9.out)) k_ hk_.2.1)⟩)) (below_size (by repeat (first | (with_reducible first | exact HB.out | apply below_alloc | apply pw_below_drewN | apply below_drew1) | exact HB.out)))); have n3_ := Aside0.mk (Kd.R_lower ho1 (below_size (by repeat (first | (with_reducible first | exact HB.out | apply below_alloc | apply pw_below_drewN | apply below_drew1) | exact HB.out)))); have n4_ := Aside0.mk (below_step (by repeat (first | (with_reducible first | exact HB.out | apply below_alloc | apply pw_below_drewN | apply below_drew1) | exact HB.out)) hb); clear HO_6; clear HO_9; clear HB; have HO_6 := n0_; have HO_9 := n1_; have HO644 := n2_; have HO646 := n3_; have HB := n4_; clear n0_ n1_ n2_ n3_ n4_; (try clear hb); (try clear hb2); (try clear hk); (try clear hi); (try clear ho0); (try clear ho1); have p647 : 0 ≤ (ji17 : Int) := of_decide_eq_true (by first | (with_reducible assumption) | assumption); have q647 : ji17 < (t625.length : Int) := of_decide_eq_true (by first | (with_reducible assumption) | assumption); obtain ⟨ad647, e647, hx647_0, hx647_1, hx647_2, hx647_3⟩ := at_T45 (Kd.R_reads' HO_6.out).2.2 ji17 p647 q647; obtain rfl : ad636 = ad647 := (by injection e647); replace p647 := eq_true p647; replace q647 := eq_true q647) | ((with_reducible refine gate_dst (N := 94) rfl ?_); (try (refine gate_guard (by rfl) ?_; dsimp only)); refine Kd.R_lit k54 _ 54 ?hg (N := 94) ?hd (xs := ([(⟨7, ((a0.extract 0 ((ji27) : Int).toNat).size : Int)⟩ : S54)] : List (S54))) (inner := [.int .i64 7, .int .i64 ((a0.extract 0 ((ji27) : Int).toNat).size : Int)]) (ok := fun _ => True) (okp := fun _ => True) ?hr ?hp (fun _ hk => hk) trivial (Below.refl _ _) (Nat.le_refl _) (by simp) ?_; (case hd => rfl); (case hg => rfl); (case hr => first | (go_simp; done) | (go_simp; rfl)); (case hp => exact (Reps.c2 (show Kd.M k54 _ _ _ (⟨7, ((a0.extract 0 ((ji27) : Int).toNat).size : Int)⟩ : S54) [.int .i64 7, .int .i64 ((a0.extract 0 ((ji27) : Int).toNat).size : Int)] from (k54_mkM _ _ _ (⟨7, ((a0.extract 0 ((ji27) : Int).toNat).size : Int)⟩ : S54) )) (Reps.none _ _))); intro v649 w61 ho62 hb hg_ hnew_; clear hg_ hnew_; (first | rw [← Ny648.out] at ho62 | (simp only [Int.reduceToNat] at ho62; rw [← Ny648.out] at ho62)); have n0_ := Aside0.mk (Kd.R_below (by (with_reducible repeat (first | apply Kd.R_alloc | apply Kd.R_drewN | apply Kd.R_drew)); exact HO_6.out) hb); have n1_ := Aside0.mk (Kd.N_elder' (by (with_reducible repeat (first | apply Kd.N_alloc | apply Kd.N_drewN | apply Kd.N_drew)); exact HO_9.out) (Kd.R_base ho62) hb); have n2_ := Aside0.mk (Kd.N_elder' (by (with_reducible repeat (first | apply Kd.N_alloc | apply Kd.N_drewN | apply Kd.N_drew)); exact HO644.out) (Kd.R_base ho62) hb); have n3_ := Aside0.mk (Kd.R_elder' (by (with_reducible repeat (first | apply Kd.R_alloc | apply Kd.R_drewN | apply Kd.R_drew)); exact HO646.out) (Kd.R_base ho62) hb); have n4_ := Aside0.mk (Kd.R_lower (Kd.R_new' ho62 (Kd.R_lt (by (with_reducible repeat (first | apply Kd.R_alloc | apply Kd.R_drewN | apply Kd.R_drew)); exact HO646.out))) (below_size (by repeat (first | (with_reducible first | exact HB.out | apply below_alloc | apply pw_below_drewN | apply below_drew1) | exact HB.out)))); have n5_ := Aside0.mk (below_step (by repeat (first | (with_reducible first | exact HB.out | apply below_alloc | apply pw_below_drewN | apply below_drew1) | exact HB.out)) hb); clear HO_6; clear HO_9; clear HO644; clear HO646; clear HB; have HO_6 := n0_; have HO_9 := n1_; have HO644 := n2_; have HO646 := n3_; have HO650 := n4_; have HB := n5_; clear n0_ n1_ n2_ n3_ n4_ n5_; clear hb ho62; obtain ⟨Ao63, co63, eo63⟩ := Kd.R_slice HO646.out; subst eo63; obtain ⟨Ao64, co64, eo64⟩ := Kd.R_slice HO650.out; subst eo64) | (go_at_call 39; (with_reducible refine (slotmeshref02_SameDiags.calls kj19 _ _ t642 _ _ y648 t651 _ ?side1 ?side2 ?side3 ?side4 A59.out).mono ?_); (case side1 => repeat (first | exact (Kd.R_reads' HO646.out).2.2 | (with_reducible refine Kd.C_alloc ?_ _) | (with_reducible refine Kd.C_drewN ?_ _) | (with_reducible refine Kd.C_drew ?_))); (case side2 => exact (Kd.R_reads' HO646.out).2.1); (case side3 => repeat (first | exact (Kd.R_reads' HO650.out).2.2 | (with_reducible refine Kd.C_alloc ?_ _) | (with_reducible refine Kd.C_drewN ?_ _) | (with_reducible refine Kd.C_drew ?_))); (case side4 => exact (Kd.R_reads' HO650.out).2.1); rintro e w' ⟨rfl, ⟨nd, rfl⟩⟩))
                              go_ret
                              exact ⟨by first | rfl | (simp [errW_none, errW_some] <;> rfl) | (simp only [← hji17, ← hji27]; first | rfl | (simp [errW_none, errW_some] <;> rfl)) | (simp [*, errW_none, errW_some] <;> rfl), by repeat (first | (with_reducible first | exact HB.out | apply below_alloc | apply pw_below_drewN | apply below_drew1) | exact HB.out)⟩
                            · replace c58 := Bool.eq_false_iff.mpr c58
                              subst c58
                              have H1 : (some false) = some r := by rw [if_neg (show ¬ (false = true) by decide)] at H; exact H
                              clear H
                              have H := H1
                              clear H1
                              exact absurd ((Option.some.inj H).trans hr_.out) (by decide)
                        · rw [if_neg c29] at H
                          exact absurd H (by simp)
                      · rw [if_neg c28] at H
                        exact absurd H (by simp)
                    · rw [if_neg c26] at H
                      exact absurd H (by simp)
                  · rw [if_neg c25] at H
                    exact absurd H (by simp)
            · rw [if_neg c19] at H
              exact absurd H (by simp)
          · rw [if_neg c18] at H
            exact absurd H (by simp)
end Go.Proofs.YtdedlchpjboceaaDoor.PE
end
