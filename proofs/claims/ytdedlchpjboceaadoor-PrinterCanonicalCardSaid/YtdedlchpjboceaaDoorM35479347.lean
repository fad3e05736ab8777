/- Texts of proofs: plain words, and walks through the program's functions. -/
import Derived.Test.YtdedlchpjboceaaDoorMa61b34f5
import Derived.Test.YtdedlchpjboceaaDoorM3950b05a
import Derived.Test.YtdedlchpjboceaaDoorM43b5a0ce
import Derived.Test.YtdedlchpjboceaaDoorMa7a62bad

section
namespace Go.Proofs.YtdedlchpjboceaaDoor.PE
open Go.RowKit Go.Proofs.YtdedlchpjboceaaDoorW.PrintWords Go.Proofs.YtdedlchpjboceaaDoorW.PrintLast Go.Proofs.YtdedlchpjboceaaDoorW.PrintMore
attribute [local go_sem] max2_int min2_int max_two min_two max_three min_three max_four min_four   -- for this text's walks alone
mutual
def slotmeshlaw03_PrinterCanonical.j0 : Nat → List Int → Bool → List (S45) → List (S40) → Bool → Option (Bool)
  | 0, _, _, _, _, _ => none
  | k + 1, x1, x5, x6, x9, x44 => if x44 = true then (some x5) else (slotmeshlaw03_PrinterCanonical.l0 k x1 x5 x9 (([(⟨#[32]⟩ : ByteArray), (⟨#[10]⟩ : ByteArray), (⟨#[9]⟩ : ByteArray), (⟨#[32, 35, 32, 120, 32, 59, 10]⟩ : ByteArray)] : List ByteArray)) (⟨#[]⟩ : ByteArray) x6 (x6.length : Int) 0)
def slotmeshlaw03_PrinterCanonical.l0 : Nat → List Int → Bool → List (S40) → List ByteArray → ByteArray → List (S45) → Int → Int → Option (Bool)
  | 0, _, _, _, _, _, _, _, _ => none
  | k + 1, x1, x5, x9, x11, x12, x47, x48, x49 => if x49 < x48 then (if 0 ≤ x49 then (if x49 < (x47.length : Int) then (if x49 < (x1.length : Int) then (if (x11.length : Int) = 0 then (none) else ((slotmeshref01_Text.f k ((rd_T45 x47 x49).f0) ((rd_T45 x47 x49).f1) ((rd_T45 x47 x49).f2) ((rd_T45 x47 x49).f3)).bind fun t260 => (if 0 ≤ (Int.tmod (wrap64 (rd x1 x49)) (x11.length : Int)) then (if (Int.tmod (wrap64 (rd x1 x49)) (x11.length : Int)) < (x11.length : Int) then (if t260.size + (rdOf ByteArray.empty x11 (Int.tmod (wrap64 (rd x1 x49)) (x11.length : Int))).size ≤ 9223372036854775807 then (if x12.size + (t260 ++ (rdOf ByteArray.empty x11 (Int.tmod (wrap64 (rd x1 x49)) (x11.length : Int)))).size ≤ 9223372036854775807 then (slotmeshlaw03_PrinterCanonical.l0 k x1 x5 x9 x11 (x12 ++ (t260 ++ (rdOf ByteArray.empty x11 (Int.tmod (wrap64 (rd x1 x49)) (x11.length : Int))))) x47 x48 (wrap64 (x49 + 1))) else (none)) else (none)) else (none)) else (none)))) else ((slotmeshref01_Text.f k ((rd_T45 x47 x49).f0) ((rd_T45 x47 x49).f1) ((rd_T45 x47 x49).f2) ((rd_T45 x47 x49).f3)).bind fun t262 => (if 0 < (x11.length : Int) then (if t262.size + (rdOf ByteArray.empty x11 0).size ≤ 9223372036854775807 then (if x12.size + (t262 ++ (rdOf ByteArray.empty x11 0)).size ≤ 9223372036854775807 then (slotmeshlaw03_PrinterCanonical.l0 k x1 x5 x9 x11 (x12 ++ (t262 ++ (rdOf ByteArray.empty x11 0))) x47 x48 (wrap64 (x49 + 1))) else (none)) else (none)) else (none)))) else (none)) else (none)) else ((printer_Print.f x9).bind fun bt264 => (if (x12.size : Int) ≤ 8000 then ((parser_Parse.f x12).bind fun bt266 => ((printer_Print.f bt266.1).bind fun bt272 => (if (bt266.2.length : Int) > 0 then (some false) else (if bt264.1.toList = bt272.1.toList then (if bt264.2 = bt272.2 then (slotmeshlaw03_PrinterCanonical.j2 k x5 bt264.1 bt264.2) else (some false)) else (some false))))) else (slotmeshlaw03_PrinterCanonical.j2 k x5 bt264.1 bt264.2)))
def slotmeshlaw03_PrinterCanonical.j2 : Nat → Bool → ByteArray → Int → Option (Bool)
  | 0, _, _, _ => none
  | _ + 1, x5, x16, x17 => if x17 = 0 then ((parser_Parse.f x16).bind fun bt274 => ((printer_Print.f bt274.1).bind fun bt280 => (if x5 = true then (if (bt274.2.length : Int) = 0 then (if bt280.2 = 0 then (some (x16.toList == bt280.1.toList)) else (some false)) else (some false)) else (some false)))) else (if x5 = true then (some (x17 == 2)) else (some false))
end
def slotmeshlaw03_PrinterCanonical.f (k : Nat) (a0 : ByteArray) (l1 : List Int) : Option (Bool) := (slotmeshlaw03_head.f).bind fun t242 => ((slotmeshref01_Lex.f k a0).bind fun bt243 => ((parser_Parse.f a0).bind fun bt248 => (if bt243.2.1 = 0 then (slotmeshlaw03_PrinterCanonical.j0 k l1 t242 bt243.1 bt248.1 (decide ((bt248.2.length : Int) > 0))) else (slotmeshlaw03_PrinterCanonical.j0 k l1 t242 bt243.1 bt248.1 true))))
theorem slotmeshlaw03_PrinterCanonical.mono_l : ∀ k, (∀ y0 y1 y2 y3 y4, LeO (slotmeshlaw03_PrinterCanonical.j0 k y0 y1 y2 y3 y4) (slotmeshlaw03_PrinterCanonical.j0 (k + 1) y0 y1 y2 y3 y4)) ∧ (∀ y0 y1 y2 y3 y4 y5 y6 y7, LeO (slotmeshlaw03_PrinterCanonical.l0 k y0 y1 y2 y3 y4 y5 y6 y7) (slotmeshlaw03_PrinterCanonical.l0 (k + 1) y0 y1 y2 y3 y4 y5 y6 y7)) ∧ (∀ y0 y1 y2, LeO (slotmeshlaw03_PrinterCanonical.j2 k y0 y1 y2) (slotmeshlaw03_PrinterCanonical.j2 (k + 1) y0 y1 y2))
  | 0 => ⟨fun _ _ _ _ _ r h => by simp [slotmeshlaw03_PrinterCanonical.j0] at h, fun _ _ _ _ _ _ _ _ r h => by simp [slotmeshlaw03_PrinterCanonical.l0] at h, fun _ _ _ r h => by simp [slotmeshlaw03_PrinterCanonical.j2] at h⟩
  | k + 1 => by
    obtain ⟨ih0, ih1, ih2⟩ := slotmeshlaw03_PrinterCanonical.mono_l k
    refine ⟨?_, ?_, ?_⟩
    · intro y0 y1 y2 y3 y4
      unfold slotmeshlaw03_PrinterCanonical.j0
      repeat' first
      | (with_reducible exact ih0 _ _ _ _ _)
      | (with_reducible exact ih1 _ _ _ _ _ _ _ _)
      | (with_reducible exact ih2 _ _ _)
      | (with_reducible exact slotmeshref01_Lex.mono _ _)
      | (with_reducible exact slotmeshref01_Text.mono _ _ _ _ _)
      | (with_reducible exact LeO.refl _)
      | (with_reducible exact LeO.none _)
      | (with_reducible refine LeO.ite ?_ ?_)
      | (with_reducible refine LeO.bind ?_ (fun _ => ?_))
      | exact ih0 _ _ _ _ _
      | exact ih1 _ _ _ _ _ _ _ _
      | exact ih2 _ _ _
      | exact slotmeshref01_Lex.mono _ _
      | exact slotmeshref01_Text.mono _ _ _ _ _
      | exact LeO.none _
      | refine LeO.ite ?_ ?_
      | refine LeO.bind ?_ (fun _ => ?_)
    · intro y0 y1 y2 y3 y4 y5 y6 y7
      unfold slotmeshlaw03_PrinterCanonical.l0
      repeat' first
      | (with_reducible exact ih0 _ _ _ _ _)
      | (with_reducible exact ih1 _ _ _ _ _ _ _ _)
      | (with_reducible exact ih2 _ _ _)
      | (with_reducible exact slotmeshref01_Lex.mono _ _)
      | (with_reducible exact slotmeshref01_Text.mono _ _ _ _ _)
      | (with_reducible exact LeO.refl _)
      | (with_reducible exact LeO.none _)
      | (with_reducible refine LeO.ite ?_ ?_)
      | (with_reducible refine LeO.bind ?_ (fun _ => ?_))
      | exact ih0 _ _ _ _ _
      | exact ih1 _ _ _ _ _ _ _ _
      | exact ih2 _ _ _
      | exact slotmeshref01_Lex.mono _ _
      | exact slotmeshref01_Text.mono _ _ _ _ _
      | exact LeO.none _
      | refine LeO.ite ?_ ?_
      | refine LeO.bind ?_ (fun _ => ?_)
    · intro y0 y1 y2
      unfold slotmeshlaw03_PrinterCanonical.j2
      repeat' first
      | (with_reducible exact ih0 _ _ _ _ _)
      | (with_reducible exact ih1 _ _ _ _ _ _ _ _)
      | (with_reducible exact ih2 _ _ _)
      | (with_reducible exact slotmeshref01_Lex.mono _ _)
      | (with_reducible exact slotmeshref01_Text.mono _ _ _ _ _)
      | (with_reducible exact LeO.refl _)
      | (with_reducible exact LeO.none _)
      | (with_reducible refine LeO.ite ?_ ?_)
      | (with_reducible refine LeO.bind ?_ (fun _ => ?_))
      | exact ih0 _ _ _ _ _
      | exact ih1 _ _ _ _ _ _ _ _
      | exact ih2 _ _ _
      | exact slotmeshref01_Lex.mono _ _
      | exact slotmeshref01_Text.mono _ _ _ _ _
      | exact LeO.none _
      | refine LeO.ite ?_ ?_
      | refine LeO.bind ?_ (fun _ => ?_)
theorem slotmeshlaw03_PrinterCanonical.mono : ∀ a0 a1 k, LeO (slotmeshlaw03_PrinterCanonical.f k a0 a1) (slotmeshlaw03_PrinterCanonical.f (k + 1) a0 a1) := by
  intro a0 a1 k
  obtain ⟨ih0, ih1, ih2⟩ := slotmeshlaw03_PrinterCanonical.mono_l k
  unfold slotmeshlaw03_PrinterCanonical.f
  repeat' first
      | (with_reducible exact ih0 _ _ _ _ _)
      | (with_reducible exact ih1 _ _ _ _ _ _ _ _)
      | (with_reducible exact ih2 _ _ _)
      | (with_reducible exact slotmeshref01_Lex.mono _ _)
      | (with_reducible exact slotmeshref01_Text.mono _ _ _ _ _)
      | (with_reducible exact LeO.refl _)
      | (with_reducible exact LeO.none _)
      | (with_reducible refine LeO.ite ?_ ?_)
      | (with_reducible refine LeO.bind ?_ (fun _ => ?_))
      | exact ih0 _ _ _ _ _
      | exact ih1 _ _ _ _ _ _ _ _
      | exact ih2 _ _ _
      | exact slotmeshref01_Lex.mono _ _
      | exact slotmeshref01_Text.mono _ _ _ _ _
      | exact LeO.none _
      | refine LeO.ite ?_ ?_
      | refine LeO.bind ?_ (fun _ => ?_)
def slotmeshlaw03_PrinterCanonical.T14 : Bool × List (List Nat × List Nat) := (true, [([], []), ([], []), ([1], [1]), ([], []), ([], []), ([3, 4], [3, 4]), ([5], [5]), ([2, 6], [2, 6]), ([0, 7], [0, 7]), ([8, 2, 0, 1, 2, 3, 4, 5, 6, 7, 8], [0, 8])])
def slotmeshlaw03_PrinterCanonical.B14 : List Nat := [0, 0, 2, 0, 0, 24, 56, 126, 255, 511]
theorem slotmeshlaw03_PrinterCanonical.tab14 : rtab .any (opsOf Tryd.f15 14) = slotmeshlaw03_PrinterCanonical.T14 := by kernel_rfl
theorem slotmeshlaw03_PrinterCanonical.bits14 : waitsOk slotmeshlaw03_PrinterCanonical.T14.2 slotmeshlaw03_PrinterCanonical.B14 = true := by kernel_rfl
set_option maxHeartbeats 8000000 in
set_option maxRecDepth 100000 in
theorem slotmeshlaw03_PrinterCanonical.calls (k : Nat) (a0 : ByteArray) (A1 : Option Addr) (c1 : Nat) (l1 : List Int) (r : Bool) (w : World) (hG : Aside0 (Tx.GP w)) (hr1 : Kd.C (Kd.int .u8) w A1 l1.length l1) (hc1 : l1.length ≤ c1) (h : slotmeshlaw03_PrinterCanonical.f k a0 l1 = some r) (hr0_ : r = true) :
    Calls Tryd.prog 15 #[.string a0, .slice A1 l1.length c1] w fun e w' => e = .returned (.bool r) ∧ Below w.heap.size w w' := by
  have hr_ := Aside0.mk hr0_
  clear hr0_
  have hu45 := Tryd.underlying45
  have HR1 := Aside0.mk hr1
  have HC1 := Aside0.mk hc1
  clear hr1 hc1
  have HB := Aside0.mk (Below.refl w.heap.size w)
  have H : ((slotmeshlaw03_head.f).bind fun t242 => ((slotmeshref01_Lex.f k a0).bind fun bt243 => ((parser_Parse.f a0).bind fun bt248 => (if bt243.2.1 = 0 then (slotmeshlaw03_PrinterCanonical.j0 k l1 t242 bt243.1 bt248.1 (decide ((bt248.2.length : Int) > 0))) else (slotmeshlaw03_PrinterCanonical.j0 k l1 t242 bt243.1 bt248.1 true))))) = some r := h
  clear h
  replace H := Option.bind_eq_some_iff.mp H
  obtain ⟨t242, A30, H⟩ := H
  replace H : ((slotmeshref01_Lex.f k a0).bind fun bt243 => ((parser_Parse.f a0).bind fun bt248 => (if bt243.2.1 = 0 then (slotmeshlaw03_PrinterCanonical.j0 k l1 t242 bt243.1 bt248.1 (decide ((bt248.2.length : Int) > 0))) else (slotmeshlaw03_PrinterCanonical.j0 k l1 t242 bt243.1 bt248.1 true)))) = some r := H
  have A3 := Aside0.mk A30
  clear A30
  replace H := Option.bind_eq_some_iff.mp H
  obtain ⟨⟨t243, t244, t245⟩, A40, H⟩ := H
  replace H : ((parser_Parse.f a0).bind fun bt248 => (if t244 = 0 then (slotmeshlaw03_PrinterCanonical.j0 k l1 t242 t243 bt248.1 (decide ((bt248.2.length : Int) > 0))) else (slotmeshlaw03_PrinterCanonical.j0 k l1 t242 t243 bt248.1 true))) = some r := H
  have A4 := Aside0.mk A40
  clear A40
  replace H := Option.bind_eq_some_iff.mp H
  obtain ⟨⟨t248, t249⟩, A50, H⟩ := H
  replace H : (if t244 = 0 then (slotmeshlaw03_PrinterCanonical.j0 k l1 t242 t243 t248 (decide ((t249.length : Int) > 0))) else (slotmeshlaw03_PrinterCanonical.j0 k l1 t242 t243 t248 true)) = some r := H
  have A5 := Aside0.mk A50
  clear A50
  have HC6 := Aside0.mk H
  clear H
  go_enter Tryd.func15, Tryd.ntmps15
  go_upto_region 4 with (first | ((with_reducible refine gate_callee (f := 29) rfl ?_); refine goesL_ (some 26) rfl rfl Tryd.func29 (by kernel_rfl) rfl #[] rfl (by (try simp only [List.map_toArray, List.map_nil]); first | done | rfl | (simp only [List.length_drop, List.length_take]; rfl) | (simp (disch := omega) only [IntWalk.wrap64_in]; done)) ?_; (with_reducible refine (slotmeshlaw03_head.calls  t242 _ ?side1 A3.out).mono ?_); (case side1 => exact Tx.GP.aside hG (by repeat (first | (with_reducible first | exact HB.out | apply below_alloc | apply pw_below_drewN | apply below_drew1) | exact HB.out))); rintro e w7 ⟨rfl, hb⟩; refine ⟨_, rfl, ?_⟩; have n0_ := Aside0.mk (below_step (by repeat (first | (with_reducible first | exact HB.out | apply below_alloc | apply pw_below_drewN | apply below_drew1) | exact HB.out)) hb); clear HB; have HB := n0_; clear n0_; (try clear hb); (try clear hb2); (try clear hk); (try clear hi)) | ((with_reducible refine gate_callee (f := 31) rfl ?_); refine goesL_ (some 29) rfl rfl Tryd.func31 (by kernel_rfl) rfl #[.string a0] rfl (by (try simp only [List.map_toArray, List.map_cons, List.map_nil]); first | done | rfl | (simp only [List.length_drop, List.length_take]; rfl) | (simp (disch := omega) only [IntWalk.wrap64_in]; done)) ?_; (with_reducible refine (slotmeshref01_Lex.calls k a0 t243 t244 t245 _ A4.out).mono ?_); rintro e w8 ⟨v246, rfl, ho0, hb⟩; refine ⟨_, rfl, ?_⟩; have n0_ := Aside0.mk (Kd.R_lower ho0 (below_size (by repeat (first | (with_reducible first | exact HB.out | apply below_alloc | apply pw_below_drewN | apply below_drew1) | exact HB.out)))); have n1_ := Aside0.mk (below_step (by repeat (first | (with_reducible first | exact HB.out | apply below_alloc | apply pw_below_drewN | apply below_drew1) | exact HB.out)) hb); clear HB; have HO247 := n0_; have HB := n1_; clear n0_ n1_; (try clear hb); (try clear hb2); (try clear hk); (try clear hi); (try clear ho0)) | ((with_reducible refine gate_callee (f := 20) rfl ?_); refine goesL_ (some 35) rfl rfl Tryd.func20 (by kernel_rfl) rfl #[.string a0] rfl (by (try simp only [List.map_toArray, List.map_cons, List.map_nil]); first | done | rfl | (simp only [List.length_drop, List.length_take]; rfl) | (simp (disch := omega) only [IntWalk.wrap64_in]; done)) ?_; (with_reducible refine (parser_Parse.calls a0 t248 t249 _ ?side1 A5.out).mono ?_); (case side1 => exact Tx.GP.aside hG (by repeat (first | (with_reducible first | exact HB.out | apply below_alloc | apply pw_below_drewN | apply below_drew1) | exact HB.out))); rintro e w9 ⟨v250, v252, rfl, ho0, ho1, hb⟩; refine ⟨_, rfl, ?_⟩; have n0_ := Aside0.mk (Kd.R_below (by (with_reducible repeat (first | apply Kd.R_alloc | apply Kd.R_drewN | apply Kd.R_drew)); exact HO247.out) hb); have n1_ := Aside0.mk (Kd.N_lower (Kd.N_mono (ok' := fun k_ => some k_ ≠ (v252 : Value).ownBlock ∧ some k_ ≠ (v246 : Value).ownBlock) (Kd.R_N (Kd.R_bound (Kd.R_apart' ho0 (Kd.R_typed ho1) (by decide)))) (fun k_ hk_ => ⟨hk_.1.2, (Kd.fresh' (Kd.R_lt (by (with_reducible repeat (first | apply Kd.R_alloc | apply Kd.R_drewN | apply Kd.R_drew)); exact HO247.out)) k_ hk_.2.1)⟩)) (below_size (by repeat (first | (with_reducible first | exact HB.out | apply below_alloc | apply pw_below_drewN | apply below_drew1) | exact HB.out)))); have n2_ := Aside0.mk (Kd.R_lower ho1 (below_size (by repeat (first | (with_reducible first | exact HB.out | apply below_alloc | apply pw_below_drewN | apply below_drew1) | exact HB.out)))); have n3_ := Aside0.mk (below_step (by repeat (first | (with_reducible first | exact HB.out | apply below_alloc | apply pw_below_drewN | apply below_drew1) | exact HB.out)) hb); clear HO247; clear HB; have HO247 := n0_; have HO251 := n1_; have HO253 := n2_; have HB := n3_; clear n0_ n1_ n2_ n3_; (try clear hb); (try clear hb2); (try clear hk); (try clear hi); (try clear ho0); (try clear ho1)))
  (try simp only [Act.put, List.setIfInBounds_toArray, List.set_cons_zero, List.set_cons_succ])
  go_cut [44] (fun v44 wc => ∃ (kq : Nat) (x44_5 : Bool), v44 = .bool x44_5 ∧ Aside0 (slotmeshlaw03_PrinterCanonical.j0 kq l1 t242 t243 t248 x44_5 = some r) ∧ Aside0 (kq ≤ k) ∧ Aside0 (Kd.R k45 45 wc w.heap.size (fun _ => True) v246 t243) ∧ Aside0 (Kd.N k40 40 wc w.heap.size (fun k_ => some k_ ≠ (v246 : Value).ownBlock) v250 t248) ∧ Aside0 (Below w.heap.size w wc))
  case first =>
    have H := HC6.out
    clear HC6
    by_cases c10 : t244 = 0
    · rw [if_pos c10] at H
      have c10b0 : (t244 == 0) = true := beq_iff_eq.mpr c10
      have c10b1 : (t244 != 0) = false := bne_eq_false_iff_eq.mpr c10
      clear c10
      (first | rw [c10b0] | (simp only [i64_w, i32_w]; rw [c10b0]) | skip)
      have H' := Aside0.mk H
      clear H
      obtain ⟨Ao11, co11, eo11⟩ := Kd.R_slice HO253.out
      subst eo11
      go_wp2
      go_meet
      case rel => exact ⟨_, (decide ((t249.length : Int) > 0)), (by first | rfl | (simp; done) | (simp [*]; done)), H', ⟨by first | omega | exact Nat.le_refl _⟩, ⟨by (with_reducible repeat (first | apply Kd.R_alloc | apply Kd.R_drewN | apply Kd.R_drew)); exact HO247.out⟩, ⟨by (with_reducible repeat (first | apply Kd.N_alloc | apply Kd.N_drewN | apply Kd.N_drew)); exact Kd.N_mono HO251.out (fun _ hk => hk.2)⟩, ⟨by repeat (first | (with_reducible first | exact HB.out | apply below_alloc | apply pw_below_drewN | apply below_drew1) | exact HB.out)⟩⟩
    · rw [if_neg c10] at H
      have c10b0 : (t244 == 0) = false := beq_eq_false_iff_ne.mpr c10
      have c10b1 : (t244 != 0) = true := bne_iff_ne.mpr c10
      (first | rw [c10b0] | (simp only [i64_w, i32_w]; rw [c10b0]) | skip)
      have H' := Aside0.mk H
      clear H
      go_wp2
      go_meet
      case rel => exact ⟨_, (true), (by first | rfl | (simp; done) | (simp [*]; done)), H', ⟨by first | omega | exact Nat.le_refl _⟩, ⟨by (with_reducible repeat (first | apply Kd.R_alloc | apply Kd.R_drewN | apply Kd.R_drew)); exact HO247.out⟩, ⟨by (with_reducible repeat (first | apply Kd.N_alloc | apply Kd.N_drewN | apply Kd.N_drew)); exact Kd.N_mono HO251.out (fun _ hk => hk.2)⟩, ⟨by repeat (first | (with_reducible first | exact HB.out | apply below_alloc | apply pw_below_drewN | apply below_drew1) | exact HB.out)⟩⟩
  case rest =>
    clear HC6
    try clear c1
    try clear c2
    try clear p2
    try clear c3
    try clear c10
    try clear c10b0
    try clear c10b1
    obtain ⟨kq, x44_5, rfl, HA, HJ5, HO_6, HO_9, HB⟩ := hcut
    cases kq with
    | zero => exact absurd HA.out (by simp [slotmeshlaw03_PrinterCanonical.j0])
    | succ kj5 =>
      have H := HA.out
      clear HA
      simp only [slotmeshlaw03_PrinterCanonical.j0] at H
      by_cases c12 : x44_5 = true
      · subst c12
        have H1 : (some t242) = some r := by rw [if_pos rfl] at H; exact H
        clear H
        have H := H1
        clear H1
        clear hr_
        obtain rfl := Option.some.inj H
        go_wp2
        go_ret
        exact ⟨by first | rfl | (simp [errW_none, errW_some] <;> rfl) | (simp [*, errW_none, errW_some] <;> rfl), by repeat (first | (with_reducible first | exact HB.out | apply below_alloc | apply pw_below_drewN | apply below_drew1) | exact HB.out)⟩
      · replace c12 := Bool.eq_false_iff.mpr c12
        subst c12
        have H1 : (slotmeshlaw03_PrinterCanonical.l0 kj5 l1 t242 t248 (([(⟨#[32]⟩ : ByteArray), (⟨#[10]⟩ : ByteArray), (⟨#[9]⟩ : ByteArray), (⟨#[32, 35, 32, 120, 32, 59, 10]⟩ : ByteArray)] : List ByteArray)) (⟨#[]⟩ : ByteArray) t243 (t243.length : Int) 0) = some r := by rw [if_neg (show ¬ (false = true) by decide)] at H; exact H
        clear H
        have H := H1
        clear H1
        obtain ⟨y254, hy254⟩ : ∃ y_ : List ByteArray, y_ = (([(⟨#[32]⟩ : ByteArray), (⟨#[10]⟩ : ByteArray), (⟨#[9]⟩ : ByteArray), (⟨#[32, 35, 32, 120, 32, 59, 10]⟩ : ByteArray)] : List ByteArray)) := ⟨_, rfl⟩
        replace H : (slotmeshlaw03_PrinterCanonical.l0 kj5 l1 t242 t248 y254 (⟨#[]⟩ : ByteArray) t243 (t243.length : Int) 0) = some r := by first | (rw [hy254]; with_reducible exact H) | (have H2_ := (Option.bind_some _ _).symm.trans H; rw [hy254]; with_reducible exact H2_) | (have H2_ := (Option.bind_some _ _).symm.trans H; with_reducible exact H2_) | with_reducible exact H | (rw [hy254]; exact H) | exact H
        have Ny254 := Aside0.mk hy254
        clear hy254
        have H' := Aside0.mk H
        clear H
        go_wp2_with (first | ((with_reducible refine gate_dst (N := 46) rfl ?_); (try (refine gate_guard (by rfl) ?_; dsimp only)); refine Kd.R_lit Kd.string _ 9 ?hg (N := 46) ?hd (xs := ([(⟨#[32]⟩ : ByteArray), (⟨#[10]⟩ : ByteArray), (⟨#[9]⟩ : ByteArray), (⟨#[32, 35, 32, 120, 32, 59, 10]⟩ : ByteArray)] : List ByteArray)) (inner := [.string (⟨#[32]⟩ : ByteArray), .string (⟨#[10]⟩ : ByteArray), .string (⟨#[9]⟩ : ByteArray), .string (⟨#[32, 35, 32, 120, 32, 59, 10]⟩ : ByteArray)]) (ok := fun _ => True) (okp := fun _ => True) ?hr ?hp (fun _ hk => hk) trivial (Below.refl _ _) (Nat.le_refl _) (by simp) ?_; (case hd => rfl); (case hg => rfl); (case hr => first | (go_simp; done) | (go_simp; rfl)); (case hp => exact (Reps.one (show Kd.M Kd.string _ _ _ (⟨#[32]⟩ : ByteArray) [.string (⟨#[32]⟩ : ByteArray)] from rfl) (Reps.one (show Kd.M Kd.string _ _ _ (⟨#[10]⟩ : ByteArray) [.string (⟨#[10]⟩ : ByteArray)] from rfl) (Reps.one (show Kd.M Kd.string _ _ _ (⟨#[9]⟩ : ByteArray) [.string (⟨#[9]⟩ : ByteArray)] from rfl) (Reps.one (show Kd.M Kd.string _ _ _ (⟨#[32, 35, 32, 120, 32, 59, 10]⟩ : ByteArray) [.string (⟨#[32, 35, 32, 120, 32, 59, 10]⟩ : ByteArray)] from rfl) (Reps.none _ _)))))); intro v255 w13 ho14 hb hg_ hnew_; clear hg_ hnew_; (first | rw [← Ny254.out] at ho14 | (simp only [Int.reduceToNat] at ho14; rw [← Ny254.out] at ho14)); have n0_ := Aside0.mk (Kd.R_below (by (with_reducible repeat (first | apply Kd.R_alloc | apply Kd.R_drewN | apply Kd.R_drew)); exact HO_6.out) hb); have n1_ := Aside0.mk (Kd.N_elder' (by (with_reducible repeat (first | apply Kd.N_alloc | apply Kd.N_drewN | apply Kd.N_drew)); exact HO_9.out) (Kd.R_base ho14) hb); have n2_ := Aside0.mk (Kd.R_lower ho14 (below_size (by repeat (first | (with_reducible first | exact HB.out | apply below_alloc | apply pw_below_drewN | apply below_drew1) | exact HB.out)))); have n3_ := Aside0.mk (below_step (by repeat (first | (with_reducible first | exact HB.out | apply below_alloc | apply pw_below_drewN | apply below_drew1) | exact HB.out)) hb); clear HO_6; clear HO_9; clear HB; have HO_6 := n0_; have HO_9 := n1_; have HO256 := n2_; have HB := n3_; clear n0_ n1_ n2_ n3_; clear hb ho14; obtain ⟨Ao15, co15, eo15⟩ := Kd.R_slice HO_6.out; subst eo15))
        go_loopg [12, 49] kj5 (fun kq v12 v49 w' => ∃ (x12_2 : ByteArray) (x49_2 : Int), v12 = .string x12_2 ∧ v49 = .int .i64 x49_2 ∧ Aside0 (slotmeshlaw03_PrinterCanonical.l0 kq l1 t242 t248 y254 x12_2 t243 (t243.length : Int) x49_2 = some r) ∧ Aside0 (kq ≤ kj5) ∧ Aside0 (Kd.N k40 40 w' w.heap.size (fun k_ => some k_ ≠ (v255 : Value).ownBlock ∧ some k_ ≠ ((.slice Ao15 t243.length co15) : Value).ownBlock) v250 t248) ∧ Aside0 (Kd.R Kd.string 9 w' w.heap.size (fun _ => True) v255 y254) ∧ Aside0 (Kd.R k45 45 w' w.heap.size (fun _ => True) (.slice Ao15 t243.length co15) t243) ∧ Aside0 (Below w.heap.size w w'))
        case atStart => exact ⟨((⟨#[]⟩ : ByteArray)), (0), (by first | rfl | (simp; done) | (simp [*]; done)), (by first | rfl | (simp; done) | (simp [*]; done)), H', ⟨Nat.le_refl _⟩, ⟨by (with_reducible repeat (first | apply Kd.N_alloc | apply Kd.N_drewN | apply Kd.N_drew)); exact Kd.N_mono HO_9.out (fun _ hk => ⟨hk.2, hk.1⟩)⟩, ⟨by (with_reducible repeat (first | apply Kd.R_alloc | apply Kd.R_drewN | apply Kd.R_drew)); exact HO256.out⟩, ⟨by (with_reducible repeat (first | apply Kd.R_alloc | apply Kd.R_drewN | apply Kd.R_drew)); exact HO_6.out⟩, ⟨by repeat (first | (with_reducible first | exact HB.out | apply below_alloc | apply pw_below_drewN | apply below_drew1) | exact HB.out)⟩⟩
        case round =>
          clear H'
          try clear c1
          try clear c2
          try clear p2
          try clear c3
          try clear c10
          try clear c10b0
          try clear c10b1
          try clear c12
          try clear c15
          try clear p2
          obtain ⟨x12_2, x49_2, rfl, rfl, HA, HK2, HO_9, HO_11, HO_47, HB⟩ := hrel
          cases gk with
          | zero => exact absurd HA.out (by simp [slotmeshlaw03_PrinterCanonical.l0])
          | succ k2 =>
            have H := HA.out
            clear HA
            simp only [slotmeshlaw03_PrinterCanonical.l0] at H
            by_cases c16 : x49_2 < (t243.length : Int)
            · rw [if_pos c16] at H
              have c16b0 : decide (x49_2 < (t243.length : Int)) = true := decide_eq_true c16
              clear c16
              by_cases c17 : 0 ≤ x49_2
              · rw [if_pos c17] at H
                have c17b0 : decide (0 ≤ x49_2) = true := decide_eq_true c17
                clear c17
                by_cases c18 : x49_2 < (t243.length : Int)
                · rw [if_pos c18] at H
                  have c18b0 : decide (x49_2 < (t243.length : Int)) = true := decide_eq_true c18
                  clear c18
                  by_cases c19 : x49_2 < (l1.length : Int)
                  · rw [if_pos c19] at H
                    have c19b0 : decide (x49_2 < (l1.length : Int)) = true := decide_eq_true c19
                    clear c19
                    by_cases c20 : (y254.length : Int) = 0
                    · rw [if_pos c20] at H
                      exact absurd H (by simp)
                    · rw [if_neg c20] at H
                      have c20b0 : ((y254.length : Int) == 0) = false := beq_eq_false_iff_ne.mpr c20
                      have c20b1 : ((y254.length : Int) != 0) = true := bne_iff_ne.mpr c20
                      have c20b2 : ¬ (y254 = []) := fun h_ => c20 (by rw [h_]; rfl)
                      replace H := Option.bind_eq_some_iff.mp H
                      obtain ⟨t260, A210, H⟩ := H
                      replace H : (if 0 ≤ (Int.tmod (wrap64 (rd l1 x49_2)) (y254.length : Int)) then (if (Int.tmod (wrap64 (rd l1 x49_2)) (y254.length : Int)) < (y254.length : Int) then (if t260.size + (rdOf ByteArray.empty y254 (Int.tmod (wrap64 (rd l1 x49_2)) (y254.length : Int))).size ≤ 9223372036854775807 then (if x12_2.size + (t260 ++ (rdOf ByteArray.empty y254 (Int.tmod (wrap64 (rd l1 x49_2)) (y254.length : Int)))).size ≤ 9223372036854775807 then (slotmeshlaw03_PrinterCanonical.l0 k2 l1 t242 t248 y254 (x12_2 ++ (t260 ++ (rdOf ByteArray.empty y254 (Int.tmod (wrap64 (rd l1 x49_2)) (y254.length : Int))))) t243 (t243.length : Int) (wrap64 (x49_2 + 1))) else (none)) else (none)) else (none)) else (none)) = some r := H
                      have A21 := Aside0.mk A210
                      clear A210
                      obtain ⟨ji22, hji22⟩ : ∃ j_ : Int, (Int.tmod (wrap64 (rd l1 x49_2)) (y254.length : Int)) = j_ := ⟨_, rfl⟩
                      replace H : (if 0 ≤ (ji22) then (if (ji22) < (y254.length : Int) then (if t260.size + (rdOf ByteArray.empty y254 (ji22)).size ≤ 9223372036854775807 then (if x12_2.size + (t260 ++ (rdOf ByteArray.empty y254 (ji22))).size ≤ 9223372036854775807 then (slotmeshlaw03_PrinterCanonical.l0 k2 l1 t242 t248 y254 (x12_2 ++ (t260 ++ (rdOf ByteArray.empty y254 (ji22)))) t243 (t243.length : Int) (wrap64 (x49_2 + 1))) else (none)) else (none)) else (none)) else (none)) = some r := by first | (rw [hji22] at H; exact H) | (simp only [hji22] at H ⊢; exact H)
                      (try rw [hji22] at A21)
                      by_cases c23 : 0 ≤ (ji22)
                      · rw [if_pos c23] at H
                        have c23b0 : decide (0 ≤ (ji22)) = true := decide_eq_true c23
                        clear c23
                        by_cases c24 : (ji22) < (y254.length : Int)
                        · rw [if_pos c24] at H
                          have c24b0 : decide ((ji22) < (y254.length : Int)) = true := decide_eq_true c24
                          clear c24
                          by_cases c25 : t260.size + (rdOf ByteArray.empty y254 (ji22)).size ≤ 9223372036854775807
                          · rw [if_pos c25] at H
                            have c25b0 := eq_true c25
                            have c25b1 : decide (t260.size + (rdOf ByteArray.empty y254 (ji22)).size ≤ 9223372036854775807) = true := decide_eq_true c25
                            try have c25b2 : (9223372036854775807 < t260.size + (rdOf ByteArray.empty y254 (ji22)).size) = False := eq_false (Nat.not_lt.2 c25)
                            by_cases c26 : x12_2.size + (t260 ++ (rdOf ByteArray.empty y254 (ji22))).size ≤ 9223372036854775807
                            · rw [if_pos c26] at H
                              have c26b0 := eq_true c26
                              have c26b1 : decide (x12_2.size + (t260 ++ (rdOf ByteArray.empty y254 (ji22))).size ≤ 9223372036854775807) = true := decide_eq_true c26
                              try have c26b2 : (9223372036854775807 < x12_2.size + (t260 ++ (rdOf ByteArray.empty y254 (ji22))).size) = False := eq_false (Nat.not_lt.2 c26)
                              try have c26b9 : (9223372036854775807 < x12_2.size + (t260.size + (rdOf ByteArray.empty y254 (ji22)).size)) = False := eq_false (Nat.not_lt.2 (by have h_ := c26; rw [ByteArray.size_append] at h_; exact h_))
                              have H' := Aside0.mk H
                              clear H
                              have p257 : 0 ≤ (x49_2 : Int) := of_decide_eq_true (by first | (with_reducible assumption) | assumption)
                              have q257 : x49_2 < (t243.length : Int) := of_decide_eq_true (by first | (with_reducible assumption) | assumption)
                              obtain ⟨ad257, e257, hx257_0, hx257_1, hx257_2, hx257_3⟩ := at_T45 (Kd.R_reads' HO_47.out).2.2 x49_2 p257 q257
                              cases e257
                              replace p257 := eq_true p257
                              replace q257 := eq_true q257
                              try go_wp2_with (first | ((with_reducible refine gate_dst (N := 14) rfl ?_); (try (refine gate_guard (by rfl) ?_; dsimp only)); refine box_event ?hg (N := 14) ?hd (cs := #[.int .i64 0, .string (⟨#[]⟩ : ByteArray), .int .i64 0, .int .i64 0]) (t := 45) ?hr ?_; (case hd => rfl); (case hg => rfl); (case hr => first | (go_simp; done) | (go_simp; rfl)); intro gb258 hg w27 hbox hb; have n0_ := Aside0.mk (Kd.N_below (Kd.N_elderB (by (with_reducible repeat (first | apply Kd.N_alloc | apply Kd.N_drewN | apply Kd.N_drew)); exact HO_9.out) gb258 (Nat.le_of_eq hg.symm)) hb); have n1_ := Aside0.mk (Kd.R_below (by (with_reducible repeat (first | apply Kd.R_alloc | apply Kd.R_drewN | apply Kd.R_drew)); exact HO_11.out) hb); have n2_ := Aside0.mk (Kd.R_below (Kd.R_elderB (by (with_reducible repeat (first | apply Kd.R_alloc | apply Kd.R_drewN | apply Kd.R_drew)); exact HO_47.out) gb258 (Nat.le_of_eq hg.symm)) hb); have n3_ := Aside0.mk (below_step (by repeat (first | (with_reducible first | exact HB.out | apply below_alloc | apply pw_below_drewN | apply below_drew1) | exact HB.out)) hb); have n4_ := Aside0.mk (hbox); have n5_ := Aside0.mk ((by rw [hg]; exact (below_size (by repeat (first | (with_reducible first | exact HB.out | apply below_alloc | apply pw_below_drewN | apply below_drew1) | exact HB.out))) : w.heap.size ≤ gb258)); have n6_ := Aside0.mk ((by rw [hg]; exact (below_size (by repeat (first | (with_reducible first | exact HB.out | apply below_alloc | apply pw_below_drewN | apply below_drew1) | exact HB.out))) : w.heap.size ≤ gb258)); clear HO_9; clear HO_11; clear HO_47; clear HB; have HO_9 := n0_; have HO_11 := n1_; have HO_47 := n2_; have HB := n3_; have BK258 := n4_; have GW258 := n5_; have GE258 := n6_; clear n0_ n1_ n2_ n3_ n4_ n5_ n6_; clear hb hbox hg; have hcz28_0 : w27.cell? ⟨gb258, 0, none⟩ = some (.int .i64 0) := (blk_cell BK258.out 0).trans rfl; have hcz28_1 : w27.cell? ⟨gb258, 1, none⟩ = some (.string (⟨#[]⟩ : ByteArray)) := (blk_cell BK258.out 1).trans rfl; have hcz28_2 : w27.cell? ⟨gb258, 2, none⟩ = some (.int .i64 0) := (blk_cell BK258.out 2).trans rfl; have hcz28_3 : w27.cell? ⟨gb258, 3, none⟩ = some (.int .i64 0) := (blk_cell BK258.out 3).trans rfl; have hfz28_0 := blk_frozen BK258.out 0; have hfz28_1 := blk_frozen BK258.out 1; have hfz28_2 := blk_frozen BK258.out 2; have hfz28_3 := blk_frozen BK258.out 3; have hZZgb258 : ∀ a b c d x : Value, (((((w27.setCell ⟨gb258, 0, none⟩ a).setCell ⟨gb258, 1, none⟩ b).setCell ⟨gb258, 2, none⟩ c).setCell ⟨gb258, 3, none⟩ d).setCell ⟨gb258, 3, none⟩ x).cell? ⟨gb258, 3, none⟩ = some x := fun a b c d x => (blk_cell (blk_set (blk_set (blk_set (blk_set (blk_set BK258.out 0 a) 1 b) 2 c) 3 d) 3 x) 3).trans rfl; have p259 : 0 ≤ (x49_2 : Int) := of_decide_eq_true (by first | (with_reducible assumption) | assumption); have q259 : x49_2 < (l1.length : Int) := of_decide_eq_true (by first | (with_reducible assumption) | assumption); obtain ⟨ad259, e259, hx259_0⟩ := Kd.at_int HR1.out x49_2 p259 q259; cases e259; have hn259_0 : ad259.block ≠ gb258 := Nat.ne_of_lt (Nat.lt_of_lt_of_le (by have := World.block_lt_of_cell? _ _ hx259_0; first | rwa [add_block] at this | exact this) GW258.out); have hn259_1 : ad259.block ≠ gb258 := Nat.ne_of_lt (Nat.lt_of_lt_of_le (by have := World.block_lt_of_cell? _ _ hx259_0; first | rwa [add_block] at this | exact this) GW258.out); have hn259_2 : ad259.block ≠ gb258 := Nat.ne_of_lt (Nat.lt_of_lt_of_le (by have := World.block_lt_of_cell? _ _ hx259_0; first | rwa [add_block] at this | exact this) GW258.out); have hn259_3 : ad259.block ≠ gb258 := Nat.ne_of_lt (Nat.lt_of_lt_of_le (by have := World.block_lt_of_cell? _ _ hx259_0; first | rwa [add_block] at this | exact this) GW258.out); replace hx259_0 := (HB.out.cell (World.block_lt_of_cell? w _ hx259_0)).trans hx259_0; replace hx259_0 := (cell_far (p := ⟨gb258, 0, none⟩) (by first | (rw [add_block]; exact hn259_0) | (show (Addr.add _ _).block ≠ _; rw [add_block]; exact hn259_0) | exact hn259_0) (.int .i64 ((rd_T45 t243 x49_2).f0))).trans hx259_0; replace hx259_0 := (cell_far (p := ⟨gb258, 1, none⟩) (by first | (rw [add_block]; exact hn259_1) | (show (Addr.add _ _).block ≠ _; rw [add_block]; exact hn259_1) | exact hn259_1) (.string ((rd_T45 t243 x49_2).f1))).trans hx259_0; replace hx259_0 := (cell_far (p := ⟨gb258, 2, none⟩) (by first | (rw [add_block]; exact hn259_2) | (show (Addr.add _ _).block ≠ _; rw [add_block]; exact hn259_2) | exact hn259_2) (.int .i64 ((rd_T45 t243 x49_2).f2))).trans hx259_0; replace hx259_0 := (cell_far (p := ⟨gb258, 3, none⟩) (by first | (rw [add_block]; exact hn259_3) | (show (Addr.add _ _).block ≠ _; rw [add_block]; exact hn259_3) | exact hn259_3) (.int .i64 ((rd_T45 t243 x49_2).f3))).trans hx259_0; clear hn259_0; clear hn259_1; clear hn259_2; clear hn259_3; replace p259 := eq_true p259; replace q259 := eq_true q259; obtain ⟨Ao29, co29, eo29⟩ := Kd.R_slice HO_11.out; subst eo29))
                              have n0_ : Aside0 (Kd.N k40 40 ((((w27.setCell ⟨gb258, 0, none⟩ (.int .i64 ((rd_T45 t243 x49_2).f0))).setCell ⟨gb258, 1, none⟩ (.string ((rd_T45 t243 x49_2).f1))).setCell ⟨gb258, 2, none⟩ (.int .i64 ((rd_T45 t243 x49_2).f2))).setCell ⟨gb258, 3, none⟩ (.int .i64 ((rd_T45 t243 x49_2).f3))) w.heap.size (fun k_ => some k_ ≠ (.slice Ao29 y254.length co29 : Value).ownBlock ∧ some k_ ≠ (.slice (some ad257) t243.length co15 : Value).ownBlock ∧ k_ ≠ gb258) v250 t248) := ⟨by (with_reducible repeat (first | apply Kd.N_alloc | apply Kd.N_drewN | apply Kd.N_drew)); exact Kd.N_mono (Kd.N_far (p := ⟨gb258, 3, none⟩) (Kd.N_far (p := ⟨gb258, 2, none⟩) (Kd.N_far (p := ⟨gb258, 1, none⟩) (Kd.N_far (p := ⟨gb258, 0, none⟩) (Kd.N_mono HO_9.out (fun k_ hk => (⟨hk, hk.2⟩ : _ ∧ k_ ≠ gb258))) (fun _ hk => hk.2) (.int .i64 ((rd_T45 t243 x49_2).f0))) (fun _ hk => hk.2) (.string ((rd_T45 t243 x49_2).f1))) (fun _ hk => hk.2) (.int .i64 ((rd_T45 t243 x49_2).f2))) (fun _ hk => hk.2) (.int .i64 ((rd_T45 t243 x49_2).f3))) (fun _ hk => ⟨hk.1.1.1, ⟨hk.1.1.2, hk.1.2⟩⟩)⟩
                              have n1_ : Aside0 (Kd.R Kd.string 9 ((((w27.setCell ⟨gb258, 0, none⟩ (.int .i64 ((rd_T45 t243 x49_2).f0))).setCell ⟨gb258, 1, none⟩ (.string ((rd_T45 t243 x49_2).f1))).setCell ⟨gb258, 2, none⟩ (.int .i64 ((rd_T45 t243 x49_2).f2))).setCell ⟨gb258, 3, none⟩ (.int .i64 ((rd_T45 t243 x49_2).f3))) w.heap.size (fun _ => True) (.slice Ao29 y254.length co29) y254) := ⟨by (with_reducible repeat (first | apply Kd.R_alloc | apply Kd.R_drewN | apply Kd.R_drew)); exact Kd.R_mono (Kd.R_far (p := ⟨gb258, 3, none⟩) (Kd.R_far (p := ⟨gb258, 2, none⟩) (Kd.R_far (p := ⟨gb258, 1, none⟩) (Kd.R_far (p := ⟨gb258, 0, none⟩) (Kd.R_types HO_11.out BK258.out (by decide)) (fun _ hk => hk.2) (.int .i64 ((rd_T45 t243 x49_2).f0))) (fun _ hk => hk.2) (.string ((rd_T45 t243 x49_2).f1))) (fun _ hk => hk.2) (.int .i64 ((rd_T45 t243 x49_2).f2))) (fun _ hk => hk.2) (.int .i64 ((rd_T45 t243 x49_2).f3))) (fun _ hk => trivial)⟩
                              have n2_ : Aside0 (Kd.R k45 45 ((((w27.setCell ⟨gb258, 0, none⟩ (.int .i64 ((rd_T45 t243 x49_2).f0))).setCell ⟨gb258, 1, none⟩ (.string ((rd_T45 t243 x49_2).f1))).setCell ⟨gb258, 2, none⟩ (.int .i64 ((rd_T45 t243 x49_2).f2))).setCell ⟨gb258, 3, none⟩ (.int .i64 ((rd_T45 t243 x49_2).f3))) w.heap.size (fun k_ => k_ ≠ gb258) (.slice (some ad257) t243.length co15) t243) := ⟨by (with_reducible repeat (first | apply Kd.R_alloc | apply Kd.R_drewN | apply Kd.R_drew)); exact Kd.R_mono (Kd.R_far (p := ⟨gb258, 3, none⟩) (Kd.R_far (p := ⟨gb258, 2, none⟩) (Kd.R_far (p := ⟨gb258, 1, none⟩) (Kd.R_far (p := ⟨gb258, 0, none⟩) (Kd.R_mono HO_47.out (fun k_ hk => (⟨hk, hk.2⟩ : _ ∧ k_ ≠ gb258))) (fun _ hk => hk.2) (.int .i64 ((rd_T45 t243 x49_2).f0))) (fun _ hk => hk.2) (.string ((rd_T45 t243 x49_2).f1))) (fun _ hk => hk.2) (.int .i64 ((rd_T45 t243 x49_2).f2))) (fun _ hk => hk.2) (.int .i64 ((rd_T45 t243 x49_2).f3))) (fun _ hk => hk.1.2)⟩
                              have n3_ : Aside0 (((((w27.setCell ⟨gb258, 0, none⟩ (.int .i64 ((rd_T45 t243 x49_2).f0))).setCell ⟨gb258, 1, none⟩ (.string ((rd_T45 t243 x49_2).f1))).setCell ⟨gb258, 2, none⟩ (.int .i64 ((rd_T45 t243 x49_2).f2))).setCell ⟨gb258, 3, none⟩ (.int .i64 ((rd_T45 t243 x49_2).f3))).heap[gb258]? = some (.cells #[.int .i64 ((rd_T45 t243 x49_2).f0), .string ((rd_T45 t243 x49_2).f1), .int .i64 ((rd_T45 t243 x49_2).f2), .int .i64 ((rd_T45 t243 x49_2).f3)] 45 (0, 0))) := ⟨by (with_reducible repeat (first | refine blk_drewN ?_ _ | refine blk_drew ?_ | refine blk_alloc ?_ _)); refine blk_put (cs := #[.int .i64 ((rd_T45 t243 x49_2).f0), .string ((rd_T45 t243 x49_2).f1), .int .i64 ((rd_T45 t243 x49_2).f2), .int .i64 0]) ?_ 3 _ rfl; (with_reducible repeat (first | refine blk_drewN ?_ _ | refine blk_drew ?_ | refine blk_alloc ?_ _)); refine blk_put (cs := #[.int .i64 ((rd_T45 t243 x49_2).f0), .string ((rd_T45 t243 x49_2).f1), .int .i64 0, .int .i64 0]) ?_ 2 _ rfl; (with_reducible repeat (first | refine blk_drewN ?_ _ | refine blk_drew ?_ | refine blk_alloc ?_ _)); refine blk_put (cs := #[.int .i64 ((rd_T45 t243 x49_2).f0), .string (⟨#[]⟩ : ByteArray), .int .i64 0, .int .i64 0]) ?_ 1 _ rfl; (with_reducible repeat (first | refine blk_drewN ?_ _ | refine blk_drew ?_ | refine blk_alloc ?_ _)); refine blk_put (cs := #[.int .i64 0, .string (⟨#[]⟩ : ByteArray), .int .i64 0, .int .i64 0]) ?_ 0 _ rfl; (with_reducible repeat (first | refine blk_drewN ?_ _ | refine blk_drew ?_ | refine blk_alloc ?_ _)); exact BK258.out⟩
                              have n4_ : Aside0 (Below w.heap.size w ((((w27.setCell ⟨gb258, 0, none⟩ (.int .i64 ((rd_T45 t243 x49_2).f0))).setCell ⟨gb258, 1, none⟩ (.string ((rd_T45 t243 x49_2).f1))).setCell ⟨gb258, 2, none⟩ (.int .i64 ((rd_T45 t243 x49_2).f2))).setCell ⟨gb258, 3, none⟩ (.int .i64 ((rd_T45 t243 x49_2).f3)))) := ⟨by repeat (first | (with_reducible first | exact HB.out | apply below_alloc | apply pw_below_drewN | apply below_drew1 | refine below_set ?_ GE258.out) | exact HB.out)⟩
                              (try clear HO_9)
                              (try clear HO_11)
                              (try clear HO_47)
                              (try clear BK258)
                              (try clear HB)
                              generalize ((((w27.setCell ⟨gb258, 0, none⟩ (.int .i64 ((rd_T45 t243 x49_2).f0))).setCell ⟨gb258, 1, none⟩ (.string ((rd_T45 t243 x49_2).f1))).setCell ⟨gb258, 2, none⟩ (.int .i64 ((rd_T45 t243 x49_2).f2))).setCell ⟨gb258, 3, none⟩ (.int .i64 ((rd_T45 t243 x49_2).f3))) = w30 at n0_ n1_ n2_ n3_ n4_ ⊢
                              have HO_9 := n0_
                              have HO_11 := n1_
                              have HO_47 := n2_
                              have BK258 := n3_
                              have HB := n4_
                              clear n0_ n1_ n2_ n3_ n4_
                              have n0_ := Aside0.mk (Kd.N_drew HO_9.out)
                              have n1_ := Aside0.mk (Kd.R_drew HO_11.out)
                              have n2_ := Aside0.mk (Kd.R_drew HO_47.out)
                              have n3_ := Aside0.mk (blk_drew BK258.out)
                              have n4_ := Aside0.mk (below_drew1 HB.out)
                              clear HO_9
                              clear HO_11
                              clear HO_47
                              clear BK258
                              clear HB
                              have HO_9 := n0_
                              have HO_11 := n1_
                              have HO_47 := n2_
                              have BK258 := n3_
                              have HB := n4_
                              clear n0_ n1_ n2_ n3_ n4_
                              have p261 : 0 ≤ ((ji22) : Int) := of_decide_eq_true (by first | (with_reducible assumption) | assumption)
                              have q261 : (ji22) < (y254.length : Int) := of_decide_eq_true (by first | (with_reducible assumption) | assumption)
                              obtain ⟨ad261, e261, hx261_0⟩ := Kd.at_string (Kd.R_reads' HO_11.out).2.2 (ji22) p261 q261
                              cases e261
                              replace p261 := eq_true p261
                              replace q261 := eq_true q261
                              refine start_ (n := 10) (S := fun w' => w'.cell? ⟨gb258, 0, none⟩ = some (.int .i64 ((rd_T45 t243 x49_2).f0)) ∧ w'.cell? ⟨gb258, 1, none⟩ = some (.string ((rd_T45 t243 x49_2).f1)) ∧ w'.cell? ⟨gb258, 2, none⟩ = some (.int .i64 ((rd_T45 t243 x49_2).f2)) ∧ w'.cell? ⟨gb258, 3, none⟩ = some (.int .i64 ((rd_T45 t243 x49_2).f3)) ∧ w'.cell? (ad261.add ((ji22)).toNat) = some (.string (rdOf ByteArray.empty y254 (ji22)))) (ds := []) #[false, false, false, false, false, false, false, false, false, false] (by kernel_rfl) rfl rfl ⟨(blk_cell BK258.out 0).trans rfl, (blk_cell BK258.out 1).trans rfl, (blk_cell BK258.out 2).trans rfl, (blk_cell BK258.out 3).trans rfl, hx261_0⟩ (fun hHeld => ?_); refine with_tabW slotmeshlaw03_PrinterCanonical.tab14 slotmeshlaw03_PrinterCanonical.bits14 (fun HT_ HW_ => ?_)
                              generalize w30.drew = w31 at HO_9 HO_11 HO_47 BK258 HB hx261_0 hHeld ⊢
                              refine pure_ (i := 0) (N := some 66) (v := ?_) (a' := ?_) #[true, false, false, false, false, false, false, false, false, false] rfl rfl (any_of HT_.out (by kernel_rfl)) (fun _ _ _ h => h) (Or.inl ⟨by rfl, ?_⟩) ?_ ?_
                              rotate_left
                              · intro w'
                                go_simp
                                with_reducible rfl
                              rotate_left
                              · simp only [Act.put, List.setIfInBounds_toArray, List.set_cons_zero, List.set_cons_succ]
                                rfl
                              refine pure_ (i := 3) (N := some 69) (v := ?_) (a' := ?_) #[true, false, false, true, false, false, false, false, false, false] rfl rfl (any_of HT_.out (by kernel_rfl)) (fun _ _ _ h => h) (Or.inl ⟨by rfl, ?_⟩) ?_ ?_
                              rotate_left
                              · intro w'
                                go_simp
                                with_reducible rfl
                              rotate_left
                              · simp only [Act.put, List.setIfInBounds_toArray, List.set_cons_zero, List.set_cons_succ]
                                rfl
                              refine pure_ (i := 4) (N := some 70) (v := ?_) (a' := ?_) #[true, false, false, true, true, false, false, false, false, false] rfl rfl (any_of HT_.out (by kernel_rfl)) (fun _ _ _ h => h) (Or.inl ⟨by rfl, ?_⟩) ?_ ?_
                              rotate_left
                              · intro w'
                                go_simp
                                with_reducible rfl
                              rotate_left
                              · simp only [Act.put, List.setIfInBounds_toArray, List.set_cons_zero, List.set_cons_succ]
                                rfl
                              refine pure_ (i := 5) (N := some 71) (v := ?_) (a' := ?_) #[true, false, false, true, true, true, false, false, false, false] rfl rfl (any_of HT_.out (by kernel_rfl)) (fun _ _ _ h => h) (Or.inl ⟨by rfl, ?_⟩) ?_ ?_
                              rotate_left
                              · intro w'
                                go_simp
                                with_reducible rfl
                              rotate_left
                              · simp only [Act.put, List.setIfInBounds_toArray, List.set_cons_zero, List.set_cons_succ]
                                rfl
                              refine take_ (i := 1) (N := some 67) (v := ?_) (a' := ?_) #[true, true, false, true, true, true, false, false, false, false] rfl rfl (take_ofW HT_.out HW_.out (by kernel_rfl)) (fun _ _ _ h => h) (Or.inl ⟨by rfl, ?_⟩) hHeld ?_ ?_
                              rotate_left
                              · rintro w' ⟨s0, s1, s2, s3, s4⟩
                                go_simp
                                with_reducible rfl
                              rotate_left
                              · simp only [Act.put, List.setIfInBounds_toArray, List.set_cons_zero, List.set_cons_succ]
                                rfl
                              refine take_ (i := 6) (N := some 72) (v := ?_) (a' := ?_) #[true, true, false, true, true, true, true, false, false, false] rfl rfl (take_ofW HT_.out HW_.out (by kernel_rfl)) (fun _ _ _ h => h) (Or.inl ⟨by rfl, ?_⟩) hHeld ?_ ?_
                              rotate_left
                              · rintro w' ⟨s0, s1, s2, s3, s4⟩
                                go_simp
                                with_reducible rfl
                              rotate_left
                              · simp only [Act.put, List.setIfInBounds_toArray, List.set_cons_zero, List.set_cons_succ]
                                rfl
                              refine one_ (i := 2) (N := some 68) #[true, true, true, true, true, true, true, false, false, false] rfl rfl (one_of HT_.out (by kernel_rfl)) (by decide) (fun K hK => ?_)
                              refine goes_ Tryd.func42 (by kernel_rfl) rfl #[.agg #[.int .i64 ((rd_T45 t243 x49_2).f0), .string ((rd_T45 t243 x49_2).f1), .int .i64 ((rd_T45 t243 x49_2).f2), .int .i64 ((rd_T45 t243 x49_2).f3)]] (by rfl) rfl rfl (by (try simp only [List.map_toArray, List.map_cons, List.map_nil]); first | done | rfl | (simp only [List.length_drop, List.length_take]; rfl) | (simp (disch := omega) only [IntWalk.wrap64_in]; done)) ?_
                              with_reducible refine (slotmeshref01_Text.calls k2 ((rd_T45 t243 x49_2).f0) ((rd_T45 t243 x49_2).f1) ((rd_T45 t243 x49_2).f2) ((rd_T45 t243 x49_2).f3) t260 _ A21.out).mono ?_
                              rintro e w32 ⟨rfl, hb⟩
                              have HS4_ := (hb.cell (World.block_lt_of_cell? _ _ (hHeld.2.2.2.2))).trans (hHeld.2.2.2.2)
                              refine ⟨_, rfl, ?_⟩
                              have n0_ := Aside0.mk (Kd.N_below (by (with_reducible repeat (first | apply Kd.N_alloc | apply Kd.N_drewN | apply Kd.N_drew)); exact HO_9.out) hb)
                              have n1_ := Aside0.mk (Kd.R_below (by (with_reducible repeat (first | apply Kd.R_alloc | apply Kd.R_drewN | apply Kd.R_drew)); exact HO_11.out) hb)
                              have n2_ := Aside0.mk (Kd.R_below (by (with_reducible repeat (first | apply Kd.R_alloc | apply Kd.R_drewN | apply Kd.R_drew)); exact HO_47.out) hb)
                              have n3_ := Aside0.mk (blk_below (g := gb258) (o := .cells #[.int .i64 ((rd_T45 t243 x49_2).f0), .string ((rd_T45 t243 x49_2).f1), .int .i64 ((rd_T45 t243 x49_2).f2), .int .i64 ((rd_T45 t243 x49_2).f3)] 45 (0, 0)) (by (with_reducible repeat (first | refine blk_drewN ?_ _ | refine blk_drew ?_ | refine blk_alloc ?_ _)); exact BK258.out) hb)
                              have n4_ := Aside0.mk (below_step (by repeat (first | (with_reducible first | exact HB.out | apply below_alloc | apply pw_below_drewN | apply below_drew1 | refine below_set ?_ GE258.out) | exact HB.out)) hb)
                              clear HO_9
                              clear HO_11
                              clear HO_47
                              clear BK258
                              clear HB
                              have HO_9 := n0_
                              have HO_11 := n1_
                              have HO_47 := n2_
                              have BK258 := n3_
                              have HB := n4_
                              clear n0_ n1_ n2_ n3_ n4_
                              (try clear hb)
                              (try clear hb2)
                              (try clear hk)
                              (try clear hi)
                              refine hK.out _ _ ⟨(blk_cell BK258.out 0).trans rfl, (blk_cell BK258.out 1).trans rfl, (blk_cell BK258.out 2).trans rfl, (blk_cell BK258.out 3).trans rfl, HS4_⟩ (fun hHeld => ?_)
                              clear hK K
                              refine norm_ (a' := ?_) ?_ ?_
                              rotate_left
                              · show Act.put _ (some 68) _ = _
                                simp only [Act.put, List.setIfInBounds_toArray, List.set_cons_zero, List.set_cons_succ]
                                rfl
                              refine pure_ (i := 7) (N := some 73) (v := ?_) (a' := ?_) #[true, true, true, true, true, true, true, true, false, false] rfl rfl (any_of HT_.out (by kernel_rfl)) (fun _ _ _ h => h) (Or.inl ⟨by rfl, ?_⟩) ?_ ?_
                              rotate_left
                              · intro w'
                                go_simp
                                with_reducible rfl
                              rotate_left
                              · simp only [Act.put, List.setIfInBounds_toArray, List.set_cons_zero, List.set_cons_succ]
                                rfl
                              refine pure_ (i := 8) (N := some 74) (v := ?_) (a' := ?_) #[true, true, true, true, true, true, true, true, true, false] rfl rfl (any_of HT_.out (by kernel_rfl)) (fun _ _ _ h => h) (Or.inl ⟨by rfl, ?_⟩) ?_ ?_
                              rotate_left
                              · intro w'
                                go_simp
                                with_reducible rfl
                              rotate_left
                              · simp only [Act.put, List.setIfInBounds_toArray, List.set_cons_zero, List.set_cons_succ]
                                rfl
                              refine pure_ (i := 9) (N := some 12) (v := ?_) (a' := ?_) #[true, true, true, true, true, true, true, true, true, true] rfl rfl (any_of HT_.out (by kernel_rfl)) (fun _ _ _ h => h) (Or.inl ⟨by rfl, ?_⟩) ?_ ?_
                              rotate_left
                              · intro w'
                                go_simp
                                with_reducible rfl
                              rotate_left
                              · simp only [Act.put, List.setIfInBounds_toArray, List.set_cons_zero, List.set_cons_succ]
                                rfl
                              refine done_ (done_of HT_.out (by kernel_rfl)) ?_
                              try go_wp2
                              go_roundg k2
                              case measure => have := HJ5.out; have := HK2.out; omega
                              case rel => exact ⟨(x12_2 ++ (t260 ++ (rdOf ByteArray.empty y254 (ji22)))), (wrap64 (x49_2 + 1)), (by first | rfl | (simp; done) | (simp only [← hji22] <;> (first | rfl | simp)) | (simp [*]; done)), (by first | rfl | (simp; done) | (simp [*]; done)), H', ⟨by have := HJ5.out; have := HK2.out; omega⟩, ⟨by (with_reducible repeat (first | apply Kd.N_alloc | apply Kd.N_drewN | apply Kd.N_drew)); exact Kd.N_mono HO_9.out (fun _ hk => ⟨hk.1, hk.2.1⟩)⟩, ⟨by (with_reducible repeat (first | apply Kd.R_alloc | apply Kd.R_drewN | apply Kd.R_drew)); exact HO_11.out⟩, ⟨by (with_reducible repeat (first | apply Kd.R_alloc | apply Kd.R_drewN | apply Kd.R_drew)); exact Kd.R_mono HO_47.out (fun _ hk => trivial)⟩, ⟨by repeat (first | (with_reducible first | exact HB.out | apply below_alloc | apply pw_below_drewN | apply below_drew1 | refine below_set ?_ GE258.out) | exact HB.out)⟩⟩
                            · rw [if_neg c26] at H
                              exact absurd H (by simp)
                          · rw [if_neg c25] at H
                            exact absurd H (by simp)
                        · rw [if_neg c24] at H
                          exact absurd H (by simp)
                      · rw [if_neg c23] at H
                        exact absurd H (by simp)
                  · rw [if_neg c19] at H
                    have c19b0 : decide (x49_2 < (l1.length : Int)) = false := decide_eq_false c19
                    clear c19
                    replace H := Option.bind_eq_some_iff.mp H
                    obtain ⟨t262, A330, H⟩ := H
                    replace H : (if 0 < (y254.length : Int) then (if t262.size + (rdOf ByteArray.empty y254 0).size ≤ 9223372036854775807 then (if x12_2.size + (t262 ++ (rdOf ByteArray.empty y254 0)).size ≤ 9223372036854775807 then (slotmeshlaw03_PrinterCanonical.l0 k2 l1 t242 t248 y254 (x12_2 ++ (t262 ++ (rdOf ByteArray.empty y254 0))) t243 (t243.length : Int) (wrap64 (x49_2 + 1))) else (none)) else (none)) else (none)) = some r := H
                    have A33 := Aside0.mk A330
                    clear A330
                    by_cases c34 : 0 < (y254.length : Int)
                    · rw [if_pos c34] at H
                      have c34b0 : decide (0 < (y254.length : Int)) = true := decide_eq_true c34
                      have c34b1 : decide (0 < y254.length) = true := decide_eq_true (by omega)
                      clear c34
                      by_cases c35 : t262.size + (rdOf ByteArray.empty y254 0).size ≤ 9223372036854775807
                      · rw [if_pos c35] at H
                        have c35b0 := eq_true c35
                        have c35b1 : decide (t262.size + (rdOf ByteArray.empty y254 0).size ≤ 9223372036854775807) = true := decide_eq_true c35
                        try have c35b2 : (9223372036854775807 < t262.size + (rdOf ByteArray.empty y254 0).size) = False := eq_false (Nat.not_lt.2 c35)
                        by_cases c36 : x12_2.size + (t262 ++ (rdOf ByteArray.empty y254 0)).size ≤ 9223372036854775807
                        · rw [if_pos c36] at H
                          have c36b0 := eq_true c36
                          have c36b1 : decide (x12_2.size + (t262 ++ (rdOf ByteArray.empty y254 0)).size ≤ 9223372036854775807) = true := decide_eq_true c36
                          try have c36b2 : (9223372036854775807 < x12_2.size + (t262 ++ (rdOf ByteArray.empty y254 0)).size) = False := eq_false (Nat.not_lt.2 c36)
                          try have c36b9 : (9223372036854775807 < x12_2.size + (t262.size + (rdOf ByteArray.empty y254 0).size)) = False := eq_false (Nat.not_lt.2 (by have h_ := c36; rw [ByteArray.size_append] at h_; exact h_))
                          have H' := Aside0.mk H
                          clear H
                          have p257 : 0 ≤ (x49_2 : Int) := of_decide_eq_true (by first | (with_reducible assumption) | assumption)
                          have q257 : x49_2 < (t243.length : Int) := of_decide_eq_true (by first | (with_reducible assumption) | assumption)
                          obtain ⟨ad257, e257, hx257_0, hx257_1, hx257_2, hx257_3⟩ := at_T45 (Kd.R_reads' HO_47.out).2.2 x49_2 p257 q257
                          cases e257
                          replace p257 := eq_true p257
                          replace q257 := eq_true q257
                          try go_wp2_with (first | ((with_reducible refine gate_dst (N := 14) rfl ?_); (try (refine gate_guard (by rfl) ?_; dsimp only)); refine box_event ?hg (N := 14) ?hd (cs := #[.int .i64 0, .string (⟨#[]⟩ : ByteArray), .int .i64 0, .int .i64 0]) (t := 45) ?hr ?_; (case hd => rfl); (case hg => rfl); (case hr => first | (go_simp; done) | (go_simp; rfl)); intro gb258 hg w37 hbox hb; have n0_ := Aside0.mk (Kd.N_below (Kd.N_elderB (by (with_reducible repeat (first | apply Kd.N_alloc | apply Kd.N_drewN | apply Kd.N_drew)); exact HO_9.out) gb258 (Nat.le_of_eq hg.symm)) hb); have n1_ := Aside0.mk (Kd.R_below (by (with_reducible repeat (first | apply Kd.R_alloc | apply Kd.R_drewN | apply Kd.R_drew)); exact HO_11.out) hb); have n2_ := Aside0.mk (Kd.R_below (Kd.R_elderB (by (with_reducible repeat (first | apply Kd.R_alloc | apply Kd.R_drewN | apply Kd.R_drew)); exact HO_47.out) gb258 (Nat.le_of_eq hg.symm)) hb); have n3_ := Aside0.mk (below_step (by repeat (first | (with_reducible first | exact HB.out | apply below_alloc | apply pw_below_drewN | apply below_drew1) | exact HB.out)) hb); have n4_ := Aside0.mk (hbox); have n5_ := Aside0.mk ((by rw [hg]; exact (below_size (by repeat (first | (with_reducible first | exact HB.out | apply below_alloc | apply pw_below_drewN | apply below_drew1) | exact HB.out))) : w.heap.size ≤ gb258)); have n6_ := Aside0.mk ((by rw [hg]; exact (below_size (by repeat (first | (with_reducible first | exact HB.out | apply below_alloc | apply pw_below_drewN | apply below_drew1) | exact HB.out))) : w.heap.size ≤ gb258)); clear HO_9; clear HO_11; clear HO_47; clear HB; have HO_9 := n0_; have HO_11 := n1_; have HO_47 := n2_; have HB := n3_; have BK258 := n4_; have GW258 := n5_; have GE258 := n6_; clear n0_ n1_ n2_ n3_ n4_ n5_ n6_; clear hb hbox hg; have hcz38_0 : w37.cell? ⟨gb258, 0, none⟩ = some (.int .i64 0) := (blk_cell BK258.out 0).trans rfl; have hcz38_1 : w37.cell? ⟨gb258, 1, none⟩ = some (.string (⟨#[]⟩ : ByteArray)) := (blk_cell BK258.out 1).trans rfl; have hcz38_2 : w37.cell? ⟨gb258, 2, none⟩ = some (.int .i64 0) := (blk_cell BK258.out 2).trans rfl; have hcz38_3 : w37.cell? ⟨gb258, 3, none⟩ = some (.int .i64 0) := (blk_cell BK258.out 3).trans rfl; have hfz38_0 := blk_frozen BK258.out 0; have hfz38_1 := blk_frozen BK258.out 1; have hfz38_2 := blk_frozen BK258.out 2; have hfz38_3 := blk_frozen BK258.out 3; have hZZgb258 : ∀ a b c d x : Value, (((((w37.setCell ⟨gb258, 0, none⟩ a).setCell ⟨gb258, 1, none⟩ b).setCell ⟨gb258, 2, none⟩ c).setCell ⟨gb258, 3, none⟩ d).setCell ⟨gb258, 3, none⟩ x).cell? ⟨gb258, 3, none⟩ = some x := fun a b c d x => (blk_cell (blk_set (blk_set (blk_set (blk_set (blk_set BK258.out 0 a) 1 b) 2 c) 3 d) 3 x) 3).trans rfl))
                          have n0_ : Aside0 (Kd.N k40 40 ((((w37.setCell ⟨gb258, 0, none⟩ (.int .i64 ((rd_T45 t243 x49_2).f0))).setCell ⟨gb258, 1, none⟩ (.string ((rd_T45 t243 x49_2).f1))).setCell ⟨gb258, 2, none⟩ (.int .i64 ((rd_T45 t243 x49_2).f2))).setCell ⟨gb258, 3, none⟩ (.int .i64 ((rd_T45 t243 x49_2).f3))) w.heap.size (fun k_ => some k_ ≠ (v255 : Value).ownBlock ∧ some k_ ≠ (.slice (some ad257) t243.length co15 : Value).ownBlock ∧ k_ ≠ gb258) v250 t248) := ⟨by (with_reducible repeat (first | apply Kd.N_alloc | apply Kd.N_drewN | apply Kd.N_drew)); exact Kd.N_mono (Kd.N_far (p := ⟨gb258, 3, none⟩) (Kd.N_far (p := ⟨gb258, 2, none⟩) (Kd.N_far (p := ⟨gb258, 1, none⟩) (Kd.N_far (p := ⟨gb258, 0, none⟩) (Kd.N_mono HO_9.out (fun k_ hk => (⟨hk, hk.2⟩ : _ ∧ k_ ≠ gb258))) (fun _ hk => hk.2) (.int .i64 ((rd_T45 t243 x49_2).f0))) (fun _ hk => hk.2) (.string ((rd_T45 t243 x49_2).f1))) (fun _ hk => hk.2) (.int .i64 ((rd_T45 t243 x49_2).f2))) (fun _ hk => hk.2) (.int .i64 ((rd_T45 t243 x49_2).f3))) (fun _ hk => ⟨hk.1.1.1, ⟨hk.1.1.2, hk.1.2⟩⟩)⟩
                          have n1_ : Aside0 (Kd.R Kd.string 9 ((((w37.setCell ⟨gb258, 0, none⟩ (.int .i64 ((rd_T45 t243 x49_2).f0))).setCell ⟨gb258, 1, none⟩ (.string ((rd_T45 t243 x49_2).f1))).setCell ⟨gb258, 2, none⟩ (.int .i64 ((rd_T45 t243 x49_2).f2))).setCell ⟨gb258, 3, none⟩ (.int .i64 ((rd_T45 t243 x49_2).f3))) w.heap.size (fun _ => True) v255 y254) := ⟨by (with_reducible repeat (first | apply Kd.R_alloc | apply Kd.R_drewN | apply Kd.R_drew)); exact Kd.R_mono (Kd.R_far (p := ⟨gb258, 3, none⟩) (Kd.R_far (p := ⟨gb258, 2, none⟩) (Kd.R_far (p := ⟨gb258, 1, none⟩) (Kd.R_far (p := ⟨gb258, 0, none⟩) (Kd.R_types HO_11.out BK258.out (by decide)) (fun _ hk => hk.2) (.int .i64 ((rd_T45 t243 x49_2).f0))) (fun _ hk => hk.2) (.string ((rd_T45 t243 x49_2).f1))) (fun _ hk => hk.2) (.int .i64 ((rd_T45 t243 x49_2).f2))) (fun _ hk => hk.2) (.int .i64 ((rd_T45 t243 x49_2).f3))) (fun _ hk => trivial)⟩
                          have n2_ : Aside0 (Kd.R k45 45 ((((w37.setCell ⟨gb258, 0, none⟩ (.int .i64 ((rd_T45 t243 x49_2).f0))).setCell ⟨gb258, 1, none⟩ (.string ((rd_T45 t243 x49_2).f1))).setCell ⟨gb258, 2, none⟩ (.int .i64 ((rd_T45 t243 x49_2).f2))).setCell ⟨gb258, 3, none⟩ (.int .i64 ((rd_T45 t243 x49_2).f3))) w.heap.size (fun k_ => k_ ≠ gb258) (.slice (some ad257) t243.length co15) t243) := ⟨by (with_reducible repeat (first | apply Kd.R_alloc | apply Kd.R_drewN | apply Kd.R_drew)); exact Kd.R_mono (Kd.R_far (p := ⟨gb258, 3, none⟩) (Kd.R_far (p := ⟨gb258, 2, none⟩) (Kd.R_far (p := ⟨gb258, 1, none⟩) (Kd.R_far (p := ⟨gb258, 0, none⟩) (Kd.R_mono HO_47.out (fun k_ hk => (⟨hk, hk.2⟩ : _ ∧ k_ ≠ gb258))) (fun _ hk => hk.2) (.int .i64 ((rd_T45 t243 x49_2).f0))) (fun _ hk => hk.2) (.string ((rd_T45 t243 x49_2).f1))) (fun _ hk => hk.2) (.int .i64 ((rd_T45 t243 x49_2).f2))) (fun _ hk => hk.2) (.int .i64 ((rd_T45 t243 x49_2).f3))) (fun _ hk => hk.1.2)⟩
                          have n3_ : Aside0 (((((w37.setCell ⟨gb258, 0, none⟩ (.int .i64 ((rd_T45 t243 x49_2).f0))).setCell ⟨gb258, 1, none⟩ (.string ((rd_T45 t243 x49_2).f1))).setCell ⟨gb258, 2, none⟩ (.int .i64 ((rd_T45 t243 x49_2).f2))).setCell ⟨gb258, 3, none⟩ (.int .i64 ((rd_T45 t243 x49_2).f3))).heap[gb258]? = some (.cells #[.int .i64 ((rd_T45 t243 x49_2).f0), .string ((rd_T45 t243 x49_2).f1), .int .i64 ((rd_T45 t243 x49_2).f2), .int .i64 ((rd_T45 t243 x49_2).f3)] 45 (0, 0))) := ⟨by (with_reducible repeat (first | refine blk_drewN ?_ _ | refine blk_drew ?_ | refine blk_alloc ?_ _)); refine blk_put (cs := #[.int .i64 ((rd_T45 t243 x49_2).f0), .string ((rd_T45 t243 x49_2).f1), .int .i64 ((rd_T45 t243 x49_2).f2), .int .i64 0]) ?_ 3 _ rfl; (with_reducible repeat (first | refine blk_drewN ?_ _ | refine blk_drew ?_ | refine blk_alloc ?_ _)); refine blk_put (cs := #[.int .i64 ((rd_T45 t243 x49_2).f0), .string ((rd_T45 t243 x49_2).f1), .int .i64 0, .int .i64 0]) ?_ 2 _ rfl; (with_reducible repeat (first | refine blk_drewN ?_ _ | refine blk_drew ?_ | refine blk_alloc ?_ _)); refine blk_put (cs := #[.int .i64 ((rd_T45 t243 x49_2).f0), .string (⟨#[]⟩ : ByteArray), .int .i64 0, .int .i64 0]) ?_ 1 _ rfl; (with_reducible repeat (first | refine blk_drewN ?_ _ | refine blk_drew ?_ | refine blk_alloc ?_ _)); refine blk_put (cs := #[.int .i64 0, .string (⟨#[]⟩ : ByteArray), .int .i64 0, .int .i64 0]) ?_ 0 _ rfl; (with_reducible repeat (first | refine blk_drewN ?_ _ | refine blk_drew ?_ | refine blk_alloc ?_ _)); exact BK258.out⟩
                          have n4_ : Aside0 (Below w.heap.size w ((((w37.setCell ⟨gb258, 0, none⟩ (.int .i64 ((rd_T45 t243 x49_2).f0))).setCell ⟨gb258, 1, none⟩ (.string ((rd_T45 t243 x49_2).f1))).setCell ⟨gb258, 2, none⟩ (.int .i64 ((rd_T45 t243 x49_2).f2))).setCell ⟨gb258, 3, none⟩ (.int .i64 ((rd_T45 t243 x49_2).f3)))) := ⟨by repeat (first | (with_reducible first | exact HB.out | apply below_alloc | apply pw_below_drewN | apply below_drew1 | refine below_set ?_ GE258.out) | exact HB.out)⟩
                          (try clear HO_9)
                          (try clear HO_11)
                          (try clear HO_47)
                          (try clear BK258)
                          (try clear HB)
                          generalize ((((w37.setCell ⟨gb258, 0, none⟩ (.int .i64 ((rd_T45 t243 x49_2).f0))).setCell ⟨gb258, 1, none⟩ (.string ((rd_T45 t243 x49_2).f1))).setCell ⟨gb258, 2, none⟩ (.int .i64 ((rd_T45 t243 x49_2).f2))).setCell ⟨gb258, 3, none⟩ (.int .i64 ((rd_T45 t243 x49_2).f3))) = w39 at n0_ n1_ n2_ n3_ n4_ ⊢
                          have HO_9 := n0_
                          have HO_11 := n1_
                          have HO_47 := n2_
                          have BK258 := n3_
                          have HB := n4_
                          clear n0_ n1_ n2_ n3_ n4_
                          have n0_ := Aside0.mk (Kd.N_drew HO_9.out)
                          have n1_ := Aside0.mk (Kd.R_drew HO_11.out)
                          have n2_ := Aside0.mk (Kd.R_drew HO_47.out)
                          have n3_ := Aside0.mk (blk_drew BK258.out)
                          have n4_ := Aside0.mk (below_drew1 HB.out)
                          clear HO_9
                          clear HO_11
                          clear HO_47
                          clear BK258
                          clear HB
                          have HO_9 := n0_
                          have HO_11 := n1_
                          have HO_47 := n2_
                          have BK258 := n3_
                          have HB := n4_
                          clear n0_ n1_ n2_ n3_ n4_
                          obtain ⟨Ao41, co41, eo41⟩ := Kd.R_slice HO_11.out
                          (first | subst eo41 | (injection eo41 with f1_ f2_ f3_; have f4_ := f1_.symm; have f5_ := f3_.symm; clear f1_ f2_ f3_; subst f4_; subst f5_))
                          have p263 : 0 ≤ (0 : Int) := (by omega)
                          have q263 : 0 < (y254.length : Int) := of_decide_eq_true (by first | (with_reducible assumption) | assumption)
                          obtain ⟨ad263, e263, hx263_0⟩ := Kd.at_string (Kd.R_reads' HO_11.out).2.2 0 p263 q263
                          cases e263
                          have qi263 : (0 < y254.length) = True := eq_true (by omega)
                          (try rw [show ((0 : Int)).toNat = 0 from rfl] at hx263_0)
                          (try rw [Addr.add_zero'] at hx263_0)
                          replace p263 := eq_true p263
                          replace q263 := eq_true q263
                          refine start_ (n := 10) (S := fun w' => w'.cell? ⟨gb258, 0, none⟩ = some (.int .i64 ((rd_T45 t243 x49_2).f0)) ∧ w'.cell? ⟨gb258, 1, none⟩ = some (.string ((rd_T45 t243 x49_2).f1)) ∧ w'.cell? ⟨gb258, 2, none⟩ = some (.int .i64 ((rd_T45 t243 x49_2).f2)) ∧ w'.cell? ⟨gb258, 3, none⟩ = some (.int .i64 ((rd_T45 t243 x49_2).f3)) ∧ w'.cell? ad263 = some (.string (rdOf ByteArray.empty y254 0))) (ds := []) #[false, false, false, false, false, false, false, false, false, false] (by kernel_rfl) rfl rfl ⟨(blk_cell BK258.out 0).trans rfl, (blk_cell BK258.out 1).trans rfl, (blk_cell BK258.out 2).trans rfl, (blk_cell BK258.out 3).trans rfl, hx263_0⟩ (fun hHeld => ?_); refine with_tabW slotmeshlaw03_PrinterCanonical.tab14 slotmeshlaw03_PrinterCanonical.bits14 (fun HT_ HW_ => ?_)
                          generalize w39.drew = w40 at HO_9 HO_11 HO_47 BK258 HB hx263_0 hHeld ⊢
                          refine pure_ (i := 0) (N := some 66) (v := ?_) (a' := ?_) #[true, false, false, false, false, false, false, false, false, false] rfl rfl (any_of HT_.out (by kernel_rfl)) (fun _ _ _ h => h) (Or.inl ⟨by rfl, ?_⟩) ?_ ?_
                          rotate_left
                          · intro w'
                            go_simp
                            with_reducible rfl
                          rotate_left
                          · simp only [Act.put, List.setIfInBounds_toArray, List.set_cons_zero, List.set_cons_succ]
                            rfl
                          refine pure_ (i := 3) (N := some 69) (v := ?_) (a' := ?_) #[true, false, false, true, false, false, false, false, false, false] rfl rfl (any_of HT_.out (by kernel_rfl)) (fun _ _ _ h => h) (Or.inl ⟨by rfl, ?_⟩) ?_ ?_
                          rotate_left
                          · intro w'
                            go_simp
                            with_reducible rfl
                          rotate_left
                          · simp only [Act.put, List.setIfInBounds_toArray, List.set_cons_zero, List.set_cons_succ]
                            rfl
                          refine pure_ (i := 4) (N := some 70) (v := ?_) (a' := ?_) #[true, false, false, true, true, false, false, false, false, false] rfl rfl (any_of HT_.out (by kernel_rfl)) (fun _ _ _ h => h) (Or.inl ⟨by rfl, ?_⟩) ?_ ?_
                          rotate_left
                          · intro w'
                            go_simp
                            with_reducible rfl
                          rotate_left
                          · simp only [Act.put, List.setIfInBounds_toArray, List.set_cons_zero, List.set_cons_succ]
                            rfl
                          refine pure_ (i := 5) (N := some 71) (v := ?_) (a' := ?_) #[true, false, false, true, true, true, false, false, false, false] rfl rfl (any_of HT_.out (by kernel_rfl)) (fun _ _ _ h => h) (Or.inl ⟨by rfl, ?_⟩) ?_ ?_
                          rotate_left
                          · intro w'
                            go_simp
                            with_reducible rfl
                          rotate_left
                          · simp only [Act.put, List.setIfInBounds_toArray, List.set_cons_zero, List.set_cons_succ]
                            rfl
                          refine take_ (i := 1) (N := some 67) (v := ?_) (a' := ?_) #[true, true, false, true, true, true, false, false, false, false] rfl rfl (take_ofW HT_.out HW_.out (by kernel_rfl)) (fun _ _ _ h => h) (Or.inl ⟨by rfl, ?_⟩) hHeld ?_ ?_
                          rotate_left
                          · rintro w' ⟨s0, s1, s2, s3, s4⟩
                            go_simp
                            with_reducible rfl
                          rotate_left
                          · simp only [Act.put, List.setIfInBounds_toArray, List.set_cons_zero, List.set_cons_succ]
                            rfl
                          refine take_ (i := 6) (N := some 72) (v := ?_) (a' := ?_) #[true, true, false, true, true, true, true, false, false, false] rfl rfl (take_ofW HT_.out HW_.out (by kernel_rfl)) (fun _ _ _ h => h) (Or.inl ⟨by rfl, ?_⟩) hHeld ?_ ?_
                          rotate_left
                          · rintro w' ⟨s0, s1, s2, s3, s4⟩
                            go_simp
                            with_reducible rfl
                          rotate_left
                          · simp only [Act.put, List.setIfInBounds_toArray, List.set_cons_zero, List.set_cons_succ]
                            rfl
                          refine one_ (i := 2) (N := some 68) #[true, true, true, true, true, true, true, false, false, false] rfl rfl (one_of HT_.out (by kernel_rfl)) (by decide) (fun K hK => ?_)
                          refine goes_ Tryd.func42 (by kernel_rfl) rfl #[.agg #[.int .i64 ((rd_T45 t243 x49_2).f0), .string ((rd_T45 t243 x49_2).f1), .int .i64 ((rd_T45 t243 x49_2).f2), .int .i64 ((rd_T45 t243 x49_2).f3)]] (by rfl) rfl rfl (by (try simp only [List.map_toArray, List.map_cons, List.map_nil]); first | done | rfl | (simp only [List.length_drop, List.length_take]; rfl) | (simp (disch := omega) only [IntWalk.wrap64_in]; done)) ?_
                          with_reducible refine (slotmeshref01_Text.calls k2 ((rd_T45 t243 x49_2).f0) ((rd_T45 t243 x49_2).f1) ((rd_T45 t243 x49_2).f2) ((rd_T45 t243 x49_2).f3) t262 _ A33.out).mono ?_
                          rintro e w42 ⟨rfl, hb⟩
                          have HS4_ := (hb.cell (World.block_lt_of_cell? _ _ (hHeld.2.2.2.2))).trans (hHeld.2.2.2.2)
                          refine ⟨_, rfl, ?_⟩
                          have n0_ := Aside0.mk (Kd.N_below (by (with_reducible repeat (first | apply Kd.N_alloc | apply Kd.N_drewN | apply Kd.N_drew)); exact HO_9.out) hb)
                          have n1_ := Aside0.mk (Kd.R_below (by (with_reducible repeat (first | apply Kd.R_alloc | apply Kd.R_drewN | apply Kd.R_drew)); exact HO_11.out) hb)
                          have n2_ := Aside0.mk (Kd.R_below (by (with_reducible repeat (first | apply Kd.R_alloc | apply Kd.R_drewN | apply Kd.R_drew)); exact HO_47.out) hb)
                          have n3_ := Aside0.mk (blk_below (g := gb258) (o := .cells #[.int .i64 ((rd_T45 t243 x49_2).f0), .string ((rd_T45 t243 x49_2).f1), .int .i64 ((rd_T45 t243 x49_2).f2), .int .i64 ((rd_T45 t243 x49_2).f3)] 45 (0, 0)) (by (with_reducible repeat (first | refine blk_drewN ?_ _ | refine blk_drew ?_ | refine blk_alloc ?_ _)); exact BK258.out) hb)
                          have n4_ := Aside0.mk (below_step (by repeat (first | (with_reducible first | exact HB.out | apply below_alloc | apply pw_below_drewN | apply below_drew1 | refine below_set ?_ GE258.out) | exact HB.out)) hb)
                          clear HO_9
                          clear HO_11
                          clear HO_47
                          clear BK258
                          clear HB
                          have HO_9 := n0_
                          have HO_11 := n1_
                          have HO_47 := n2_
                          have BK258 := n3_
                          have HB := n4_
                          clear n0_ n1_ n2_ n3_ n4_
                          (try clear hb)
                          (try clear hb2)
                          (try clear hk)
                          (try clear hi)
                          refine hK.out _ _ ⟨(blk_cell BK258.out 0).trans rfl, (blk_cell BK258.out 1).trans rfl, (blk_cell BK258.out 2).trans rfl, (blk_cell BK258.out 3).trans rfl, HS4_⟩ (fun hHeld => ?_)
                          clear hK K
                          refine norm_ (a' := ?_) ?_ ?_
                          rotate_left
                          · show Act.put _ (some 68) _ = _
                            simp only [Act.put, List.setIfInBounds_toArray, List.set_cons_zero, List.set_cons_succ]
                            rfl
                          refine pure_ (i := 7) (N := some 73) (v := ?_) (a' := ?_) #[true, true, true, true, true, true, true, true, false, false] rfl rfl (any_of HT_.out (by kernel_rfl)) (fun _ _ _ h => h) (Or.inl ⟨by rfl, ?_⟩) ?_ ?_
                          rotate_left
                          · intro w'
                            go_simp
                            with_reducible rfl
                          rotate_left
                          · simp only [Act.put, List.setIfInBounds_toArray, List.set_cons_zero, List.set_cons_succ]
                            rfl
                          refine pure_ (i := 8) (N := some 74) (v := ?_) (a' := ?_) #[true, true, true, true, true, true, true, true, true, false] rfl rfl (any_of HT_.out (by kernel_rfl)) (fun _ _ _ h => h) (Or.inl ⟨by rfl, ?_⟩) ?_ ?_
                          rotate_left
                          · intro w'
                            go_simp
                            with_reducible rfl
                          rotate_left
                          · simp only [Act.put, List.setIfInBounds_toArray, List.set_cons_zero, List.set_cons_succ]
                            rfl
                          refine pure_ (i := 9) (N := some 12) (v := ?_) (a' := ?_) #[true, true, true, true, true, true, true, true, true, true] rfl rfl (any_of HT_.out (by kernel_rfl)) (fun _ _ _ h => h) (Or.inl ⟨by rfl, ?_⟩) ?_ ?_
                          rotate_left
                          · intro w'
                            go_simp
                            with_reducible rfl
                          rotate_left
                          · simp only [Act.put, List.setIfInBounds_toArray, List.set_cons_zero, List.set_cons_succ]
                            rfl
                          refine done_ (done_of HT_.out (by kernel_rfl)) ?_
                          try go_wp2
                          go_roundg k2
                          case measure => have := HJ5.out; have := HK2.out; omega
                          case rel => exact ⟨(x12_2 ++ (t262 ++ (rdOf ByteArray.empty y254 0))), (wrap64 (x49_2 + 1)), (by first | rfl | (simp; done) | (simp [*]; done)), (by first | rfl | (simp; done) | (simp [*]; done)), H', ⟨by have := HJ5.out; have := HK2.out; omega⟩, ⟨by (with_reducible repeat (first | apply Kd.N_alloc | apply Kd.N_drewN | apply Kd.N_drew)); exact Kd.N_mono HO_9.out (fun _ hk => ⟨hk.1, hk.2.1⟩)⟩, ⟨by (with_reducible repeat (first | apply Kd.R_alloc | apply Kd.R_drewN | apply Kd.R_drew)); exact HO_11.out⟩, ⟨by (with_reducible repeat (first | apply Kd.R_alloc | apply Kd.R_drewN | apply Kd.R_drew)); exact Kd.R_mono HO_47.out (fun _ hk => trivial)⟩, ⟨by repeat (first | (with_reducible first | exact HB.out | apply below_alloc | apply pw_below_drewN | apply below_drew1 | refine below_set ?_ GE258.out) | exact HB.out)⟩⟩
                        · rw [if_neg c36] at H
                          exact absurd H (by simp)
                      · rw [if_neg c35] at H
                        exact absurd H (by simp)
                    · rw [if_neg c34] at H
                      exact absurd H (by simp)
                · rw [if_neg c18] at H
                  exact absurd H (by simp)
              · rw [if_neg c17] at H
                exact absurd H (by simp)
            · rw [if_neg c16] at H
              have c16b0 : decide (x49_2 < (t243.length : Int)) = false := decide_eq_false c16
              clear c16
              replace H := Option.bind_eq_some_iff.mp H
              obtain ⟨⟨t264, t265⟩, A430, H⟩ := H
              replace H : (if (x12_2.size : Int) ≤ 8000 then ((parser_Parse.f x12_2).bind fun bt266 => ((printer_Print.f bt266.1).bind fun bt272 => (if (bt266.2.length : Int) > 0 then (some false) else (if t264.toList = bt272.1.toList then (if t265 = bt272.2 then (slotmeshlaw03_PrinterCanonical.j2 k2 t242 t264 t265) else (some false)) else (some false))))) else (slotmeshlaw03_PrinterCanonical.j2 k2 t242 t264 t265)) = some r := H
              have A43 := Aside0.mk A430
              clear A430
              have HC44 := Aside0.mk H
              clear H
              obtain ⟨Ao45, co45, eo45⟩ := Kd.N_slice HO_9.out
              subst eo45
              go_upto_if 83 with (first | ((with_reducible refine gate_callee (f := 27) rfl ?_); refine goesL_ (some 78) rfl rfl Tryd.func27 (by kernel_rfl) rfl #[.slice Ao45 t248.length co45] rfl (by (try simp only [List.map_toArray, List.map_cons, List.map_nil]); first | done | rfl | (simp only [List.length_drop, List.length_take]; rfl) | (simp (disch := omega) only [IntWalk.wrap64_in]; done)) ?_; (with_reducible refine (printer_Print.calls _ _ t248 t264 t265 _ ?side3 ?side1 ?side2 A43.out).mono ?_); (case side1 => repeat (first | exact (Kd.N_reads' HO_9.out).2.2 | (with_reducible refine Kd.C_alloc ?_ _) | (with_reducible refine Kd.C_drewN ?_ _) | (with_reducible refine Kd.C_drew ?_))); (case side2 => exact (Kd.N_reads' HO_9.out).2.1); (case side3 => exact Tx.GP.aside hG (by repeat (first | (with_reducible first | exact HB.out | apply below_alloc | apply pw_below_drewN | apply below_drew1) | exact HB.out))); rintro e w46 ⟨rfl, hb⟩; refine ⟨_, rfl, ?_⟩; have n0_ := Aside0.mk (Kd.N_below (by (with_reducible repeat (first | apply Kd.N_alloc | apply Kd.N_drewN | apply Kd.N_drew)); exact HO_9.out) hb); have n1_ := Aside0.mk (Kd.R_below (by (with_reducible repeat (first | apply Kd.R_alloc | apply Kd.R_drewN | apply Kd.R_drew)); exact HO_11.out) hb); have n2_ := Aside0.mk (Kd.R_below (by (with_reducible repeat (first | apply Kd.R_alloc | apply Kd.R_drewN | apply Kd.R_drew)); exact HO_47.out) hb); have n3_ := Aside0.mk (below_step (by repeat (first | (with_reducible first | exact HB.out | apply below_alloc | apply pw_below_drewN | apply below_drew1) | exact HB.out)) hb); clear HO_9; clear HO_11; clear HO_47; clear HB; have HO_9 := n0_; have HO_11 := n1_; have HO_47 := n2_; have HB := n3_; clear n0_ n1_ n2_ n3_; (try clear hb); (try clear hb2); (try clear hk); (try clear hi)))
              (try simp only [Act.put, List.setIfInBounds_toArray, List.set_cons_zero, List.set_cons_succ])
              go_cut [] (fun wc => ∃ (kq : Nat), Aside0 (slotmeshlaw03_PrinterCanonical.j2 kq t242 t264 t265 = some r) ∧ Aside0 (kq ≤ k2) ∧ Aside0 (Below w.heap.size w wc))
              case first =>
                have H := HC44.out
                clear HC44
                by_cases c47 : (x12_2.size : Int) ≤ 8000
                · rw [if_pos c47] at H
                  have c47b0 : decide ((x12_2.size : Int) ≤ 8000) = true := decide_eq_true c47
                  have c47b1 : decide (x12_2.size ≤ 8000) = true := decide_eq_true (by omega)
                  clear c47
                  (first | rw [c47b0] | (simp only [i64_w, i32_w]; rw [c47b0]) | skip)
                  replace H := Option.bind_eq_some_iff.mp H
                  obtain ⟨⟨t266, t267⟩, A480, H⟩ := H
                  replace H : ((printer_Print.f t266).bind fun bt272 => (if (t267.length : Int) > 0 then (some false) else (if t264.toList = bt272.1.toList then (if t265 = bt272.2 then (slotmeshlaw03_PrinterCanonical.j2 k2 t242 t264 t265) else (some false)) else (some false)))) = some r := H
                  have A48 := Aside0.mk A480
                  clear A480
                  replace H := Option.bind_eq_some_iff.mp H
                  obtain ⟨⟨t272, t273⟩, A490, H⟩ := H
                  replace H : (if (t267.length : Int) > 0 then (some false) else (if t264.toList = t272.toList then (if t265 = t273 then (slotmeshlaw03_PrinterCanonical.j2 k2 t242 t264 t265) else (some false)) else (some false))) = some r := H
                  have A49 := Aside0.mk A490
                  clear A490
                  by_cases c50 : (t267.length : Int) > 0
                  · rw [if_pos c50] at H
                    have c50b0 : decide (0 < (t267.length : Int)) = true := decide_eq_true c50
                    have c50b1 : decide (0 < t267.length) = true := decide_eq_true (by omega)
                    clear c50
                    exact absurd ((Option.some.inj H).trans hr_.out) (by decide)
                  · rw [if_neg c50] at H
                    have c50b0 : decide (0 < (t267.length : Int)) = false := decide_eq_false c50
                    have c50b1 : decide (0 < t267.length) = false := decide_eq_false (by omega)
                    clear c50
                    by_cases c55 : t264.toList = t272.toList
                    · rw [if_pos c55] at H
                      have c55b0 : (t264.toList == t272.toList) = true := beq_iff_eq.mpr c55
                      have c55b1 : (t264.toList != t272.toList) = false := bne_eq_false_iff_eq.mpr c55
                      clear c55
                      by_cases c56 : t265 = t273
                      · rw [if_pos c56] at H
                        have c56b0 : (t265 == t273) = true := beq_iff_eq.mpr c56
                        have c56b1 : (t265 != t273) = false := bne_eq_false_iff_eq.mpr c56
                        clear c56
                        have H' := Aside0.mk H
                        clear H
                        go_wp2_with (first | ((with_reducible refine gate_callee (f := 20) rfl ?_); refine goesL_ (some 86) rfl rfl Tryd.func20 (by kernel_rfl) rfl #[.string x12_2] rfl (by (try simp only [List.map_toArray, List.map_cons, List.map_nil]); first | done | rfl | (simp only [List.length_drop, List.length_take]; rfl) | (simp (disch := omega) only [IntWalk.wrap64_in]; done)) ?_; (with_reducible refine (parser_Parse.calls x12_2 t266 t267 _ ?side1 A48.out).mono ?_); (case side1 => exact Tx.GP.aside hG (by repeat (first | (with_reducible first | exact HB.out | apply below_alloc | apply pw_below_drewN | apply below_drew1) | exact HB.out))); rintro e w57 ⟨v268, v270, rfl, ho0, ho1, hb⟩; refine ⟨_, rfl, ?_⟩; have n0_ := Aside0.mk (Kd.N_mono (Kd.N_told (Kd.N_told (Kd.N_old (by (with_reducible repeat (first | apply Kd.N_alloc | apply Kd.N_drewN | apply Kd.N_drew)); exact HO_9.out) hb) (Kd.R_base ho0)) (Kd.R_base ho1)) (fun _ h_ => h_.1)); have n1_ := Aside0.mk (Kd.R_below (by (with_reducible repeat (first | apply Kd.R_alloc | apply Kd.R_drewN | apply Kd.R_drew)); exact HO_11.out) hb); have n2_ := Aside0.mk (Kd.R_below (by (with_reducible repeat (first | apply Kd.R_alloc | apply Kd.R_drewN | apply Kd.R_drew)); exact HO_47.out) hb); have n3_ := Aside0.mk (Kd.N_lower (Kd.N_mono (ok' := fun k_ => some k_ ≠ (v270 : Value).ownBlock ∧ some k_ ≠ (.slice Ao45 t248.length co45 : Value).ownBlock ∧ some k_ ≠ (v255 : Value).ownBlock ∧ some k_ ≠ (.slice Ao15 t243.length co15 : Value).ownBlock) (Kd.R_N (Kd.R_bound (Kd.R_apart' ho0 (Kd.R_typed ho1) (by decide)))) (fun k_ hk_ => ⟨hk_.1.2, (Kd.fresh' (Kd.N_lt (by (with_reducible repeat (first | apply Kd.N_alloc | apply Kd.N_drewN | apply Kd.N_drew)); exact HO_9.out)) k_ hk_.2.1), (Kd.fresh' (Kd.R_lt (by (with_reducible repeat (first | apply Kd.R_alloc | apply Kd.R_drewN | apply Kd.R_drew)); exact HO_11.out)) k_ hk_.2.1), (Kd.fresh' (Kd.R_lt (by (with_reducible repeat (first | apply Kd.R_alloc | apply Kd.R_drewN | apply Kd.R_drew)); exact HO_47.out)) k_ hk_.2.1)⟩)) (below_size (by repeat (first | (with_reducible first | exact HB.out | apply below_alloc | apply pw_below_drewN | apply below_drew1) | exact HB.out)))); have n4_ := Aside0.mk (Kd.R_lower ho1 (below_size (by repeat (first | (with_reducible first | exact HB.out | apply below_alloc | apply pw_below_drewN | apply below_drew1) | exact HB.out)))); have n5_ := Aside0.mk (below_step (by repeat (first | (with_reducible first | exact HB.out | apply below_alloc | apply pw_below_drewN | apply below_drew1) | exact HB.out)) hb); clear HO_9; clear HO_11; clear HO_47; clear HB; have HO_9 := n0_; have HO_11 := n1_; have HO_47 := n2_; have HO269 := n3_; have HO271 := n4_; have HB := n5_; clear n0_ n1_ n2_ n3_ n4_ n5_; (try clear hb); (try clear hb2); (try clear hk); (try clear hi); (try clear ho0); (try clear ho1); obtain ⟨Ao58, co58, eo58⟩ := Kd.N_slice HO269.out; subst eo58) | ((with_reducible refine gate_callee (f := 27) rfl ?_); refine goesL_ (some 91) rfl rfl Tryd.func27 (by kernel_rfl) rfl #[.slice Ao58 t266.length co58] rfl (by (try simp only [List.map_toArray, List.map_cons, List.map_nil]); first | done | rfl | (simp only [List.length_drop, List.length_take]; rfl) | (simp (disch := omega) only [IntWalk.wrap64_in]; done)) ?_; (with_reducible refine (printer_Print.calls _ _ t266 t272 t273 _ ?side3 ?side1 ?side2 A49.out).mono ?_); (case side1 => repeat (first | exact (Kd.N_reads' HO269.out).2.2 | (with_reducible refine Kd.C_alloc ?_ _) | (with_reducible refine Kd.C_drewN ?_ _) | (with_reducible refine Kd.C_drew ?_))); (case side2 => exact (Kd.N_reads' HO269.out).2.1); (case side3 => exact Tx.GP.aside hG (by repeat (first | (with_reducible first | exact HB.out | apply below_alloc | apply pw_below_drewN | apply below_drew1) | exact HB.out))); rintro e w59 ⟨rfl, hb⟩; refine ⟨_, rfl, ?_⟩; have n0_ := Aside0.mk (Kd.N_below (by (with_reducible repeat (first | apply Kd.N_alloc | apply Kd.N_drewN | apply Kd.N_drew)); exact HO_9.out) hb); have n1_ := Aside0.mk (Kd.R_below (by (with_reducible repeat (first | apply Kd.R_alloc | apply Kd.R_drewN | apply Kd.R_drew)); exact HO_11.out) hb); have n2_ := Aside0.mk (Kd.R_below (by (with_reducible repeat (first | apply Kd.R_alloc | apply Kd.R_drewN | apply Kd.R_drew)); exact HO_47.out) hb); have n3_ := Aside0.mk (Kd.N_below (by (with_reducible repeat (first | apply Kd.N_alloc | apply Kd.N_drewN | apply Kd.N_drew)); exact HO269.out) hb); have n4_ := Aside0.mk (Kd.R_below (by (with_reducible repeat (first | apply Kd.R_alloc | apply Kd.R_drewN | apply Kd.R_drew)); exact HO271.out) hb); have n5_ := Aside0.mk (below_step (by repeat (first | (with_reducible first | exact HB.out | apply below_alloc | apply pw_below_drewN | apply below_drew1) | exact HB.out)) hb); clear HO_9; clear HO_11; clear HO_47; clear HO269; clear HO271; clear HB; have HO_9 := n0_; have HO_11 := n1_; have HO_47 := n2_; have HO269 := n3_; have HO271 := n4_; have HB := n5_; clear n0_ n1_ n2_ n3_ n4_ n5_; (try clear hb); (try clear hb2); (try clear hk); (try clear hi); obtain ⟨Ao60, co60, eo60⟩ := Kd.R_slice HO271.out; subst eo60))
                        go_meet
                        case rel => exact ⟨_, H', ⟨by have := HJ5.out; have := HK2.out; first | omega | exact Nat.le_refl _⟩, ⟨by repeat (first | (with_reducible first | exact HB.out | apply below_alloc | apply pw_below_drewN | apply below_drew1) | exact HB.out)⟩⟩
                      · rw [if_neg c56] at H
                        have c56b0 : (t265 == t273) = false := beq_eq_false_iff_ne.mpr c56
                        have c56b1 : (t265 != t273) = true := bne_iff_ne.mpr c56
                        exact absurd ((Option.some.inj H).trans hr_.out) (by decide)
                    · rw [if_neg c55] at H
                      have c55b0 : (t264.toList == t272.toList) = false := beq_eq_false_iff_ne.mpr c55
                      have c55b1 : (t264.toList != t272.toList) = true := bne_iff_ne.mpr c55
                      exact absurd ((Option.some.inj H).trans hr_.out) (by decide)
                · rw [if_neg c47] at H
                  have c47b0 : decide ((x12_2.size : Int) ≤ 8000) = false := decide_eq_false c47
                  have c47b1 : decide (x12_2.size ≤ 8000) = false := decide_eq_false (by omega)
                  clear c47
                  (first | rw [c47b0] | (simp only [i64_w, i32_w]; rw [c47b0]) | skip)
                  have H' := Aside0.mk H
                  clear H
                  go_wp2
                  go_meet
                  case rel => exact ⟨_, H', ⟨by have := HJ5.out; have := HK2.out; first | omega | exact Nat.le_refl _⟩, ⟨by repeat (first | (with_reducible first | exact HB.out | apply below_alloc | apply pw_below_drewN | apply below_drew1) | exact HB.out)⟩⟩
              case rest =>
                clear HC44
                try clear c1
                try clear c2
                try clear p2
                try clear q2
                try clear hx2
                try clear qi2
                try clear c3
                try clear c4
                try clear c5
                try clear p6
                try clear c10
                try clear c10b0
                try clear c10b1
                try clear c12
                try clear c15
                try clear c16
                try clear c16b0
                try clear c17
                try clear c17b0
                try clear c18
                try clear c18b0
                try clear c19
                try clear c19b0
                try clear c20
                try clear c20b0
                try clear c20b1
                try clear c20b2
                try clear c23
                try clear c23b0
                try clear c24
                try clear c24b0
                try clear c25
                try clear c25b0
                try clear c25b1
                try clear c25b2
                try clear p25
                try clear q25
                try clear hx25
                try clear c26
                try clear c26b0
                try clear c26b1
                try clear c26b2
                try clear p26
                try clear q26
                try clear hx26
                try clear qi26
                try clear c27
                try clear c29
                try clear c31
                try clear c34
                try clear c34b0
                try clear c34b1
                try clear c35
                try clear c35b0
                try clear c35b1
                try clear c35b2
                try clear c36
                try clear c36b0
                try clear c36b1
                try clear c36b2
                try clear c42
                try clear c47
                try clear c47b0
                try clear c47b1
                try clear c50
                try clear c50b0
                try clear c50b1
                try clear c55
                try clear c55b0
                try clear c55b1
                try clear c56
                try clear c56b0
                try clear c56b1
                try clear p64
                try clear hcz28_0
                try clear hcz28_1
                try clear hcz28_2
                try clear hcz28_3
                try clear hcz38_0
                try clear hcz38_1
                try clear hcz38_2
                try clear hcz38_3
                try clear hfz28_0
                try clear hfz28_1
                try clear hfz28_2
                try clear hfz28_3
                try clear hfz38_0
                try clear hfz38_1
                try clear hfz38_2
                try clear hfz38_3
                try clear hx257_0
                try clear hx257_1
                try clear hx257_2
                try clear hx257_3
                try clear hx259_0
                try clear hx261_0
                try clear hx263_0
                try clear p2
                try clear p257
                try clear p259
                try clear p261
                try clear p263
                try clear q257
                try clear q259
                try clear q261
                try clear q263
                obtain ⟨kq, HA, HJ43, HB⟩ := hcut
                cases kq with
                | zero => exact absurd HA.out (by simp [slotmeshlaw03_PrinterCanonical.j2])
                | succ kj43 =>
                  have H := HA.out
                  clear HA
                  simp only [slotmeshlaw03_PrinterCanonical.j2] at H
                  by_cases c69 : t265 = 0
                  · rw [if_pos c69] at H
                    have c69b0 : (t265 == 0) = true := beq_iff_eq.mpr c69
                    have c69b1 : (t265 != 0) = false := bne_eq_false_iff_eq.mpr c69
                    clear c69
                    replace H := Option.bind_eq_some_iff.mp H
                    obtain ⟨⟨t274, t275⟩, A700, H⟩ := H
                    replace H : ((printer_Print.f t274).bind fun bt280 => (if t242 = true then (if (t275.length : Int) = 0 then (if bt280.2 = 0 then (some (t264.toList == bt280.1.toList)) else (some false)) else (some false)) else (some false))) = some r := H
                    have A70 := Aside0.mk A700
                    clear A700
                    replace H := Option.bind_eq_some_iff.mp H
                    obtain ⟨⟨t280, t281⟩, A710, H⟩ := H
                    replace H : (if t242 = true then (if (t275.length : Int) = 0 then (if t281 = 0 then (some (t264.toList == t280.toList)) else (some false)) else (some false)) else (some false)) = some r := H
                    have A71 := Aside0.mk A710
                    clear A710
                    by_cases c72 : t242 = true
                    · subst c72
                      have H1 : (if (t275.length : Int) = 0 then (if t281 = 0 then (some (t264.toList == t280.toList)) else (some false)) else (some false)) = some r := by rw [if_pos rfl] at H; exact H
                      clear H
                      have H := H1
                      clear H1
                      by_cases c73 : (t275.length : Int) = 0
                      · rw [if_pos c73] at H
                        have c73b0 : ((t275.length : Int) == 0) = true := beq_iff_eq.mpr c73
                        have c73b1 : ((t275.length : Int) != 0) = false := bne_eq_false_iff_eq.mpr c73
                        clear c73
                        by_cases c74 : t281 = 0
                        · rw [if_pos c74] at H
                          have c74b0 : (t281 == 0) = true := beq_iff_eq.mpr c74
                          have c74b1 : (t281 != 0) = false := bne_eq_false_iff_eq.mpr c74
                          clear c74
                          clear hr_
                          obtain rfl := Option.some.inj H
                          go_wp2_with (first | ((with_reducible refine gate_callee (f := 20) rfl ?_); refine goesL_ (some 116) rfl rfl Tryd.func20 (by kernel_rfl) rfl #[.string t264] rfl (by (try simp only [List.map_toArray, List.map_cons, List.map_nil]); first | done | rfl | (simp only [List.length_drop, List.length_take]; rfl) | (simp (disch := omega) only [IntWalk.wrap64_in]; done)) ?_; (with_reducible refine (parser_Parse.calls t264 t274 t275 _ ?side1 A70.out).mono ?_); (case side1 => exact Tx.GP.aside hG (by repeat (first | (with_reducible first | exact HB.out | apply below_alloc | apply pw_below_drewN | apply below_drew1) | exact HB.out))); rintro e w75 ⟨v276, v278, rfl, ho0, ho1, hb⟩; refine ⟨_, rfl, ?_⟩; have n0_ := Aside0.mk (Kd.N_lower (Kd.N_mono (ok' := fun k_ => some k_ ≠ (v278 : Value).ownBlock) (Kd.R_N (Kd.R_bound (Kd.R_apart' ho0 (Kd.R_typed ho1) (by decide)))) (fun k_ hk_ => hk_.1.2)) (below_size (by repeat (first | (with_reducible first | exact HB.out | apply below_alloc | apply pw_below_drewN | apply below_drew1) | exact HB.out)))); have n1_ := Aside0.mk (Kd.R_lower ho1 (below_size (by repeat (first | (with_reducible first | exact HB.out | apply below_alloc | apply pw_below_drewN | apply below_drew1) | exact HB.out)))); have n2_ := Aside0.mk (below_step (by repeat (first | (with_reducible first | exact HB.out | apply below_alloc | apply pw_below_drewN | apply below_drew1) | exact HB.out)) hb); clear HB; have HO277 := n0_; have HO279 := n1_; have HB := n2_; clear n0_ n1_ n2_; (try clear hb); (try clear hb2); (try clear hk); (try clear hi); (try clear ho0); (try clear ho1); obtain ⟨Ao76, co76, eo76⟩ := Kd.N_slice HO277.out; subst eo76) | ((with_reducible refine gate_callee (f := 27) rfl ?_); refine goesL_ (some 121) rfl rfl Tryd.func27 (by kernel_rfl) rfl #[.slice Ao76 t274.length co76] rfl (by (try simp only [List.map_toArray, List.map_cons, List.map_nil]); first | done | rfl | (simp only [List.length_drop, List.length_take]; rfl) | (simp (disch := omega) only [IntWalk.wrap64_in]; done)) ?_; (with_reducible refine (printer_Print.calls _ _ t274 t280 t281 _ ?side3 ?side1 ?side2 A71.out).mono ?_); (case side1 => repeat (first | exact (Kd.N_reads' HO277.out).2.2 | (with_reducible refine Kd.C_alloc ?_ _) | (with_reducible refine Kd.C_drewN ?_ _) | (with_reducible refine Kd.C_drew ?_))); (case side2 => exact (Kd.N_reads' HO277.out).2.1); (case side3 => exact Tx.GP.aside hG (by repeat (first | (with_reducible first | exact HB.out | apply below_alloc | apply pw_below_drewN | apply below_drew1) | exact HB.out))); rintro e w77 ⟨rfl, hb⟩; refine ⟨_, rfl, ?_⟩; have n0_ := Aside0.mk (Kd.N_below (by (with_reducible repeat (first | apply Kd.N_alloc | apply Kd.N_drewN | apply Kd.N_drew)); exact HO277.out) hb); have n1_ := Aside0.mk (Kd.R_below (by (with_reducible repeat (first | apply Kd.R_alloc | apply Kd.R_drewN | apply Kd.R_drew)); exact HO279.out) hb); have n2_ := Aside0.mk (below_step (by repeat (first | (with_reducible first | exact HB.out | apply below_alloc | apply pw_below_drewN | apply below_drew1) | exact HB.out)) hb); clear HO277; clear HO279; clear HB; have HO277 := n0_; have HO279 := n1_; have HB := n2_; clear n0_ n1_ n2_; (try clear hb); (try clear hb2); (try clear hk); (try clear hi); obtain ⟨Ao78, co78, eo78⟩ := Kd.R_slice HO279.out; subst eo78))
                          go_ret
                          exact ⟨by first | rfl | (simp [errW_none, errW_some] <;> rfl) | (simp [*, errW_none, errW_some] <;> rfl), by repeat (first | (with_reducible first | exact HB.out | apply below_alloc | apply pw_below_drewN | apply below_drew1) | exact HB.out)⟩
                        · rw [if_neg c74] at H
                          have c74b0 : (t281 == 0) = false := beq_eq_false_iff_ne.mpr c74
                          have c74b1 : (t281 != 0) = true := bne_iff_ne.mpr c74
                          exact absurd ((Option.some.inj H).trans hr_.out) (by decide)
                      · rw [if_neg c73] at H
                        have c73b0 : ((t275.length : Int) == 0) = false := beq_eq_false_iff_ne.mpr c73
                        have c73b1 : ((t275.length : Int) != 0) = true := bne_iff_ne.mpr c73
                        have c73b2 : ¬ (t275 = []) := fun h_ => c73 (by rw [h_]; rfl)
                        exact absurd ((Option.some.inj H).trans hr_.out) (by decide)
                    · replace c72 := Bool.eq_false_iff.mpr c72
                      subst c72
                      have H1 : (some false) = some r := by rw [if_neg (show ¬ (false = true) by decide)] at H; exact H
                      clear H
                      have H := H1
                      clear H1
                      exact absurd ((Option.some.inj H).trans hr_.out) (by decide)
                  · rw [if_neg c69] at H
                    have c69b0 : (t265 == 0) = false := beq_eq_false_iff_ne.mpr c69
                    have c69b1 : (t265 != 0) = true := bne_iff_ne.mpr c69
                    by_cases c90 : t242 = true
                    · subst c90
                      have H1 : (some (t265 == 2)) = some r := by rw [if_pos rfl] at H; exact H
                      clear H
                      have H := H1
                      clear H1
                      clear hr_
                      obtain rfl := Option.some.inj H
                      go_wp2
                      go_ret
                      exact ⟨by first | rfl | (simp [errW_none, errW_some] <;> rfl) | (simp [*, errW_none, errW_some] <;> rfl), by repeat (first | (with_reducible first | exact HB.out | apply below_alloc | apply pw_below_drewN | apply below_drew1) | exact HB.out)⟩
                    · replace c90 := Bool.eq_false_iff.mpr c90
                      subst c90
                      have H1 : (some false) = some r := by rw [if_neg (show ¬ (false = true) by decide)] at H; exact H
                      clear H
                      have H := H1
                      clear H1
                      exact absurd ((Option.some.inj H).trans hr_.out) (by decide)
end Go.Proofs.YtdedlchpjboceaaDoor.PE
end
