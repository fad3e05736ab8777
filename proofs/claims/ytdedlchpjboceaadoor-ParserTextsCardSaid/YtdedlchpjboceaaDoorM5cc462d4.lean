/- Texts of proofs: plain words, and walks through the program's functions. -/
import Derived.Test.YtdedlchpjboceaaDoorMa90ebaae
import Derived.Test.YtdedlchpjboceaaDoorMda52abbe
import Derived.Test.YtdedlchpjboceaaDoorM2256e532
import Derived.Test.YtdedlchpjboceaaDoorM6ce7cd3e
import Derived.Test.YtdedlchpjboceaaDoorM28521413
import Derived.Test.YtdedlchpjboceaaDoorM26dd341a
import Derived.Test.YtdedlchpjboceaaDoorM3d43a7bf
import Derived.Test.YtdedlchpjboceaaDoorM562650ae
import Derived.Test.YtdedlchpjboceaaDoorM6aea5cf6
import Derived.Test.YtdedlchpjboceaaDoorMc9cbea61
import Derived.Test.YtdedlchpjboceaaDoorM919f6fd7
import Derived.Test.YtdedlchpjboceaaDoorMd1ed9514
import Derived.Test.YtdedlchpjboceaaDoorM8303df99

section
namespace Go.Proofs.YtdedlchpjboceaaDoor.PE
open Go.RowKit Go.Proofs.YtdedlchpjboceaaDoorW.PrintWords Go.Proofs.YtdedlchpjboceaaDoorW.PrintLast Go.Proofs.YtdedlchpjboceaaDoorW.PrintMore
attribute [local go_sem] max2_int min2_int max_two min_two max_three min_three max_four min_four   -- for this text's walks alone
/-- What Itoa answers. -/
def strconv_Itoa.f (a0 : Int) : Option ByteArray := if -9223372036854775808 ≤ a0 ∧ a0 ≤ 9223372036854775807 then some ⟨(Lib.itoa a0).toArray⟩ else none
theorem strconv_Itoa.calls (a0 : Int) (r : ByteArray) (w : World) (hG : Aside0 (Tx.GQ w)) (h : strconv_Itoa.f a0 = some r) :
    Calls Tryd.prog 40 #[.int .i64 a0] w fun e w' => e = .returned (.string r) ∧ Below w.heap.size w w' := by
  unfold strconv_Itoa.f at h
  by_cases hn : -9223372036854775808 ≤ a0 ∧ a0 ≤ 9223372036854775807
  · rw [if_pos hn] at h
    have h' := Option.some.inj h
    subst h'
    refine (Tryd.strconv_Itoa a0 hn.1 hn.2 w hG.out.tab).mono ?_
    rintro e w' ⟨rfl, k, os, rfl⟩
    exact ⟨rfl, Lib.below_grow _ w (Nat.le_refl _) k os⟩
  · rw [if_neg hn] at h; cases h
end Go.Proofs.YtdedlchpjboceaaDoor.PE
end

section
namespace Go.Proofs.YtdedlchpjboceaaDoor.PE
open Go.RowKit Go.Proofs.YtdedlchpjboceaaDoorW.PrintWords Go.Proofs.YtdedlchpjboceaaDoorW.PrintLast Go.Proofs.YtdedlchpjboceaaDoorW.PrintMore
attribute [local go_sem] max2_int min2_int max_two min_two max_three min_three max_four min_four   -- for this text's walks alone
mutual
def slotmeshlaw02_Text.l0 : Nat → ByteArray → Int → List ByteArray → Int → Int → Int → ByteArray → List Int → Int → Option (ByteArray)
  | 0, _, _, _, _, _, _, _, _, _ => none
  | k + 1, x3, x4, x10, x11, x12, x520000, x520001, x520002, x520003 => if x12 < x11 then (if 0 ≤ x12 then (if x12 < (x10.length : Int) then (if x3.toList = ([] : List UInt8) then (slotmeshlaw02_Text.j1 k x3 x4 (rdOf ByteArray.empty x10 x12) x10 x11 x12 x520000 x520001 x520002 x520003) else (if x3.size + 1 ≤ 9223372036854775807 then (slotmeshlaw02_Text.j1 k (x3 ++ (⟨#[32]⟩ : ByteArray)) x4 (rdOf ByteArray.empty x10 x12) x10 x11 x12 x520000 x520001 x520002 x520003) else (none))) else (none)) else (none)) else (if x3.size + 1 ≤ 9223372036854775807 then (some (x3 ++ (⟨#[59]⟩ : ByteArray))) else (none))
def slotmeshlaw02_Text.j1 : Nat → ByteArray → Int → ByteArray → List ByteArray → Int → Int → Int → ByteArray → List Int → Int → Option (ByteArray)
  | 0, _, _, _, _, _, _, _, _, _, _ => none
  | k + 1, x3, x4, x6, x10, x11, x12, x520000, x520001, x520002, x520003 => if x6.toList = ([110] : List UInt8) then (if x3.size + x520001.size ≤ 9223372036854775807 then (slotmeshlaw02_Text.l0 k (x3 ++ x520001) x4 x10 x11 (wrap64 (x12 + 1)) x520000 x520001 x520002 x520003) else (none)) else (if x6.toList = ([35] : List UInt8) then (if 0 ≤ x4 then (if x4 < (x520002.length : Int) then ((strconv_Itoa.f (rd x520002 x4)).bind fun t526 => (if x3.size + t526.size ≤ 9223372036854775807 then (slotmeshlaw02_Text.l0 k (x3 ++ t526) (wrap64 (x4 + 1)) x10 x11 (wrap64 (x12 + 1)) x520000 x520001 x520002 x520003) else (none))) else (none)) else (none)) else (if x6.toList = ([100] : List UInt8) then (if 0 ≤ x4 then (if x4 < (x520002.length : Int) then (if (rd x520002 x4) < 0 then ((strconv_Itoa.f (wrap64 (-(rd x520002 x4)))).bind fun t529 => (if 5 + t529.size ≤ 9223372036854775807 then (if x3.size + ((⟨#[115, 108, 111, 119, 32]⟩ : ByteArray) ++ t529).size ≤ 9223372036854775807 then (slotmeshlaw02_Text.l0 k (x3 ++ ((⟨#[115, 108, 111, 119, 32]⟩ : ByteArray) ++ t529)) (wrap64 (x4 + 1)) x10 x11 (wrap64 (x12 + 1)) x520000 x520001 x520002 x520003) else (none)) else (none))) else ((strconv_Itoa.f (rd x520002 x4)).bind fun t531 => (if 5 + t531.size ≤ 9223372036854775807 then (if x3.size + ((⟨#[102, 97, 115, 116, 32]⟩ : ByteArray) ++ t531).size ≤ 9223372036854775807 then (slotmeshlaw02_Text.l0 k (x3 ++ ((⟨#[102, 97, 115, 116, 32]⟩ : ByteArray) ++ t531)) (wrap64 (x4 + 1)) x10 x11 (wrap64 (x12 + 1)) x520000 x520001 x520002 x520003) else (none)) else (none)))) else (none)) else (none)) else (if x3.size + x6.size ≤ 9223372036854775807 then (slotmeshlaw02_Text.l0 k (x3 ++ x6) x4 x10 x11 (wrap64 (x12 + 1)) x520000 x520001 x520002 x520003) else (none))))
end
def slotmeshlaw02_Text.f (k : Nat) (a0_0 : Int) (a0_1 : ByteArray) (l0_2 : List Int) (a0_3 : Int) : Option (ByteArray) := (slotmeshref02_Form.f a0_0).bind fun t520 => ((slotmeshref02_Parts.f k t520).bind fun t521 => (slotmeshlaw02_Text.l0 k (⟨#[]⟩ : ByteArray) 0 t521 (t521.length : Int) 0 a0_0 a0_1 l0_2 a0_3))
theorem slotmeshlaw02_Text.mono_l : ∀ k, (∀ y0 y1 y2 y3 y4 y5 y6 y7 y8, LeO (slotmeshlaw02_Text.l0 k y0 y1 y2 y3 y4 y5 y6 y7 y8) (slotmeshlaw02_Text.l0 (k + 1) y0 y1 y2 y3 y4 y5 y6 y7 y8)) ∧ (∀ y0 y1 y2 y3 y4 y5 y6 y7 y8 y9, LeO (slotmeshlaw02_Text.j1 k y0 y1 y2 y3 y4 y5 y6 y7 y8 y9) (slotmeshlaw02_Text.j1 (k + 1) y0 y1 y2 y3 y4 y5 y6 y7 y8 y9))
  | 0 => ⟨fun _ _ _ _ _ _ _ _ _ r h => by simp [slotmeshlaw02_Text.l0] at h, fun _ _ _ _ _ _ _ _ _ _ r h => by simp [slotmeshlaw02_Text.j1] at h⟩
  | k + 1 => by
    obtain ⟨ih0, ih1⟩ := slotmeshlaw02_Text.mono_l k
    refine ⟨?_, ?_⟩
    · intro y0 y1 y2 y3 y4 y5 y6 y7 y8
      unfold slotmeshlaw02_Text.l0
      repeat' first
      | (with_reducible exact ih0 _ _ _ _ _ _ _ _ _)
      | (with_reducible exact ih1 _ _ _ _ _ _ _ _ _ _)
      | (with_reducible exact slotmeshref02_Parts.mono _ _)
      | (with_reducible exact LeO.refl _)
      | (with_reducible exact LeO.none _)
      | (with_reducible refine LeO.ite ?_ ?_)
      | (with_reducible refine LeO.bind ?_ (fun _ => ?_))
      | exact ih0 _ _ _ _ _ _ _ _ _
      | exact ih1 _ _ _ _ _ _ _ _ _ _
      | exact slotmeshref02_Parts.mono _ _
      | exact LeO.none _
      | refine LeO.ite ?_ ?_
      | refine LeO.bind ?_ (fun _ => ?_)
    · intro y0 y1 y2 y3 y4 y5 y6 y7 y8 y9
      unfold slotmeshlaw02_Text.j1
      repeat' first
      | (with_reducible exact ih0 _ _ _ _ _ _ _ _ _)
      | (with_reducible exact ih1 _ _ _ _ _ _ _ _ _ _)
      | (with_reducible exact slotmeshref02_Parts.mono _ _)
      | (with_reducible exact LeO.refl _)
      | (with_reducible exact LeO.none _)
      | (with_reducible refine LeO.ite ?_ ?_)
      | (with_reducible refine LeO.bind ?_ (fun _ => ?_))
      | exact ih0 _ _ _ _ _ _ _ _ _
      | exact ih1 _ _ _ _ _ _ _ _ _ _
      | exact slotmeshref02_Parts.mono _ _
      | exact LeO.none _
      | refine LeO.ite ?_ ?_
      | refine LeO.bind ?_ (fun _ => ?_)
theorem slotmeshlaw02_Text.mono : ∀ a0 a1 a2 a3 k, LeO (slotmeshlaw02_Text.f k a0 a1 a2 a3) (slotmeshlaw02_Text.f (k + 1) a0 a1 a2 a3) := by
  intro a0 a1 a2 a3 k
  obtain ⟨ih0, ih1⟩ := slotmeshlaw02_Text.mono_l k
  unfold slotmeshlaw02_Text.f
  repeat' first
      | (with_reducible exact ih0 _ _ _ _ _ _ _ _ _)
      | (with_reducible exact ih1 _ _ _ _ _ _ _ _ _ _)
      | (with_reducible exact slotmeshref02_Parts.mono _ _)
      | (with_reducible exact LeO.refl _)
      | (with_reducible exact LeO.none _)
      | (with_reducible refine LeO.ite ?_ ?_)
      | (with_reducible refine LeO.bind ?_ (fun _ => ?_))
      | exact ih0 _ _ _ _ _ _ _ _ _
      | exact ih1 _ _ _ _ _ _ _ _ _ _
      | exact slotmeshref02_Parts.mono _ _
      | exact LeO.none _
      | refine LeO.ite ?_ ?_
      | refine LeO.bind ?_ (fun _ => ?_)
set_option maxHeartbeats 8000000 in
set_option maxRecDepth 100000 in
theorem slotmeshlaw02_Text.calls (k : Nat) (a0_0 : Int) (a0_1 : ByteArray) (A0_2 : Option Addr) (c0_2 : Nat) (l0_2 : List Int) (a0_3 : Int) (r : ByteArray) (w : World) (hG : Aside0 (Tx.GQ w)) (hr0_2 : Kd.C (Kd.int .i64) w A0_2 l0_2.length l0_2) (hc0_2 : l0_2.length ≤ c0_2) (h : slotmeshlaw02_Text.f k a0_0 a0_1 l0_2 a0_3 = some r) :
    Calls Tryd.prog 62 #[.agg #[.int .i64 a0_0, .string a0_1, .slice A0_2 l0_2.length c0_2, .int .i64 a0_3]] w fun e w' => e = .returned (.string r) ∧ Below w.heap.size w w' := by
  have hu40 := Tryd.underlying40
  have HR0_2 := Aside0.mk hr0_2
  have HC0_2 := Aside0.mk hc0_2
  clear hr0_2 hc0_2
  have HB := Aside0.mk (Below.refl w.heap.size w)
  have H : ((slotmeshref02_Form.f a0_0).bind fun t520 => ((slotmeshref02_Parts.f k t520).bind fun t521 => (slotmeshlaw02_Text.l0 k (⟨#[]⟩ : ByteArray) 0 t521 (t521.length : Int) 0 a0_0 a0_1 l0_2 a0_3))) = some r := h
  clear h
  replace H := Option.bind_eq_some_iff.mp H
  obtain ⟨t520, A20, H⟩ := H
  replace H : ((slotmeshref02_Parts.f k t520).bind fun t521 => (slotmeshlaw02_Text.l0 k (⟨#[]⟩ : ByteArray) 0 t521 (t521.length : Int) 0 a0_0 a0_1 l0_2 a0_3)) = some r := H
  have A2 := Aside0.mk A20
  clear A20
  replace H := Option.bind_eq_some_iff.mp H
  obtain ⟨t521, A30, H⟩ := H
  replace H : (slotmeshlaw02_Text.l0 k (⟨#[]⟩ : ByteArray) 0 t521 (t521.length : Int) 0 a0_0 a0_1 l0_2 a0_3) = some r := H
  have A3 := Aside0.mk A30
  clear A30
  have H' := Aside0.mk H
  clear H
  go_enter Tryd.func62, Tryd.ntmps62
  go_wp2_with (first | ((with_reducible refine gate_dst (N := 1) rfl ?_); refine box_event ?hg (N := 1) ?hd (cs := #[.int .i64 a0_0, .string a0_1, .slice A0_2 l0_2.length c0_2, .int .i64 a0_3]) (t := 40) ?hr ?_; (case hd => rfl); (case hg => rfl); (case hr => first | (go_simp; done) | (go_simp; rfl)); intro gb519 hg w4 hbox hb; have n0_ := Aside0.mk (below_step (by repeat (first | (with_reducible first | exact HB.out | apply below_alloc | apply pw_below_drewN | apply below_drew1) | exact HB.out)) hb); have n1_ := Aside0.mk (hbox); have n2_ := Aside0.mk ((by rw [hg]; exact (below_size (by repeat (first | (with_reducible first | exact HB.out | apply below_alloc | apply pw_below_drewN | apply below_drew1) | exact HB.out))) : w.heap.size ≤ gb519)); have n3_ := Aside0.mk ((by rw [hg]; exact (below_size (by repeat (first | (with_reducible first | exact HB.out | apply below_alloc | apply pw_below_drewN | apply below_drew1) | exact HB.out))) : w.heap.size ≤ gb519)); clear HB; have HB := n0_; have BK519 := n1_; have GW519 := n2_; have GE519 := n3_; clear n0_ n1_ n2_ n3_; clear hb hbox hg; have hcz5_0 : w4.cell? ⟨gb519, 0, none⟩ = some (.int .i64 a0_0) := (blk_cell BK519.out 0).trans rfl; have hcz5_1 : w4.cell? ⟨gb519, 1, none⟩ = some (.string a0_1) := (blk_cell BK519.out 1).trans rfl; have hcz5_2 : w4.cell? ⟨gb519, 2, none⟩ = some (.slice A0_2 l0_2.length c0_2) := (blk_cell BK519.out 2).trans rfl; have hcz5_3 : w4.cell? ⟨gb519, 3, none⟩ = some (.int .i64 a0_3) := (blk_cell BK519.out 3).trans rfl; have hfz5_0 := blk_frozen BK519.out 0; have hfz5_1 := blk_frozen BK519.out 1; have hfz5_2 := blk_frozen BK519.out 2; have hfz5_3 := blk_frozen BK519.out 3) | ((with_reducible refine gate_callee (f := 34) rfl ?_); refine goesL_ (some 9) rfl rfl Tryd.func34 (by kernel_rfl) rfl #[.int .i64 a0_0] rfl (by (try simp only [List.map_toArray, List.map_cons, List.map_nil]); first | done | rfl | (simp only [List.length_drop, List.length_take]; rfl) | (simp (disch := omega) only [IntWalk.wrap64_in]; done)) ?_; (with_reducible refine (slotmeshref02_Form.calls a0_0 t520 _ A2.out).mono ?_); rintro e w' ⟨rfl, ⟨nd, rfl⟩⟩; refine ⟨_, rfl, ?_⟩) | ((with_reducible refine gate_callee (f := 33) rfl ?_); refine goesL_ (some 10) rfl rfl Tryd.func33 (by kernel_rfl) rfl #[.string t520] rfl (by (try simp only [List.map_toArray, List.map_cons, List.map_nil]); first | done | rfl | (simp only [List.length_drop, List.length_take]; rfl) | (simp (disch := omega) only [IntWalk.wrap64_in]; done)) ?_; (with_reducible refine (slotmeshref02_Parts.calls k t520 t521 _ A3.out).mono ?_); rintro e w6 ⟨v522, rfl, ho0, hb⟩; refine ⟨_, rfl, ?_⟩; have n0_ := Aside0.mk (Kd.R_lower ho0 (below_size (by repeat (first | (with_reducible first | exact HB.out | apply below_alloc | apply pw_below_drewN | apply below_drew1 | refine below_set ?_ GE519.out) | exact HB.out)))); have n1_ := Aside0.mk (blk_below (g := gb519) (o := .cells #[.int .i64 a0_0, .string a0_1, .slice A0_2 l0_2.length c0_2, .int .i64 a0_3] 40 (0, 0)) (by (with_reducible repeat (first | refine blk_drewN ?_ _ | refine blk_drew ?_ | refine blk_alloc ?_ _)); exact BK519.out) hb); have n2_ := Aside0.mk (below_step (by repeat (first | (with_reducible first | exact HB.out | apply below_alloc | apply pw_below_drewN | apply below_drew1 | refine below_set ?_ GE519.out) | exact HB.out)) hb); clear BK519; clear HB; have HO523 := n0_; have BK519 := n1_; have HB := n2_; clear n0_ n1_ n2_; (try clear hb); (try clear hb2); (try clear hk); (try clear hi); (try clear ho0); obtain ⟨Ao7, co7, eo7⟩ := Kd.R_slice HO523.out; subst eo7))
  go_loopg [3, 4, 12] k (fun kq v3 v4 v12 w' => ∃ (x3_1 : ByteArray) (x4_1 : Int) (x12_1 : Int), v3 = .string x3_1 ∧ v4 = .int .i64 x4_1 ∧ v12 = .int .i64 x12_1 ∧ Aside0 (slotmeshlaw02_Text.l0 kq x3_1 x4_1 t521 (t521.length : Int) x12_1 a0_0 a0_1 l0_2 a0_3 = some r) ∧ Aside0 (kq ≤ k) ∧ Aside0 (Kd.R Kd.string 9 w' w.heap.size (fun _ => True) (.slice Ao7 t521.length co7) t521) ∧ Aside0 (w'.heap[gb519]? = some (.cells #[.int .i64 a0_0, .string a0_1, (.slice A0_2 l0_2.length c0_2), .int .i64 a0_3] 40 (0, 0))) ∧ Aside0 (Below w.heap.size w w'))
  case atStart => exact ⟨((⟨#[]⟩ : ByteArray)), (0), (0), (by first | rfl | (simp; done) | (simp [*]; done)), (by first | rfl | (simp; done) | (simp [*]; done)), (by first | rfl | (simp; done) | (simp [*]; done)), H', ⟨Nat.le_refl _⟩, ⟨by (with_reducible repeat (first | apply Kd.R_alloc | apply Kd.R_drewN | apply Kd.R_drew)); exact HO523.out⟩, ⟨by (with_reducible repeat (first | refine blk_drewN ?_ _ | refine blk_drew ?_ | refine blk_alloc ?_ _)); exact BK519.out⟩, ⟨by repeat (first | (with_reducible first | exact HB.out | apply below_alloc | apply pw_below_drewN | apply below_drew1 | refine below_set ?_ GE519.out) | exact HB.out)⟩⟩
  case round =>
    clear H'
    try clear p2
    try clear c3
    try clear c6
    try clear hcz5_0
    try clear hcz5_1
    try clear hcz5_2
    try clear hcz5_3
    try clear hfz5_0
    try clear hfz5_1
    try clear hfz5_2
    try clear hfz5_3
    obtain ⟨x3_1, x4_1, x12_1, rfl, rfl, rfl, HA, HK1, HO_10, BK519, HB⟩ := hrel
    cases gk with
    | zero => exact absurd HA.out (by simp [slotmeshlaw02_Text.l0])
    | succ k1 =>
      have H := HA.out
      clear HA
      simp only [slotmeshlaw02_Text.l0] at H
      by_cases c8 : x12_1 < (t521.length : Int)
      · rw [if_pos c8] at H
        have c8b0 : decide (x12_1 < (t521.length : Int)) = true := decide_eq_true c8
        clear c8
        by_cases c9 : 0 ≤ x12_1
        · rw [if_pos c9] at H
          have c9b0 : decide (0 ≤ x12_1) = true := decide_eq_true c9
          clear c9
          by_cases c10 : x12_1 < (t521.length : Int)
          · rw [if_pos c10] at H
            have c10b0 : decide (x12_1 < (t521.length : Int)) = true := decide_eq_true c10
            clear c10
            have HC11 := Aside0.mk H
            clear H
            have p524 : 0 ≤ (x12_1 : Int) := of_decide_eq_true (by first | (with_reducible assumption) | assumption)
            have q524 : x12_1 < (t521.length : Int) := of_decide_eq_true (by first | (with_reducible assumption) | assumption)
            obtain ⟨ad524, e524, hx524_0⟩ := Kd.at_string (Kd.R_reads' HO_10.out).2.2 x12_1 p524 q524
            cases e524
            replace p524 := eq_true p524
            replace q524 := eq_true q524
            go_upto_if 17 with (fail)
            go_cut [3] (fun v3 wc => ∃ (kq : Nat) (x3_10 : ByteArray), v3 = .string x3_10 ∧ Aside0 (slotmeshlaw02_Text.j1 kq x3_10 x4_1 (rdOf ByteArray.empty t521 x12_1) t521 (t521.length : Int) x12_1 a0_0 a0_1 l0_2 a0_3 = some r) ∧ Aside0 (kq ≤ k1) ∧ Aside0 (Kd.R Kd.string 9 wc w.heap.size (fun _ => True) (.slice (some ad524) t521.length co7) t521) ∧ Aside0 (wc.heap[gb519]? = some (.cells #[.int .i64 a0_0, .string a0_1, (.slice A0_2 l0_2.length c0_2), .int .i64 a0_3] 40 (0, 0))) ∧ Aside0 (Below w.heap.size w wc))
            case first =>
              have H := HC11.out
              clear HC11
              by_cases c12 : x3_1.toList = ([] : List UInt8)
              · rw [if_pos c12] at H
                have c12b0 : (x3_1.toList == ([] : List UInt8)) = true := beq_iff_eq.mpr c12
                have c12b1 : (x3_1.toList != ([] : List UInt8)) = false := bne_eq_false_iff_eq.mpr c12
                (try have c12b5 : (!x3_1.toList.isEmpty) = false := (by have h5_ : x3_1.toList.isEmpty = true := (by simp [c12]); rw [h5_]; rfl))
                clear c12
                (first | rw [c12b0] | (simp only [i64_w, i32_w]; rw [c12b0]) | skip)
                have H' := Aside0.mk H
                clear H
                go_wp2
                try (any_goals (exfalso; first | exact absurd ((show (!x3_1.toList.isEmpty) = true by assumption).symm.trans c12b5) (by decide)))
                go_meet
                case rel => exact ⟨_, (x3_1), (by first | rfl | (simp; done) | (simp [*]; done)), H', ⟨by have := HK1.out; first | omega | exact Nat.le_refl _⟩, ⟨by (with_reducible repeat (first | apply Kd.R_alloc | apply Kd.R_drewN | apply Kd.R_drew)); exact HO_10.out⟩, ⟨by (with_reducible repeat (first | refine blk_drewN ?_ _ | refine blk_drew ?_ | refine blk_alloc ?_ _)); exact BK519.out⟩, ⟨by repeat (first | (with_reducible first | exact HB.out | apply below_alloc | apply pw_below_drewN | apply below_drew1 | refine below_set ?_ GE519.out) | exact HB.out)⟩⟩
              · rw [if_neg c12] at H
                have c12b0 : (x3_1.toList == ([] : List UInt8)) = false := beq_eq_false_iff_ne.mpr c12
                have c12b1 : (x3_1.toList != ([] : List UInt8)) = true := bne_iff_ne.mpr c12
                (try have c12b5 : (!x3_1.toList.isEmpty) = true := (by have h5_ : x3_1.toList.isEmpty = false := (by rw [← Bool.not_eq_true]; intro h_; exact c12 (List.isEmpty_iff.1 h_)); rw [h5_]; rfl))
                (first | rw [c12b0] | (simp only [i64_w, i32_w]; rw [c12b0]) | skip)
                by_cases c13 : x3_1.size + 1 ≤ 9223372036854775807
                · rw [if_pos c13] at H
                  have c13b0 := eq_true c13
                  have c13b1 : decide (x3_1.size + 1 ≤ 9223372036854775807) = true := decide_eq_true c13
                  try have c13b2 : (9223372036854775807 < x3_1.size + 1) = False := eq_false (Nat.not_lt.2 c13)
                  have H' := Aside0.mk H
                  clear H
                  go_wp2
                  try (any_goals (exfalso; first | exact absurd ((show (!x3_1.toList.isEmpty) = false by assumption).symm.trans c12b5) (by decide)))
                  go_meet
                  case rel => exact ⟨_, (x3_1 ++ (⟨#[32]⟩ : ByteArray)), (by first | rfl | (simp; done) | (simp [*]; done)), H', ⟨by have := HK1.out; first | omega | exact Nat.le_refl _⟩, ⟨by (with_reducible repeat (first | apply Kd.R_alloc | apply Kd.R_drewN | apply Kd.R_drew)); exact HO_10.out⟩, ⟨by (with_reducible repeat (first | refine blk_drewN ?_ _ | refine blk_drew ?_ | refine blk_alloc ?_ _)); exact BK519.out⟩, ⟨by repeat (first | (with_reducible first | exact HB.out | apply below_alloc | apply pw_below_drewN | apply below_drew1 | refine below_set ?_ GE519.out) | exact HB.out)⟩⟩
                · rw [if_neg c13] at H
                  exact absurd H (by simp)
            case rest =>
              clear HC11
              try clear c1
              try clear p2
              try clear c3
              try clear p5
              try clear q5
              try clear hx5
              try clear c6
              try clear c8
              try clear c8b0
              try clear c9
              try clear c9b0
              try clear c10
              try clear c10b0
              try clear c12
              try clear c12b0
              try clear c12b1
              try clear c13
              try clear c13b0
              try clear c13b1
              try clear c13b2
              try clear hcz5_0
              try clear hcz5_1
              try clear hcz5_2
              try clear hcz5_3
              try clear hfz5_0
              try clear hfz5_1
              try clear hfz5_2
              try clear hfz5_3
              try clear hx524_0
              try clear p2
              try clear p524
              try clear q524
              obtain ⟨kq, x3_10, rfl, HA, HJ10, HO_10, BK519, HB⟩ := hcut
              cases kq with
              | zero => exact absurd HA.out (by simp [slotmeshlaw02_Text.j1])
              | succ kj10 =>
                have H := HA.out
                clear HA
                simp only [slotmeshlaw02_Text.j1] at H
                by_cases c14 : (rdOf ByteArray.empty t521 x12_1).toList = ([110] : List UInt8)
                · rw [if_pos c14] at H
                  have c14b0 : ((rdOf ByteArray.empty t521 x12_1).toList == ([110] : List UInt8)) = true := beq_iff_eq.mpr c14
                  have c14b1 : ((rdOf ByteArray.empty t521 x12_1).toList != ([110] : List UInt8)) = false := bne_eq_false_iff_eq.mpr c14
                  clear c14
                  by_cases c15 : x3_10.size + a0_1.size ≤ 9223372036854775807
                  · rw [if_pos c15] at H
                    have c15b0 := eq_true c15
                    have c15b1 : decide (x3_10.size + a0_1.size ≤ 9223372036854775807) = true := decide_eq_true c15
                    try have c15b2 : (9223372036854775807 < x3_10.size + a0_1.size) = False := eq_false (Nat.not_lt.2 c15)
                    have H' := Aside0.mk H
                    clear H
                    have hcz16_0 : wc.cell? ⟨gb519, 0, none⟩ = some (.int .i64 a0_0) := (blk_cell BK519.out 0).trans rfl
                    have hcz16_1 : wc.cell? ⟨gb519, 1, none⟩ = some (.string a0_1) := (blk_cell BK519.out 1).trans rfl
                    have hcz16_2 : wc.cell? ⟨gb519, 2, none⟩ = some (.slice A0_2 l0_2.length c0_2) := (blk_cell BK519.out 2).trans rfl
                    have hcz16_3 : wc.cell? ⟨gb519, 3, none⟩ = some (.int .i64 a0_3) := (blk_cell BK519.out 3).trans rfl
                    have hfz16_0 := blk_frozen BK519.out 0
                    have hfz16_1 := blk_frozen BK519.out 1
                    have hfz16_2 := blk_frozen BK519.out 2
                    have hfz16_3 := blk_frozen BK519.out 3
                    go_wp2
                    go_roundg kj10
                    case measure => have := HK1.out; have := HJ10.out; omega
                    case rel => exact ⟨(x3_10 ++ a0_1), (x4_1), (wrap64 (x12_1 + 1)), (by first | rfl | (simp; done) | (simp [*]; done)), (by first | rfl | (simp; done) | (simp [*]; done)), (by first | rfl | (simp; done) | (simp [*]; done)), H', ⟨by have := HK1.out; have := HJ10.out; omega⟩, ⟨by (with_reducible repeat (first | apply Kd.R_alloc | apply Kd.R_drewN | apply Kd.R_drew)); exact HO_10.out⟩, ⟨by (with_reducible repeat (first | refine blk_drewN ?_ _ | refine blk_drew ?_ | refine blk_alloc ?_ _)); exact BK519.out⟩, ⟨by repeat (first | (with_reducible first | exact HB.out | apply below_alloc | apply pw_below_drewN | apply below_drew1 | refine below_set ?_ GE519.out) | exact HB.out)⟩⟩
                  · rw [if_neg c15] at H
                    exact absurd H (by simp)
                · rw [if_neg c14] at H
                  have c14b0 : ((rdOf ByteArray.empty t521 x12_1).toList == ([110] : List UInt8)) = false := beq_eq_false_iff_ne.mpr c14
                  have c14b1 : ((rdOf ByteArray.empty t521 x12_1).toList != ([110] : List UInt8)) = true := bne_iff_ne.mpr c14
                  by_cases c17 : (rdOf ByteArray.empty t521 x12_1).toList = ([35] : List UInt8)
                  · rw [if_pos c17] at H
                    have c17b0 : ((rdOf ByteArray.empty t521 x12_1).toList == ([35] : List UInt8)) = true := beq_iff_eq.mpr c17
                    have c17b1 : ((rdOf ByteArray.empty t521 x12_1).toList != ([35] : List UInt8)) = false := bne_eq_false_iff_eq.mpr c17
                    clear c17
                    by_cases c18 : 0 ≤ x4_1
                    · rw [if_pos c18] at H
                      have c18b0 : decide (0 ≤ x4_1) = true := decide_eq_true c18
                      clear c18
                      by_cases c19 : x4_1 < (l0_2.length : Int)
                      · rw [if_pos c19] at H
                        have c19b0 : decide (x4_1 < (l0_2.length : Int)) = true := decide_eq_true c19
                        clear c19
                        replace H := Option.bind_eq_some_iff.mp H
                        obtain ⟨t526, A200, H⟩ := H
                        replace H : (if x3_10.size + t526.size ≤ 9223372036854775807 then (slotmeshlaw02_Text.l0 kj10 (x3_10 ++ t526) (wrap64 (x4_1 + 1)) t521 (t521.length : Int) (wrap64 (x12_1 + 1)) a0_0 a0_1 l0_2 a0_3) else (none)) = some r := H
                        have A20 := Aside0.mk A200
                        clear A200
                        by_cases c21 : x3_10.size + t526.size ≤ 9223372036854775807
                        · rw [if_pos c21] at H
                          have c21b0 := eq_true c21
                          have c21b1 : decide (x3_10.size + t526.size ≤ 9223372036854775807) = true := decide_eq_true c21
                          try have c21b2 : (9223372036854775807 < x3_10.size + t526.size) = False := eq_false (Nat.not_lt.2 c21)
                          have H' := Aside0.mk H
                          clear H
                          have hcz22_0 : wc.cell? ⟨gb519, 0, none⟩ = some (.int .i64 a0_0) := (blk_cell BK519.out 0).trans rfl
                          have hcz22_1 : wc.cell? ⟨gb519, 1, none⟩ = some (.string a0_1) := (blk_cell BK519.out 1).trans rfl
                          have hcz22_2 : wc.cell? ⟨gb519, 2, none⟩ = some (.slice A0_2 l0_2.length c0_2) := (blk_cell BK519.out 2).trans rfl
                          have hcz22_3 : wc.cell? ⟨gb519, 3, none⟩ = some (.int .i64 a0_3) := (blk_cell BK519.out 3).trans rfl
                          have hfz22_0 := blk_frozen BK519.out 0
                          have hfz22_1 := blk_frozen BK519.out 1
                          have hfz22_2 := blk_frozen BK519.out 2
                          have hfz22_3 := blk_frozen BK519.out 3
                          have p525 : 0 ≤ (x4_1 : Int) := of_decide_eq_true (by first | (with_reducible assumption) | assumption)
                          have q525 : x4_1 < (l0_2.length : Int) := of_decide_eq_true (by first | (with_reducible assumption) | assumption)
                          obtain ⟨ad525, e525, hx525_0⟩ := Kd.at_int HR0_2.out x4_1 p525 q525
                          cases e525
                          replace hx525_0 := (HB.out.cell (World.block_lt_of_cell? w _ hx525_0)).trans hx525_0
                          replace p525 := eq_true p525
                          replace q525 := eq_true q525
                          go_wp2_with (first | ((with_reducible refine gate_callee (f := 40) rfl ?_); refine goesL_ (some 38) rfl rfl Tryd.func40 (by kernel_rfl) rfl #[.int .i64 (rd l0_2 x4_1)] rfl (by (try simp only [List.map_toArray, List.map_cons, List.map_nil]); first | done | rfl | (simp only [List.length_drop, List.length_take]; rfl) | (simp (disch := omega) only [IntWalk.wrap64_in]; done)) ?_; (with_reducible refine (strconv_Itoa.calls (rd l0_2 x4_1) t526 _ ?side1 A20.out).mono ?_); (case side1 => exact Tx.GQ.aside hG (by repeat (first | (with_reducible first | exact HB.out | apply below_alloc | apply pw_below_drewN | apply below_drew1 | refine below_set ?_ GE519.out) | exact HB.out))); rintro e w23 ⟨rfl, hb⟩; refine ⟨_, rfl, ?_⟩; have n0_ := Aside0.mk (Kd.R_below (by (with_reducible repeat (first | apply Kd.R_alloc | apply Kd.R_drewN | apply Kd.R_drew)); exact HO_10.out) hb); have n1_ := Aside0.mk (blk_below (g := gb519) (o := .cells #[.int .i64 a0_0, .string a0_1, .slice (some ad525) l0_2.length c0_2, .int .i64 a0_3] 40 (0, 0)) (by (with_reducible repeat (first | refine blk_drewN ?_ _ | refine blk_drew ?_ | refine blk_alloc ?_ _)); exact BK519.out) hb); have n2_ := Aside0.mk (below_step (by repeat (first | (with_reducible first | exact HB.out | apply below_alloc | apply pw_below_drewN | apply below_drew1 | refine below_set ?_ GE519.out) | exact HB.out)) hb); clear HO_10; clear BK519; clear HB; have HO_10 := n0_; have BK519 := n1_; have HB := n2_; clear n0_ n1_ n2_; (try clear hb); (try clear hb2); (try clear hk); (try clear hi)))
                          go_roundg kj10
                          case measure => have := HK1.out; have := HJ10.out; omega
                          case rel => exact ⟨(x3_10 ++ t526), (wrap64 (x4_1 + 1)), (wrap64 (x12_1 + 1)), (by first | rfl | (simp; done) | (simp [*]; done)), (by first | rfl | (simp; done) | (simp [*]; done)), (by first | rfl | (simp; done) | (simp [*]; done)), H', ⟨by have := HK1.out; have := HJ10.out; omega⟩, ⟨by (with_reducible repeat (first | apply Kd.R_alloc | apply Kd.R_drewN | apply Kd.R_drew)); exact HO_10.out⟩, ⟨by (with_reducible repeat (first | refine blk_drewN ?_ _ | refine blk_drew ?_ | refine blk_alloc ?_ _)); exact BK519.out⟩, ⟨by repeat (first | (with_reducible first | exact HB.out | apply below_alloc | apply pw_below_drewN | apply below_drew1 | refine below_set ?_ GE519.out) | exact HB.out)⟩⟩
                        · rw [if_neg c21] at H
                          exact absurd H (by simp)
                      · rw [if_neg c19] at H
                        exact absurd H (by simp)
                    · rw [if_neg c18] at H
                      exact absurd H (by simp)
                  · rw [if_neg c17] at H
                    have c17b0 : ((rdOf ByteArray.empty t521 x12_1).toList == ([35] : List UInt8)) = false := beq_eq_false_iff_ne.mpr c17
                    have c17b1 : ((rdOf ByteArray.empty t521 x12_1).toList != ([35] : List UInt8)) = true := bne_iff_ne.mpr c17
                    by_cases c24 : (rdOf ByteArray.empty t521 x12_1).toList = ([100] : List UInt8)
                    · rw [if_pos c24] at H
                      have c24b0 : ((rdOf ByteArray.empty t521 x12_1).toList == ([100] : List UInt8)) = true := beq_iff_eq.mpr c24
                      have c24b1 : ((rdOf ByteArray.empty t521 x12_1).toList != ([100] : List UInt8)) = false := bne_eq_false_iff_eq.mpr c24
                      clear c24
                      by_cases c25 : 0 ≤ x4_1
                      · rw [if_pos c25] at H
                        have c25b0 : decide (0 ≤ x4_1) = true := decide_eq_true c25
                        clear c25
                        by_cases c26 : x4_1 < (l0_2.length : Int)
                        · rw [if_pos c26] at H
                          have c26b0 : decide (x4_1 < (l0_2.length : Int)) = true := decide_eq_true c26
                          clear c26
                          by_cases c27 : (rd l0_2 x4_1) < 0
                          · rw [if_pos c27] at H
                            have c27b0 : decide ((rd l0_2 x4_1) < 0) = true := decide_eq_true c27
                            clear c27
                            replace H := Option.bind_eq_some_iff.mp H
                            obtain ⟨t529, A280, H⟩ := H
                            replace H : (if 5 + t529.size ≤ 9223372036854775807 then (if x3_10.size + ((⟨#[115, 108, 111, 119, 32]⟩ : ByteArray) ++ t529).size ≤ 9223372036854775807 then (slotmeshlaw02_Text.l0 kj10 (x3_10 ++ ((⟨#[115, 108, 111, 119, 32]⟩ : ByteArray) ++ t529)) (wrap64 (x4_1 + 1)) t521 (t521.length : Int) (wrap64 (x12_1 + 1)) a0_0 a0_1 l0_2 a0_3) else (none)) else (none)) = some r := H
                            have A28 := Aside0.mk A280
                            clear A280
                            by_cases c29 : 5 + t529.size ≤ 9223372036854775807
                            · rw [if_pos c29] at H
                              have c29b0 := eq_true c29
                              have c29b1 : decide (5 + t529.size ≤ 9223372036854775807) = true := decide_eq_true c29
                              try have c29b2 : (9223372036854775807 < 5 + t529.size) = False := eq_false (Nat.not_lt.2 c29)
                              by_cases c30 : x3_10.size + ((⟨#[115, 108, 111, 119, 32]⟩ : ByteArray) ++ t529).size ≤ 9223372036854775807
                              · rw [if_pos c30] at H
                                have c30b0 := eq_true c30
                                have c30b1 : decide (x3_10.size + ((⟨#[115, 108, 111, 119, 32]⟩ : ByteArray) ++ t529).size ≤ 9223372036854775807) = true := decide_eq_true c30
                                try have c30b2 : (9223372036854775807 < x3_10.size + ((⟨#[115, 108, 111, 119, 32]⟩ : ByteArray) ++ t529).size) = False := eq_false (Nat.not_lt.2 c30)
                                have H' := Aside0.mk H
                                clear H
                                have hcz31_0 : wc.cell? ⟨gb519, 0, none⟩ = some (.int .i64 a0_0) := (blk_cell BK519.out 0).trans rfl
                                have hcz31_1 : wc.cell? ⟨gb519, 1, none⟩ = some (.string a0_1) := (blk_cell BK519.out 1).trans rfl
                                have hcz31_2 : wc.cell? ⟨gb519, 2, none⟩ = some (.slice A0_2 l0_2.length c0_2) := (blk_cell BK519.out 2).trans rfl
                                have hcz31_3 : wc.cell? ⟨gb519, 3, none⟩ = some (.int .i64 a0_3) := (blk_cell BK519.out 3).trans rfl
                                have hfz31_0 := blk_frozen BK519.out 0
                                have hfz31_1 := blk_frozen BK519.out 1
                                have hfz31_2 := blk_frozen BK519.out 2
                                have hfz31_3 := blk_frozen BK519.out 3
                                have p527 : 0 ≤ (x4_1 : Int) := of_decide_eq_true (by first | (with_reducible assumption) | assumption)
                                have q527 : x4_1 < (l0_2.length : Int) := of_decide_eq_true (by first | (with_reducible assumption) | assumption)
                                obtain ⟨ad527, e527, hx527_0⟩ := Kd.at_int HR0_2.out x4_1 p527 q527
                                cases e527
                                replace hx527_0 := (HB.out.cell (World.block_lt_of_cell? w _ hx527_0)).trans hx527_0
                                replace p527 := eq_true p527
                                replace q527 := eq_true q527
                                have p528 : 0 ≤ (x4_1 : Int) := of_decide_eq_true (by first | (with_reducible assumption) | assumption)
                                have q528 : x4_1 < (l0_2.length : Int) := of_decide_eq_true (by first | (with_reducible assumption) | assumption)
                                obtain ⟨ad528, e528, hx528_0⟩ := Kd.at_int HR0_2.out x4_1 p528 q528
                                obtain rfl : ad527 = ad528 := (by injection e528)
                                replace hx528_0 := (HB.out.cell (World.block_lt_of_cell? w _ hx528_0)).trans hx528_0
                                replace p528 := eq_true p528
                                replace q528 := eq_true q528
                                go_wp2_with (first | ((with_reducible refine gate_callee (f := 40) rfl ?_); refine goesL_ (some 57) rfl rfl Tryd.func40 (by kernel_rfl) rfl #[.int .i64 (wrap64 (-(rd l0_2 x4_1)))] rfl (by (try simp only [List.map_toArray, List.map_cons, List.map_nil]); first | done | rfl | (simp only [List.length_drop, List.length_take]; rfl) | (simp (disch := omega) only [IntWalk.wrap64_in]; done)) ?_; (with_reducible refine (strconv_Itoa.calls (wrap64 (-(rd l0_2 x4_1))) t529 _ ?side1 A28.out).mono ?_); (case side1 => exact Tx.GQ.aside hG (by repeat (first | (with_reducible first | exact HB.out | apply below_alloc | apply pw_below_drewN | apply below_drew1 | refine below_set ?_ GE519.out) | exact HB.out))); rintro e w32 ⟨rfl, hb⟩; refine ⟨_, rfl, ?_⟩; have n0_ := Aside0.mk (Kd.R_below (by (with_reducible repeat (first | apply Kd.R_alloc | apply Kd.R_drewN | apply Kd.R_drew)); exact HO_10.out) hb); have n1_ := Aside0.mk (blk_below (g := gb519) (o := .cells #[.int .i64 a0_0, .string a0_1, .slice (some ad527) l0_2.length c0_2, .int .i64 a0_3] 40 (0, 0)) (by (with_reducible repeat (first | refine blk_drewN ?_ _ | refine blk_drew ?_ | refine blk_alloc ?_ _)); exact BK519.out) hb); have n2_ := Aside0.mk (below_step (by repeat (first | (with_reducible first | exact HB.out | apply below_alloc | apply pw_below_drewN | apply below_drew1 | refine below_set ?_ GE519.out) | exact HB.out)) hb); clear HO_10; clear BK519; clear HB; have HO_10 := n0_; have BK519 := n1_; have HB := n2_; clear n0_ n1_ n2_; (try clear hb); (try clear hb2); (try clear hk); (try clear hi)))
                                go_roundg kj10
                                case measure => have := HK1.out; have := HJ10.out; omega
                                case rel => exact ⟨(x3_10 ++ ((⟨#[115, 108, 111, 119, 32]⟩ : ByteArray) ++ t529)), (wrap64 (x4_1 + 1)), (wrap64 (x12_1 + 1)), (by first | rfl | (simp; done) | (simp [*]; done)), (by first | rfl | (simp; done) | (simp [*]; done)), (by first | rfl | (simp; done) | (simp [*]; done)), H', ⟨by have := HK1.out; have := HJ10.out; omega⟩, ⟨by (with_reducible repeat (first | apply Kd.R_alloc | apply Kd.R_drewN | apply Kd.R_drew)); exact HO_10.out⟩, ⟨by (with_reducible repeat (first | refine blk_drewN ?_ _ | refine blk_drew ?_ | refine blk_alloc ?_ _)); exact BK519.out⟩, ⟨by repeat (first | (with_reducible first | exact HB.out | apply below_alloc | apply pw_below_drewN | apply below_drew1 | refine below_set ?_ GE519.out) | exact HB.out)⟩⟩
                              · rw [if_neg c30] at H
                                exact absurd H (by simp)
                            · rw [if_neg c29] at H
                              exact absurd H (by simp)
                          · rw [if_neg c27] at H
                            have c27b0 : decide ((rd l0_2 x4_1) < 0) = false := decide_eq_false c27
                            clear c27
                            replace H := Option.bind_eq_some_iff.mp H
                            obtain ⟨t531, A330, H⟩ := H
                            replace H : (if 5 + t531.size ≤ 9223372036854775807 then (if x3_10.size + ((⟨#[102, 97, 115, 116, 32]⟩ : ByteArray) ++ t531).size ≤ 9223372036854775807 then (slotmeshlaw02_Text.l0 kj10 (x3_10 ++ ((⟨#[102, 97, 115, 116, 32]⟩ : ByteArray) ++ t531)) (wrap64 (x4_1 + 1)) t521 (t521.length : Int) (wrap64 (x12_1 + 1)) a0_0 a0_1 l0_2 a0_3) else (none)) else (none)) = some r := H
                            have A33 := Aside0.mk A330
                            clear A330
                            by_cases c34 : 5 + t531.size ≤ 9223372036854775807
                            · rw [if_pos c34] at H
                              have c34b0 := eq_true c34
                              have c34b1 : decide (5 + t531.size ≤ 9223372036854775807) = true := decide_eq_true c34
                              try have c34b2 : (9223372036854775807 < 5 + t531.size) = False := eq_false (Nat.not_lt.2 c34)
                              by_cases c35 : x3_10.size + ((⟨#[102, 97, 115, 116, 32]⟩ : ByteArray) ++ t531).size ≤ 9223372036854775807
                              · rw [if_pos c35] at H
                                have c35b0 := eq_true c35
                                have c35b1 : decide (x3_10.size + ((⟨#[102, 97, 115, 116, 32]⟩ : ByteArray) ++ t531).size ≤ 9223372036854775807) = true := decide_eq_true c35
                                try have c35b2 : (9223372036854775807 < x3_10.size + ((⟨#[102, 97, 115, 116, 32]⟩ : ByteArray) ++ t531).size) = False := eq_false (Nat.not_lt.2 c35)
                                have H' := Aside0.mk H
                                clear H
                                have hcz36_0 : wc.cell? ⟨gb519, 0, none⟩ = some (.int .i64 a0_0) := (blk_cell BK519.out 0).trans rfl
                                have hcz36_1 : wc.cell? ⟨gb519, 1, none⟩ = some (.string a0_1) := (blk_cell BK519.out 1).trans rfl
                                have hcz36_2 : wc.cell? ⟨gb519, 2, none⟩ = some (.slice A0_2 l0_2.length c0_2) := (blk_cell BK519.out 2).trans rfl
                                have hcz36_3 : wc.cell? ⟨gb519, 3, none⟩ = some (.int .i64 a0_3) := (blk_cell BK519.out 3).trans rfl
                                have hfz36_0 := blk_frozen BK519.out 0
                                have hfz36_1 := blk_frozen BK519.out 1
                                have hfz36_2 := blk_frozen BK519.out 2
                                have hfz36_3 := blk_frozen BK519.out 3
                                have p527 : 0 ≤ (x4_1 : Int) := of_decide_eq_true (by first | (with_reducible assumption) | assumption)
                                have q527 : x4_1 < (l0_2.length : Int) := of_decide_eq_true (by first | (with_reducible assumption) | assumption)
                                obtain ⟨ad527, e527, hx527_0⟩ := Kd.at_int HR0_2.out x4_1 p527 q527
                                cases e527
                                replace hx527_0 := (HB.out.cell (World.block_lt_of_cell? w _ hx527_0)).trans hx527_0
                                replace p527 := eq_true p527
                                replace q527 := eq_true q527
                                have p530 : 0 ≤ (x4_1 : Int) := of_decide_eq_true (by first | (with_reducible assumption) | assumption)
                                have q530 : x4_1 < (l0_2.length : Int) := of_decide_eq_true (by first | (with_reducible assumption) | assumption)
                                obtain ⟨ad530, e530, hx530_0⟩ := Kd.at_int HR0_2.out x4_1 p530 q530
                                obtain rfl : ad527 = ad530 := (by injection e530)
                                replace hx530_0 := (HB.out.cell (World.block_lt_of_cell? w _ hx530_0)).trans hx530_0
                                replace p530 := eq_true p530
                                replace q530 := eq_true q530
                                go_wp2_with (first | ((with_reducible refine gate_callee (f := 40) rfl ?_); refine goesL_ (some 66) rfl rfl Tryd.func40 (by kernel_rfl) rfl #[.int .i64 (rd l0_2 x4_1)] rfl (by (try simp only [List.map_toArray, List.map_cons, List.map_nil]); first | done | rfl | (simp only [List.length_drop, List.length_take]; rfl) | (simp (disch := omega) only [IntWalk.wrap64_in]; done)) ?_; (with_reducible refine (strconv_Itoa.calls (rd l0_2 x4_1) t531 _ ?side1 A33.out).mono ?_); (case side1 => exact Tx.GQ.aside hG (by repeat (first | (with_reducible first | exact HB.out | apply below_alloc | apply pw_below_drewN | apply below_drew1 | refine below_set ?_ GE519.out) | exact HB.out))); rintro e w37 ⟨rfl, hb⟩; refine ⟨_, rfl, ?_⟩; have n0_ := Aside0.mk (Kd.R_below (by (with_reducible repeat (first | apply Kd.R_alloc | apply Kd.R_drewN | apply Kd.R_drew)); exact HO_10.out) hb); have n1_ := Aside0.mk (blk_below (g := gb519) (o := .cells #[.int .i64 a0_0, .string a0_1, .slice (some ad527) l0_2.length c0_2, .int .i64 a0_3] 40 (0, 0)) (by (with_reducible repeat (first | refine blk_drewN ?_ _ | refine blk_drew ?_ | refine blk_alloc ?_ _)); exact BK519.out) hb); have n2_ := Aside0.mk (below_step (by repeat (first | (with_reducible first | exact HB.out | apply below_alloc | apply pw_below_drewN | apply below_drew1 | refine below_set ?_ GE519.out) | exact HB.out)) hb); clear HO_10; clear BK519; clear HB; have HO_10 := n0_; have BK519 := n1_; have HB := n2_; clear n0_ n1_ n2_; (try clear hb); (try clear hb2); (try clear hk); (try clear hi)))
                                go_roundg kj10
                                case measure => have := HK1.out; have := HJ10.out; omega
                                case rel => exact ⟨(x3_10 ++ ((⟨#[102, 97, 115, 116, 32]⟩ : ByteArray) ++ t531)), (wrap64 (x4_1 + 1)), (wrap64 (x12_1 + 1)), (by first | rfl | (simp; done) | (simp [*]; done)), (by first | rfl | (simp; done) | (simp [*]; done)), (by first | rfl | (simp; done) | (simp [*]; done)), H', ⟨by have := HK1.out; have := HJ10.out; omega⟩, ⟨by (with_reducible repeat (first | apply Kd.R_alloc | apply Kd.R_drewN | apply Kd.R_drew)); exact HO_10.out⟩, ⟨by (with_reducible repeat (first | refine blk_drewN ?_ _ | refine blk_drew ?_ | refine blk_alloc ?_ _)); exact BK519.out⟩, ⟨by repeat (first | (with_reducible first | exact HB.out | apply below_alloc | apply pw_below_drewN | apply below_drew1 | refine below_set ?_ GE519.out) | exact HB.out)⟩⟩
                              · rw [if_neg c35] at H
                                exact absurd H (by simp)
                            · rw [if_neg c34] at H
                              exact absurd H (by simp)
                        · rw [if_neg c26] at H
                          exact absurd H (by simp)
                      · rw [if_neg c25] at H
                        exact absurd H (by simp)
                    · rw [if_neg c24] at H
                      have c24b0 : ((rdOf ByteArray.empty t521 x12_1).toList == ([100] : List UInt8)) = false := beq_eq_false_iff_ne.mpr c24
                      have c24b1 : ((rdOf ByteArray.empty t521 x12_1).toList != ([100] : List UInt8)) = true := bne_iff_ne.mpr c24
                      by_cases c38 : x3_10.size + (rdOf ByteArray.empty t521 x12_1).size ≤ 9223372036854775807
                      · rw [if_pos c38] at H
                        have c38b0 := eq_true c38
                        have c38b1 : decide (x3_10.size + (rdOf ByteArray.empty t521 x12_1).size ≤ 9223372036854775807) = true := decide_eq_true c38
                        try have c38b2 : (9223372036854775807 < x3_10.size + (rdOf ByteArray.empty t521 x12_1).size) = False := eq_false (Nat.not_lt.2 c38)
                        have H' := Aside0.mk H
                        clear H
                        go_wp2
                        go_roundg kj10
                        case measure => have := HK1.out; have := HJ10.out; omega
                        case rel => exact ⟨(x3_10 ++ (rdOf ByteArray.empty t521 x12_1)), (x4_1), (wrap64 (x12_1 + 1)), (by first | rfl | (simp; done) | (simp [*]; done)), (by first | rfl | (simp; done) | (simp [*]; done)), (by first | rfl | (simp; done) | (simp [*]; done)), H', ⟨by have := HK1.out; have := HJ10.out; omega⟩, ⟨by (with_reducible repeat (first | apply Kd.R_alloc | apply Kd.R_drewN | apply Kd.R_drew)); exact HO_10.out⟩, ⟨by (with_reducible repeat (first | refine blk_drewN ?_ _ | refine blk_drew ?_ | refine blk_alloc ?_ _)); exact BK519.out⟩, ⟨by repeat (first | (with_reducible first | exact HB.out | apply below_alloc | apply pw_below_drewN | apply below_drew1 | refine below_set ?_ GE519.out) | exact HB.out)⟩⟩
                      · rw [if_neg c38] at H
                        exact absurd H (by simp)
          · rw [if_neg c10] at H
            exact absurd H (by simp)
        · rw [if_neg c9] at H
          exact absurd H (by simp)
      · rw [if_neg c8] at H
        have c8b0 : decide (x12_1 < (t521.length : Int)) = false := decide_eq_false c8
        clear c8
        by_cases c39 : x3_1.size + 1 ≤ 9223372036854775807
        · rw [if_pos c39] at H
          have c39b0 := eq_true c39
          have c39b1 : decide (x3_1.size + 1 ≤ 9223372036854775807) = true := decide_eq_true c39
          try have c39b2 : (9223372036854775807 < x3_1.size + 1) = False := eq_false (Nat.not_lt.2 c39)
          obtain rfl := Option.some.inj H
          go_wp2
          go_ret
          exact ⟨by first | rfl | (simp [errW_none, errW_some] <;> rfl) | (simp [*, errW_none, errW_some] <;> rfl), by repeat (first | (with_reducible first | exact HB.out | apply below_alloc | apply pw_below_drewN | apply below_drew1 | refine below_set ?_ GE519.out) | exact HB.out)⟩
        · rw [if_neg c39] at H
          exact absurd H (by simp)
end Go.Proofs.YtdedlchpjboceaaDoor.PE
end

section
namespace Go.Proofs.YtdedlchpjboceaaDoor.PE
open Go.RowKit Go.Proofs.YtdedlchpjboceaaDoorW.PrintWords Go.Proofs.YtdedlchpjboceaaDoorW.PrintLast Go.Proofs.YtdedlchpjboceaaDoorW.PrintMore
attribute [local go_sem] max2_int min2_int max_two min_two max_three min_three max_four min_four   -- for this text's walks alone
def slotmeshlaw02_Script.l0 : Nat → ByteArray → List (S40) → Int → Int → Option (ByteArray)
  | 0, _, _, _, _ => none
  | k + 1, x3, x6, x7, x8 => if x8 < x7 then (if 0 ≤ x8 then (if x8 < (x6.length : Int) then ((slotmeshlaw02_Text.f k ((rd_T40 x6 x8).f0) ((rd_T40 x6 x8).f1) ((rd_T40 x6 x8).f2) ((rd_T40 x6 x8).f3)).bind fun t534 => (if t534.size + 1 ≤ 9223372036854775807 then (if x3.size + (t534 ++ (⟨#[10]⟩ : ByteArray)).size ≤ 9223372036854775807 then (slotmeshlaw02_Script.l0 k (x3 ++ (t534 ++ (⟨#[10]⟩ : ByteArray))) x6 x7 (wrap64 (x8 + 1))) else (none)) else (none))) else (none)) else (none)) else (some x3)
def slotmeshlaw02_Script.f (k : Nat) (l0 : List (S40)) : Option (ByteArray) := slotmeshlaw02_Script.l0 k (⟨#[]⟩ : ByteArray) l0 (l0.length : Int) 0
theorem slotmeshlaw02_Script.mono_l : ∀ k, (∀ y0 y1 y2 y3, LeO (slotmeshlaw02_Script.l0 k y0 y1 y2 y3) (slotmeshlaw02_Script.l0 (k + 1) y0 y1 y2 y3))
  | 0 => fun _ _ _ _ r h => by simp [slotmeshlaw02_Script.l0] at h
  | k + 1 => by
    have ih0 := slotmeshlaw02_Script.mono_l k
    · intro y0 y1 y2 y3
      unfold slotmeshlaw02_Script.l0
      repeat' first
      | (with_reducible exact ih0 _ _ _ _)
      | (with_reducible exact slotmeshlaw02_Text.mono _ _ _ _ _)
      | (with_reducible exact LeO.refl _)
      | (with_reducible exact LeO.none _)
      | (with_reducible refine LeO.ite ?_ ?_)
      | (with_reducible refine LeO.bind ?_ (fun _ => ?_))
      | exact ih0 _ _ _ _
      | exact slotmeshlaw02_Text.mono _ _ _ _ _
      | exact LeO.none _
      | refine LeO.ite ?_ ?_
      | refine LeO.bind ?_ (fun _ => ?_)
theorem slotmeshlaw02_Script.mono : ∀ a0 k, LeO (slotmeshlaw02_Script.f k a0) (slotmeshlaw02_Script.f (k + 1) a0) := by
  intro a0 k
  have ih0 := slotmeshlaw02_Script.mono_l k
  unfold slotmeshlaw02_Script.f
  repeat' first
      | (with_reducible exact ih0 _ _ _ _)
      | (with_reducible exact slotmeshlaw02_Text.mono _ _ _ _ _)
      | (with_reducible exact LeO.refl _)
      | (with_reducible exact LeO.none _)
      | (with_reducible refine LeO.ite ?_ ?_)
      | (with_reducible refine LeO.bind ?_ (fun _ => ?_))
      | exact ih0 _ _ _ _
      | exact slotmeshlaw02_Text.mono _ _ _ _ _
      | exact LeO.none _
      | refine LeO.ite ?_ ?_
      | refine LeO.bind ?_ (fun _ => ?_)
set_option maxHeartbeats 8000000 in
set_option maxRecDepth 100000 in
theorem slotmeshlaw02_Script.calls (k : Nat) (A0 : Option Addr) (c0 : Nat) (l0 : List (S40)) (r : ByteArray) (w : World) (hG : Aside0 (Tx.GQ w)) (hr0 : Kd.C k40 w A0 l0.length l0) (hc0 : l0.length ≤ c0) (h : slotmeshlaw02_Script.f k l0 = some r) :
    Calls Tryd.prog 37 #[.slice A0 l0.length c0] w fun e w' => e = .returned (.string r) ∧ Below w.heap.size w w' := by
  have hu40 := Tryd.underlying40
  have HR0 := Aside0.mk hr0
  have HC0 := Aside0.mk hc0
  clear hr0 hc0
  have HB := Aside0.mk (Below.refl w.heap.size w)
  have H : (slotmeshlaw02_Script.l0 k (⟨#[]⟩ : ByteArray) l0 (l0.length : Int) 0) = some r := h
  clear h
  have H' := Aside0.mk H
  clear H
  go_enter Tryd.func37, Tryd.ntmps37
  go_wp2
  go_loopg [3, 8] k (fun kq v3 v8 w' => ∃ (x3_1 : ByteArray) (x8_1 : Int), v3 = .string x3_1 ∧ v8 = .int .i64 x8_1 ∧ Aside0 (slotmeshlaw02_Script.l0 kq x3_1 l0 (l0.length : Int) x8_1 = some r) ∧ Aside0 (kq ≤ k) ∧ Aside0 (Below w.heap.size w w'))
  case atStart => exact ⟨((⟨#[]⟩ : ByteArray)), (0), (by first | rfl | (simp; done) | (simp [*]; done)), (by first | rfl | (simp; done) | (simp [*]; done)), H', ⟨Nat.le_refl _⟩, ⟨by repeat (first | (with_reducible first | exact HB.out | apply below_alloc | apply pw_below_drewN | apply below_drew1) | exact HB.out)⟩⟩
  case round =>
    clear H'
    obtain ⟨x3_1, x8_1, rfl, rfl, HA, HK1, HB⟩ := hrel
    cases gk with
    | zero => exact absurd HA.out (by simp [slotmeshlaw02_Script.l0])
    | succ k1 =>
      have H := HA.out
      clear HA
      simp only [slotmeshlaw02_Script.l0] at H
      by_cases c2 : x8_1 < (l0.length : Int)
      · rw [if_pos c2] at H
        have c2b0 : decide (x8_1 < (l0.length : Int)) = true := decide_eq_true c2
        clear c2
        by_cases c3 : 0 ≤ x8_1
        · rw [if_pos c3] at H
          have c3b0 : decide (0 ≤ x8_1) = true := decide_eq_true c3
          clear c3
          by_cases c4 : x8_1 < (l0.length : Int)
          · rw [if_pos c4] at H
            have c4b0 : decide (x8_1 < (l0.length : Int)) = true := decide_eq_true c4
            clear c4
            replace H := Option.bind_eq_some_iff.mp H
            obtain ⟨t534, A50, H⟩ := H
            replace H : (if t534.size + 1 ≤ 9223372036854775807 then (if x3_1.size + (t534 ++ (⟨#[10]⟩ : ByteArray)).size ≤ 9223372036854775807 then (slotmeshlaw02_Script.l0 k1 (x3_1 ++ (t534 ++ (⟨#[10]⟩ : ByteArray))) l0 (l0.length : Int) (wrap64 (x8_1 + 1))) else (none)) else (none)) = some r := H
            have A5 := Aside0.mk A50
            clear A50
            by_cases c6 : t534.size + 1 ≤ 9223372036854775807
            · rw [if_pos c6] at H
              have c6b0 := eq_true c6
              have c6b1 : decide (t534.size + 1 ≤ 9223372036854775807) = true := decide_eq_true c6
              try have c6b2 : (9223372036854775807 < t534.size + 1) = False := eq_false (Nat.not_lt.2 c6)
              by_cases c7 : x3_1.size + (t534 ++ (⟨#[10]⟩ : ByteArray)).size ≤ 9223372036854775807
              · rw [if_pos c7] at H
                have c7b0 := eq_true c7
                have c7b1 : decide (x3_1.size + (t534 ++ (⟨#[10]⟩ : ByteArray)).size ≤ 9223372036854775807) = true := decide_eq_true c7
                try have c7b2 : (9223372036854775807 < x3_1.size + (t534 ++ (⟨#[10]⟩ : ByteArray)).size) = False := eq_false (Nat.not_lt.2 c7)
                have H' := Aside0.mk H
                clear H
                have p532 : 0 ≤ (x8_1 : Int) := of_decide_eq_true (by first | (with_reducible assumption) | assumption)
                have q532 : x8_1 < (l0.length : Int) := of_decide_eq_true (by first | (with_reducible assumption) | assumption)
                obtain ⟨ad532, A532_2, c532_2, e532, hx532_0, hx532_1, hx532_2, hx532_3, hl532_2, hi532_2⟩ := at_T40 HR0.out x8_1 p532 q532
                cases e532
                replace hx532_0 := (HB.out.cell (World.block_lt_of_cell? w _ hx532_0)).trans hx532_0
                replace hx532_1 := (HB.out.cell (World.block_lt_of_cell? w _ hx532_1)).trans hx532_1
                replace hx532_2 := (HB.out.cell (World.block_lt_of_cell? w _ hx532_2)).trans hx532_2
                replace hx532_3 := (HB.out.cell (World.block_lt_of_cell? w _ hx532_3)).trans hx532_3
                have HR532_2 := Aside0.mk hi532_2
                have HC532_2 := Aside0.mk hl532_2
                clear hi532_2 hl532_2
                replace p532 := eq_true p532
                replace q532 := eq_true q532
                go_wp2_with (first | ((with_reducible refine gate_dst (N := 5) rfl ?_); refine box_event ?hg (N := 5) ?hd (cs := #[.int .i64 0, .string (⟨#[]⟩ : ByteArray), .slice none 0 0, .int .i64 0]) (t := 40) ?hr ?_; (case hd => rfl); (case hg => rfl); (case hr => first | (go_simp; done) | (go_simp; rfl)); intro gb533 hg w8 hbox hb; have n0_ := Aside0.mk (below_step (by repeat (first | (with_reducible first | exact HB.out | apply below_alloc | apply pw_below_drewN | apply below_drew1) | exact HB.out)) hb); have n1_ := Aside0.mk (hbox); have n2_ := Aside0.mk ((by rw [hg]; exact (below_size (by repeat (first | (with_reducible first | exact HB.out | apply below_alloc | apply pw_below_drewN | apply below_drew1) | exact HB.out))) : w.heap.size ≤ gb533)); have n3_ := Aside0.mk ((by rw [hg]; exact (below_size (by repeat (first | (with_reducible first | exact HB.out | apply below_alloc | apply pw_below_drewN | apply below_drew1) | exact HB.out))) : w.heap.size ≤ gb533)); clear HB; have HB := n0_; have BK533 := n1_; have GW533 := n2_; have GE533 := n3_; clear n0_ n1_ n2_ n3_; clear hb hbox hg; have hcz9_0 : w8.cell? ⟨gb533, 0, none⟩ = some (.int .i64 0) := (blk_cell BK533.out 0).trans rfl; have hcz9_1 : w8.cell? ⟨gb533, 1, none⟩ = some (.string (⟨#[]⟩ : ByteArray)) := (blk_cell BK533.out 1).trans rfl; have hcz9_2 : w8.cell? ⟨gb533, 2, none⟩ = some (.slice none 0 0) := (blk_cell BK533.out 2).trans rfl; have hcz9_3 : w8.cell? ⟨gb533, 3, none⟩ = some (.int .i64 0) := (blk_cell BK533.out 3).trans rfl; have hfz9_0 := blk_frozen BK533.out 0; have hfz9_1 := blk_frozen BK533.out 1; have hfz9_2 := blk_frozen BK533.out 2; have hfz9_3 := blk_frozen BK533.out 3; have hZZgb533 : ∀ a b c d x : Value, (((((w8.setCell ⟨gb533, 0, none⟩ a).setCell ⟨gb533, 1, none⟩ b).setCell ⟨gb533, 2, none⟩ c).setCell ⟨gb533, 3, none⟩ d).setCell ⟨gb533, 3, none⟩ x).cell? ⟨gb533, 3, none⟩ = some x := fun a b c d x => (blk_cell (blk_set (blk_set (blk_set (blk_set (blk_set BK533.out 0 a) 1 b) 2 c) 3 d) 3 x) 3).trans rfl) | ((with_reducible refine gate_callee (f := 62) rfl ?_); refine goesL_ (some 14) rfl rfl Tryd.func62 (by kernel_rfl) rfl #[.agg #[.int .i64 ((rd_T40 l0 x8_1).f0), .string ((rd_T40 l0 x8_1).f1), .slice A532_2 ((rd_T40 l0 x8_1).f2).length c532_2, .int .i64 ((rd_T40 l0 x8_1).f3)]] rfl (by (try simp only [List.map_toArray, List.map_cons, List.map_nil]); first | done | rfl | (simp only [List.length_drop, List.length_take]; rfl) | (simp (disch := omega) only [IntWalk.wrap64_in]; done)) ?_; (with_reducible refine (slotmeshlaw02_Text.calls k1 ((rd_T40 l0 x8_1).f0) ((rd_T40 l0 x8_1).f1) _ _ ((rd_T40 l0 x8_1).f2) ((rd_T40 l0 x8_1).f3) t534 _ ?side3 ?side1 ?side2 A5.out).mono ?_); (case side1 => exact Kd.C_below HR532_2.out (by repeat (first | (with_reducible first | exact HB.out | apply below_alloc | apply pw_below_drewN | apply below_drew1 | refine below_set ?_ GE533.out) | exact HB.out))); (case side2 => exact HC532_2.out); (case side3 => exact Tx.GQ.aside hG (by repeat (first | (with_reducible first | exact HB.out | apply below_alloc | apply pw_below_drewN | apply below_drew1 | refine below_set ?_ GE533.out) | exact HB.out))); rintro e w10 ⟨rfl, hb⟩; refine ⟨_, rfl, ?_⟩; have n0_ := Aside0.mk (blk_below (g := gb533) (o := .cells #[.int .i64 ((rd_T40 l0 x8_1).f0), .string ((rd_T40 l0 x8_1).f1), .slice A532_2 ((rd_T40 l0 x8_1).f2).length c532_2, .int .i64 ((rd_T40 l0 x8_1).f3)] 40 (0, 0)) (by (with_reducible repeat (first | refine blk_drewN ?_ _ | refine blk_drew ?_ | refine blk_alloc ?_ _)); refine blk_put (cs := #[.int .i64 ((rd_T40 l0 x8_1).f0), .string ((rd_T40 l0 x8_1).f1), .slice A532_2 ((rd_T40 l0 x8_1).f2).length c532_2, .int .i64 0]) ?_ 3 _ rfl; (with_reducible repeat (first | refine blk_drewN ?_ _ | refine blk_drew ?_ | refine blk_alloc ?_ _)); refine blk_put (cs := #[.int .i64 ((rd_T40 l0 x8_1).f0), .string ((rd_T40 l0 x8_1).f1), .slice none 0 0, .int .i64 0]) ?_ 2 _ rfl; (with_reducible repeat (first | refine blk_drewN ?_ _ | refine blk_drew ?_ | refine blk_alloc ?_ _)); refine blk_put (cs := #[.int .i64 ((rd_T40 l0 x8_1).f0), .string (⟨#[]⟩ : ByteArray), .slice none 0 0, .int .i64 0]) ?_ 1 _ rfl; (with_reducible repeat (first | refine blk_drewN ?_ _ | refine blk_drew ?_ | refine blk_alloc ?_ _)); refine blk_put (cs := #[.int .i64 0, .string (⟨#[]⟩ : ByteArray), .slice none 0 0, .int .i64 0]) ?_ 0 _ rfl; (with_reducible repeat (first | refine blk_drewN ?_ _ | refine blk_drew ?_ | refine blk_alloc ?_ _)); exact BK533.out) hb); have n1_ := Aside0.mk (below_step (by repeat (first | (with_reducible first | exact HB.out | apply below_alloc | apply pw_below_drewN | apply below_drew1 | refine below_set ?_ GE533.out) | exact HB.out)) hb); clear BK533; clear HB; have BK533 := n0_; have HB := n1_; clear n0_ n1_; (try clear hb); (try clear hb2); (try clear hk); (try clear hi)))
                go_roundg k1
                case measure => have := HK1.out; omega
                case rel => exact ⟨(x3_1 ++ (t534 ++ (⟨#[10]⟩ : ByteArray))), (wrap64 (x8_1 + 1)), (by first | rfl | (simp; done) | (simp [*]; done)), (by first | rfl | (simp; done) | (simp [*]; done)), H', ⟨by have := HK1.out; omega⟩, ⟨by repeat (first | (with_reducible first | exact HB.out | apply below_alloc | apply pw_below_drewN | apply below_drew1 | refine below_set ?_ GE533.out) | exact HB.out)⟩⟩
              · rw [if_neg c7] at H
                exact absurd H (by simp)
            · rw [if_neg c6] at H
              exact absurd H (by simp)
          · rw [if_neg c4] at H
            exact absurd H (by simp)
        · rw [if_neg c3] at H
          exact absurd H (by simp)
      · rw [if_neg c2] at H
        have c2b0 : decide (x8_1 < (l0.length : Int)) = false := decide_eq_false c2
        clear c2
        obtain rfl := Option.some.inj H
        go_wp2
        go_ret
        exact ⟨by first | rfl | (simp [errW_none, errW_some] <;> rfl) | (simp [*, errW_none, errW_some] <;> rfl), by repeat (first | (with_reducible first | exact HB.out | apply below_alloc | apply pw_below_drewN | apply below_drew1) | exact HB.out)⟩
end Go.Proofs.YtdedlchpjboceaaDoor.PE
end

section
namespace Go.Proofs.YtdedlchpjboceaaDoor.Qy
open Go.RowKit Go.Proofs.YtdedlchpjboceaaDoorW.PrintWords Go.Proofs.YtdedlchpjboceaaDoorW.PrintLast Go.Proofs.YtdedlchpjboceaaDoor.Lx Go.Proofs.YtdedlchpjboceaaDoor.Px Go.Proofs.YtdedlchpjboceaaDoor.Tx Go.Proofs.YtdedlchpjboceaaDoor.Qz Go.Proofs.YtdedlchpjboceaaDoor.PE
def few1 (x : S40) : Bool := decide (x.f2.length ≤ 20) && decide (x.f1.size ≤ 50)
def fewB (l : List S40) : Bool := l.all few1 && decide (l.length ≤ 310)
theorem few_loop (l : List S40) (hl : l.length ≤ 9223372036854775807) (d : Nat) : ∀ j : Nat, j ≤ l.length → l.length - j = d →
    Ev (fun k => slotmeshref02_Few.l0 k l (j : Int)) ((l.drop j).all few1 && decide (l.length ≤ 310)) := by
  induction d with
  | zero =>
    intro j hj hd
    refine Ev.step (f := _) (fun k => by rw [slotmeshref02_Few.l0]) ?_
    refine evNeg (by omega) ?_
    rw [List.drop_of_length_le (by omega)]
    refine evEq (Ev.now _) ?_
    simp only [List.all_nil, Bool.true_and]
    congr 1
    exact propext (by omega)
  | succ d ih =>
    intro j hj hd
    have hlt : j < l.length := by omega
    have hih := ih (j + 1) (by omega) (by omega)
    have hw : wrap64 ((j : Int) + 1) = ((j + 1 : Nat) : Int) := by rw [w64 (by omega) (by omega)]; omega
    refine Ev.step (f := _) (fun k => by rw [slotmeshref02_Few.l0]) ?_
    refine evPos (by omega) (evPos (by omega) ?_)
    rw [rd_at l j hlt, List.drop_eq_getElem_cons hlt, List.all_cons]
    by_cases h1 : l[j].f2.length ≤ 20
    · refine evNeg (by omega) ?_
      by_cases h2 : l[j].f1.size ≤ 50
      · refine evNeg (by omega) ?_
        rw [hw]
        have e : few1 l[j] = true := by unfold few1; simp [h1, h2]
        rw [e, Bool.true_and]
        exact hih
      · refine evPos (by omega) ?_
        have e : few1 l[j] = false := by unfold few1; simp [h2]
        rw [e]; exact Ev.now _
    · refine evPos (by omega) ?_
      have e : few1 l[j] = false := by unfold few1; simp [h1]
      rw [e]; exact Ev.now _
theorem few_ev (l : List S40) (hl : l.length ≤ 9223372036854775807) : Ev (fun k => slotmeshref02_Few.f k l) (fewB l) := few_loop l hl l.length 0 (Nat.zero_le _) rfl
theorem few_some {l : List S40} (h : fewB l = true) : l.length ≤ 310 ∧ ∀ x ∈ l, x.f2.length ≤ 20 ∧ x.f1.size ≤ 50 := by
  unfold fewB at h
  rw [Bool.and_eq_true, decide_eq_true_eq, List.all_eq_true] at h
  refine ⟨h.2, fun x hx => ?_⟩
  have := h.1 x hx
  unfold few1 at this
  simpa using this
end Go.Proofs.YtdedlchpjboceaaDoor.Qy
end

section
namespace Go.Proofs.YtdedlchpjboceaaDoor.PE
open Go.RowKit Go.Proofs.YtdedlchpjboceaaDoorW.PrintWords Go.Proofs.YtdedlchpjboceaaDoorW.PrintLast Go.Proofs.YtdedlchpjboceaaDoorW.PrintMore
attribute [local go_sem] max2_int min2_int max_two min_two max_three min_three max_four min_four   -- for this text's walks alone
def slotmeshlaw02_usable.f (k : Nat) (a0 : ByteArray) : Option (Bool) := (slotmeshref01_Lex.f k a0).bind fun bt535 => (some (bt535.2.1 == 0))
theorem slotmeshlaw02_usable.mono : ∀ a0 k, LeO (slotmeshlaw02_usable.f k a0) (slotmeshlaw02_usable.f (k + 1) a0) := by
  intro a0 k
  unfold slotmeshlaw02_usable.f
  repeat' first
      | (with_reducible exact slotmeshref01_Lex.mono _ _)
      | (with_reducible exact LeO.refl _)
      | (with_reducible exact LeO.none _)
      | (with_reducible refine LeO.ite ?_ ?_)
      | (with_reducible refine LeO.bind ?_ (fun _ => ?_))
      | exact slotmeshref01_Lex.mono _ _
      | exact LeO.none _
      | refine LeO.ite ?_ ?_
      | refine LeO.bind ?_ (fun _ => ?_)
set_option maxHeartbeats 8000000 in
set_option maxRecDepth 100000 in
theorem slotmeshlaw02_usable.calls (k : Nat) (a0 : ByteArray) (r : Bool) (w : World) (h : slotmeshlaw02_usable.f k a0 = some r) :
    Calls Tryd.prog 38 #[.string a0] w fun e w' => e = .returned (.bool r) ∧ Below w.heap.size w w' := by
  have HB := Aside0.mk (Below.refl w.heap.size w)
  have H : ((slotmeshref01_Lex.f k a0).bind fun bt535 => (some (bt535.2.1 == 0))) = some r := h
  clear h
  replace H := Option.bind_eq_some_iff.mp H
  obtain ⟨⟨t535, t536, t537⟩, A20, H⟩ := H
  replace H : (some (t536 == 0)) = some r := H
  have A2 := Aside0.mk A20
  clear A20
  obtain rfl := Option.some.inj H
  go_enter Tryd.func38, Tryd.ntmps38
  go_wp2_with (first | ((with_reducible refine gate_callee (f := 31) rfl ?_); refine goesL_ (some 8) rfl rfl Tryd.func31 (by kernel_rfl) rfl #[.string a0] rfl (by (try simp only [List.map_toArray, List.map_cons, List.map_nil]); first | done | rfl | (simp only [List.length_drop, List.length_take]; rfl) | (simp (disch := omega) only [IntWalk.wrap64_in]; done)) ?_; (with_reducible refine (slotmeshref01_Lex.calls k a0 t535 t536 t537 _ A2.out).mono ?_); rintro e w3 ⟨v538, rfl, ho0, hb⟩; refine ⟨_, rfl, ?_⟩; have n0_ := Aside0.mk (Kd.R_lower ho0 (below_size (by repeat (first | (with_reducible first | exact HB.out | apply below_alloc | apply pw_below_drewN | apply below_drew1) | exact HB.out)))); have n1_ := Aside0.mk (below_step (by repeat (first | (with_reducible first | exact HB.out | apply below_alloc | apply pw_below_drewN | apply below_drew1) | exact HB.out)) hb); clear HB; have HO539 := n0_; have HB := n1_; clear n0_ n1_; (try clear hb); (try clear hb2); (try clear hk); (try clear hi); (try clear ho0)))
  go_ret
  exact ⟨by first | rfl | (simp [errW_none, errW_some] <;> rfl) | (simp [*, errW_none, errW_some] <;> rfl), by repeat (first | (with_reducible first | exact HB.out | apply below_alloc | apply pw_below_drewN | apply below_drew1) | exact HB.out)⟩
end Go.Proofs.YtdedlchpjboceaaDoor.PE
end

section
namespace Go.Proofs.YtdedlchpjboceaaDoor.PE
open Go.RowKit Go.Proofs.YtdedlchpjboceaaDoorW.PrintWords Go.Proofs.YtdedlchpjboceaaDoorW.PrintLast Go.Proofs.YtdedlchpjboceaaDoorW.PrintMore
attribute [local go_sem] max2_int min2_int max_two min_two max_three min_three max_four min_four   -- for this text's walks alone
def slotmeshlaw02_ParserTexts.j0 : Nat → List (S40) → Bool → Bool → Option (Bool)
  | 0, _, _, _ => none
  | k + 1, x0, x3, x15 => if x15 = true then (some x3) else ((slotmeshlaw02_Script.f k x0).bind fun t543 => ((parser_Parse.f t543).bind fun bt544 => (if x3 = true then ((slotmeshlaw02_usable.f k t543).bind fun t550 => (if t550 = true then (if (bt544.2.length : Int) = 0 then ((parser_Strip.f bt544.1).bind fun t551 => ((slotmeshref02_Strip.f x0).bind fun t554 => ((slotmeshref02_Same.f k t551 t554).bind fun t557 => (some t557)))) else (some false)) else (some true))) else (some false))))
def slotmeshlaw02_ParserTexts.f (k : Nat) (l0 : List (S40)) : Option (Bool) := (slotmeshlaw02_head.f k).bind fun t540 => ((slotmeshref02_Few.f k l0).bind fun t541 => (if t541 = true then ((slotmeshref02_Valid.f k l0).bind fun t542 => (slotmeshlaw02_ParserTexts.j0 k l0 t540 (!t542))) else (slotmeshlaw02_ParserTexts.j0 k l0 t540 true)))
theorem slotmeshlaw02_ParserTexts.mono_l : ∀ k, (∀ y0 y1 y2, LeO (slotmeshlaw02_ParserTexts.j0 k y0 y1 y2) (slotmeshlaw02_ParserTexts.j0 (k + 1) y0 y1 y2))
  | 0 => fun _ _ _ r h => by simp [slotmeshlaw02_ParserTexts.j0] at h
  | k + 1 => by
    have ih0 := slotmeshlaw02_ParserTexts.mono_l k
    · intro y0 y1 y2
      unfold slotmeshlaw02_ParserTexts.j0
      repeat' first
      | (with_reducible exact ih0 _ _ _)
      | (with_reducible exact slotmeshlaw02_Script.mono _ _)
      | (with_reducible exact slotmeshlaw02_head.mono _)
      | (with_reducible exact slotmeshlaw02_usable.mono _ _)
      | (with_reducible exact slotmeshref02_Few.mono _ _)
      | (with_reducible exact slotmeshref02_Same.mono _ _ _)
      | (with_reducible exact slotmeshref02_Valid.mono _ _)
      | (with_reducible exact LeO.refl _)
      | (with_reducible exact LeO.none _)
      | (with_reducible refine LeO.ite ?_ ?_)
      | (with_reducible refine LeO.bind ?_ (fun _ => ?_))
      | exact ih0 _ _ _
      | exact slotmeshlaw02_Script.mono _ _
      | exact slotmeshlaw02_head.mono _
      | exact slotmeshlaw02_usable.mono _ _
      | exact slotmeshref02_Few.mono _ _
      | exact slotmeshref02_Same.mono _ _ _
      | exact slotmeshref02_Valid.mono _ _
      | exact LeO.none _
      | refine LeO.ite ?_ ?_
      | refine LeO.bind ?_ (fun _ => ?_)
theorem slotmeshlaw02_ParserTexts.mono : ∀ a0 k, LeO (slotmeshlaw02_ParserTexts.f k a0) (slotmeshlaw02_ParserTexts.f (k + 1) a0) := by
  intro a0 k
  have ih0 := slotmeshlaw02_ParserTexts.mono_l k
  unfold slotmeshlaw02_ParserTexts.f
  repeat' first
      | (with_reducible exact ih0 _ _ _)
      | (with_reducible exact slotmeshlaw02_Script.mono _ _)
      | (with_reducible exact slotmeshlaw02_head.mono _)
      | (with_reducible exact slotmeshlaw02_usable.mono _ _)
      | (with_reducible exact slotmeshref02_Few.mono _ _)
      | (with_reducible exact slotmeshref02_Same.mono _ _ _)
      | (with_reducible exact slotmeshref02_Valid.mono _ _)
      | (with_reducible exact LeO.refl _)
      | (with_reducible exact LeO.none _)
      | (with_reducible refine LeO.ite ?_ ?_)
      | (with_reducible refine LeO.bind ?_ (fun _ => ?_))
      | exact ih0 _ _ _
      | exact slotmeshlaw02_Script.mono _ _
      | exact slotmeshlaw02_head.mono _
      | exact slotmeshlaw02_usable.mono _ _
      | exact slotmeshref02_Few.mono _ _
      | exact slotmeshref02_Same.mono _ _ _
      | exact slotmeshref02_Valid.mono _ _
      | exact LeO.none _
      | refine LeO.ite ?_ ?_
      | refine LeO.bind ?_ (fun _ => ?_)
set_option maxHeartbeats 8000000 in
set_option maxRecDepth 100000 in
theorem slotmeshlaw02_ParserTexts.calls (k : Nat) (A0 : Option Addr) (c0 : Nat) (l0 : List (S40)) (r : Bool) (w : World) (hG : Aside0 (Tx.GQ w)) (hr0 : Kd.C k40 w A0 l0.length l0) (hc0 : l0.length ≤ c0) (h : slotmeshlaw02_ParserTexts.f k l0 = some r) (hr0_ : r = true) :
    Calls Tryd.prog 10 #[.slice A0 l0.length c0] w fun e w' => e = .returned (.bool r) ∧ Below w.heap.size w w' := by
  have hr_ := Aside0.mk hr0_
  clear hr0_
  have HR0 := Aside0.mk hr0
  have HC0 := Aside0.mk hc0
  clear hr0 hc0
  have HB := Aside0.mk (Below.refl w.heap.size w)
  have H : ((slotmeshlaw02_head.f k).bind fun t540 => ((slotmeshref02_Few.f k l0).bind fun t541 => (if t541 = true then ((slotmeshref02_Valid.f k l0).bind fun t542 => (slotmeshlaw02_ParserTexts.j0 k l0 t540 (!t542))) else (slotmeshlaw02_ParserTexts.j0 k l0 t540 true)))) = some r := h
  clear h
  replace H := Option.bind_eq_some_iff.mp H
  obtain ⟨t540, A20, H⟩ := H
  replace H : ((slotmeshref02_Few.f k l0).bind fun t541 => (if t541 = true then ((slotmeshref02_Valid.f k l0).bind fun t542 => (slotmeshlaw02_ParserTexts.j0 k l0 t540 (!t542))) else (slotmeshlaw02_ParserTexts.j0 k l0 t540 true))) = some r := H
  have A2 := Aside0.mk A20
  clear A20
  have HC3 := Aside0.mk H
  clear H
  go_enter Tryd.func10, Tryd.ntmps10
  go_upto_region 2 with (first | ((with_reducible refine gate_callee (f := 32) rfl ?_); refine goesL_ (some 7) rfl rfl Tryd.func32 (by kernel_rfl) rfl #[] rfl (by (try simp only [List.map_toArray, List.map_nil]); first | done | rfl | (simp only [List.length_drop, List.length_take]; rfl) | (simp (disch := omega) only [IntWalk.wrap64_in]; done)) ?_; (with_reducible refine (slotmeshlaw02_head.calls k  t540 _ ?side1 A2.out).mono ?_); (case side1 => exact Tx.GQ.aside hG (by repeat (first | (with_reducible first | exact HB.out | apply below_alloc | apply pw_below_drewN | apply below_drew1) | exact HB.out))); rintro e w4 ⟨rfl, hb⟩; refine ⟨_, rfl, ?_⟩; have n0_ := Aside0.mk (below_step (by repeat (first | (with_reducible first | exact HB.out | apply below_alloc | apply pw_below_drewN | apply below_drew1) | exact HB.out)) hb); clear HB; have HB := n0_; clear n0_; (try clear hb); (try clear hb2); (try clear hk); (try clear hi)))
  (try simp only [Act.put, List.setIfInBounds_toArray, List.set_cons_zero, List.set_cons_succ])
  go_cut [15] (fun v15 wc => ∃ (kq : Nat) (x15_2 : Bool), v15 = .bool x15_2 ∧ Aside0 (slotmeshlaw02_ParserTexts.j0 kq l0 t540 x15_2 = some r) ∧ Aside0 (kq ≤ k) ∧ Aside0 (Below w.heap.size w wc))
  case first =>
    have H := HC3.out
    clear HC3
    replace H := Option.bind_eq_some_iff.mp H
    obtain ⟨t541, A50, H⟩ := H
    replace H : (if t541 = true then ((slotmeshref02_Valid.f k l0).bind fun t542 => (slotmeshlaw02_ParserTexts.j0 k l0 t540 (!t542))) else (slotmeshlaw02_ParserTexts.j0 k l0 t540 true)) = some r := H
    have A5 := Aside0.mk A50
    clear A50
    by_cases c6 : t541 = true
    · subst c6
      have H1 : ((slotmeshref02_Valid.f k l0).bind fun t542 => (slotmeshlaw02_ParserTexts.j0 k l0 t540 (!t542))) = some r := by rw [if_pos rfl] at H; exact H
      clear H
      have H := H1
      clear H1
      replace H := Option.bind_eq_some_iff.mp H
      obtain ⟨t542, A70, H⟩ := H
      replace H : (slotmeshlaw02_ParserTexts.j0 k l0 t540 (!t542)) = some r := H
      have A7 := Aside0.mk A70
      clear A70
      have H' := Aside0.mk H
      clear H
      go_wp2_with (first | ((with_reducible refine gate_callee (f := 25) rfl ?_); refine goesL_ (some 9) rfl rfl Tryd.func25 (by kernel_rfl) rfl #[.slice A0 l0.length c0] rfl (by (try simp only [List.map_toArray, List.map_cons, List.map_nil]); first | done | rfl | (simp only [List.length_drop, List.length_take]; rfl) | (simp (disch := omega) only [IntWalk.wrap64_in]; done)) ?_; (with_reducible refine (slotmeshref02_Few.calls k _ _ l0 true _ ?side1 ?side2 A5.out).mono ?_); (case side1 => repeat (first | exact (Kd.C_below HR0.out HB.out) | (with_reducible refine Kd.C_alloc ?_ _) | (with_reducible refine Kd.C_drewN ?_ _) | (with_reducible refine Kd.C_drew ?_))); (case side2 => exact HC0.out); rintro e w' ⟨rfl, ⟨nd, rfl⟩⟩; refine ⟨_, rfl, ?_⟩) | (go_at_call 28; (with_reducible refine (slotmeshref02_Valid.calls k _ _ l0 t542 _ ?side1 ?side2 A7.out).mono ?_); (case side1 => repeat (first | exact (Kd.C_below HR0.out (by repeat (first | (with_reducible first | exact HB.out | apply below_alloc | apply pw_below_drewN | apply below_drew1) | exact HB.out))) | (with_reducible refine Kd.C_alloc ?_ _) | (with_reducible refine Kd.C_drewN ?_ _) | (with_reducible refine Kd.C_drew ?_))); (case side2 => exact HC0.out); rintro e w8 ⟨rfl, hb⟩; have n0_ := Aside0.mk (below_step (by repeat (first | (with_reducible first | exact HB.out | apply below_alloc | apply pw_below_drewN | apply below_drew1) | exact HB.out)) hb); clear HB; have HB := n0_; clear n0_; (try clear hb); (try clear hb2); (try clear hk); (try clear hi)))
      go_meet
      case rel => exact ⟨_, (!t542), (by first | rfl | (simp; done) | (simp [*]; done)), H', ⟨by first | omega | exact Nat.le_refl _⟩, ⟨by repeat (first | (with_reducible first | exact HB.out | apply below_alloc | apply pw_below_drewN | apply below_drew1) | exact HB.out)⟩⟩
    · replace c6 := Bool.eq_false_iff.mpr c6
      subst c6
      have H1 : (slotmeshlaw02_ParserTexts.j0 k l0 t540 true) = some r := by rw [if_neg (show ¬ (false = true) by decide)] at H; exact H
      clear H
      have H := H1
      clear H1
      have H' := Aside0.mk H
      clear H
      go_wp2_with (first | ((with_reducible refine gate_callee (f := 25) rfl ?_); refine goesL_ (some 9) rfl rfl Tryd.func25 (by kernel_rfl) rfl #[.slice A0 l0.length c0] rfl (by (try simp only [List.map_toArray, List.map_cons, List.map_nil]); first | done | rfl | (simp only [List.length_drop, List.length_take]; rfl) | (simp (disch := omega) only [IntWalk.wrap64_in]; done)) ?_; (with_reducible refine (slotmeshref02_Few.calls k _ _ l0 false _ ?side1 ?side2 A5.out).mono ?_); (case side1 => repeat (first | exact (Kd.C_below HR0.out HB.out) | (with_reducible refine Kd.C_alloc ?_ _) | (with_reducible refine Kd.C_drewN ?_ _) | (with_reducible refine Kd.C_drew ?_))); (case side2 => exact HC0.out); rintro e w' ⟨rfl, ⟨nd, rfl⟩⟩; refine ⟨_, rfl, ?_⟩))
      go_meet
      case rel => exact ⟨_, (true), (by first | rfl | (simp; done) | (simp [*]; done)), H', ⟨by first | omega | exact Nat.le_refl _⟩, ⟨by repeat (first | (with_reducible first | exact HB.out | apply below_alloc | apply pw_below_drewN | apply below_drew1) | exact HB.out)⟩⟩
  case rest =>
    clear HC3
    try clear c1
    try clear c2
    try clear p2
    try clear c3
    try clear c6
    obtain ⟨kq, x15_2, rfl, HA, HJ2, HB⟩ := hcut
    cases kq with
    | zero => exact absurd HA.out (by simp [slotmeshlaw02_ParserTexts.j0])
    | succ kj2 =>
      have H := HA.out
      clear HA
      simp only [slotmeshlaw02_ParserTexts.j0] at H
      by_cases c9 : x15_2 = true
      · subst c9
        have H1 : (some t540) = some r := by rw [if_pos rfl] at H; exact H
        clear H
        have H := H1
        clear H1
        clear hr_
        obtain rfl := Option.some.inj H
        go_wp2
        go_ret
        exact ⟨by first | rfl | (simp [errW_none, errW_some] <;> rfl) | (simp [*, errW_none, errW_some] <;> rfl), by repeat (first | (with_reducible first | exact HB.out | apply below_alloc | apply pw_below_drewN | apply below_drew1) | exact HB.out)⟩
      · replace c9 := Bool.eq_false_iff.mpr c9
        subst c9
        have H1 : ((slotmeshlaw02_Script.f kj2 l0).bind fun t543 => ((parser_Parse.f t543).bind fun bt544 => (if t540 = true then ((slotmeshlaw02_usable.f kj2 t543).bind fun t550 => (if t550 = true then (if (bt544.2.length : Int) = 0 then ((parser_Strip.f bt544.1).bind fun t551 => ((slotmeshref02_Strip.f l0).bind fun t554 => ((slotmeshref02_Same.f kj2 t551 t554).bind fun t557 => (some t557)))) else (some false)) else (some true))) else (some false)))) = some r := by rw [if_neg (show ¬ (false = true) by decide)] at H; exact H
        clear H
        have H := H1
        clear H1
        replace H := Option.bind_eq_some_iff.mp H
        obtain ⟨t543, A100, H⟩ := H
        replace H : ((parser_Parse.f t543).bind fun bt544 => (if t540 = true then ((slotmeshlaw02_usable.f kj2 t543).bind fun t550 => (if t550 = true then (if (bt544.2.length : Int) = 0 then ((parser_Strip.f bt544.1).bind fun t551 => ((slotmeshref02_Strip.f l0).bind fun t554 => ((slotmeshref02_Same.f kj2 t551 t554).bind fun t557 => (some t557)))) else (some false)) else (some true))) else (some false))) = some r := H
        have A10 := Aside0.mk A100
        clear A100
        replace H := Option.bind_eq_some_iff.mp H
        obtain ⟨⟨t544, t545⟩, A110, H⟩ := H
        replace H : (if t540 = true then ((slotmeshlaw02_usable.f kj2 t543).bind fun t550 => (if t550 = true then (if (t545.length : Int) = 0 then ((parser_Strip.f t544).bind fun t551 => ((slotmeshref02_Strip.f l0).bind fun t554 => ((slotmeshref02_Same.f kj2 t551 t554).bind fun t557 => (some t557)))) else (some false)) else (some true))) else (some false)) = some r := H
        have A11 := Aside0.mk A110
        clear A110
        by_cases c12 : t540 = true
        · subst c12
          have H1 : ((slotmeshlaw02_usable.f kj2 t543).bind fun t550 => (if t550 = true then (if (t545.length : Int) = 0 then ((parser_Strip.f t544).bind fun t551 => ((slotmeshref02_Strip.f l0).bind fun t554 => ((slotmeshref02_Same.f kj2 t551 t554).bind fun t557 => (some t557)))) else (some false)) else (some true))) = some r := by rw [if_pos rfl] at H; exact H
          clear H
          have H := H1
          clear H1
          replace H := Option.bind_eq_some_iff.mp H
          obtain ⟨t550, A130, H⟩ := H
          replace H : (if t550 = true then (if (t545.length : Int) = 0 then ((parser_Strip.f t544).bind fun t551 => ((slotmeshref02_Strip.f l0).bind fun t554 => ((slotmeshref02_Same.f kj2 t551 t554).bind fun t557 => (some t557)))) else (some false)) else (some true)) = some r := H
          have A13 := Aside0.mk A130
          clear A130
          by_cases c14 : t550 = true
          · subst c14
            have H1 : (if (t545.length : Int) = 0 then ((parser_Strip.f t544).bind fun t551 => ((slotmeshref02_Strip.f l0).bind fun t554 => ((slotmeshref02_Same.f kj2 t551 t554).bind fun t557 => (some t557)))) else (some false)) = some r := by rw [if_pos rfl] at H; exact H
            clear H
            have H := H1
            clear H1
            by_cases c15 : (t545.length : Int) = 0
            · rw [if_pos c15] at H
              have c15b0 : ((t545.length : Int) == 0) = true := beq_iff_eq.mpr c15
              have c15b1 : ((t545.length : Int) != 0) = false := bne_eq_false_iff_eq.mpr c15
              clear c15
              replace H := Option.bind_eq_some_iff.mp H
              obtain ⟨t551, A160, H⟩ := H
              replace H : ((slotmeshref02_Strip.f l0).bind fun t554 => ((slotmeshref02_Same.f kj2 t551 t554).bind fun t557 => (some t557))) = some r := H
              have A16 := Aside0.mk A160
              clear A160
              replace H := Option.bind_eq_some_iff.mp H
              obtain ⟨t554, A170, H⟩ := H
              replace H : ((slotmeshref02_Same.f kj2 t551 t554).bind fun t557 => (some t557)) = some r := H
              have A17 := Aside0.mk A170
              clear A170
              replace H := Option.bind_eq_some_iff.mp H
              obtain ⟨t557, A180, H⟩ := H
              replace H : (some t557) = some r := H
              have A18 := Aside0.mk A180
              clear A180
              clear hr_
              obtain rfl := Option.some.inj H
              go_wp2_with (first | ((with_reducible refine gate_callee (f := 37) rfl ?_); refine goesL_ (some 18) rfl rfl Tryd.func37 (by kernel_rfl) rfl #[.slice A0 l0.length c0] rfl (by (try simp only [List.map_toArray, List.map_cons, List.map_nil]); first | done | rfl | (simp only [List.length_drop, List.length_take]; rfl) | (simp (disch := omega) only [IntWalk.wrap64_in]; done)) ?_; (with_reducible refine (slotmeshlaw02_Script.calls kj2 _ _ l0 t543 _ ?side3 ?side1 ?side2 A10.out).mono ?_); (case side1 => repeat (first | exact (Kd.C_below HR0.out HB.out) | (with_reducible refine Kd.C_alloc ?_ _) | (with_reducible refine Kd.C_drewN ?_ _) | (with_reducible refine Kd.C_drew ?_))); (case side2 => exact HC0.out); (case side3 => exact Tx.GQ.aside hG (by repeat (first | (with_reducible first | exact HB.out | apply below_alloc | apply pw_below_drewN | apply below_drew1) | exact HB.out))); rintro e w19 ⟨rfl, hb⟩; refine ⟨_, rfl, ?_⟩; have n0_ := Aside0.mk (below_step (by repeat (first | (with_reducible first | exact HB.out | apply below_alloc | apply pw_below_drewN | apply below_drew1) | exact HB.out)) hb); clear HB; have HB := n0_; clear n0_; (try clear hb); (try clear hb2); (try clear hk); (try clear hi)) | ((with_reducible refine gate_callee (f := 20) rfl ?_); refine goesL_ (some 21) rfl rfl Tryd.func20 (by kernel_rfl) rfl #[.string t543] rfl (by (try simp only [List.map_toArray, List.map_cons, List.map_nil]); first | done | rfl | (simp only [List.length_drop, List.length_take]; rfl) | (simp (disch := omega) only [IntWalk.wrap64_in]; done)) ?_; (with_reducible refine (parser_Parse.calls t543 t544 t545 _ ?side1 A11.out).mono ?_); (case side1 => exact Tx.GQ.aside hG (by repeat (first | (with_reducible first | exact HB.out | apply below_alloc | apply pw_below_drewN | apply below_drew1) | exact HB.out))); rintro e w20 ⟨v546, v548, rfl, ho0, ho1, hb⟩; refine ⟨_, rfl, ?_⟩; have n0_ := Aside0.mk (Kd.N_lower (Kd.N_mono (ok' := fun k_ => some k_ ≠ (v548 : Value).ownBlock) (Kd.R_N (Kd.R_bound (Kd.R_apart' ho0 (Kd.R_typed ho1) (by decide)))) (fun k_ hk_ => hk_.1.2)) (below_size (by repeat (first | (with_reducible first | exact HB.out | apply below_alloc | apply pw_below_drewN | apply below_drew1) | exact HB.out)))); have n1_ := Aside0.mk (Kd.R_lower ho1 (below_size (by repeat (first | (with_reducible first | exact HB.out | apply below_alloc | apply pw_below_drewN | apply below_drew1) | exact HB.out)))); have n2_ := Aside0.mk (below_step (by repeat (first | (with_reducible first | exact HB.out | apply below_alloc | apply pw_below_drewN | apply below_drew1) | exact HB.out)) hb); clear HB; have HO547 := n0_; have HO549 := n1_; have HB := n2_; clear n0_ n1_ n2_; (try clear hb); (try clear hb2); (try clear hk); (try clear hi); (try clear ho0); (try clear ho1)) | (go_at_call 38; (with_reducible refine (slotmeshlaw02_usable.calls kj2 t543 true _ A13.out).mono ?_); rintro e w21 ⟨rfl, hb⟩; have n0_ := Aside0.mk (Kd.N_below (by (with_reducible repeat (first | apply Kd.N_alloc | apply Kd.N_drewN | apply Kd.N_drew)); exact HO547.out) hb); have n1_ := Aside0.mk (Kd.R_below (by (with_reducible repeat (first | apply Kd.R_alloc | apply Kd.R_drewN | apply Kd.R_drew)); exact HO549.out) hb); have n2_ := Aside0.mk (below_step (by repeat (first | (with_reducible first | exact HB.out | apply below_alloc | apply pw_below_drewN | apply below_drew1) | exact HB.out)) hb); clear HO547; clear HO549; clear HB; have HO547 := n0_; have HO549 := n1_; have HB := n2_; clear n0_ n1_ n2_; (try clear hb); (try clear hb2); (try clear hk); (try clear hi); obtain ⟨Ao22, co22, eo22⟩ := Kd.R_slice HO549.out; subst eo22; obtain ⟨Ao23, co23, eo23⟩ := Kd.N_slice HO547.out; subst eo23) | (go_at_call 23; (with_reducible refine (parser_Strip.calls _ _ t544 t551 _ ?side1 ?side2 A16.out).mono ?_); (case side1 => repeat (first | exact (Kd.N_reads' HO547.out).2.2 | (with_reducible refine Kd.C_alloc ?_ _) | (with_reducible refine Kd.C_drewN ?_ _) | (with_reducible refine Kd.C_drew ?_))); (case side2 => exact (Kd.N_reads' HO547.out).2.1); rintro e w24 ⟨v552, rfl, ho0, hb⟩; have n0_ := Aside0.mk (Kd.N_elder' (by (with_reducible repeat (first | apply Kd.N_alloc | apply Kd.N_drewN | apply Kd.N_drew)); exact HO547.out) (Kd.N_base ho0) hb); have n1_ := Aside0.mk (Kd.R_below (by (with_reducible repeat (first | apply Kd.R_alloc | apply Kd.R_drewN | apply Kd.R_drew)); exact HO549.out) hb); have n2_ := Aside0.mk (Kd.N_lower ho0 (below_size (by repeat (first | (with_reducible first | exact HB.out | apply below_alloc | apply pw_below_drewN | apply below_drew1) | exact HB.out)))); have n3_ := Aside0.mk (below_step (by repeat (first | (with_reducible first | exact HB.out | apply below_alloc | apply pw_below_drewN | apply below_drew1) | exact HB.out)) hb); clear HO547; clear HO549; clear HB; have HO547 := n0_; have HO549 := n1_; have HO553 := n2_; have HB := n3_; clear n0_ n1_ n2_ n3_; (try clear hb); (try clear hb2); (try clear hk); (try clear hi); (try clear ho0)) | (go_at_call 36; (with_reducible refine (slotmeshref02_Strip.calls _ _ l0 t554 _ ?side1 ?side2 A17.out).mono ?_); (case side1 => repeat (first | exact (Kd.C_below HR0.out HB.out) | (with_reducible refine Kd.C_alloc ?_ _) | (with_reducible refine Kd.C_drewN ?_ _) | (with_reducible refine Kd.C_drew ?_))); (case side2 => exact HC0.out); rintro e w25 ⟨v555, rfl, ho0, hb⟩; have n0_ := Aside0.mk (Kd.N_elder' (by (with_reducible repeat (first | apply Kd.N_alloc | apply Kd.N_drewN | apply Kd.N_drew)); exact HO547.out) (Kd.N_base ho0) hb); have n1_ := Aside0.mk (Kd.R_below (by (with_reducible repeat (first | apply Kd.R_alloc | apply Kd.R_drewN | apply Kd.R_drew)); exact HO549.out) hb); have n2_ := Aside0.mk (Kd.N_elder' (by (with_reducible repeat (first | apply Kd.N_alloc | apply Kd.N_drewN | apply Kd.N_drew)); exact HO553.out) (Kd.N_base ho0) hb); have n3_ := Aside0.mk (Kd.N_lower ho0 (below_size (by repeat (first | (with_reducible first | exact HB.out | apply below_alloc | apply pw_below_drewN | apply below_drew1) | exact HB.out)))); have n4_ := Aside0.mk (below_step (by repeat (first | (with_reducible first | exact HB.out | apply below_alloc | apply pw_below_drewN | apply below_drew1) | exact HB.out)) hb); clear HO547; clear HO549; clear HO553; clear HB; have HO547 := n0_; have HO549 := n1_; have HO553 := n2_; have HO556 := n3_; have HB := n4_; clear n0_ n1_ n2_ n3_ n4_; (try clear hb); (try clear hb2); (try clear hk); (try clear hi); (try clear ho0); obtain ⟨Ao26, co26, eo26⟩ := Kd.N_slice HO553.out; subst eo26; obtain ⟨Ao27, co27, eo27⟩ := Kd.N_slice HO556.out; subst eo27) | (go_at_call 22; (with_reducible refine (slotmeshref02_Same.calls kj2 _ _ t551 _ _ t554 t557 _ ?side1 ?side2 ?side3 ?side4 A18.out).mono ?_); (case side1 => repeat (first | exact (Kd.N_reads' HO553.out).2.2 | (with_reducible refine Kd.C_alloc ?_ _) | (with_reducible refine Kd.C_drewN ?_ _) | (with_reducible refine Kd.C_drew ?_))); (case side2 => exact (Kd.N_reads' HO553.out).2.1); (case side3 => repeat (first | exact (Kd.N_reads' HO556.out).2.2 | (with_reducible refine Kd.C_alloc ?_ _) | (with_reducible refine Kd.C_drewN ?_ _) | (with_reducible refine Kd.C_drew ?_))); (case side4 => exact (Kd.N_reads' HO556.out).2.1); rintro e w' ⟨rfl, ⟨nd, rfl⟩⟩))
              go_ret
              exact ⟨by first | rfl | (simp [errW_none, errW_some] <;> rfl) | (simp [*, errW_none, errW_some] <;> rfl), by repeat (first | (with_reducible first | exact HB.out | apply below_alloc | apply pw_below_drewN | apply below_drew1) | exact HB.out)⟩
            · rw [if_neg c15] at H
              have c15b0 : ((t545.length : Int) == 0) = false := beq_eq_false_iff_ne.mpr c15
              have c15b1 : ((t545.length : Int) != 0) = true := bne_iff_ne.mpr c15
              have c15b2 : ¬ (t545 = []) := fun h_ => c15 (by rw [h_]; rfl)
              exact absurd ((Option.some.inj H).trans hr_.out) (by decide)
          · replace c14 := Bool.eq_false_iff.mpr c14
            subst c14
            have H1 : (some true) = some r := by rw [if_neg (show ¬ (false = true) by decide)] at H; exact H
            clear H
            have H := H1
            clear H1
            clear hr_
            obtain rfl := Option.some.inj H
            go_wp2_with (first | ((with_reducible refine gate_callee (f := 37) rfl ?_); refine goesL_ (some 18) rfl rfl Tryd.func37 (by kernel_rfl) rfl #[.slice A0 l0.length c0] rfl (by (try simp only [List.map_toArray, List.map_cons, List.map_nil]); first | done | rfl | (simp only [List.length_drop, List.length_take]; rfl) | (simp (disch := omega) only [IntWalk.wrap64_in]; done)) ?_; (with_reducible refine (slotmeshlaw02_Script.calls kj2 _ _ l0 t543 _ ?side3 ?side1 ?side2 A10.out).mono ?_); (case side1 => repeat (first | exact (Kd.C_below HR0.out HB.out) | (with_reducible refine Kd.C_alloc ?_ _) | (with_reducible refine Kd.C_drewN ?_ _) | (with_reducible refine Kd.C_drew ?_))); (case side2 => exact HC0.out); (case side3 => exact Tx.GQ.aside hG (by repeat (first | (with_reducible first | exact HB.out | apply below_alloc | apply pw_below_drewN | apply below_drew1) | exact HB.out))); rintro e w32 ⟨rfl, hb⟩; refine ⟨_, rfl, ?_⟩; have n0_ := Aside0.mk (below_step (by repeat (first | (with_reducible first | exact HB.out | apply below_alloc | apply pw_below_drewN | apply below_drew1) | exact HB.out)) hb); clear HB; have HB := n0_; clear n0_; (try clear hb); (try clear hb2); (try clear hk); (try clear hi)) | ((with_reducible refine gate_callee (f := 20) rfl ?_); refine goesL_ (some 21) rfl rfl Tryd.func20 (by kernel_rfl) rfl #[.string t543] rfl (by (try simp only [List.map_toArray, List.map_cons, List.map_nil]); first | done | rfl | (simp only [List.length_drop, List.length_take]; rfl) | (simp (disch := omega) only [IntWalk.wrap64_in]; done)) ?_; (with_reducible refine (parser_Parse.calls t543 t544 t545 _ ?side1 A11.out).mono ?_); (case side1 => exact Tx.GQ.aside hG (by repeat (first | (with_reducible first | exact HB.out | apply below_alloc | apply pw_below_drewN | apply below_drew1) | exact HB.out))); rintro e w33 ⟨v546, v548, rfl, ho0, ho1, hb⟩; refine ⟨_, rfl, ?_⟩; have n0_ := Aside0.mk (Kd.N_lower (Kd.N_mono (ok' := fun k_ => some k_ ≠ (v548 : Value).ownBlock) (Kd.R_N (Kd.R_bound (Kd.R_apart' ho0 (Kd.R_typed ho1) (by decide)))) (fun k_ hk_ => hk_.1.2)) (below_size (by repeat (first | (with_reducible first | exact HB.out | apply below_alloc | apply pw_below_drewN | apply below_drew1) | exact HB.out)))); have n1_ := Aside0.mk (Kd.R_lower ho1 (below_size (by repeat (first | (with_reducible first | exact HB.out | apply below_alloc | apply pw_below_drewN | apply below_drew1) | exact HB.out)))); have n2_ := Aside0.mk (below_step (by repeat (first | (with_reducible first | exact HB.out | apply below_alloc | apply pw_below_drewN | apply below_drew1) | exact HB.out)) hb); clear HB; have HO547 := n0_; have HO549 := n1_; have HB := n2_; clear n0_ n1_ n2_; (try clear hb); (try clear hb2); (try clear hk); (try clear hi); (try clear ho0); (try clear ho1)) | (go_at_call 38; (with_reducible refine (slotmeshlaw02_usable.calls kj2 t543 false _ A13.out).mono ?_); rintro e w34 ⟨rfl, hb⟩; have n0_ := Aside0.mk (Kd.N_below (by (with_reducible repeat (first | apply Kd.N_alloc | apply Kd.N_drewN | apply Kd.N_drew)); exact HO547.out) hb); have n1_ := Aside0.mk (Kd.R_below (by (with_reducible repeat (first | apply Kd.R_alloc | apply Kd.R_drewN | apply Kd.R_drew)); exact HO549.out) hb); have n2_ := Aside0.mk (below_step (by repeat (first | (with_reducible first | exact HB.out | apply below_alloc | apply pw_below_drewN | apply below_drew1) | exact HB.out)) hb); clear HO547; clear HO549; clear HB; have HO547 := n0_; have HO549 := n1_; have HB := n2_; clear n0_ n1_ n2_; (try clear hb); (try clear hb2); (try clear hk); (try clear hi)))
            go_ret
            exact ⟨by first | rfl | (simp [errW_none, errW_some] <;> rfl) | (simp [*, errW_none, errW_some] <;> rfl), by repeat (first | (with_reducible first | exact HB.out | apply below_alloc | apply pw_below_drewN | apply below_drew1) | exact HB.out)⟩
        · replace c12 := Bool.eq_false_iff.mpr c12
          subst c12
          have H1 : (some false) = some r := by rw [if_neg (show ¬ (false = true) by decide)] at H; exact H
          clear H
          have H := H1
          clear H1
          exact absurd ((Option.some.inj H).trans hr_.out) (by decide)
end Go.Proofs.YtdedlchpjboceaaDoor.PE
end

section
namespace Go.Proofs.YtdedlchpjboceaaDoor.Qy
open Go.RowKit Go.Proofs.YtdedlchpjboceaaDoorW.PrintWords Go.Proofs.YtdedlchpjboceaaDoorW.PrintLast Go.Proofs.YtdedlchpjboceaaDoor.Lx Go.Proofs.YtdedlchpjboceaaDoor.Px Go.Proofs.YtdedlchpjboceaaDoor.Tx Go.Proofs.YtdedlchpjboceaaDoor.Qz Go.Proofs.YtdedlchpjboceaaDoor.PE
/-- The words of the forms. -/
def formS (k : Int) : ByteArray := (slotmeshref02_Form.f k).getD ⟨#[]⟩
def formP (k : Int) : List ByteArray := (slotmeshref02_Parts.f 60 (formS k)).getD []
set_option maxRecDepth 100000 in
theorem form_parts {k : Int} (h1 : 1 ≤ k) (h2 : k ≤ 11) : slotmeshref02_Form.f k = some (formS k) ∧ Ev (fun n => slotmeshref02_Parts.f n (formS k)) (formP k) ∧ rdOf ByteArray.empty (formP k) 0 = firstW k ∧ 0 < ((formP k).length : Int) := by
  rcases kinds h1 h2 with rfl | rfl | rfl | rfl | rfl | rfl | rfl | rfl | rfl | rfl | rfl <;> exact ⟨rfl, evK (slotmeshref02_Parts.mono _) 60 (by kernel_rfl), by kernel_rfl, of_decide_eq_true (by kernel_rfl)⟩
theorem decF_len' : ∀ n u : Nat, (decF n u).length ≤ n
  | 0, _ => Nat.le_refl _
  | n + 1, u => by
    unfold decF
    have := decF_len' n (u / 10)
    split
    · simp
    · rw [List.length_append]; simpa using this
end Go.Proofs.YtdedlchpjboceaaDoor.Qy
end

section
namespace Go.Proofs.YtdedlchpjboceaaDoor.Qy
open Go.RowKit Go.Proofs.YtdedlchpjboceaaDoorW.PrintWords Go.Proofs.YtdedlchpjboceaaDoorW.PrintLast Go.Proofs.YtdedlchpjboceaaDoor.Lx Go.Proofs.YtdedlchpjboceaaDoor.Px Go.Proofs.YtdedlchpjboceaaDoor.Tx Go.Proofs.YtdedlchpjboceaaDoor.Qz Go.Proofs.YtdedlchpjboceaaDoor.PE
/-- A word of a form as the form's text spells it. -/
def fwPart : Fw → ByteArray
  | .K t => ⟨t.toArray⟩
  | .N => ⟨#[110]⟩
  | .H => ⟨#[35]⟩
  | .D => ⟨#[100]⟩
set_option maxRecDepth 100000 in
theorem formP_map {k : Int} (h1 : 1 ≤ k) (h2 : k ≤ 11) : formP k = (formW k).map fwPart := by
  rcases kinds h1 h2 with rfl | rfl | rfl | rfl | rfl | rfl | rfl | rfl | rfl | rfl | rfl <;> kernel_rfl
def keyB : Fw → Bool
  | .K t => decide (t ≠ []) && decide (t ≠ [110]) && decide (t ≠ [35]) && decide (t ≠ [100]) && decide (t.length ≤ 20)
  | _ => true
theorem forms_key {k : Int} (h1 : 1 ≤ k) (h2 : k ≤ 11) : (formW k).all keyB = true ∧ (formW k).length ≤ 20 := by
  rcases kinds h1 h2 with rfl | rfl | rfl | rfl | rfl | rfl | rfl | rfl | rfl | rfl | rfl <;> exact ⟨by decide, by decide⟩
/-- Enough numbers, each within its bounds. -/
def numsW : List Fw → List Int → Prop
  | [], _ => True
  | .K _ :: r, ns => numsW r ns
  | .N :: r, ns => numsW r ns
  | .H :: r, ns => ∃ n t, ns = n :: t ∧ (0 ≤ n ∧ n ≤ 1000000000) ∧ numsW r t
  | .D :: r, ns => ∃ n t, ns = n :: t ∧ (-1000000000 ≤ n ∧ n ≤ 1000000000) ∧ numsW r t
theorem numB_bd {k : Int} {i : Nat} {n : Int} (h : numB k i n = true) (hk : ¬ (k = 3 ∧ i = 2)) : 0 ≤ n ∧ n ≤ 1000000000 := by
  unfold numB at h
  rw [decide_eq_true_eq] at h
  omega
theorem numB_bd2 {k : Int} {i : Nat} {n : Int} (h : numB k i n = true) : -1000000000 ≤ n ∧ n ≤ 1000000000 := by
  unfold numB at h
  rw [decide_eq_true_eq] at h
  omega
theorem numsW_of {c : Cmd} (h : cB c = true) : numsW (formW c.f0) c.f2 := by
  obtain ⟨h1, h2, h3, _, _⟩ := valid_kind h
  obtain ⟨_, _, g3⟩ := cmdB_parts h
  obtain ⟨k, nm, ns, at_⟩ := c
  simp only at h1 h2 h3 g3 ⊢
  clear h
  rcases kinds h1 h2 with rfl | rfl | rfl | rfl | rfl | rfl | rfl | rfl | rfl | rfl | rfl
  · obtain ⟨a, b, rfl⟩ := len2 h3
    simp only [numsB, Bool.and_eq_true] at g3
    exact ⟨_, _, rfl, numB_bd g3.1 (by decide), _, _, rfl, numB_bd g3.2.1 (by decide), trivial⟩
  · obtain ⟨a, b, rfl⟩ := len2 h3
    simp only [numsB, Bool.and_eq_true] at g3
    exact ⟨_, _, rfl, numB_bd g3.1 (by decide), _, _, rfl, numB_bd g3.2.1 (by decide), trivial⟩
  · obtain ⟨a, b, c, d, rfl⟩ := len4 h3
    simp only [numsB, Bool.and_eq_true] at g3
    exact ⟨_, _, rfl, numB_bd g3.1 (by decide), _, _, rfl, numB_bd g3.2.1 (by decide), _, _, rfl, numB_bd2 g3.2.2.1, _, _, rfl, numB_bd g3.2.2.2.1 (by decide), trivial⟩
  · obtain ⟨a, b, c, rfl⟩ := len3 h3
    simp only [numsB, Bool.and_eq_true] at g3
    exact ⟨_, _, rfl, numB_bd g3.1 (by decide), _, _, rfl, numB_bd g3.2.1 (by decide), _, _, rfl, numB_bd g3.2.2.1 (by decide), trivial⟩
  · obtain ⟨a, rfl⟩ := len1 h3
    simp only [numsB, Bool.and_eq_true] at g3
    exact ⟨_, _, rfl, numB_bd g3.1 (by decide), trivial⟩
  · obtain ⟨a, rfl⟩ := len1 h3
    simp only [numsB, Bool.and_eq_true] at g3
    exact ⟨_, _, rfl, numB_bd g3.1 (by decide), trivial⟩
  · obtain ⟨a, b, rfl⟩ := len2 h3
    simp only [numsB, Bool.and_eq_true] at g3
    exact ⟨_, _, rfl, numB_bd g3.1 (by decide), _, _, rfl, numB_bd g3.2.1 (by decide), trivial⟩
  · obtain ⟨a, b, c, d, e, f, rfl⟩ := len6 h3
    simp only [numsB, Bool.and_eq_true] at g3
    exact ⟨_, _, rfl, numB_bd g3.1 (by decide), _, _, rfl, numB_bd g3.2.1 (by decide), _, _, rfl, numB_bd g3.2.2.1 (by decide), _, _, rfl, numB_bd g3.2.2.2.1 (by decide), _, _, rfl, numB_bd g3.2.2.2.2.1 (by decide), _, _, rfl, numB_bd g3.2.2.2.2.2.1 (by decide), trivial⟩
  · obtain ⟨a, b, c, d, rfl⟩ := len4 h3
    simp only [numsB, Bool.and_eq_true] at g3
    exact ⟨_, _, rfl, numB_bd g3.1 (by decide), _, _, rfl, numB_bd g3.2.1 (by decide), _, _, rfl, numB_bd g3.2.2.1 (by decide), _, _, rfl, numB_bd g3.2.2.2.1 (by decide), trivial⟩
  · obtain ⟨a, b, c, rfl⟩ := len3 h3
    simp only [numsB, Bool.and_eq_true] at g3
    exact ⟨_, _, rfl, numB_bd g3.1 (by decide), _, _, rfl, numB_bd g3.2.1 (by decide), _, _, rfl, numB_bd g3.2.2.1 (by decide), trivial⟩
  · obtain ⟨a, rfl⟩ := len1 h3
    simp only [numsB, Bool.and_eq_true] at g3
    exact ⟨_, _, rfl, numB_bd g3.1 (by decide), trivial⟩
/-- Words behind others, each with a blank before it. -/
def tailW (ws : List Wd) : List UInt8 := ws.flatMap (fun w => 32 :: w.txt)
def textS (s : List UInt8) : List Wd → List UInt8
  | [] => s
  | w :: ws => (if s = [] then s else s ++ [32]) ++ (w.txt ++ tailW ws)
theorem textS_cons {s : List UInt8} {w : Wd} (h : w.txt ≠ []) (ws : List Wd) : textS s (w :: ws) = textS ((if s = [] then s else s ++ [32]) ++ w.txt) ws := by
  cases ws with
  | nil => show _ ++ (w.txt ++ tailW []) = _; simp [tailW, textS]
  | cons v ws =>
    show _ ++ (w.txt ++ tailW (v :: ws)) = (if _ = [] then _ else _) ++ (v.txt ++ tailW ws)
    have hne : (if s = [] then s else s ++ [32]) ++ w.txt ≠ [] := by simp [h]
    rw [if_neg hne]
    simp [tailW]
theorem gapped_text : ∀ ws : List Wd, flat (gapped ws) = textS [] ws ++ [59, 10]
  | [] => rfl
  | [x] => by simp [gapped, flat, textS, tailW, Wd.txt]
  | x :: y :: r => by
    have ih := gapped_text (y :: r)
    show flat ((x, [32]) :: gapped (y :: r)) = _
    rw [flat_cons, ih]
    simp [textS, tailW]
theorem itoa_pos {n : Int} (h : 0 ≤ n) : Lib.itoa n = Lib.decDigits (absI n).toNat := by
  have : absI n = n := by unfold absI; omega
  rw [← itoa_dec, this]
theorem itoa_neg {n : Int} (h : n < 0) : Lib.itoa (-n) = Lib.decDigits (absI n).toNat := by
  have : absI n = -n := by unfold absI; omega
  rw [← itoa_dec, this]
theorem itoaF {n : Int} (h : -1000000000 ≤ n ∧ n ≤ 1000000000) : strconv_Itoa.f n = some ⟨(Lib.itoa n).toArray⟩ := by
  unfold strconv_Itoa.f
  rw [if_pos (by omega)]
theorem dec_len {n : Int} (h : -1000000000 ≤ n ∧ n ≤ 1000000000) : (Lib.decDigits (absI n).toNat).length ≤ 10 := by
  have h2 := absI_toNat h.1 h.2
  rw [decF_eq 10 _ (by omega) (by decide)]
  exact decF_len' 10 _
theorem cat_data (s t : ByteArray) : (s ++ t).data.toList = s.data.toList ++ t.data.toList := by simp [ByteArray.data_append]
theorem ba_ext {a b : ByteArray} (h : a.data.toList = b.data.toList) : a = b := by
  obtain ⟨⟨l⟩⟩ := a
  obtain ⟨⟨m⟩⟩ := b
  simp at h
  rw [h]
theorem mk_size (l : List UInt8) : (⟨l.toArray⟩ : ByteArray).size = l.length := by simp [ByteArray.size]
theorem text_loop (P : List ByteArray) (kd : Int) (nm : ByteArray) (ns : List Int) (a : Int) (hnm : nm.size ≤ 1000) (hP : P.length ≤ 1000) (hns : ns.length ≤ 1000) : ∀ (fws : List Fw) (j k4 : Nat) (s : ByteArray),
    P.drop j = fws.map fwPart → j ≤ P.length → numsW fws (ns.drop k4) → k4 ≤ ns.length → fws.all keyB = true → (.N ∈ fws → nm.data.toList ≠ []) → s.size ≤ j * 2000 →
    Ev (fun k => slotmeshlaw02_Text.l0 k s (k4 : Int) P (P.length : Int) (j : Int) kd nm ns a) ⟨(textS s.data.toList (wds fws nm.data.toList (ns.drop k4)) ++ [59]).toArray⟩
  | [], j, k4, s, hd, hj, _, _, _, _, hs => by
    have hjl : j = P.length := by
      have := congrArg List.length hd
      rw [List.length_drop] at this
      simp at this; omega
    subst hjl
    refine Ev.step (f := _) (fun k => by rw [slotmeshlaw02_Text.l0]) (evNeg (by omega) (evPos (by omega) (evEq (Ev.now _) ?_)))
    apply ba_ext
    rw [cat_data]
    simp [wds, textS]
  | f :: fws, j, k4, s, hd, hj, hn, hk, hkey, hN, hs => by
    have hjl : j < P.length := by
      have := congrArg List.length hd
      rw [List.length_drop] at this
      simp at this; omega
    rw [List.drop_eq_getElem_cons hjl] at hd
    injection hd with hp hd
    rw [List.all_cons, Bool.and_eq_true] at hkey
    obtain ⟨hkf, hkr⟩ := hkey
    have hNr : .N ∈ fws → nm.data.toList ≠ [] := fun h => hN (List.mem_cons_of_mem _ h)
    have ih := text_loop P kd nm ns a hnm hP hns fws (j + 1)
    have c1 : (j : Int) < (P.length : Int) := Int.ofNat_lt.2 hjl
    have c2 : (0 : Int) ≤ (j : Int) := Int.natCast_nonneg _
    have hw : wrap64 ((j : Int) + 1) = ((j + 1 : Nat) : Int) := by rw [w64 (by omega) (by omega)]; omega
    have hw4 : wrap64 ((k4 : Int) + 1) = ((k4 + 1 : Nat) : Int) := by rw [w64 (by omega) (by omega)]; omega
    have hrd := rdOf_at P j hjl
    rw [hp] at hrd
    -- behind the blank
    have mid : ∀ s1 : ByteArray, s1.data.toList = (if s.data.toList = [] then s.data.toList else s.data.toList ++ [32]) → s1.size ≤ j * 2000 + 1 →
        Ev (fun k => slotmeshlaw02_Text.j1 k s1 (k4 : Int) (fwPart f) P (P.length : Int) (j : Int) kd nm ns a) ⟨(textS s.data.toList (wds (f :: fws) nm.data.toList (ns.drop k4)) ++ [59]).toArray⟩ := by
      intro s1 h1 hs1
      refine Ev.step (f := _) (fun k => by rw [slotmeshlaw02_Text.j1]) ?_
      rw [hw]
      cases f with
      | K t =>
        simp only [keyB, Bool.and_eq_true, decide_eq_true_eq] at hkf
        obtain ⟨⟨⟨⟨q0, q1⟩, q2⟩, q3⟩, q4⟩ := hkf
        have ht : (fwPart (.K t)).toList = t := by rw [ByteArray.toList_eq]; simp [fwPart]
        rw [ht]
        have hsz : (fwPart (.K t)).size = t.length := mk_size t
        refine evNeg q1 (evNeg q2 (evNeg q3 (evPos (by omega) ?_)))
        have hx := ih k4 (s1 ++ fwPart (.K t)) hd (by omega) hn hk hkr hNr (by rw [ByteArray.size_append, hsz]; omega)
        refine evEq hx ?_
        rw [cat_data, h1, show (fwPart (.K t)).data.toList = t by simp [fwPart]]
        show _ = (⟨(textS s.data.toList (.nm t :: wds fws nm.data.toList (ns.drop k4)) ++ [59]).toArray⟩ : ByteArray)
        rw [textS_cons (w := .nm t) q0]; rfl
      | N =>
        have hne := hN (by simp)
        have ht : (fwPart .N).toList = [110] := by rw [ByteArray.toList_eq]; rfl
        rw [ht]
        refine evPos rfl (evPos (by omega) ?_)
        have hx := ih k4 (s1 ++ nm) hd (by omega) hn hk hkr hNr (by rw [ByteArray.size_append]; omega)
        refine evEq hx ?_
        rw [cat_data, h1]
        show _ = (⟨(textS s.data.toList (.nm nm.data.toList :: wds fws nm.data.toList (ns.drop k4)) ++ [59]).toArray⟩ : ByteArray)
        rw [textS_cons (w := .nm nm.data.toList) hne]; rfl
      | H =>
        obtain ⟨n, t, e1, hb, e2⟩ := hn
        have hk4 : k4 < ns.length := by
          have := congrArg List.length e1
          rw [List.length_drop] at this
          simp at this; omega
        rw [List.drop_eq_getElem_cons hk4] at e1
        injection e1 with e1 e3
        subst e1
        have ht : (fwPart .H).toList = [35] := by rw [ByteArray.toList_eq]; rfl
        rw [ht, rd_int ns k4 hk4, hw4]
        have hdl := dec_len (n := ns[k4]) (by omega)
        rw [← itoa_pos hb.1] at hdl
        refine evNeg (by decide) (evPos rfl (evPos (by omega) (evPos (by omega) (evBind (itoaF (by omega)) (evPos (by rw [mk_size (Lib.itoa ns[k4])]; omega) ?_)))))
        have hx := ih (k4 + 1) (s1 ++ ⟨(Lib.itoa ns[k4]).toArray⟩) hd (by omega) (by rw [e3]; exact e2) (by omega) hkr hNr (by rw [ByteArray.size_append, mk_size (Lib.itoa ns[k4])]; omega)
        refine evEq hx ?_
        rw [cat_data, h1, List.drop_eq_getElem_cons hk4]
        show _ = (⟨(textS s.data.toList (.num (absI ns[k4]).toNat :: wds fws nm.data.toList (ns.drop (k4 + 1))) ++ [59]).toArray⟩ : ByteArray)
        rw [textS_cons (w := .num (absI ns[k4]).toNat) (dec_facts _).1, itoa_pos hb.1]; simp [Wd.txt]
      | D =>
        obtain ⟨n, t, e1, hb, e2⟩ := hn
        have hk4 : k4 < ns.length := by
          have := congrArg List.length e1
          rw [List.length_drop] at this
          simp at this; omega
        rw [List.drop_eq_getElem_cons hk4] at e1
        injection e1 with e1 e3
        subst e1
        have ht : (fwPart .D).toList = [100] := by rw [ByteArray.toList_eq]; rfl
        rw [ht, rd_int ns k4 hk4, hw4]
        have hdl := dec_len hb
        refine evNeg (by decide) (evNeg (by decide) (evPos rfl (evPos (by omega) (evPos (by omega) ?_))))
        by_cases hneg : ns[k4] < 0
        · refine evPos hneg ?_
          have hwn : wrap64 (-ns[k4]) = -ns[k4] := w64 (by omega) (by omega)
          rw [hwn]
          rw [← itoa_neg hneg] at hdl
          refine evBind (itoaF (by omega)) (evPos (by rw [mk_size (Lib.itoa (-ns[k4]))]; omega) (evPos (by rw [ByteArray.size_append, mk_size (Lib.itoa (-ns[k4]))]; show s1.size + (5 + _) ≤ _; omega) ?_))
          have hx := ih (k4 + 1) (s1 ++ ((⟨#[115, 108, 111, 119, 32]⟩ : ByteArray) ++ ⟨(Lib.itoa (-ns[k4])).toArray⟩)) hd (by omega) (by rw [e3]; exact e2) (by omega) hkr hNr (by rw [ByteArray.size_append, ByteArray.size_append, mk_size (Lib.itoa (-ns[k4]))]; show s1.size + (5 + _) ≤ _; omega)
          refine evEq hx ?_
          rw [cat_data, cat_data, h1, List.drop_eq_getElem_cons hk4]
          show _ = (⟨(textS s.data.toList (.nm (if ns[k4] < 0 then [115, 108, 111, 119] else [102, 97, 115, 116]) :: .num (absI ns[k4]).toNat :: wds fws nm.data.toList (ns.drop (k4 + 1))) ++ [59]).toArray⟩ : ByteArray)
          rw [if_pos hneg, textS_cons (w := .nm [115, 108, 111, 119]) (by simp [Wd.txt]), textS_cons (w := .num (absI ns[k4]).toNat) (dec_facts _).1, if_neg (show ¬ ((if s.data.toList = [] then s.data.toList else s.data.toList ++ [32]) ++ (Wd.nm [115, 108, 111, 119]).txt) = [] by simp [Wd.txt]), itoa_neg hneg]
          simp [Wd.txt]
        · refine evNeg hneg ?_
          rw [← itoa_pos (by omega)] at hdl
          refine evBind (itoaF (by omega)) (evPos (by rw [mk_size (Lib.itoa ns[k4])]; omega) (evPos (by rw [ByteArray.size_append, mk_size (Lib.itoa ns[k4])]; show s1.size + (5 + _) ≤ _; omega) ?_))
          have hx := ih (k4 + 1) (s1 ++ ((⟨#[102, 97, 115, 116, 32]⟩ : ByteArray) ++ ⟨(Lib.itoa ns[k4]).toArray⟩)) hd (by omega) (by rw [e3]; exact e2) (by omega) hkr hNr (by rw [ByteArray.size_append, ByteArray.size_append, mk_size (Lib.itoa ns[k4])]; show s1.size + (5 + _) ≤ _; omega)
          refine evEq hx ?_
          rw [cat_data, cat_data, h1, List.drop_eq_getElem_cons hk4]
          show _ = (⟨(textS s.data.toList (.nm (if ns[k4] < 0 then [115, 108, 111, 119] else [102, 97, 115, 116]) :: .num (absI ns[k4]).toNat :: wds fws nm.data.toList (ns.drop (k4 + 1))) ++ [59]).toArray⟩ : ByteArray)
          rw [if_neg hneg, textS_cons (w := .nm [102, 97, 115, 116]) (by simp [Wd.txt]), textS_cons (w := .num (absI ns[k4]).toNat) (dec_facts _).1, if_neg (show ¬ ((if s.data.toList = [] then s.data.toList else s.data.toList ++ [32]) ++ (Wd.nm [102, 97, 115, 116]).txt) = [] by simp [Wd.txt]), itoa_pos (by omega)]
          simp [Wd.txt]
    refine Ev.step (f := _) (fun k => by rw [slotmeshlaw02_Text.l0]) ?_
    refine evPos c1 (evPos c2 (evPos c1 ?_))
    rw [hrd, ByteArray.toList_eq]
    by_cases he : s.data.toList = []
    · exact evPos he (mid s (by rw [if_pos he]) (Nat.le_succ_of_le hs))
    · refine evNeg he (evPos (by omega) (mid (s ++ ⟨#[32]⟩) ?_ ?_))
      · rw [if_neg he, cat_data]
      · rw [ByteArray.size_append]; exact Nat.succ_le_succ hs
theorem text_ev {c : Cmd} (h : cB c = true) : Ev (fun k => slotmeshlaw02_Text.f k c.f0 c.f1 c.f2 c.f3) ⟨(lineT c ++ [59]).toArray⟩ := by
  obtain ⟨h1, h2, h3, h4, _⟩ := valid_kind h
  obtain ⟨f1, f2, _, _⟩ := form_parts h1 h2
  unfold slotmeshlaw02_Text.f
  refine evBind f1 (Ev.bind f2 ?_)
  have hk := forms_key h1 h2
  have hlen : (formP c.f0).length ≤ 20 := by rw [formP_map h1 h2, List.length_map]; exact hk.2
  have hf := cB_few h
  have h6 := shp_le h1 h2
  have hx := text_loop (formP c.f0) c.f0 c.f1 c.f2 c.f3 (by rw [← list_size]; omega) (by omega) (by omega) (formW c.f0) 0 0 ⟨#[]⟩ (by rw [List.drop_zero, formP_map h1 h2]) (Nat.zero_le _) (by rw [List.drop_zero]; exact numsW_of h) (Nat.zero_le _) hk.1
    (fun hN => by
      have := (cmdB_parts h).2.1 (forms_name h1 h2 hN)
      intro e; rw [e] at this; exact absurd this (by decide)) (by decide)
  refine evEq hx ?_
  have hl := line_flat h
  have hg := gapped_text (cWds c)
  rw [show flat (cPs c) = flat (gapped (cWds c)) from rfl, hg] at hl
  have e : lineT c = textS [] (cWds c) := List.append_cancel_right hl
  rw [e, List.drop_zero]; rfl
theorem script_loop (l : List S40) (hl : l.length ≤ 300) (hv : ∀ x ∈ l, cB (cS x) = true) (d : Nat) : ∀ (j : Nat) (s : ByteArray), j ≤ l.length → l.length - j = d → s.size ≤ j * 2000 →
    Ev (fun k => slotmeshlaw02_Script.l0 k s l (l.length : Int) (j : Int)) ⟨(s.data.toList ++ printB ((l.drop j).map cS)).toArray⟩ := by
  induction d with
  | zero =>
    intro j s hj hd _
    refine Ev.step (f := _) (fun k => by rw [slotmeshlaw02_Script.l0]) (evNeg (by omega) (evEq (Ev.now _) ?_))
    rw [List.drop_of_length_le (by omega)]
    apply ba_ext; simp [printB]
  | succ d ih =>
    intro j s hj hd hs
    have hlt : j < l.length := by omega
    have hc := hv l[j] (List.getElem_mem _)
    have hb := printB_len [cS l[j]] (fun d hd => by obtain rfl := List.mem_singleton.1 hd; exact hc)
    have hb' : (lineT (cS l[j])).length ≤ 1080 := by simp [printB] at hb; omega
    have hw : wrap64 ((j : Int) + 1) = ((j + 1 : Nat) : Int) := by rw [w64 (by omega) (by omega)]; omega
    have hz : (⟨(lineT (cS l[j]) ++ [59]).toArray⟩ : ByteArray).size ≤ 1081 := by rw [mk_size, List.length_append]; simp; omega
    have h10 : (⟨#[10]⟩ : ByteArray).size = 1 := rfl
    have hz2 : ((⟨(lineT (cS l[j]) ++ [59]).toArray⟩ : ByteArray) ++ (⟨#[10]⟩ : ByteArray)).size ≤ 1082 := by rw [ByteArray.size_append, h10]; omega
    have hih := ih (j + 1) (s ++ ((⟨(lineT (cS l[j]) ++ [59]).toArray⟩ : ByteArray) ++ (⟨#[10]⟩ : ByteArray))) (by omega) (by omega) (by rw [ByteArray.size_append]; omega)
    refine Ev.step (f := _) (fun k => by rw [slotmeshlaw02_Script.l0]) ?_
    refine evPos (by omega) (evPos (by omega) (evPos (by omega) ?_))
    rw [rd_at l j hlt, hw]
    refine Ev.bind (text_ev hc) (evPos (by omega) (evPos (by omega) (evEq hih ?_)))
    rw [List.drop_eq_getElem_cons hlt, List.map_cons, cat_data, cat_data]
    show (⟨(_ ++ printB ((l.drop (j + 1)).map cS)).toArray⟩ : ByteArray) = ⟨(s.data.toList ++ ((lineT (cS l[j]) ++ [59, 10]) ++ printB ((l.drop (j + 1)).map cS))).toArray⟩
    congr 2
    simp
theorem script_ev (l : List S40) (hl : l.length ≤ 300) (hv : ∀ x ∈ l, cB (cS x) = true) : Ev (fun k => slotmeshlaw02_Script.f k l) ⟨(printB (l.map cS)).toArray⟩ := by
  have := script_loop l hl hv l.length 0 ⟨#[]⟩ (Nat.zero_le _) rfl (by decide)
  refine evEq this ?_
  rw [List.drop_zero]; rfl
theorem usable_ev (s : ByteArray) : Ev (fun k => slotmeshlaw02_usable.f k s) (match Lx.lex s.data.toList with | .ok _ => true | .error _ => false) := by
  unfold slotmeshlaw02_usable.f
  refine Ev.bind (Lr.ref_lex s) (evEq (Ev.now _) ?_)
  cases hl : Lx.lex s.data.toList with
  | ok ts => rfl
  | error e =>
    show (e.1 == 0) = false
    rw [beq_eq_false_iff_ne]
    intro he
    by_cases h8 : 8000 < s.data.toList.length
    · have : e = (2, 0) := by unfold Lx.lex at hl; rw [if_pos h8] at hl; injection hl with hl; exact hl.symm
      rw [this] at he; cases he
    · obtain ⟨_, _, _, _, _, _, _, _, _, _, _, _, _, hp, _⟩ := Lr.lex_error_inv (by omega) hl
      have := (Lr.err_pos hp).1
      omega
theorem ParserTexts_ev (l : List S40) (hl : l.length ≤ 9223372036854775807) : Ev (fun k => slotmeshlaw02_ParserTexts.f k l) true := by
  unfold slotmeshlaw02_ParserTexts.f
  have skip : Ev (fun k => slotmeshlaw02_ParserTexts.j0 k l true true) true :=
    Ev.step (f := _) (fun k => by rw [slotmeshlaw02_ParserTexts.j0]) (evPos rfl (Ev.now _))
  refine Ev.bind head2_ev (Ev.bind (few_ev l hl) ?_)
  by_cases hf : fewB l = true
  · refine evPos hf ?_
    obtain ⟨f1, f2⟩ := few_some hf
    refine Ev.bind (valid_ev l (fun x hx => ⟨by have := (f2 x hx).1; omega, by have := (f2 x hx).2; omega⟩) (by omega)) ?_
    by_cases hv : validB (l.map cS) = true
    · rw [hv]
      obtain ⟨v1, v2⟩ := validB_mem hv
      rw [List.length_map] at v1
      have hc : ∀ x ∈ l, cB (cS x) = true := fun x hx => v2 _ (List.mem_map.2 ⟨x, hx, rfl⟩)
      refine Ev.step (f := _) (fun k => by rw [slotmeshlaw02_ParserTexts.j0]) (evNeg (by decide) ?_)
      refine Ev.bind (script_ev l v1 hc) (evBind (parseF _) (evPos rfl ?_))
      refine Ev.bind (usable_ev _) ?_
      rw [data_back]
      cases hx : Lx.lex (printB (l.map cS)) with
      | error e => exact evNeg (by simp) (Ev.now _)
      | ok ts =>
        refine evPos rfl ?_
        have hpr : printR (l.map cS) = (⟨(printB (l.map cS)).toArray⟩, 0) := by unfold printR; rw [if_pos hv, hx]
        have hp := (parse_print hpr).2.2.2.2.2
        rw [hp]
        refine evPos rfl ?_
        have hlen : (locs (l.map cS) 0).length ≤ 1000000 := by rw [locs_length, List.length_map]; omega
        have hof : l = (l.map cS).map ofCmd := by rw [List.map_map]; exact (List.map_id l).symm
        have hrs : slotmeshref02_Strip.f l = some (((l.map cS).map strip0).map ofCmd) := by
          conv => lhs; rw [hof]
          unfold slotmeshref02_Strip.f
          rw [if_pos (by rw [List.length_map, List.length_map]; omega), List.map_map, List.map_map, List.map_map, List.map_map]
          rfl
        refine evBind (stripF hlen) (evBind hrs ?_)
        rw [locs_strip]
        obtain ⟨r, hr, hk⟩ := sameF (a := (l.map cS).map strip0) (b := (l.map cS).map strip0) (strip_few v2) (by rw [List.length_map, List.length_map]; omega)
        rw [hk.2 rfl] at hr
        exact Ev.bind hr (Ev.now _)
    · rw [Bool.not_eq_true] at hv
      rw [hv]; exact skip
  · exact evNeg hf skip
end Go.Proofs.YtdedlchpjboceaaDoor.Qy
end
