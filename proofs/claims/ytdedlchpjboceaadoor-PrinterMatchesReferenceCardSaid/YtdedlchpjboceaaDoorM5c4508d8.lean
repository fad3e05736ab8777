/- Texts of proofs: plain words, and walks through the program's functions. -/
import Derived.Test.YtdedlchpjboceaaDoorM5a2c183c
import Derived.Test.YtdedlchpjboceaaDoorM9d3f2438
import Derived.Lib.ConvBytes
import Derived.Lib.AtoiErrMem
import Derived.Test.YtdedlchpjboceaaDoorM1e215e0c
import Derived.Test.YtdedlchpjboceaaDoorM8721c24a

section
namespace Go.Proofs.YtdedlchpjboceaaDoor.Px
open Go.RowKit Go.Shelf Go.Proofs.YtdedlchpjboceaaDoor.Lx Go.Proofs.YtdedlchpjboceaaDoorW.PrintWords
attribute [local go_sem] Oper.semAt_some
/-- The key words. -/
def words : List (List UInt8) := [[109, 101, 115, 104], [100, 97, 116, 97], [114, 97, 110, 103, 101], [114, 111, 111, 116], [97, 116], [110, 111, 100, 101], [102, 97, 115, 116], [115, 108, 111, 119], [98, 97, 116, 116, 101, 114, 121], [109, 111, 118, 101], [102, 97, 105, 108], [115, 116, 97, 114, 116], [114, 101, 97, 100], [106, 97, 109], [114, 97, 100, 105, 117, 115], [99, 104, 97, 110, 110, 101, 108], [102, 111, 114], [114, 101, 112, 108, 97, 121], [112, 114, 111, 103, 114, 97, 109], [115, 105, 122, 101], [114, 117, 110]]
def wordB (l : List UInt8) : Bool := words.contains l
theorem ite_contains {l w : List UInt8} {ws : List (List UInt8)} {r : Option Bool} (h : r = some (ws.contains l)) : (if l = w then some true else r) = some ((w :: ws).contains l) := by
  by_cases e : l = w
  · rw [if_pos e, e, List.contains_cons]; simp
  · rw [if_neg e, h, List.contains_cons, beq_eq_false_iff_ne.2 e, Bool.false_or]
theorem isWord_f (s : ByteArray) : PB.parser_isWord.f s = some (wordB s.data.toList) := by
  unfold PB.parser_isWord.f wordB words
  rw [ByteArray.toList_eq]
  generalize s.data.toList = l
  iterate 21 refine ite_contains ?_
  rfl
/-- May a byte stand in a name, at its beginning (first) or behind it? -/
def nameC (first : Bool) (c : Int) : Bool := decide (97 ≤ c ∧ c ≤ 122) || (!first && decide (c = 95 ∨ (48 ≤ c ∧ c ≤ 57)))
def chk : Bool → List UInt8 → Bool
  | _, [] => true
  | f, c :: t => nameC f c.toNat && chk false t
def nameB (l : List UInt8) : Bool := decide (0 < l.length ∧ l.length ≤ 12) && !wordB l && chk true l
theorem size_ne {s : ByteArray} (h : 0 < s.size) : (s.toList == ([] : List UInt8)) = false :=
  beq_eq_false_iff_ne.mpr (by rw [ByteArray.toList_eq]; intro e; rw [← list_size, e] at h; simp at h)
theorem name_empty (w : World) : Calls Tryd.prog 91 #[.string ⟨#[]⟩] w fun e w' => e = .returned (.bool false) ∧ Below w.heap.size w w' := by
  go_enter Tryd.func91, Tryd.ntmps91
  go_wp2
  go_ret
  exact ⟨rfl, Below.refl _ _⟩
theorem name_long (s : ByteArray) (h : 12 < s.size) (w : World) : Calls Tryd.prog 91 #[.string s] w fun e w' => e = .returned (.bool false) ∧ Below w.heap.size w w' := by
  have h0 := size_ne (s := s) (by omega)
  go_enter Tryd.func91, Tryd.ntmps91
  go_wp2
  go_ret
  exact ⟨rfl, Below.refl _ _⟩
theorem name_word (s : ByteArray) (h1 : 0 < s.size) (h : s.size ≤ 12) (hw : wordB s.data.toList = true) (w : World) : Calls Tryd.prog 91 #[.string s] w fun e w' => e = .returned (.bool false) ∧ Below w.heap.size w w' := by
  have h0 := size_ne (s := s) (by omega)
  have hc := fun W => PB.parser_isWord.calls s true W (by rw [isWord_f, hw])
  clear hw
  go_enter Tryd.func91, Tryd.ntmps91
  go_wp2_with (go_at_call 112; refine (hc _).mono ?_; rintro e w' ⟨rfl, hd⟩)
  go_ret
  exact ⟨rfl, hd.below⟩
theorem nameC_iff (k : Nat) (c : Int) : nameC (decide (k = 0)) c = true ↔ ((97 ≤ c ∧ c ≤ 122) ∨ (k ≠ 0 ∧ (c = 95 ∨ (48 ≤ c ∧ c ≤ 57)))) := by
  unfold nameC; simp
theorem chk_drop {s : ByteArray} {k : Nat} (h : k < s.size) (f : Bool) : chk f (s.data.toList.drop k) = (nameC f (s[k].toNat : Int) && chk false (s.data.toList.drop (k + 1))) := by
  rw [drop_at s k h]; rfl
set_option maxHeartbeats 4000000 in
set_option maxRecDepth 100000 in
theorem name_loop (s : ByteArray) (h1 : 0 < s.size) (h : s.size ≤ 12) (hw : wordB s.data.toList = false) (w : World) : Calls Tryd.prog 91 #[.string s] w fun e w' => e = .returned (.bool (chk true s.data.toList)) ∧ Below w.heap.size w w' := by
  have h0 := size_ne (s := s) (by omega)
  have hc := fun W => PB.parser_isWord.calls s false W (by rw [isWord_f, hw])
  have hconv := fun W => Lib.run_convert_string_bytes (P := Tryd.prog) W 9 58 5 s Tryd.underlying9 Tryd.underlying58 Tryd.underlying5
  clear hw
  go_enter Tryd.func91, Tryd.ntmps91
  go_wp2_with (go_at_call 112; refine (hc _).mono ?_; rintro e w' ⟨rfl, hd⟩)
  · exfalso; omega
  · have hB : Below w.heap.size w (Lib.bytesWorld w' 5 s) := below_then hd.below hd.below.size (Lib.bytesWorld_below _ _ _)
    have hcell : ∀ k : Nat, (hk : k < s.size) → (Lib.bytesWorld w' 5 s).cell? ⟨w'.heap.size, k, none⟩ = some (.int .u8 (s[k].toNat : Int)) := by
      intro k hk
      rw [Lib.bytesWorld_cell _ _ _ _ hk, List.getD_eq_getElem?_getD, List.getElem?_eq_getElem (by rw [list_size]; exact hk)]; rfl
    generalize Lib.bytesWorld w' 5 s = W2 at *
    go_loop [20] (fun i => ∃ k : Nat, k ≤ s.size ∧ i = .int .i64 k ∧ Hid (chk (decide (k = 0)) (s.data.toList.drop k) = chk true s.data.toList)) (fun i => s.size - (intOf i).toNat)
    case atStart => exact ⟨0, by omega, rfl, Lib.hid (by simp)⟩
    case round =>
      obtain ⟨k, hk, rfl, hH⟩ := hrel
      by_cases hlt : k < s.size
      · have hb := s[k].toNat_lt
        have hce := hcell k hlt
        have hst := chk_drop hlt (decide (k = 0))
        obtain ⟨c, hcd⟩ : ∃ c : Int, (s[k].toNat : Int) = c := ⟨_, rfl⟩
        have hb0 : 0 ≤ c ∧ c ≤ 255 := by omega
        rw [hcd] at hce hst
        cases hn : nameC (decide (k = 0)) c with
        | true =>
          rw [hn, Bool.true_and] at hst
          have H2 := Lib.hid hst
          have hp := (nameC_iff k c).1 hn
          clear hst hn hcd hb hcell
          rcases hp with ⟨p1, p2⟩ | ⟨p0, p1 | ⟨p1, p2⟩⟩
          all_goals
            go_wp2
            all_goals first
              | (exfalso; omega)
              | (go_round
                 case rel => exact ⟨k + 1, by omega, by go_num, Lib.hid (by rw [← hH.out, H2.out]; rfl)⟩
                 case measure => simp [intOf]; omega)
        | false =>
          rw [hn, Bool.false_and] at hst
          have H2 : Hid (false = chk true s.data.toList) := Lib.hid (by rw [← hH.out, hst])
          have hp := (not_congr (nameC_iff k c)).1 (by rw [hn]; decide)
          clear hst hn hcd hb hcell hH
          rcases (by omega : (k = 0 ∧ (c < 97 ∨ 122 < c)) ∨ (k ≠ 0 ∧ c < 48) ∨ (k ≠ 0 ∧ 57 < c ∧ c < 95) ∨ (k ≠ 0 ∧ c = 96) ∨ (k ≠ 0 ∧ 122 < c)) with ⟨rfl, q1 | q1⟩ | ⟨q0, q1⟩ | ⟨q0, q1, q2⟩ | ⟨q0, q1⟩ | ⟨q0, q1⟩
          all_goals
            clear hp
            go_wp2
            all_goals first
              | (exfalso; omega)
              | (go_ret
                 exact ⟨ret_bool H2.out, hB⟩)
      · have hkk : k = s.size := by omega
        have H2 : Hid (true = chk true s.data.toList) := Lib.hid (by rw [← hH.out, List.drop_of_length_le (by rw [list_size]; omega)]; rfl)
        clear hH hcell
        go_wp2
        all_goals first
          | (exfalso; omega)
          | (go_ret
             exact ⟨ret_bool H2.out, hB⟩)
/-- 'isName', whatever the text. -/
theorem isName_any (s : ByteArray) (w : World) : Calls Tryd.prog 91 #[.string s] w fun e w' => e = .returned (.bool (nameB s.data.toList)) ∧ Below w.heap.size w w' := by
  have hz : s.data.toList.length = s.size := rfl
  by_cases h1 : 0 < s.size
  · by_cases h2 : s.size ≤ 12
    · cases hw : wordB s.data.toList with
      | true =>
        have : nameB s.data.toList = false := by unfold nameB; rw [hw]; simp
        rw [this]; exact name_word s h1 h2 hw w
      | false =>
        have : nameB s.data.toList = chk true s.data.toList := by unfold nameB; rw [hw, hz, decide_eq_true ⟨h1, h2⟩]; rfl
        rw [this]; exact name_loop s h1 h2 hw w
    · have : nameB s.data.toList = false := by unfold nameB; rw [hz, decide_eq_false (by omega)]; rfl
      rw [this]; exact name_long s (by omega) w
  · have h0 : s = ⟨#[]⟩ := by
      have : s.data.toList = [] := List.eq_nil_of_length_eq_zero (by omega)
      obtain ⟨⟨l⟩⟩ := s
      simp at this; subst this; rfl
    have : nameB s.data.toList = false := by unfold nameB; rw [hz, decide_eq_false (by omega)]; rfl
    rw [this]; subst h0; exact name_empty w
end Go.Proofs.YtdedlchpjboceaaDoor.Px
end

section
namespace Go.Proofs.YtdedlchpjboceaaDoor.Px
open Go.RowKit Go.Shelf Go.Proofs.YtdedlchpjboceaaDoor.Lx Go.Proofs.YtdedlchpjboceaaDoorW.PrintWords
attribute [local go_sem] Oper.semAt_some
/-- Whether commands of a kind have a name, and how many numbers. -/
def shp (kd : Int) : Bool × Int :=
  if kd = 1 then (false, 2) else if kd = 2 ∨ kd = 7 then (true, 2) else if kd = 3 then (true, 4) else if kd = 4 then (true, 3) else if kd = 5 ∨ kd = 6 then (true, 1)
  else if kd = 8 then (false, 6) else if kd = 9 then (false, 4) else if kd = 10 then (false, 3) else if kd = 11 then (false, 1) else (false, -1)
theorem shape_f (kd : Int) : PB.parser_shape.f 3 kd = some (shp kd) := by
  by_cases h : 1 ≤ kd ∧ kd ≤ 11
  · rcases (by omega : kd = 1 ∨ kd = 2 ∨ kd = 3 ∨ kd = 4 ∨ kd = 5 ∨ kd = 6 ∨ kd = 7 ∨ kd = 8 ∨ kd = 9 ∨ kd = 10 ∨ kd = 11) with rfl | rfl | rfl | rfl | rfl | rfl | rfl | rfl | rfl | rfl | rfl <;> rfl
  · have h1 : ¬ kd = 1 := by omega
    have h2 : ¬ kd = 2 := by omega
    have h3 : ¬ kd = 3 := by omega
    have h4 : ¬ kd = 4 := by omega
    have h5 : ¬ kd = 5 := by omega
    have h6 : ¬ kd = 6 := by omega
    have h7 : ¬ kd = 7 := by omega
    have h8 : ¬ kd = 8 := by omega
    have h9 : ¬ kd = 9 := by omega
    have h10 : ¬ kd = 10 := by omega
    have h11 : ¬ kd = 11 := by omega
    simp [PB.parser_shape.f, PB.parser_shape.j0, PB.parser_shape.j1, shp, h1, h2, h3, h4, h5, h6, h7, h8, h9, h10, h11]
def numB (kd : Int) (i : Nat) (n : Int) : Bool := decide (n ≤ 1000000000 ∧ (0 ≤ n ∨ (kd = 3 ∧ i = 2 ∧ -1000000000 ≤ n)))
def numsB (kd : Int) : Nat → List Int → Bool
  | _, [] => true
  | i, n :: l => numB kd i n && numsB kd (i + 1) l
/-- Is a command valid? -/
def cmdB (kd : Int) (nm : List UInt8) (ns : List Int) : Bool :=
  decide ((ns.length : Int) = (shp kd).2) && ((shp kd).1 == decide (nm ≠ [])) && (!(shp kd).1 || nameB nm) && numsB kd 0 ns
/-- What a row of numbers reads. -/
def Row (w : World) (A : Option Addr) (ns : List Int) : Prop := ns.length = 0 ∨ ∃ ad, A = some ad ∧ ∀ j, (h : j < ns.length) → w.cell? (ad.add j) = some (.int .i64 ns[j])
theorem Row.below {w w' : World} {A : Option Addr} {ns : List Int} (h : Row w A ns) (hb : Below w.heap.size w w') : Row w' A ns := by
  rcases h with h | ⟨ad, e, h⟩
  · exact .inl h
  · exact .inr ⟨ad, e, fun j hj => (hb.cell (World.block_lt_of_cell? w _ (h j hj))).trans (h j hj)⟩
theorem nums_drop {kd : Int} {ns : List Int} {k : Nat} (h : k < ns.length) : numsB kd k (ns.drop k) = (numB kd k ns[k] && numsB kd (k + 1) (ns.drop (k + 1))) := by
  rw [List.drop_eq_getElem_cons h]; rfl
set_option maxHeartbeats 4000000 in
set_option maxRecDepth 100000 in
theorem cmd_many (kd : Int) (nm : ByteArray) (A : Option Addr) (c : Nat) (ns : List Int) (at_ : Int) (w : World) (nd : Bool) (mn : Int) (hs : shp kd = (nd, mn)) (hm : ¬ (ns.length : Int) = mn) :
    Calls Tryd.prog 61 #[.agg #[.int .i64 kd, .string nm, .slice A ns.length c, .int .i64 at_]] w fun e w' => e = .returned (.bool false) ∧ Below w.heap.size w w' := by
  have hc := fun W => PB.parser_shape.calls 3 kd nd mn W (by rw [shape_f, hs])
  clear hs
  have hm' : (((ns.length : Int)) == mn) = false := beq_eq_false_iff_ne.2 hm
  go_enter Tryd.func61, Tryd.ntmps61
  go_wp2_with (go_at_call 90; refine (hc _).mono ?_; rintro e w' ⟨rfl, ⟨q, rfl⟩⟩)
  go_ret
  exact ⟨rfl, pw_below_drewN (below_alloc (Below.refl _ _) _) _⟩
set_option maxHeartbeats 4000000 in
set_option maxRecDepth 100000 in
theorem cmd_named (kd : Int) (nm : ByteArray) (A : Option Addr) (c : Nat) (ns : List Int) (at_ : Int) (w : World) (nd : Bool) (hs : shp kd = (nd, (ns.length : Int))) (hn : (nd == !(nm.toList == ([] : List UInt8))) = false) :
    Calls Tryd.prog 61 #[.agg #[.int .i64 kd, .string nm, .slice A ns.length c, .int .i64 at_]] w fun e w' => e = .returned (.bool false) ∧ Below w.heap.size w w' := by
  have hc := fun W => PB.parser_shape.calls 3 kd nd ns.length W (by rw [shape_f, hs])
  clear hs
  have hb : (nm.toList == ([] : List UInt8)) = nd := by cases nd <;> cases h : (nm.toList == ([] : List UInt8)) <;> simp_all
  clear hn
  cases nd with
  | true =>
    go_enter Tryd.func61, Tryd.ntmps61
    go_wp2_with (go_at_call 90; refine (hc _).mono ?_; rintro e w' ⟨rfl, ⟨q, rfl⟩⟩)
    go_ret
    exact ⟨rfl, pw_below_drewN (below_alloc (Below.refl _ _) _) _⟩
  | false =>
    go_enter Tryd.func61, Tryd.ntmps61
    go_wp2_with (go_at_call 90; refine (hc _).mono ?_; rintro e w' ⟨rfl, ⟨q, rfl⟩⟩)
    go_ret
    exact ⟨rfl, pw_below_drewN (below_alloc (Below.refl _ _) _) _⟩
set_option maxHeartbeats 4000000 in
set_option maxRecDepth 100000 in
theorem cmd_bad (kd : Int) (nm : ByteArray) (A : Option Addr) (c : Nat) (ns : List Int) (at_ : Int) (w : World) (hs : shp kd = (true, (ns.length : Int))) (h0 : (nm.toList == ([] : List UInt8)) = false) (hn : nameB nm.data.toList = false) :
    Calls Tryd.prog 61 #[.agg #[.int .i64 kd, .string nm, .slice A ns.length c, .int .i64 at_]] w fun e w' => e = .returned (.bool false) ∧ Below w.heap.size w w' := by
  have hc := fun W => PB.parser_shape.calls 3 kd true ns.length W (by rw [shape_f, hs])
  have hi := fun W => isName_any nm W
  rw [hn] at hi
  clear hs hn
  go_enter Tryd.func61, Tryd.ntmps61
  go_wp2_with (first | (go_at_call 90; refine (hc _).mono ?_; rintro e w' ⟨rfl, ⟨q, rfl⟩⟩) | (go_at_call 91; refine (hi _).mono ?_; rintro e w' ⟨rfl, hb⟩))
  go_ret
  exact ⟨rfl, below_then (pw_below_drewN (below_alloc (Below.refl _ _) _) _) (by simp) hb⟩
theorem box_cell (w : World) (cs : Array Value) (t : TypeId) (q j : Nat) : ((w.alloc (.cells cs t)).drewN q).cell? ⟨w.heap.size, j, none⟩ = cs[j]? := by
  show (w.alloc (.cells cs t)).cell? _ = _
  exact World.cell?_alloc_mark w cs t _ j
theorem add_two (a : Addr) : a.add 2 = ⟨a.block, a.off + 2, none⟩ := rfl
theorem numB_iff (kd : Int) (k : Nat) (n : Int) : numB kd k n = true ↔ (n ≤ 1000000000 ∧ (0 ≤ n ∨ (kd = 3 ∧ k = 2 ∧ -1000000000 ≤ n))) := by
  unfold numB; simp
theorem box_kept {w w' : World} {cs : Array Value} {t : TypeId} {q : Nat} (hb : Below ((w.alloc (.cells cs t)).drewN q).heap.size ((w.alloc (.cells cs t)).drewN q) w') (j : Nat) : w'.cell? ⟨w.heap.size, j, none⟩ = cs[j]? :=
  (hb.cell (p := ⟨w.heap.size, j, none⟩) (by show w.heap.size < (w.heap.push _).size; simp)).trans (box_cell w cs t q j)
set_option maxHeartbeats 8000000 in
set_option maxRecDepth 100000 in
theorem cmd_loop_true (kd : Int) (nm : ByteArray) (A : Option Addr) (c : Nat) (ns : List Int) (at_ : Int) (w : World) (hs : shp kd = (true, (ns.length : Int))) (h0 : (nm.toList == ([] : List UInt8)) = !true) (hn : true = true → nameB nm.data.toList = true) (hR : Row w A ns) (hl : ns.length ≤ 1000000) :
    Calls Tryd.prog 61 #[.agg #[.int .i64 kd, .string nm, .slice A ns.length c, .int .i64 at_]] w fun e w' => e = .returned (.bool (numsB kd 0 ns)) ∧ Below w.heap.size w w' := by
  have hc := fun W => PB.parser_shape.calls 3 kd true ns.length W (by rw [shape_f, hs])
  have hi : ∀ W, Calls Tryd.prog 91 #[.string nm] W fun e w' => e = .returned (.bool true) ∧ Below W.heap.size W w' := fun W => by have := isName_any nm W; rw [hn rfl] at this; exact this
  simp only [Bool.not_true] at h0
  clear hs hn
  go_enter Tryd.func61, Tryd.ntmps61
  go_wp2_with (go_at_call 90; refine (hc _).mono ?_; rintro e w' ⟨rfl, ⟨q, rfl⟩⟩)
  have hB1 : ∀ n, Below w.heap.size w ((w.alloc (.cells #[.int .i64 kd, .string nm, .slice A ns.length c, .int .i64 at_] 40)).drewN n) := fun n => pw_below_drewN (below_alloc (Below.refl _ _) _) _
  refine (hi _).mono ?_
  rintro e w' ⟨rfl, hb⟩
  have hK0 : w'.cell? ⟨w.heap.size, 0, none⟩ = some (.int .i64 kd) := box_kept hb 0
  have hK2 : w'.cell? ⟨w.heap.size, 2, none⟩ = some (.slice A ns.length c) := box_kept hb 2
  have hB : Below w.heap.size w w' := below_then (hB1 _) (hB1 _).size hb
  have hR2 : Row w' A ns := hR.below hB
  clear hb hB1 hi hc hR
  go_wp2
  go_loop [37] (fun i => ∃ k : Nat, k ≤ ns.length ∧ i = .int .i64 k ∧ Hid (numsB kd k (ns.drop k) = numsB kd 0 ns)) (fun i => ns.length - (intOf i).toNat)
  case atStart => exact ⟨0, by omega, rfl, Lib.hid rfl⟩
  case round =>
    obtain ⟨k, hk, rfl, hH⟩ := hrel
    by_cases hlt : k < ns.length
    · rcases hR2 with h | ⟨ad, rfl, hr⟩
      · exfalso; omega
      · have hce := hr k hlt
        have hst := nums_drop (kd := kd) hlt
        obtain ⟨n, hn⟩ : ∃ n, ns[k] = n := ⟨_, rfl⟩
        rw [hn] at hce hst
        cases hb : numB kd k n with
        | true =>
          rw [hb, Bool.true_and] at hst
          have H2 : Hid (numsB kd (k + 1) (ns.drop (k + 1)) = numsB kd 0 ns) := Lib.hid (by rw [← hst]; exact hH.out)
          have hp := (numB_iff kd k n).1 hb
          clear hst hn hb hr hH
          rcases (by omega : (n ≤ 1000000000 ∧ 0 ≤ n) ∨ (n < 0 ∧ kd = 3 ∧ k = 2 ∧ -1000000000 ≤ n)) with ⟨p1, p2⟩ | ⟨p1, rfl, rfl, p2⟩
          all_goals
            clear hp
            (try simp only [add_two] at hce)
            go_wp2
            all_goals first
              | (exfalso; omega)
              | (go_round
                 case rel => exact ⟨_, by omega, by go_num, H2⟩
                 case measure => simp [intOf]; omega)
        | false =>
          rw [hb, Bool.false_and] at hst
          have H2 : Hid (false = numsB kd 0 ns) := Lib.hid (by rw [← hst]; exact hH.out)
          have hp := (not_congr (numB_iff kd k n)).1 (by rw [hb]; decide)
          clear hst hn hb hr hH
          rcases (by omega : 1000000000 < n ∨ (n < 0 ∧ kd ≠ 3) ∨ (n < 0 ∧ kd = 3 ∧ k ≠ 2) ∨ (n < -1000000000 ∧ kd = 3 ∧ k = 2)) with p1 | ⟨p1, p2⟩ | ⟨p1, rfl, p2⟩ | ⟨p1, rfl, rfl⟩
          all_goals
            clear hp
            (try simp only [add_two] at hce)
            go_wp2
            all_goals first
              | (exfalso; omega)
              | (go_ret
                 exact ⟨ret_bool H2.out, hB⟩)
    · have H2 : Hid (true = numsB kd 0 ns) := Lib.hid (by rw [← hH.out, List.drop_of_length_le (by omega)]; rfl)
      clear hH hR2
      go_wp2
      all_goals first
        | (exfalso; omega)
        | (go_ret
           exact ⟨ret_bool H2.out, hB⟩)
set_option maxHeartbeats 8000000 in
set_option maxRecDepth 100000 in
theorem cmd_loop_false (kd : Int) (nm : ByteArray) (A : Option Addr) (c : Nat) (ns : List Int) (at_ : Int) (w : World) (hs : shp kd = (false, (ns.length : Int))) (h0 : (nm.toList == ([] : List UInt8)) = !false) (_ : false = true → nameB nm.data.toList = true) (hR : Row w A ns) (hl : ns.length ≤ 1000000) :
    Calls Tryd.prog 61 #[.agg #[.int .i64 kd, .string nm, .slice A ns.length c, .int .i64 at_]] w fun e w' => e = .returned (.bool (numsB kd 0 ns)) ∧ Below w.heap.size w w' := by
  have hc := fun W => PB.parser_shape.calls 3 kd false ns.length W (by rw [shape_f, hs])
  simp only [Bool.not_false] at h0
  clear hs
  go_enter Tryd.func61, Tryd.ntmps61
  go_wp2_with (go_at_call 90; refine (hc _).mono ?_; rintro e w' ⟨rfl, ⟨q, rfl⟩⟩)
  have hB1 : ∀ n, Below w.heap.size w ((w.alloc (.cells #[.int .i64 kd, .string nm, .slice A ns.length c, .int .i64 at_] 40)).drewN n) := fun n => pw_below_drewN (below_alloc (Below.refl _ _) _) _
  have hB := hB1 q
  have hK0 : ((w.alloc (.cells #[.int .i64 kd, .string nm, .slice A ns.length c, .int .i64 at_] 40)).drewN q).cell? ⟨w.heap.size, 0, none⟩ = some (.int .i64 kd) := box_cell _ _ _ _ _
  have hR2 := hR.below hB
  clear hB1 hc hR
  generalize ((w.alloc (.cells #[.int .i64 kd, .string nm, .slice A ns.length c, .int .i64 at_] 40)).drewN q) = W2 at *
  go_loop [37] (fun i => ∃ k : Nat, k ≤ ns.length ∧ i = .int .i64 k ∧ Hid (numsB kd k (ns.drop k) = numsB kd 0 ns)) (fun i => ns.length - (intOf i).toNat)
  case atStart => exact ⟨0, by omega, rfl, Lib.hid rfl⟩
  case round =>
    obtain ⟨k, hk, rfl, hH⟩ := hrel
    by_cases hlt : k < ns.length
    · rcases hR2 with h | ⟨ad, rfl, hr⟩
      · exfalso; omega
      · have hce := hr k hlt
        have hst := nums_drop (kd := kd) hlt
        obtain ⟨n, hn⟩ : ∃ n, ns[k] = n := ⟨_, rfl⟩
        rw [hn] at hce hst
        cases hb : numB kd k n with
        | true =>
          rw [hb, Bool.true_and] at hst
          have H2 : Hid (numsB kd (k + 1) (ns.drop (k + 1)) = numsB kd 0 ns) := Lib.hid (by rw [← hst]; exact hH.out)
          have hp := (numB_iff kd k n).1 hb
          clear hst hn hb hr hH
          rcases (by omega : (n ≤ 1000000000 ∧ 0 ≤ n) ∨ (n < 0 ∧ kd = 3 ∧ k = 2 ∧ -1000000000 ≤ n)) with ⟨p1, p2⟩ | ⟨p1, rfl, rfl, p2⟩
          all_goals
            clear hp
            (try simp only [add_two] at hce)
            go_wp2
            all_goals first
              | (exfalso; omega)
              | (go_round
                 case rel => exact ⟨_, by omega, by go_num, H2⟩
                 case measure => simp [intOf]; omega)
        | false =>
          rw [hb, Bool.false_and] at hst
          have H2 : Hid (false = numsB kd 0 ns) := Lib.hid (by rw [← hst]; exact hH.out)
          have hp := (not_congr (numB_iff kd k n)).1 (by rw [hb]; decide)
          clear hst hn hb hr hH
          rcases (by omega : 1000000000 < n ∨ (n < 0 ∧ kd ≠ 3) ∨ (n < 0 ∧ kd = 3 ∧ k ≠ 2) ∨ (n < -1000000000 ∧ kd = 3 ∧ k = 2)) with p1 | ⟨p1, p2⟩ | ⟨p1, rfl, p2⟩ | ⟨p1, rfl, rfl⟩
          all_goals
            clear hp
            (try simp only [add_two] at hce)
            go_wp2
            all_goals first
              | (exfalso; omega)
              | (go_ret
                 exact ⟨ret_bool H2.out, hB⟩)
    · have H2 : Hid (true = numsB kd 0 ns) := Lib.hid (by rw [← hH.out, List.drop_of_length_le (by omega)]; rfl)
      clear hH hR2
      go_wp2
      all_goals first
        | (exfalso; omega)
        | (go_ret
           exact ⟨ret_bool H2.out, hB⟩)
theorem empty_iff (nm : ByteArray) : (nm.toList == ([] : List UInt8)) = !decide (nm.data.toList ≠ []) := by
  rw [ByteArray.toList_eq]
  cases h : nm.data.toList with
  | nil => rfl
  | cons a l => rfl
/-- 'isCommand', whatever the command. -/
theorem isCommand_any (kd : Int) (nm : ByteArray) (A : Option Addr) (c : Nat) (ns : List Int) (at_ : Int) (w : World) (hR : Row w A ns) :
    Calls Tryd.prog 61 #[.agg #[.int .i64 kd, .string nm, .slice A ns.length c, .int .i64 at_]] w fun e w' => e = .returned (.bool (cmdB kd nm.data.toList ns)) ∧ Below w.heap.size w w' := by
  obtain ⟨nd, mn, hs⟩ : ∃ nd mn, shp kd = (nd, mn) := ⟨_, _, rfl⟩
  have hmn : mn ≤ 6 := by
    have : (shp kd).2 ≤ 6 := by unfold shp; (repeat' split) <;> decide
    rw [hs] at this; exact this
  unfold cmdB
  rw [hs]
  dsimp only
  by_cases hm : (ns.length : Int) = mn
  · subst hm
    rw [decide_eq_true rfl, Bool.true_and]
    have he := empty_iff nm
    cases nd with
    | true =>
      cases hd : decide (nm.data.toList ≠ []) with
      | false => exact cmd_named kd nm A c ns at_ w true hs (by rw [he, hd]; rfl)
      | true =>
        rw [hd] at he
        cases hn : nameB nm.data.toList with
        | false => exact cmd_bad kd nm A c ns at_ w hs he hn
        | true => exact cmd_loop_true kd nm A c ns at_ w hs he (fun _ => hn) hR (by omega)
    | false =>
      cases hd : decide (nm.data.toList ≠ []) with
      | true => exact cmd_named kd nm A c ns at_ w false hs (by rw [he, hd]; rfl)
      | false =>
        rw [hd] at he
        exact cmd_loop_false kd nm A c ns at_ w hs he (fun h => by cases h) hR (by omega)
  · rw [decide_eq_false hm]
    exact cmd_many kd nm A c ns at_ w nd mn hs hm
set_option maxHeartbeats 4000000 in
set_option maxRecDepth 100000 in
/-- The closure that 'Valid' hands to the library. -/
theorem valid1_any (kd : Int) (nm : ByteArray) (A : Option Addr) (c : Nat) (ns : List Int) (at_ : Int) (w : World) (hR : Row w A ns) :
    Calls Tryd.prog 60 #[.agg #[.int .i64 kd, .string nm, .slice A ns.length c, .int .i64 at_]] w fun e w' => e = .returned (.bool (!cmdB kd nm.data.toList ns)) ∧ Below w.heap.size w w' := by
  obtain ⟨b, hb⟩ : ∃ b, cmdB kd nm.data.toList ns = b := ⟨_, rfl⟩
  have hi : ∀ W, Below w.heap.size w W → Calls Tryd.prog 61 #[.agg #[.int .i64 kd, .string nm, .slice A ns.length c, .int .i64 at_]] W fun e w' => e = .returned (.bool b) ∧ Below W.heap.size W w' := fun W hW => by
    have := isCommand_any kd nm A c ns at_ W (hR.below hW); rw [hb] at this; exact this
  rw [hb]
  clear hb hR
  go_enter Tryd.func60, Tryd.ntmps60
  go_wp2_with (go_at_call 61; refine (hi _ (below_alloc (Below.refl _ _) _)).mono ?_; rintro e w' ⟨rfl, hb⟩)
  go_ret
  exact ⟨rfl, below_then (below_alloc (Below.refl _ _) _) (by simp) hb⟩
end Go.Proofs.YtdedlchpjboceaaDoor.Px
end

section
namespace Go.Proofs.YtdedlchpjboceaaDoor.Px
open Go.RowKit Go.Proofs.YtdedlchpjboceaaDoorW.PrintWords Go.Proofs.YtdedlchpjboceaaDoorW.PrintLast Go.Proofs.YtdedlchpjboceaaDoorW.PrintMore
/-- A command. -/
structure Cmd where
  f0 : Int
  f1 : ByteArray
  f2 : (List Int)
  f3 : Int
def zC : Cmd := ⟨(0 : Int), (⟨#[]⟩ : ByteArray), ([] : List Int), (0 : Int)⟩
def kC : Kd Cmd := Kd.iso (Kd.pair (Kd.int .i64) (Kd.pair Kd.string (Kd.pair (Kd.slice 3 (Kd.int .i64)) (Kd.int .i64)))) (fun x : Cmd => (x.f0, x.f1, x.f2, x.f3))
theorem kC_open {w : World} {x : Cmd} {cs : List Value} (h : kC.K w x cs) : ∃ A2 c2, cs = [.int .i64 x.f0, .string x.f1, .slice A2 x.f2.length c2, .int .i64 x.f3] ∧ x.f2.length ≤ c2 ∧ (Kd.int .i64).C w A2 x.f2.length x.f2 := by
  obtain ⟨_, _, rfl, rfl, ⟨_, _, rfl, rfl, ⟨_, _, rfl, ⟨A2, c2, rfl, l2, g2⟩, rfl⟩⟩⟩ := h
  exact ⟨A2, c2, rfl, l2, g2⟩
theorem kC_mk (w : World) (x : Cmd) {A2 : Option Addr} {c2 : Nat} (l2 : x.f2.length ≤ c2) (g2 : (Kd.int .i64).C w A2 x.f2.length x.f2) : kC.K w x [.int .i64 x.f0, .string x.f1, .slice A2 x.f2.length c2, .int .i64 x.f3] := ⟨[.int .i64 x.f0], [.string x.f1, .slice A2 x.f2.length c2, .int .i64 x.f3], rfl, rfl, ⟨[.string x.f1], [.slice A2 x.f2.length c2, .int .i64 x.f3], rfl, rfl, ⟨[.slice A2 x.f2.length c2], [.int .i64 x.f3], rfl, ⟨A2, c2, rfl, l2, g2⟩, rfl⟩⟩⟩
def rd_C (xs : List Cmd) (i : Int) : Cmd := xs.getD i.toNat zC
theorem at_C {w : World} {A : Option Addr} {n : Nat} {xs : List Cmd} (h : Kd.C kC w A n xs) (i : Int) (h0 : 0 ≤ i) (h1 : i < n) : ∃ ad A2 c2, A = some ad ∧ w.cell? (ad.add (i.toNat * 4)) = some (.int .i64 (rd_C xs i).f0) ∧ w.cell? ⟨(ad.add (i.toNat * 4)).block, (ad.add (i.toNat * 4)).off + 1, none⟩ = some (.string (rd_C xs i).f1) ∧ w.cell? ⟨(ad.add (i.toNat * 4)).block, (ad.add (i.toNat * 4)).off + 2, none⟩ = some (.slice A2 (rd_C xs i).f2.length c2) ∧ w.cell? ⟨(ad.add (i.toNat * 4)).block, (ad.add (i.toNat * 4)).off + 3, none⟩ = some (.int .i64 (rd_C xs i).f3) ∧ (rd_C xs i).f2.length ≤ c2 ∧ (Kd.int .i64).C w A2 (rd_C xs i).f2.length (rd_C xs i).f2 := by
  obtain ⟨ad, c, e, _, hK, hc0⟩ := Kd.C_get h zC i h0 h1
  have hc : ∀ j u, c[j]? = some u → w.cell? (ad.add (i.toNat * 4 + j)) = some u := hc0
  obtain ⟨A2, c2, rfl, l2, g2⟩ := kC_open hK
  exact ⟨ad, A2, c2, e, hc 0 _ rfl, by rw [← add_field _ _ 1 (by omega)]; exact hc 1 _ rfl, by rw [← add_field _ _ 2 (by omega)]; exact hc 2 _ rfl, by rw [← add_field _ _ 3 (by omega)]; exact hc 3 _ rfl, l2, g2⟩
end Go.Proofs.YtdedlchpjboceaaDoor.Px
end

section
namespace Go.Proofs.YtdedlchpjboceaaDoor.Px
open Go.RowKit Go.Shelf Go.Proofs.YtdedlchpjboceaaDoor.Lx Go.Proofs.YtdedlchpjboceaaDoorW.PrintWords Go.Proofs.YtdedlchpjboceaaDoorW.PrintLast Go.Proofs.YtdedlchpjboceaaDoorW.PrintMore
attribute [local go_sem] Oper.semAt_some
theorem row_of {w : World} {A : Option Addr} {ns : List Int} (h : (Kd.int .i64).C w A ns.length ns) : Row w A ns := by
  have hr : ReadsInt w .i64 A ns.length ns := Kd.reads_of_C (enc := Value.int .i64) (d := (0 : Int)) (h1 := fun _ => rfl) h
  by_cases h0 : ns.length = 0
  · exact .inl h0
  · obtain ⟨ad, e, hc⟩ := hr.2.2 (by omega)
    refine .inr ⟨ad, e, fun j hj => ?_⟩
    rw [hc j hj, List.getD_eq_getElem?_getD, List.getElem?_eq_getElem hj]; rfl
def cB (x : Cmd) : Bool := cmdB x.f0 x.f1.data.toList x.f2
/-- Where the first command stands that is not valid; -1 where none is. -/
def idxF : Nat → List Cmd → Int
  | _, [] => -1
  | k, x :: l => if cB x = true then idxF (k + 1) l else k
theorem idxF_drop {l : List Cmd} {k : Nat} (h : k < l.length) : idxF k (l.drop k) = if cB (rd_C l (k : Int)) = true then idxF (k + 1) (l.drop (k + 1)) else (k : Int) := by
  rw [List.drop_eq_getElem_cons h]
  have : rd_C l (k : Int) = l[k] := by unfold rd_C; rw [Int.toNat_natCast, List.getD_eq_getElem?_getD, List.getElem?_eq_getElem h]; rfl
  rw [this]; rfl
set_option maxHeartbeats 8000000 in
set_option maxRecDepth 100000 in
theorem indexFunc_any (A : Option Addr) (c : Nat) (l : List Cmd) (w : World) (hC : Kd.C kC w A l.length l) (hl : l.length ≤ 140737488355328) :
    Calls Tryd.prog 89 #[.slice A l.length c, .func (.func 60) #[] #[]] w fun e w' => e = .returned (.int .i64 (idxF 0 l)) ∧ Below w.heap.size w w' := by
  have eg : ∀ args w, (callFunc 60 args).run Tryd.prog w = .ok (.enter 60 args) w := enters_of Tryd.func60 (by kernel_rfl) rfl
  have hu40 := Tryd.underlying40
  have HC := Aside0.mk hC
  clear hC
  go_enter Tryd.func89, Tryd.ntmps89
  go_wp2
  go_loopg [8] l.length (fun g v w' => ∃ k : Nat, k + g = l.length ∧ v = .int .i64 k ∧ Hid (idxF k (l.drop k) = idxF 0 l) ∧ Aside0 (Below w.heap.size w w'))
  case atStart => exact ⟨0, by omega, rfl, Lib.hid rfl, ⟨Below.refl _ _⟩⟩
  case round =>
    obtain ⟨k, hk, rfl, hH, HB⟩ := hrel
    by_cases hlt : k < l.length
    · obtain ⟨ad, A2, c2, e, h0, h1, h2, h3, hl2, hi2⟩ := at_C HC.out (k : Int) (by omega) (by omega)
      cases e
      have hst := idxF_drop hlt
      have hR := (row_of hi2).below HB.out
      replace h0 := (HB.out.cell (World.block_lt_of_cell? w _ h0)).trans h0
      replace h1 := (HB.out.cell (World.block_lt_of_cell? w _ h1)).trans h1
      replace h2 := (HB.out.cell (World.block_lt_of_cell? w _ h2)).trans h2
      replace h3 := (HB.out.cell (World.block_lt_of_cell? w _ h3)).trans h3
      rw [Int.toNat_natCast] at h0 h1 h2 h3
      clear hi2 hl2
      cases hb : cB (rd_C l (k : Int)) with
      | true =>
        rw [if_pos hb] at hst
        have H2 : Hid (idxF (k + 1) (l.drop (k + 1)) = idxF 0 l) := Lib.hid (by rw [← hst]; exact hH.out)
        have hv := valid1_any (rd_C l (k : Int)).f0 (rd_C l (k : Int)).f1 A2 c2 (rd_C l (k : Int)).f2 (rd_C l (k : Int)).f3
        have hb' : cmdB (rd_C l (k : Int)).f0 (rd_C l (k : Int)).f1.data.toList (rd_C l (k : Int)).f2 = true := hb
        rw [hb'] at hv
        clear hst hb hb' hH
        have HR := Aside0.mk hR
        clear hR
        go_wp2_with (go_at_call 60; refine (hv _ HR.out).mono ?_; rintro e w' ⟨rfl, hw⟩)
        go_roundg (l.length - (k + 1))
        case measure => omega
        case rel => exact ⟨k + 1, by omega, by go_num, H2, ⟨below_step HB.out hw⟩⟩
      | false =>
        rw [if_neg (by rw [hb]; decide)] at hst
        have H2 : Hid ((k : Int) = idxF 0 l) := Lib.hid (by rw [← hst]; exact hH.out)
        have hv := valid1_any (rd_C l (k : Int)).f0 (rd_C l (k : Int)).f1 A2 c2 (rd_C l (k : Int)).f2 (rd_C l (k : Int)).f3
        have hb' : cmdB (rd_C l (k : Int)).f0 (rd_C l (k : Int)).f1.data.toList (rd_C l (k : Int)).f2 = false := hb
        rw [hb'] at hv
        clear hst hb hb' hH
        have HR := Aside0.mk hR
        clear hR
        go_wp2_with (go_at_call 60; refine (hv _ HR.out).mono ?_; rintro e w' ⟨rfl, hw⟩)
        go_ret
        exact ⟨ret_int H2.out, below_step HB.out hw⟩
    · have H2 : Hid ((-1 : Int) = idxF 0 l) := Lib.hid (by rw [← hH.out, List.drop_of_length_le (by omega)]; rfl)
      clear hH
      go_wp2
      all_goals first
        | (exfalso; omega)
        | (go_ret
           exact ⟨ret_int H2.out, HB.out⟩)
theorem idxF_all (l : List Cmd) : ∀ k : Nat, decide (idxF k l ≥ 0) = !l.all cB := by
  induction l with
  | nil => intro k; rfl
  | cons x l ih =>
    intro k
    rw [List.all_cons]
    by_cases h : cB x = true
    · have e : idxF k (x :: l) = idxF (k + 1) l := if_pos h
      rw [e, h, Bool.true_and]; exact ih (k + 1)
    · have e : idxF k (x :: l) = (k : Int) := if_neg h
      rw [e, Bool.eq_false_iff.2 h, Bool.false_and]; exact decide_eq_true (Int.natCast_nonneg k)
set_option maxHeartbeats 4000000 in
theorem containsFunc_any (A : Option Addr) (c : Nat) (l : List Cmd) (w : World) (hC : Kd.C kC w A l.length l) (hl : l.length ≤ 140737488355328) :
    Calls Tryd.prog 59 #[.slice A l.length c, .func (.func 60) #[] #[]] w fun e w' => e = .returned (.bool (!l.all cB)) ∧ Below w.heap.size w w' := by
  have hi := indexFunc_any A c l w hC hl
  have hx := Lib.hid (idxF_all l 0)
  obtain ⟨i, hI⟩ : ∃ i, idxF 0 l = i := ⟨_, rfl⟩
  rw [hI] at hi hx
  clear hC hI
  go_enter Tryd.func59, Tryd.ntmps59
  go_wp2_with (go_at_call 89; refine hi.mono ?_; rintro e w' ⟨rfl, hw⟩)
  go_ret
  exact ⟨ret_bool hx.out, hw⟩
/-- Valid: at most 300 commands, each valid. -/
def validB (l : List Cmd) : Bool := decide ((l.length : Int) ≤ 300) && l.all cB
set_option maxHeartbeats 4000000 in
theorem valid_any (A : Option Addr) (c : Nat) (l : List Cmd) (w : World) (hC : Kd.C kC w A l.length l) :
    Calls Tryd.prog 35 #[.slice A l.length c] w fun e w' => e = .returned (.bool (validB l)) ∧ Below w.heap.size w w' := by
  unfold validB
  by_cases h : (l.length : Int) ≤ 300
  · rw [decide_eq_true h, Bool.true_and]
    have hi := containsFunc_any A c l w hC (by omega)
    obtain ⟨b, hb⟩ : ∃ b, l.all cB = b := ⟨_, rfl⟩
    rw [hb] at hi ⊢
    clear hC hb
    go_enter Tryd.func35, Tryd.ntmps35
    go_wp2_with (go_at_call 59; refine hi.mono ?_; rintro e w' ⟨rfl, hw⟩)
    all_goals first
      | (exfalso; omega)
      | (go_ret
         exact ⟨ret_bool (by cases b <;> rfl), hw⟩)
  · rw [decide_eq_false h, Bool.false_and]
    clear hC
    go_enter Tryd.func35, Tryd.ntmps35
    go_wp2
    all_goals first
      | (exfalso; omega)
      | (go_ret
         exact ⟨rfl, Below.refl _ _⟩)
end Go.Proofs.YtdedlchpjboceaaDoor.Px
end

section
namespace Go.Proofs.YtdedlchpjboceaaDoor.Px
open Go.RowKit Go.Shelf Go.Proofs.YtdedlchpjboceaaDoor.Lx Go.Proofs.YtdedlchpjboceaaDoorW.PrintWords Go.Proofs.YtdedlchpjboceaaDoorW.PrintLast Go.Proofs.YtdedlchpjboceaaDoorW.PrintMore
attribute [local go_sem] Oper.semAt_some
/-- A token. -/
structure Tok where
  f0 : Int
  f1 : ByteArray
  f2 : Int
  f3 : Int
def kT : Kd Tok := Kd.iso (Kd.pair (Kd.int .i64) (Kd.pair Kd.string (Kd.pair (Kd.int .i64) (Kd.int .i64)))) (fun x : Tok => (x.f0, x.f1, x.f2, x.f3))
theorem kT_mkM (w : World) (base : Nat) (ok : Nat → Prop) (x : Tok)  : kT.M w base ok x [.int .i64 x.f0, .string x.f1, .int .i64 x.f2, .int .i64 x.f3] := ⟨[.int .i64 x.f0], [.string x.f1, .int .i64 x.f2, .int .i64 x.f3], rfl, rfl, ⟨[.string x.f1], [.int .i64 x.f2, .int .i64 x.f3], rfl, rfl, ⟨[.int .i64 x.f2], [.int .i64 x.f3], rfl, rfl, rfl⟩⟩⟩
end Go.Proofs.YtdedlchpjboceaaDoor.Px
end
