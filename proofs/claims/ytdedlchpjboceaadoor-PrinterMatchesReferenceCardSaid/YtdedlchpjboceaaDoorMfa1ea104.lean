/- Texts of proofs: plain words, and walks through the program's functions. -/
import Derived.Laws.Slices
import Derived.WalkSpells
import Derived.Test.YtdedlchpjboceaaDoorM5a2c183c

section
namespace Go.Proofs.YtdedlchpjboceaaDoor.Lx
open Go.RowKit Go.Shelf
attribute [local go_sem] Oper.semAt_some
/-- A span as yield is handed it. -/
abbrev encSp (x : Sp) : Array Value := #[.int .i64 x.o, .agg #[.int .i64 x.k, .string ⟨x.t.toArray⟩]]
/-- A span of the script's own. -/
abbrev SpIn (s : ByteArray) := { x : Sp // x ∈ spans s.data.toList 0 }
abbrev vals {s : ByteArray} (xs : List (SpIn s)) : List Sp := xs.map Subtype.val
theorem ext_list (s : ByteArray) (a b : Nat) : s.extract a b = ⟨((s.data.toList.drop a).take (b - a)).toArray⟩ := by
  apply ByteArray.ext
  rw [ByteArray.data_extract]
  apply Array.ext'
  simp [Array.toList_extract, List.extract]
/-- The span at offset k, by its class. -/
theorem spans_at (s : ByteArray) (k : Nat) (h : k < s.size) (m : Nat) (hm : slen (s.data.toList.drop k) = m) :
    spans (s.data.toList.drop k) k = ⟨k, cls s[k], (s.data.toList.drop k).take m⟩ :: spans (s.data.toList.drop (k + m)) (k + m) := by
  subst hm
  rw [drop_at s k h, spans_step, ← drop_at s k h, List.drop_drop]
theorem slen_at (s : ByteArray) (k : Nat) (h : k < s.size) : slen (s.data.toList.drop k) = 1 + ((s.data.toList.drop (k + 1)).takeWhile (cont (cls s[k]))).length := by
  rw [drop_at s k h]; rfl
theorem slen_one (s : ByteArray) (k : Nat) (h : k < s.size) (h2 : cls s[k] ≠ 2) (h3 : cls s[k] ≠ 3) (h4 : cls s[k] ≠ 4) : slen (s.data.toList.drop k) = 1 := by
  rw [slen_at s k h]
  have : cont (cls s[k]) = fun _ => false := funext fun c => cont_other h2 h3 h4 c
  rw [this]
  cases s.data.toList.drop (k + 1) <;> simp [List.takeWhile]
theorem slen_scan (s : ByteArray) (k : Nat) (h : k < s.size) (p : Int → Bool) (hp : cont (cls s[k]) = fun c => p c.toNat) (hs : cont (cls s[k]) s[k] = true) : slen (s.data.toList.drop k) = scan p s k := by
  have e : p (s[k].toNat : Int) = true := by rw [hp] at hs; exact hs
  rw [slen_at s k h, scan_yes h e, hp]
  rfl
/-- What a round must keep: the block that holds the script. -/
def KeepB (Bn : Nat) (W W' : World) : Prop := W.heap.size ≤ W'.heap.size ∧ W'.heap[Bn]? = W.heap[Bn]?
theorem KeepB.trans {Bn : Nat} {A B C : World} (h : KeepB Bn A B) (k : KeepB Bn B C) : KeepB Bn A C := ⟨Nat.le_trans h.1 k.1, k.2.trans h.2⟩
theorem KeepB.put {Bn : Nat} {w : World} (hB : Bn < w.heap.size) (W : World) (l : Nat) (o o' : Obj) (hl : w.heap.size ≤ l) (_ : W.heap[l]? = some o) (_ : o.isCells = false) (_ : o.isWalk = false) : KeepB Bn W (W.putObj l o') :=
  ⟨by simp, World.putObj_heap_other (by omega)⟩
theorem KeepB.cell {Bn : Nat} {W W' : World} (h : KeepB Bn W W') (j : Nat) : W'.cell? ⟨Bn, j, none⟩ = W.cell? ⟨Bn, j, none⟩ := by simp [World.cell?, h.2]
set_option maxRecDepth 100000 in
set_option maxHeartbeats 4000000 in
theorem spans1_in (n : Nat) (hn : 1 ≤ n) (l Bn : Nat) (s : ByteArray) (hs : s.size ≤ 9223372036854775806) (J Jx : List (SpIn s) → World → Prop)
    (hY : ∀ pre x W, J pre W → pre.length < s.size → YieldAt Fence.wide (n - 1) Tryd.prog l (encSp x.1) W fun e W' =>
      (e = .returned (.bool true) ∧ J (pre ++ [x]) W' ∧ KeepB Bn W W') ∨ (e = .returned (.bool false) ∧ Jx (pre ++ [x]) W'))
    (W : World) (hBn : W.cell? ⟨Bn, 0, none⟩ = some (.string s)) (h0 : J [] W) :
    CallsIn Fence.wide n Tryd.prog 73 #[.func (.yield l) #[] #[], .pointer (some ⟨Bn, 0, none⟩)] W fun e W' => (∃ v, e = .returned v) ∧
      ((∃ xs, vals xs = spans s.data.toList 0 ∧ J xs W') ∨ (∃ pre, vals pre <+: spans s.data.toList 0 ∧ Jx pre W')) := by
  refine callsIn_of_wp Tryd.func73 rfl trivial ?_ rfl
  simp only [Tryd.ntmps73, List.size_toArray, List.length_cons, List.length_nil, Nat.reduceAdd, Nat.reduceSub, Array.replicate_succ, Array.replicate_zero, List.push_toArray, List.append_toArray, List.nil_append, List.cons_append]
  gi_wp2
  gi_loopw [3] (fun p wr => ∃ (k : Nat) (pre : List (SpIn s)), p = .int .i64 k ∧ k ≤ s.size ∧ pre.length ≤ k ∧ Hid (vals pre ++ spans (s.data.toList.drop k) k = spans s.data.toList 0) ∧ wr.cell? ⟨Bn, 0, none⟩ = some (.string s) ∧ Hid (J pre wr)) (fun p wr => s.size - (intOf p).toNat)
  case atStart =>
    exact ⟨0, [], rfl, by omega, by simp, Lib.hid (by simp), hBn, Lib.hid h0⟩
  case round =>
    obtain ⟨k, pre, rfl, hk, hpl, hX, hc, hJ⟩ := hrel
    clear hBn h0
    by_cases hlt : k < s.size
    · have hb := s[k].toNat_lt
      rcases cls_cases s[k] with hcl | hcl | hcl | hcl | hcl | hcl
      · -- class 0
        have hm := slen_one s k hlt (by rw [hcl]; decide) (by rw [hcl]; decide) (by rw [hcl]; decide)
        have hle := slen_le (s.data.toList.drop k)
        have hstep := spans_at s k hlt 1 hm
        have hext := ext_list s k (k + 1)
        rw [hcl] at hstep
        have hmem : (⟨k, 0, (s.data.toList.drop k).take 1⟩ : Sp) ∈ spans s.data.toList 0 := by rw [← hX.out, hstep]; simp
        obtain ⟨fn, tmps, assign, body, hy, hR⟩ := hY pre ⟨⟨k, 0, (s.data.toList.drop k).take 1⟩, hmem⟩ wr hJ.out (by omega)
        rw [show k + 1 - k = 1 by omega] at hext
        dsimp only [encSp] at hy
        rw [← hext] at hy
        have H1 := Lib.hid hstep
        have H2 : Hid (clsI (s[k].toNat : Int) = 0) := Lib.hid hcl
        clear hstep hext hm hle hcl
        gi_wp2_with (refine ⟨trivial, ?_⟩; gi_at_call 74; refine (callsIn_wide.2 (of_at H2.out _)).mono ?_; rintro e w' ⟨rfl, rfl⟩)
        refine hR.mono ?_
        rintro e W3 (⟨rfl, hJ3, hk3⟩ | ⟨rfl, hJx3⟩)
        · have hc3 : W3.cell? ⟨Bn, 0, none⟩ = some (.string s) := (hk3.cell 0).trans hc
          gi_wp2
          go_roundw
          case rel => exact ⟨k + 1, pre ++ [⟨⟨k, 0, (s.data.toList.drop k).take 1⟩, hmem⟩], by go_num, by omega, by simp; omega, Lib.hid (by refine Eq.trans ?_ hX.out; rw [H1.out]; simp [vals]), hc3, Lib.hid hJ3⟩
          case measure => simp [intOf]; omega
        · gi_wp2
          refine bodyPost_ret (results_none rfl _ _ _) rfl ?_
          exact ⟨⟨_, rfl⟩, .inr ⟨pre ++ [⟨⟨k, 0, (s.data.toList.drop k).take 1⟩, hmem⟩], ⟨spans (s.data.toList.drop (k + 1)) (k + 1), by refine Eq.trans ?_ hX.out; rw [H1.out]; simp [vals]⟩, hJx3⟩⟩
      · -- class 1
        have hm := slen_one s k hlt (by rw [hcl]; decide) (by rw [hcl]; decide) (by rw [hcl]; decide)
        have hle := slen_le (s.data.toList.drop k)
        have hstep := spans_at s k hlt 1 hm
        have hext := ext_list s k (k + 1)
        rw [hcl] at hstep
        have hmem : (⟨k, 1, (s.data.toList.drop k).take 1⟩ : Sp) ∈ spans s.data.toList 0 := by rw [← hX.out, hstep]; simp
        obtain ⟨fn, tmps, assign, body, hy, hR⟩ := hY pre ⟨⟨k, 1, (s.data.toList.drop k).take 1⟩, hmem⟩ wr hJ.out (by omega)
        rw [show k + 1 - k = 1 by omega] at hext
        dsimp only [encSp] at hy
        rw [← hext] at hy
        have H1 := Lib.hid hstep
        have H2 : Hid (clsI (s[k].toNat : Int) = 1) := Lib.hid hcl
        clear hstep hext hm hle hcl
        gi_wp2_with (refine ⟨trivial, ?_⟩; gi_at_call 74; refine (callsIn_wide.2 (of_at H2.out _)).mono ?_; rintro e w' ⟨rfl, rfl⟩)
        refine hR.mono ?_
        rintro e W3 (⟨rfl, hJ3, hk3⟩ | ⟨rfl, hJx3⟩)
        · have hc3 : W3.cell? ⟨Bn, 0, none⟩ = some (.string s) := (hk3.cell 0).trans hc
          gi_wp2
          go_roundw
          case rel => exact ⟨k + 1, pre ++ [⟨⟨k, 1, (s.data.toList.drop k).take 1⟩, hmem⟩], by go_num, by omega, by simp; omega, Lib.hid (by refine Eq.trans ?_ hX.out; rw [H1.out]; simp [vals]), hc3, Lib.hid hJ3⟩
          case measure => simp [intOf]; omega
        · gi_wp2
          refine bodyPost_ret (results_none rfl _ _ _) rfl ?_
          exact ⟨⟨_, rfl⟩, .inr ⟨pre ++ [⟨⟨k, 1, (s.data.toList.drop k).take 1⟩, hmem⟩], ⟨spans (s.data.toList.drop (k + 1)) (k + 1), by refine Eq.trans ?_ hX.out; rw [H1.out]; simp [vals]⟩, hJx3⟩⟩
      · -- class 2
        obtain ⟨m, hmm⟩ : ∃ m, scan pHash s k = m := ⟨_, rfl⟩
        have hm := slen_scan s k hlt pHash (by rw [hcl]; funext c; exact cont_two c) (cont_self _ (by rw [hcl]; decide))
        rw [hmm] at hm
        have hpos := slen_pos (l := s.data.toList.drop k) (by rw [drop_at s k hlt]; simp)
        have hle := scan_le pHash s k (by omega)
        rw [hmm] at hle
        rw [hm] at hpos
        have hstep := spans_at s k hlt m hm
        have hext := ext_list s k (k + m)
        rw [hcl] at hstep
        have hmem : (⟨k, 2, (s.data.toList.drop k).take m⟩ : Sp) ∈ spans s.data.toList 0 := by rw [← hX.out, hstep]; simp
        obtain ⟨fn, tmps, assign, body, hy, hR⟩ := hY pre ⟨⟨k, 2, (s.data.toList.drop k).take m⟩, hmem⟩ wr hJ.out (by omega)
        rw [show k + m - k = m by omega] at hext
        dsimp only [encSp] at hy
        rw [← hext] at hy
        have H1 := Lib.hid hstep
        have H2 : Hid (clsI (s[k].toNat : Int) = 2) := Lib.hid hcl
        have H3 := Lib.hid hmm
        clear hstep hext hm hcl hmm
        gi_wp2_with (refine ⟨trivial, ?_⟩; first | (gi_at_call 74; refine (callsIn_wide.2 (of_at H2.out _)).mono ?_; rintro e w' ⟨rfl, rfl⟩) | (gi_at_call 75; refine (callsIn_wide.2 (end_pHash s k (by omega) hs _)).mono ?_; rintro e w' ⟨rfl, rfl⟩; rw [H3.out]))
        refine hR.mono ?_
        rintro e W3 (⟨rfl, hJ3, hk3⟩ | ⟨rfl, hJx3⟩)
        · have hc3 : W3.cell? ⟨Bn, 0, none⟩ = some (.string s) := (hk3.cell 0).trans hc
          gi_wp2
          go_roundw
          case rel => exact ⟨k + m, pre ++ [⟨⟨k, 2, (s.data.toList.drop k).take m⟩, hmem⟩], by go_num, by omega, by simp; omega, Lib.hid (by refine Eq.trans ?_ hX.out; rw [H1.out]; simp [vals]), hc3, Lib.hid hJ3⟩
          case measure => simp [intOf]; omega
        · gi_wp2
          refine bodyPost_ret (results_none rfl _ _ _) rfl ?_
          exact ⟨⟨_, rfl⟩, .inr ⟨pre ++ [⟨⟨k, 2, (s.data.toList.drop k).take m⟩, hmem⟩], ⟨spans (s.data.toList.drop (k + m)) (k + m), by refine Eq.trans ?_ hX.out; rw [H1.out]; simp [vals]⟩, hJx3⟩⟩
      · -- class 3
        obtain ⟨m, hmm⟩ : ∃ m, scan pName s k = m := ⟨_, rfl⟩
        have hm := slen_scan s k hlt pName (by rw [hcl]; funext c; exact cont_three c) (cont_self _ (by rw [hcl]; decide))
        rw [hmm] at hm
        have hpos := slen_pos (l := s.data.toList.drop k) (by rw [drop_at s k hlt]; simp)
        have hle := scan_le pName s k (by omega)
        rw [hmm] at hle
        rw [hm] at hpos
        have hstep := spans_at s k hlt m hm
        have hext := ext_list s k (k + m)
        rw [hcl] at hstep
        have hmem : (⟨k, 3, (s.data.toList.drop k).take m⟩ : Sp) ∈ spans s.data.toList 0 := by rw [← hX.out, hstep]; simp
        obtain ⟨fn, tmps, assign, body, hy, hR⟩ := hY pre ⟨⟨k, 3, (s.data.toList.drop k).take m⟩, hmem⟩ wr hJ.out (by omega)
        rw [show k + m - k = m by omega] at hext
        dsimp only [encSp] at hy
        rw [← hext] at hy
        have H1 := Lib.hid hstep
        have H2 : Hid (clsI (s[k].toNat : Int) = 3) := Lib.hid hcl
        have H3 := Lib.hid hmm
        clear hstep hext hm hcl hmm
        gi_wp2_with (refine ⟨trivial, ?_⟩; first | (gi_at_call 74; refine (callsIn_wide.2 (of_at H2.out _)).mono ?_; rintro e w' ⟨rfl, rfl⟩) | (gi_at_call 75; refine (callsIn_wide.2 (end_pName s k (by omega) hs _)).mono ?_; rintro e w' ⟨rfl, rfl⟩; rw [H3.out]))
        refine hR.mono ?_
        rintro e W3 (⟨rfl, hJ3, hk3⟩ | ⟨rfl, hJx3⟩)
        · have hc3 : W3.cell? ⟨Bn, 0, none⟩ = some (.string s) := (hk3.cell 0).trans hc
          gi_wp2
          go_roundw
          case rel => exact ⟨k + m, pre ++ [⟨⟨k, 3, (s.data.toList.drop k).take m⟩, hmem⟩], by go_num, by omega, by simp; omega, Lib.hid (by refine Eq.trans ?_ hX.out; rw [H1.out]; simp [vals]), hc3, Lib.hid hJ3⟩
          case measure => simp [intOf]; omega
        · gi_wp2
          refine bodyPost_ret (results_none rfl _ _ _) rfl ?_
          exact ⟨⟨_, rfl⟩, .inr ⟨pre ++ [⟨⟨k, 3, (s.data.toList.drop k).take m⟩, hmem⟩], ⟨spans (s.data.toList.drop (k + m)) (k + m), by refine Eq.trans ?_ hX.out; rw [H1.out]; simp [vals]⟩, hJx3⟩⟩
      · -- class 4
        obtain ⟨m, hmm⟩ : ∃ m, scan pDigit s k = m := ⟨_, rfl⟩
        have hm := slen_scan s k hlt pDigit (by rw [hcl]; funext c; exact cont_four c) (cont_self _ (by rw [hcl]; decide))
        rw [hmm] at hm
        have hpos := slen_pos (l := s.data.toList.drop k) (by rw [drop_at s k hlt]; simp)
        have hle := scan_le pDigit s k (by omega)
        rw [hmm] at hle
        rw [hm] at hpos
        have hstep := spans_at s k hlt m hm
        have hext := ext_list s k (k + m)
        rw [hcl] at hstep
        have hmem : (⟨k, 4, (s.data.toList.drop k).take m⟩ : Sp) ∈ spans s.data.toList 0 := by rw [← hX.out, hstep]; simp
        obtain ⟨fn, tmps, assign, body, hy, hR⟩ := hY pre ⟨⟨k, 4, (s.data.toList.drop k).take m⟩, hmem⟩ wr hJ.out (by omega)
        rw [show k + m - k = m by omega] at hext
        dsimp only [encSp] at hy
        rw [← hext] at hy
        have H1 := Lib.hid hstep
        have H2 : Hid (clsI (s[k].toNat : Int) = 4) := Lib.hid hcl
        have H3 := Lib.hid hmm
        clear hstep hext hm hcl hmm
        gi_wp2_with (refine ⟨trivial, ?_⟩; first | (gi_at_call 74; refine (callsIn_wide.2 (of_at H2.out _)).mono ?_; rintro e w' ⟨rfl, rfl⟩) | (gi_at_call 75; refine (callsIn_wide.2 (end_pDigit s k (by omega) hs _)).mono ?_; rintro e w' ⟨rfl, rfl⟩; rw [H3.out]))
        refine hR.mono ?_
        rintro e W3 (⟨rfl, hJ3, hk3⟩ | ⟨rfl, hJx3⟩)
        · have hc3 : W3.cell? ⟨Bn, 0, none⟩ = some (.string s) := (hk3.cell 0).trans hc
          gi_wp2
          go_roundw
          case rel => exact ⟨k + m, pre ++ [⟨⟨k, 4, (s.data.toList.drop k).take m⟩, hmem⟩], by go_num, by omega, by simp; omega, Lib.hid (by refine Eq.trans ?_ hX.out; rw [H1.out]; simp [vals]), hc3, Lib.hid hJ3⟩
          case measure => simp [intOf]; omega
        · gi_wp2
          refine bodyPost_ret (results_none rfl _ _ _) rfl ?_
          exact ⟨⟨_, rfl⟩, .inr ⟨pre ++ [⟨⟨k, 4, (s.data.toList.drop k).take m⟩, hmem⟩], ⟨spans (s.data.toList.drop (k + m)) (k + m), by refine Eq.trans ?_ hX.out; rw [H1.out]; simp [vals]⟩, hJx3⟩⟩
      · -- class 5
        have hm := slen_one s k hlt (by rw [hcl]; decide) (by rw [hcl]; decide) (by rw [hcl]; decide)
        have hle := slen_le (s.data.toList.drop k)
        have hstep := spans_at s k hlt 1 hm
        have hext := ext_list s k (k + 1)
        rw [hcl] at hstep
        have hmem : (⟨k, 5, (s.data.toList.drop k).take 1⟩ : Sp) ∈ spans s.data.toList 0 := by rw [← hX.out, hstep]; simp
        obtain ⟨fn, tmps, assign, body, hy, hR⟩ := hY pre ⟨⟨k, 5, (s.data.toList.drop k).take 1⟩, hmem⟩ wr hJ.out (by omega)
        rw [show k + 1 - k = 1 by omega] at hext
        dsimp only [encSp] at hy
        rw [← hext] at hy
        have H1 := Lib.hid hstep
        have H2 : Hid (clsI (s[k].toNat : Int) = 5) := Lib.hid hcl
        clear hstep hext hm hle hcl
        gi_wp2_with (refine ⟨trivial, ?_⟩; gi_at_call 74; refine (callsIn_wide.2 (of_at H2.out _)).mono ?_; rintro e w' ⟨rfl, rfl⟩)
        refine hR.mono ?_
        rintro e W3 (⟨rfl, hJ3, hk3⟩ | ⟨rfl, hJx3⟩)
        · have hc3 : W3.cell? ⟨Bn, 0, none⟩ = some (.string s) := (hk3.cell 0).trans hc
          gi_wp2
          go_roundw
          case rel => exact ⟨k + 1, pre ++ [⟨⟨k, 5, (s.data.toList.drop k).take 1⟩, hmem⟩], by go_num, by omega, by simp; omega, Lib.hid (by refine Eq.trans ?_ hX.out; rw [H1.out]; simp [vals]), hc3, Lib.hid hJ3⟩
          case measure => simp [intOf]; omega
        · gi_wp2
          refine bodyPost_ret (results_none rfl _ _ _) rfl ?_
          exact ⟨⟨_, rfl⟩, .inr ⟨pre ++ [⟨⟨k, 5, (s.data.toList.drop k).take 1⟩, hmem⟩], ⟨spans (s.data.toList.drop (k + 1)) (k + 1), by refine Eq.trans ?_ hX.out; rw [H1.out]; simp [vals]⟩, hJx3⟩⟩
    · gi_wp2
      go_end0
      refine ⟨⟨_, rfl⟩, .inl ⟨pre, ?_, hJ.out⟩⟩
      have := hX.out
      rw [List.drop_eq_nil_of_le (by rw [list_size]; omega), spans_nil, List.append_nil] at this
      exact this
set_option maxHeartbeats 1000000 in
theorem spans_any (s : ByteArray) (w : World) :
    Calls Tryd.prog 46 #[.string s] w fun e w' => e = .returned (.func (.func 73) #[] #[.pointer (some ⟨w.heap.size, 0, none⟩)]) ∧ w' = w.alloc (.cells #[.string s] 9) := by
  go_enter Tryd.func46, Tryd.ntmps46
  go_wp2
  go_ret
  exact ⟨rfl, rfl⟩
theorem spans_stops (n : Nat) (hn : 1 ≤ n) (Bn : Nat) (s : ByteArray) (hs : s.size ≤ 9223372036854775806) (w : World) (hB : Bn < w.heap.size) (hc : w.cell? ⟨Bn, 0, none⟩ = some (.string s)) :
    SeqStopsK Fence.wide n Tryd.prog 73 #[.pointer (some ⟨Bn, 0, none⟩)] (fun x : SpIn s => encSp x.1) (KeepB Bn) (fun xs => vals xs = spans s.data.toList 0) (fun pre => vals pre <+: spans s.data.toList 0) s.size w := fun l J Jx W hW _ _ hY h0 =>
  spans1_in n hn l Bn s hs J Jx hY W ((hW.cell (p := ⟨Bn, 0, none⟩) hB).trans hc) h0
end Go.Proofs.YtdedlchpjboceaaDoor.Lx
end
