/- Texts of proofs: plain words, and walks through the program's functions. -/
import Derived.Test.YtdedlchpjboceaaDoorM7c8612c7
import Derived.Test.YtdedlchpjboceaaDoorM8845ac94
import Derived.Test.YtdedlchpjboceaaDoorMb7727cfe
import Derived.Test.YtdedlchpjboceaaDoorM02602a3d

section
namespace Go.Proofs.YtdedlchpjboceaaDoor.Qy
open Go.RowKit Go.Proofs.YtdedlchpjboceaaDoorW.PrintWords Go.Proofs.YtdedlchpjboceaaDoorW.PrintLast Go.Proofs.YtdedlchpjboceaaDoor.Lx Go.Proofs.YtdedlchpjboceaaDoor.Px Go.Proofs.YtdedlchpjboceaaDoor.Tx Go.Proofs.YtdedlchpjboceaaDoor.Qz Go.Proofs.YtdedlchpjboceaaDoor.PE
theorem bt_nat' {s : ByteArray} {k : Nat} (h : k < s.size) : bt s (k : Int) = (s[k].toNat : Int) := (bt_at s k (by simpa using h)).symm
theorem form_none {k : Int} (h : ¬ (1 ≤ k ∧ k ≤ 11)) : slotmeshref02_Form.f k = some ⟨#[]⟩ := by
  unfold slotmeshref02_Form.f
  rw [if_neg (by omega), if_neg (by omega), if_neg (by omega), if_neg (by omega), if_neg (by omega), if_neg (by omega), if_neg (by omega), if_neg (by omega), if_neg (by omega), if_neg (by omega), if_neg (by omega)]
theorem form_some {k : Int} (h1 : 1 ≤ k) (h2 : k ≤ 11) : ∃ s, slotmeshref02_Form.f k = some s ∧ s.toList ≠ [] := by
  rcases kinds h1 h2 with rfl | rfl | rfl | rfl | rfl | rfl | rfl | rfl | rfl | rfl | rfl <;> exact ⟨_, rfl, by rw [ByteArray.toList_eq]; simp⟩
set_option maxRecDepth 100000 in
theorem counts_ev {k : Int} (h1 : 1 ≤ k) (h2 : k ≤ 11) : Ev (fun n => slotmeshref02_Counts.f n k) (shp k) := by
  rcases kinds h1 h2 with rfl | rfl | rfl | rfl | rfl | rfl | rfl | rfl | rfl | rfl | rfl <;> exact evK (slotmeshref02_Counts.mono _) 60 (by kernel_rfl)
def wordsA : List ByteArray := (slotmeshref02_words.f).getD []
theorem words_f : slotmeshref02_words.f = some wordsA := rfl
theorem words_map : wordsA.map (fun s => s.data.toList) = words := rfl
theorem words_len : wordsA.length = 21 := rfl
theorem rdOf_at (l : List ByteArray) (j : Nat) (h : j < l.length) : rdOf ByteArray.empty l (j : Int) = l[j] := by
  unfold rdOf
  rw [Int.toNat_natCast, List.getD_eq_getElem?_getD, List.getElem?_eq_getElem h]; rfl
def endB (n : Nat) : Bool := decide (0 < n ∧ n ≤ 12)
theorem name_l1 (s : ByteArray) (d : Nat) : ∀ j : Nat, j ≤ 21 → 21 - j = d → Ev (fun k => slotmeshref02_Name.l1 k s wordsA (j : Int)) (!((words.drop j).contains s.data.toList) && endB s.size) := by
  induction d with
  | zero =>
    intro j hj hd
    obtain rfl : j = 21 := by omega
    refine Ev.step (f := _) (fun k => by rw [slotmeshref02_Name.l1]) ?_
    refine evNeg (by rw [words_len]; decide) ?_
    have e : (words.drop 21).contains s.data.toList = false := rfl
    rw [e, Bool.not_false, Bool.true_and]
    unfold endB
    by_cases h1 : (s.size : Int) ≥ 1
    · refine evPos h1 (evEq (Ev.now _) ?_)
      exact decide_eq_decide.2 (by omega)
    · refine evNeg h1 (evEq (Ev.now _) ?_)
      exact (decide_eq_false (by omega)).symm
  | succ d ih =>
    intro j hj hd
    have hih := ih (j + 1) (by omega) (by omega)
    have hw : wrap64 ((j : Int) + 1) = ((j + 1 : Nat) : Int) := by rw [w64 (by omega) (by omega)]; omega
    have hjl : j < wordsA.length := by rw [words_len]; omega
    have hjw : j < words.length := by show j < 21; omega
    have hget : words[j] = wordsA[j].data.toList := by
      have : words[j]? = (wordsA[j]?).map (fun s => s.data.toList) := by rw [← words_map, List.getElem?_map]
      rw [List.getElem?_eq_getElem hjw, List.getElem?_eq_getElem hjl] at this
      exact Option.some.inj this
    refine Ev.step (f := _) (fun k => by rw [slotmeshref02_Name.l1]) ?_
    refine evPos (by omega) (evPos (by omega) ?_)
    rw [rdOf_at _ _ hjl, hw, List.drop_eq_getElem_cons hjw, List.contains_cons, hget, ByteArray.toList_eq, ByteArray.toList_eq]
    by_cases he : wordsA[j].data.toList = s.data.toList
    · refine evPos he (evEq (Ev.now _) ?_)
      rw [he]; simp
    · refine evNeg he (evEq hih ?_)
      rw [beq_eq_false_iff_ne.2 (fun e => he e.symm), Bool.false_or]
theorem name_l0 (s : ByteArray) (hs : s.size ≤ 1000000) (d : Nat) : ∀ j : Nat, j ≤ s.size → s.size - j = d → Ev (fun k => slotmeshref02_Name.l0 k s (j : Int)) (chk (decide (j = 0)) (s.data.toList.drop j) && (!(words.contains s.data.toList) && endB s.size)) := by
  induction d with
  | zero =>
    intro j hj hd
    refine Ev.step (f := _) (fun k => by rw [slotmeshref02_Name.l0]) ?_
    refine evNeg (by omega) (evBind words_f ?_)
    rw [List.drop_of_length_le (by rw [list_size]; omega)]
    refine evEq (name_l1 s 21 0 (by decide) rfl) ?_
    rw [List.drop_zero]
    cases decide (j = 0) <;> rfl
  | succ d ih =>
    intro j hj hd
    have hlt : j < s.size := by omega
    have hih := ih (j + 1) (by omega) (by omega)
    rw [show decide (j + 1 = 0) = false from by simp] at hih
    have hw : wrap64 ((j : Int) + 1) = ((j + 1 : Nat) : Int) := by rw [w64 (by omega) (by omega)]; omega
    refine Ev.step (f := _) (fun k => by rw [slotmeshref02_Name.l0]) ?_
    refine evPos (by omega) (evPos (by omega) ?_)
    rw [bt_nat' hlt, hw, drop_at s j hlt]
    generalize hc : (s[j].toNat : Int) = c
    have hchk : chk (decide (j = 0)) (s[j] :: s.data.toList.drop (j + 1)) = (nameC (decide (j = 0)) c && chk false (s.data.toList.drop (j + 1))) := by rw [← hc]; rfl
    rw [hchk]
    have yes : nameC (decide (j = 0)) c = true → Ev (fun k => slotmeshref02_Name.l0 k s ((j + 1 : Nat) : Int)) ((nameC (decide (j = 0)) c && chk false (s.data.toList.drop (j + 1))) && (!(words.contains s.data.toList) && endB s.size)) := fun h => by
      rw [h, Bool.true_and]; exact hih
    have no : nameC (decide (j = 0)) c = false → Ev (fun _ => some false) ((nameC (decide (j = 0)) c && chk false (s.data.toList.drop (j + 1))) && (!(words.contains s.data.toList) && endB s.size)) := fun h => by
      rw [h, Bool.false_and, Bool.false_and]; exact Ev.now _
    have hN : nameC (decide (j = 0)) c = true ↔ ((97 ≤ c ∧ c ≤ 122) ∨ (j ≠ 0 ∧ (c = 95 ∨ (48 ≤ c ∧ c ≤ 57)))) := by unfold nameC; simp
    have hNo : ¬ ((97 ≤ c ∧ c ≤ 122) ∨ (j ≠ 0 ∧ (c = 95 ∨ (48 ≤ c ∧ c ≤ 57)))) → nameC (decide (j = 0)) c = false := fun h => by
      rw [← Bool.not_eq_true, hN]; exact h
    have tl : ¬ (97 ≤ c ∧ c ≤ 122) → Ev (fun k => if (j : Int) = 0 then some false else if c < 48 then (if c = 95 then slotmeshref02_Name.l0 k s ((j + 1 : Nat) : Int) else some false) else if c > 57 then (if c = 95 then slotmeshref02_Name.l0 k s ((j + 1 : Nat) : Int) else some false) else slotmeshref02_Name.l0 k s ((j + 1 : Nat) : Int)) ((nameC (decide (j = 0)) c && chk false (s.data.toList.drop (j + 1))) && (!(words.contains s.data.toList) && endB s.size)) := fun hl => by
      by_cases h0 : (j : Int) = 0
      · exact evPos h0 (no (hNo (by omega)))
      · refine evNeg h0 ?_
        by_cases h48 : c < 48
        · exact evPos h48 (evNeg (by omega) (no (hNo (by omega))))
        · refine evNeg h48 ?_
          by_cases h57 : c > 57
          · refine evPos h57 ?_
            by_cases h95 : c = 95
            · exact evPos h95 (yes (hN.2 (by omega)))
            · exact evNeg h95 (no (hNo (by omega)))
          · exact evNeg h57 (yes (hN.2 (by omega)))
    by_cases h97 : c < 97
    · exact evPos h97 (tl (by omega))
    · refine evNeg h97 ?_
      by_cases h122 : c > 122
      · exact evPos h122 (tl (by omega))
      · exact evNeg h122 (yes (hN.2 (by omega)))
theorem name_ev (s : ByteArray) (hs : s.size ≤ 1000000) : Ev (fun k => slotmeshref02_Name.f k s) (nameB s.data.toList) := by
  refine evEq (name_l0 s hs s.size 0 (Nat.zero_le _) rfl) ?_
  rw [List.drop_zero]
  unfold nameB wordB endB
  rw [list_size, show decide ((0 : Nat) = 0) = true from rfl]
  cases decide (0 < s.size ∧ s.size ≤ 12) <;> cases words.contains s.data.toList <;> cases chk true s.data.toList <;> rfl
theorem nums_ev (kd : Int) (nm : ByteArray) (ns : List Int) (a : Int) (hl : ns.length ≤ 1000000) (d : Nat) : ∀ j : Nat, j ≤ ns.length → ns.length - j = d →
    Ev (fun k => slotmeshref02_command.l0 k (ns.length : Int) (j : Int) kd nm ns a) (numsB kd j (ns.drop j)) := by
  induction d with
  | zero =>
    intro j hj hd
    refine Ev.step (f := _) (fun k => by rw [slotmeshref02_command.l0]) ?_
    refine evNeg (by omega) ?_
    rw [List.drop_of_length_le (by omega)]
    exact Ev.now _
  | succ d ih =>
    intro j hj hd
    have hlt : j < ns.length := by omega
    have hih := ih (j + 1) (by omega) (by omega)
    have hw : wrap64 ((j : Int) + 1) = ((j + 1 : Nat) : Int) := by rw [w64 (by omega) (by omega)]; omega
    rw [nums_drop hlt]
    have hN := fun n => numB_iff kd j n
    have fin : ∀ (b : Bool) (lo : Int), (lo = if kd = 3 ∧ j = 2 then -1000000000 else 0) → (b = true ↔ kd = 3 ∧ j = 2) → Ev (fun k => slotmeshref02_command.j2 k (ns.length : Int) (j : Int) 0 b kd nm ns a) (numB kd j ns[j] && numsB kd (j + 1) (ns.drop (j + 1))) := by
      intro b lo hlo hb
      refine Ev.step (f := _) (fun k => by rw [slotmeshref02_command.j2]) ?_
      have common : Ev (fun k => if ns[j] < lo then some false else if ns[j] > 1000000000 then some false else slotmeshref02_command.l0 k (ns.length : Int) ((j + 1 : Nat) : Int) kd nm ns a) (numB kd j ns[j] && numsB kd (j + 1) (ns.drop (j + 1))) := by
        by_cases h1 : ns[j] < lo
        · refine evPos h1 (evEq (Ev.now _) ?_)
          have : numB kd j ns[j] = false := by
            rw [← Bool.not_eq_true, hN]
            split at hlo <;> omega
          rw [this]; rfl
        · refine evNeg h1 ?_
          by_cases h2 : ns[j] > 1000000000
          · refine evPos h2 (evEq (Ev.now _) ?_)
            have : numB kd j ns[j] = false := by rw [← Bool.not_eq_true, hN]; omega
            rw [this]; rfl
          · refine evNeg h2 ?_
            have : numB kd j ns[j] = true := by
              rw [hN]
              split at hlo <;> omega
            rw [this, Bool.true_and]; exact hih
      cases b with
      | true =>
        have hk := hb.1 rfl
        rw [if_pos hk] at hlo
        subst hlo
        refine evPos rfl (evPos (by omega) (evPos (by omega) ?_))
        rw [rd_int ns j hlt, hw]
        exact common
      | false =>
        have hk : ¬ (kd = 3 ∧ j = 2) := fun h => by have := hb.2 h; cases this
        rw [if_neg hk] at hlo
        subst hlo
        refine evNeg (by decide) (evPos (by omega) (evPos (by omega) ?_))
        rw [rd_int ns j hlt, hw]
        exact common
    refine Ev.step (f := _) (fun k => by rw [slotmeshref02_command.l0]) ?_
    refine evPos (by omega) ?_
    by_cases h3 : kd = 3
    · refine evPos h3 (fin _ _ rfl ?_)
      rw [beq_iff_eq]
      constructor
      · intro h; exact ⟨h3, by omega⟩
      · intro h; omega
    · refine evNeg h3 (fin _ _ rfl ?_)
      constructor
      · intro h; cases h
      · intro h; exact absurd h.1 h3
theorem command_ev (kd : Int) (nm : ByteArray) (ns : List Int) (a : Int) (hl : ns.length ≤ 1000000) (hm : nm.size ≤ 1000000) : Ev (fun k => slotmeshref02_command.f k kd nm ns a) (cmdB kd nm.data.toList ns) := by
  unfold slotmeshref02_command.f
  by_cases hk : 1 ≤ kd ∧ kd ≤ 11
  · obtain ⟨s, h1, h2⟩ := form_some hk.1 hk.2
    refine evBind h1 (evNeg h2 (Ev.bind (counts_ev hk.1 hk.2) ?_))
    have hj : ∀ b : Bool, b = false → Ev (fun k => slotmeshref02_command.j0 k (shp kd).2 ((ns.length : Int) != (shp kd).2) kd nm ns a) (decide ((ns.length : Int) = (shp kd).2) && numsB kd 0 ns) := by
      intro _ _
      refine Ev.step (f := _) (fun k => by rw [slotmeshref02_command.j0]) ?_
      by_cases hn : (ns.length : Int) = (shp kd).2
      · rw [← hn]
        refine evNeg (by simp) ?_
        rw [decide_eq_true rfl, Bool.true_and]
        have := nums_ev kd nm ns a hl ns.length 0 (Nat.zero_le _) rfl
        rw [List.drop_zero] at this
        exact this
      · refine evPos (bne_iff_ne.2 hn) (evEq (Ev.now _) ?_)
        rw [decide_eq_false hn]; rfl
    have hj' : Ev (fun k => slotmeshref02_command.j0 k (shp kd).2 true kd nm ns a) false := Ev.step (f := _) (fun k => by rw [slotmeshref02_command.j0]) (evPos rfl (Ev.now _))
    unfold cmdB
    cases hs : (shp kd).1 with
    | true =>
      rw [hs] at *
      refine evPos rfl (Ev.bind (name_ev nm hm) ?_)
      cases hn : nameB nm.data.toList with
      | true =>
        refine evPos rfl (evEq (hj false rfl) ?_)
        have hne : nm.data.toList ≠ [] := fun e => by rw [e] at hn; exact absurd hn (by decide)
        rw [decide_eq_true hne]; simp
      | false =>
        refine evNeg (by decide) (evEq hj' ?_)
        simp
    | false =>
      rw [hs] at *
      refine evNeg (by decide) ?_
      by_cases he : nm.toList = []
      · refine evPos he (evEq (hj false rfl) ?_)
        rw [ByteArray.toList_eq] at he
        rw [he]; simp
      · refine evNeg he (evEq hj' ?_)
        rw [ByteArray.toList_eq] at he
        rw [decide_eq_true he]; simp
  · refine evBind (form_none hk) (evPos (by rw [ByteArray.toList_eq]) (evEq (Ev.now _) ?_))
    have : shp kd = (false, -1) := by
      unfold shp
      rw [if_neg (by omega), if_neg (by omega), if_neg (by omega), if_neg (by omega), if_neg (by omega), if_neg (by omega), if_neg (by omega), if_neg (by omega), if_neg (by omega)]
    unfold cmdB
    rw [this, decide_eq_false (by show ¬ ((ns.length : Int) = -1); omega)]; rfl
def cS (x : S40) : Cmd := ⟨x.f0, x.f1, x.f2, x.f3⟩
theorem valid_loop (l : List S40) (hb : ∀ x ∈ l, x.f2.length ≤ 1000000 ∧ x.f1.size ≤ 1000000) (hl : l.length ≤ 1000000) (d : Nat) : ∀ j : Nat, j ≤ l.length → l.length - j = d →
    Ev (fun k => slotmeshref02_Valid.l0 k l (j : Int)) (((l.drop j).map cS).all cB && decide ((l.length : Int) ≤ 300)) := by
  induction d with
  | zero =>
    intro j hj hd
    refine Ev.step (f := _) (fun k => by rw [slotmeshref02_Valid.l0]) ?_
    refine evNeg (by omega) ?_
    rw [List.drop_of_length_le (by omega)]
    exact Ev.now _
  | succ d ih =>
    intro j hj hd
    have hlt : j < l.length := by omega
    have hih := ih (j + 1) (by omega) (by omega)
    have hw : wrap64 ((j : Int) + 1) = ((j + 1 : Nat) : Int) := by rw [w64 (by omega) (by omega)]; omega
    refine Ev.step (f := _) (fun k => by rw [slotmeshref02_Valid.l0]) ?_
    refine evPos (by omega) (evPos (by omega) ?_)
    rw [rd_at l j hlt, List.drop_eq_getElem_cons hlt, List.map_cons, List.all_cons, hw]
    have hx := hb l[j] (List.getElem_mem _)
    refine Ev.bind (command_ev l[j].f0 l[j].f1 l[j].f2 l[j].f3 hx.1 hx.2) ?_
    have e : cB (cS l[j]) = cmdB l[j].f0 l[j].f1.data.toList l[j].f2 := rfl
    rw [← e]
    cases hc : cB (cS l[j]) with
    | true => exact evPos rfl hih
    | false => exact evNeg (by decide) (Ev.now _)
theorem valid_ev (l : List S40) (hb : ∀ x ∈ l, x.f2.length ≤ 1000000 ∧ x.f1.size ≤ 1000000) (hl : l.length ≤ 1000000) : Ev (fun k => slotmeshref02_Valid.f k l) (validB (l.map cS)) := by
  have := valid_loop l hb hl l.length 0 (Nat.zero_le _) rfl
  refine evEq this ?_
  unfold validB
  rw [List.drop_zero, List.length_map, Bool.and_comm]
end Go.Proofs.YtdedlchpjboceaaDoor.Qy
end
