/- Texts of proofs: plain words, and walks through the program's functions. -/
import Derived.Test.YtdedlchpjboceaaDoorM302d3884
import Derived.Test.YtdedlchpjboceaaDoorM6be9ea60

section
/-
  The statement PrinterLines, in plain words.
-/
namespace Go.Proofs.YtdedlchpjboceaaDoor.Qy
open Go.RowKit Go.Proofs.YtdedlchpjboceaaDoorW.PrintWords Go.Proofs.YtdedlchpjboceaaDoorW.PrintLast Go.Proofs.YtdedlchpjboceaaDoor.Lx Go.Proofs.YtdedlchpjboceaaDoor.Px Go.Proofs.YtdedlchpjboceaaDoor.Tx Go.Proofs.YtdedlchpjboceaaDoor.Qz Go.Proofs.YtdedlchpjboceaaDoor.PE

theorem bt_nat {s : ByteArray} {k : Nat} (h : k < s.size) : bt s (k : Int) = (s[k].toNat : Int) := (bt_at s k (by simpa using h)).symm
theorem name_ne {t : List UInt8} (h : nameW t) : ∀ b ∈ t, b ≠ 10 := by
  obtain ⟨_, c, a, rfl, h3, h4⟩ := h
  intro b hb e
  subst e
  rcases List.mem_cons.1 hb with e | hb
  · subst e; exact absurd h3 (by decide)
  · have := h4 10 hb; exact absurd this (by decide)
theorem wd_ne {x : Wd} (h : x.ok) : ∀ b ∈ x.txt, b ≠ 10 := by
  cases x with
  | nm t => exact name_ne h
  | num u =>
    intro b hb e
    have := (dec_facts u).2.1 b hb
    subst e
    exact absurd this (by decide)
  | semi => intro b hb e; subst e; exact absurd hb (by decide)
theorem gapped_body : ∀ (ws : List Wd), (∀ x ∈ ws, x.ok) → ∃ body, flat (gapped ws) = body ++ [59, 10] ∧ ∀ b ∈ body, b ≠ 10
  | [], _ => ⟨[], rfl, by simp⟩
  | [x], h => ⟨x.txt, by simp [gapped, flat, Wd.txt], wd_ne (h x (by simp))⟩
  | x :: y :: r, h => by
    obtain ⟨body, e, hb⟩ := gapped_body (y :: r) (fun z hz => h z (List.mem_cons_of_mem _ hz))
    refine ⟨x.txt ++ (32 :: body), ?_, ?_⟩
    · show flat ((x, [32]) :: gapped (y :: r)) = _
      rw [flat_cons, e]; simp
    · intro b hb2
      rcases List.mem_append.1 hb2 with hb2 | hb2
      · exact wd_ne (h x (by simp)) b hb2
      · rcases List.mem_cons.1 hb2 with rfl | hb2
        · decide
        · exact hb b hb2
theorem line_ne {c : Cmd} (h : cB c = true) : ∀ b ∈ lineT c ++ [59], b ≠ 10 := by
  obtain ⟨body, e, hb⟩ := gapped_body (cWds c) (cWds_ok h)
  have hl := line_flat h
  rw [show flat (cPs c) = body ++ [59, 10] from e] at hl
  have : lineT c = body := List.append_cancel_right hl
  rw [this]
  intro b hb2
  rcases List.mem_append.1 hb2 with hb2 | hb2
  · exact hb b hb2
  · obtain rfl := List.mem_singleton.1 hb2; decide
def fullL (c : Cmd) : List UInt8 := lineT c ++ [59, 10]
theorem printB_split (l : List Cmd) (j : Nat) (h : j < l.length) : printB l = printB (l.take j) ++ (fullL l[j] ++ printB (l.drop (j + 1))) := by
  conv => lhs; rw [← List.take_append_drop j l, List.drop_eq_getElem_cons h]
  unfold printB fullL
  rw [List.flatMap_append, List.flatMap_cons]
theorem printB_take (l : List Cmd) (j : Nat) (h : j < l.length) : printB (l.take (j + 1)) = printB (l.take j) ++ fullL l[j] := by
  rw [List.take_succ_eq_append_getElem h]
  unfold printB fullL
  rw [List.flatMap_append, List.flatMap_cons, List.flatMap_nil, List.append_nil]
theorem locs_at : ∀ (l : List Cmd) (o j : Nat) (h : j < l.length), ((locs l o)[j]'(by rw [locs_length]; exact h)).f3 = ((o + (printB (l.take j)).length : Nat) : Int)
  | [], _, _, h => absurd h (by simp)
  | c :: l, o, 0, _ => by simp [locs, printB]
  | c :: l, o, j + 1, h => by
    have ih := locs_at l (o + (lineT c ++ [59, 10]).length) j (by simpa using h)
    show ((locs l (o + (lineT c ++ [59, 10]).length))[j]'_).f3 = _
    rw [ih]
    rw [List.take_succ_cons]
    show _ = ((o + ((lineT c ++ [59, 10]) ++ printB (l.take j)).length : Nat) : Int)
    have e3 : ((lineT c ++ [59, 10]) ++ printB (l.take j)).length = (lineT c ++ [59, 10]).length + (printB (l.take j)).length := List.length_append
    rw [e3, Nat.add_assoc]
theorem lPs_le (l : List Cmd) (j : Nat) (h : j < l.length) : (lPs [l[j]]).length ≤ (lPs l).length := by
  have e : lPs l = lPs (l.take j) ++ (lPs [l[j]] ++ lPs (l.drop (j + 1))) := by
    conv => lhs; rw [← List.take_append_drop j l, List.drop_eq_getElem_cons h]
    rw [lPs_append, show l[j] :: l.drop (j + 1) = [l[j]] ++ l.drop (j + 1) from rfl, lPs_append]
  rw [e, List.length_append, List.length_append]; omega
/-- One command of a list with a canonical text has one. -/
theorem print_one {l : List Cmd} (hv : validB l = true) (h8 : (printB l).length ≤ 8000) (h2 : (lPs l).length ≤ 2000) (j : Nat) (h : j < l.length) : printR [l[j]] = (⟨(fullL l[j]).toArray⟩, 0) := by
  have hc := (validB_mem hv).2 l[j] (List.getElem_mem h)
  have hp : printB [l[j]] = fullL l[j] := by unfold printB fullL; rw [List.flatMap_cons, List.flatMap_nil, List.append_nil]
  have hv1 : validB [l[j]] = true := by unfold validB; simp [hc]
  have hl : (printB [l[j]]).length ≤ (printB l).length := by rw [hp, printB_split l j h]; simp only [List.length_append]; omega
  have h3 := lPs_le l j h
  rcases print_cases [l[j]] with ⟨h, _⟩ | ⟨_, _, _, e, _⟩ | ⟨_, h, _⟩
  · rw [hv1] at h; cases h
  · rw [e, hp]
  · exact absurd ⟨by omega, by omega⟩ h
theorem fullL_pos (c : Cmd) : 2 ≤ (fullL c).length := by unfold fullL; rw [List.length_append]; simp
/-- The bytes of a line, one by one. -/
theorem lines_in (a : List S40) (m : List S40) (s : ByteArray) (hs : s.size ≤ 8000) (off e : Nat) (he : e ≤ s.size) (hoe : off < e) (hb : ∀ p, (h : p < s.size) → off ≤ p → p < e → (s[p] = 10 ↔ p = e - 1)) (n i : Int) (R : Bool)
    (hR : Ev (fun k => slotmeshlaw03_PrinterLines.l0 k a true s m (e : Int) n (wrap64 (i + 1))) R) (d : Nat) : ∀ p : Nat, off ≤ p → p ≤ e → e - p = d →
    Ev (fun k => slotmeshlaw03_PrinterLines.l1 k a true s m (e : Int) (p : Int) n i) R := by
  induction d with
  | zero =>
    intro p h1 h2 hd
    refine Ev.step (f := _) (fun k => by rw [slotmeshlaw03_PrinterLines.l1]) ?_
    exact evNeg (by omega) hR
  | succ d ih =>
    intro p h1 h2 hd
    refine Ev.step (f := _) (fun k => by rw [slotmeshlaw03_PrinterLines.l1]) ?_
    refine evPos (by omega) (evPos (by omega) (evPos (by omega) ?_))
    have hp : p < s.size := by omega
    have hw : wrap64 ((e : Int) - 1) = ((e - 1 : Nat) : Int) := by rw [w64 (by omega) (by omega)]; omega
    have hw2 : wrap64 ((p : Int) + 1) = ((p + 1 : Nat) : Int) := by rw [w64 (by omega) (by omega)]; omega
    have hbp := hb p hp h1 (by omega)
    refine evNeg ?_ (by rw [hw2]; exact ih (p + 1) (by omega) (by omega) (by omega))
    rw [bt_nat hp, hw]
    have e1 : (((s[p].toNat : Int)) == 10) = decide (p = e - 1) := by
      by_cases h : p = e - 1
      · rw [decide_eq_true h, beq_iff_eq, hbp.2 h]; rfl
      · rw [decide_eq_false h, beq_eq_false_iff_ne]
        intro h10
        apply h
        apply hbp.1
        have : s[p].toNat = 10 := by exact_mod_cast h10
        exact UInt8.toNat_inj.1 this
    have e2 : (((p : Int)) == ((e - 1 : Nat) : Int)) = decide (p = e - 1) := by
      by_cases h : p = e - 1
      · rw [decide_eq_true h, beq_iff_eq]; omega
      · rw [decide_eq_false h, beq_eq_false_iff_ne]; omega
    rw [e1, e2]; simp
theorem extract_list (s : ByteArray) (a b : Nat) : (s.extract a b).toList = (s.data.toList.take b).drop a := by
  rw [ByteArray.toList_eq, ByteArray.data_extract, Array.toList_extract, List.extract_eq_take_drop, List.drop_take]
theorem take_drop_one (l : List S40) (j : Nat) (h : j < l.length) : (l.take (j + 1)).drop j = [l[j]] := by
  rw [List.take_succ_eq_append_getElem h, List.drop_left' (by rw [List.length_take]; omega)]
theorem mid_take (P F R : List UInt8) : ((P ++ (F ++ R)).take (P.length + F.length)).drop P.length = F := by
  rw [← List.append_assoc, List.take_left' (by rw [List.length_append]), List.drop_left' rfl]
theorem nat4 {off L n : Nat} (h : off + L ≤ n) : ¬ (((off + L : Nat) : Int) > (n : Int)) ∧ (0 : Int) ≤ (off : Int) ∧ (off : Int) ≤ ((off + L : Nat) : Int) ∧ ((off + L : Nat) : Int) ≤ (n : Int) := by omega
theorem hfl_of (c : Cmd) : fullL c = (lineT c ++ [59]) ++ [10] := by unfold fullL; simp
theorem line_bytes {F B P R T : List UInt8} {off : Nat} {s : ByteArray} (hF : F = B ++ [10]) (hB : ∀ b ∈ B, b ≠ 10) (hT : T = P ++ (F ++ R)) (hoff : off = P.length) (hs : s = ⟨T.toArray⟩) :
    ∀ p, (h : p < s.size) → off ≤ p → p < off + F.length → (s[p] = 10 ↔ p = off + F.length - 1) := by
  intro p hp h1 h2
  have hlen : F.length = B.length + 1 := by rw [hF]; simp
  have hpT : p < T.length := by subst hs; simpa [ByteArray.size] using hp
  have hpl : s[p] = T[p] := by subst hs; rfl
  have hq : T[p]? = F[p - off]? := by
    rw [hT, List.getElem?_append_right (by omega), ← hoff, List.getElem?_append_left (by omega)]
  rw [List.getElem?_eq_getElem hpT] at hq
  rw [hpl]
  subst hF
  constructor
  · intro h10
    by_cases hlt : p - off < B.length
    · rw [List.getElem?_append_left hlt, List.getElem?_eq_getElem hlt] at hq
      rw [Option.some.inj hq] at h10
      exact absurd h10 (hB _ (List.getElem_mem _))
    · omega
  · intro he
    have hlast : p - off = B.length := by omega
    rw [hlast, List.getElem?_append_right (Nat.le_refl _)] at hq
    simp at hq
    exact hq
attribute [local irreducible] printB lineT fullL locs lPs
theorem lines_loop (a : List S40) (hv : validB (a.map toCmd) = true) (h8 : (printB (a.map toCmd)).length ≤ 8000) (h2 : (lPs (a.map toCmd)).length ≤ 2000) (m : List S40) (hm : m = (locs (a.map toCmd) 0).map ofC)
    (s : ByteArray) (hs : s = ⟨(printB (a.map toCmd)).toArray⟩) (d : Nat) : ∀ j : Nat, j ≤ a.length → a.length - j = d →
    Ev (fun k => slotmeshlaw03_PrinterLines.l0 k a true s m (((printB ((a.map toCmd).take j)).length : Nat) : Int) (a.length : Int) (j : Int)) true := by
  have hsz : s.size = (printB (a.map toCmd)).length := by rw [hs]; simp [ByteArray.size]
  have hl300 : a.length ≤ 300 := by have := (validB_mem hv).1; rwa [List.length_map] at this
  induction d with
  | zero =>
    intro j hj hd
    refine Ev.step (f := _) (fun k => by rw [slotmeshlaw03_PrinterLines.l0]) ?_
    refine evNeg (by omega) (evPos rfl (evEq (Ev.now _) ?_))
    rw [beq_iff_eq, hsz, List.take_of_length_le (by rw [List.length_map]; omega)]
  | succ d ih =>
    intro j hj hd
    have hja : j < a.length := by omega
    have hjm : j < (a.map toCmd).length := by rw [List.length_map]; exact hja
    have c1 : (j : Int) < (a.length : Int) := by omega
    have c2 : (0 : Int) ≤ (j : Int) := by omega
    have c3 : (j : Int) ≤ ((j + 1 : Nat) : Int) := by omega
    have c4 : ((j + 1 : Nat) : Int) ≤ (a.length : Int) := by omega
    have hih := ih (j + 1) (by omega) (by omega)
    obtain ⟨off, hoff⟩ : ∃ off, off = (printB ((a.map toCmd).take j)).length := ⟨_, rfl⟩
    rw [← hoff]
    have hnext : (printB ((a.map toCmd).take (j + 1))).length = off + (fullL (a.map toCmd)[j]).length := by rw [printB_take _ j hjm, List.length_append, hoff]
    rw [hnext] at hih
    have hsplit := printB_split (a.map toCmd) j hjm
    have hlen : off + (fullL (a.map toCmd)[j]).length ≤ (printB (a.map toCmd)).length := by rw [hsplit, List.length_append, List.length_append]; omega
    have hpos := fullL_pos (a.map toCmd)[j]
    have hw : wrap64 ((j : Int) + 1) = ((j + 1 : Nat) : Int) := by rw [w64 (by omega) (by omega)]; omega
    refine Ev.step (f := _) (fun k => by rw [slotmeshlaw03_PrinterLines.l0]) ?_
    refine evPos c1 (evPos c2 ?_)
    rw [hw]
    refine evPos c3 (evPos c4 ?_)
    rw [Int.toNat_natCast, Int.toNat_natCast, take_drop_one a j hja]
    have hone := print_one hv h8 h2 j hjm
    rw [List.getElem_map] at hone hih hlen hpos hsplit
    refine evBind (print_f [a[j]]) ?_
    rw [show [a[j]].map toCmd = [toCmd a[j]] from rfl, hone]
    have hbs : (⟨(fullL (toCmd a[j])).toArray⟩ : ByteArray).size = (fullL (toCmd a[j])).length := by simp [ByteArray.size]
    have hw2 : wrap64 ((off : Int) + ((⟨(fullL (toCmd a[j])).toArray⟩ : ByteArray).size : Int)) = ((off + (fullL (toCmd a[j])).length : Nat) : Int) := by
      rw [hbs, w64 (by omega) (by omega)]; omega
    simp only [hw2]
    refine evPos trivial ?_
    refine evNeg ?_ ?_
    · rw [ByteArray.toList_eq]
      show ¬ (fullL (toCmd a[j])) = []
      intro h0; rw [h0] at hpos; simp at hpos
    · obtain ⟨d1, d2, d3, d4⟩ := nat4 (off := off) (L := (fullL (toCmd a[j])).length) (n := s.size) (by rw [hsz]; exact hlen)
      refine evNeg d1 (evPos d2 (evPos d3 (evPos d4 (evPos ?_ ?_))))
      · rw [Int.toNat_natCast, Int.toNat_natCast, extract_list, ByteArray.toList_eq, hs]
        show ((printB (a.map toCmd)).take (off + (fullL (toCmd a[j])).length)).drop off = fullL (toCmd a[j])
        rw [hsplit, hoff]
        exact mid_take _ _ _
      · have hmlen : j < m.length := by rw [hm, List.length_map, locs_length, List.length_map]; exact hja
        refine evPos (Int.ofNat_lt.2 hmlen) ?_
        have hf3 : (rd_T40 m (j : Int)).f3 = (off : Int) := by
          rw [rd_at m j hmlen]
          subst hm
          rw [List.getElem_map]
          show ((locs (a.map toCmd) 0)[j]'_).f3 = _
          rw [locs_at _ 0 j hjm, hoff, Nat.zero_add]
        rw [hf3, show (((off : Int)) != (off : Int)) = false by simp]
        refine Ev.step (f := _) (fun k => by rw [slotmeshlaw03_PrinterLines.j2]) (evNeg (by decide) ?_)
        have q1 : s.size ≤ 8000 := Nat.le_trans (Nat.le_of_eq hsz) h8
        have q2 : off + (fullL (toCmd a[j])).length ≤ s.size := Nat.le_trans hlen (Nat.le_of_eq hsz.symm)
        have q3 : off < off + (fullL (toCmd a[j])).length := Nat.lt_add_of_pos_right (Nat.lt_of_lt_of_le (by decide) hpos)
        refine lines_in a m s q1 off _ q2 q3 ?_ _ _ _ (by rw [hw]; exact hih) _ off (Nat.le_refl _) (Nat.le_add_right _ _) rfl
        exact line_bytes (hfl_of _) (line_ne ((validB_mem hv).2 (toCmd a[j]) (List.mem_map.2 ⟨a[j], List.getElem_mem hja, rfl⟩))) hsplit hoff hs
theorem PrinterLines_ev (a : List S40) (ha : a.length ≤ 9223372036854775807) : Ev (fun k => slotmeshlaw03_PrinterLines.f k a) true := by
  unfold slotmeshlaw03_PrinterLines.f
  refine evBind head3 (Ev.bind (few_ev a ha) ?_)
  by_cases hfa : fewB a = true
  · refine evPos hfa (evBind (print_f a) ?_)
    by_cases h1 : (printR (a.map toCmd)).2 = 0
    · refine evPos h1 ?_
      have e1 : printR (a.map toCmd) = ((printR (a.map toCmd)).1, 0) := by rw [← h1]
      obtain ⟨hv, hs, h8, h2, _, hp⟩ := parse_print e1
      refine evBind (show parser_Parse.f (printR (a.map toCmd)).1 = some ((locs (a.map toCmd) 0).map ofCmd, []) by unfold parser_Parse.f; rw [hp]; rfl) ?_
      refine evNeg (by show ¬ ((([] : List S54).length : Int) > 0); decide) ?_
      rw [show ((((locs (a.map toCmd) 0).map ofCmd, ([] : List S54)).1.length : Int) != (a.length : Int)) = false by
        show (((((locs (a.map toCmd) 0).map ofCmd).length : Int)) != (a.length : Int)) = false
        rw [List.length_map, locs_length, List.length_map]; simp]
      refine Ev.step (f := _) (fun k => by rw [slotmeshlaw03_PrinterLines.j0]) (evNeg (by decide) ?_)
      have hend := lines_loop a hv h8 h2 _ rfl _ hs a.length 0 (Nat.zero_le _) rfl
      have h0 : (printB ((a.map toCmd).take 0)).length = 0 := by rw [List.take_zero]; unfold printB; rfl
      rw [h0] at hend
      exact hend
    · exact evNeg h1 (Ev.now _)
  · exact evNeg hfa (Ev.now _)

end Go.Proofs.YtdedlchpjboceaaDoor.Qy
end
