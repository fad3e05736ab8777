/- Texts of proofs: plain words, and walks through the program's functions. -/
import Derived.Test.YtdedlchpjboceaaDoorM155b5051
import Derived.Test.YtdedlchpjboceaaDoorM75d0976b
import Derived.Test.YtdedlchpjboceaaDoorM5b2db155
import Derived.Test.YtdedlchpjboceaaDoorMee12ea8d

section
namespace Go.Proofs.YtdedlchpjboceaaDoor.Qy
open Go.RowKit Go.Proofs.YtdedlchpjboceaaDoorW.PrintWords Go.Proofs.YtdedlchpjboceaaDoorW.PrintLast Go.Proofs.YtdedlchpjboceaaDoor.Lx Go.Proofs.YtdedlchpjboceaaDoor.Px Go.Proofs.YtdedlchpjboceaaDoor.Tx Go.Proofs.YtdedlchpjboceaaDoor.Qz Go.Proofs.YtdedlchpjboceaaDoor.PE
def wlen : List Fw → Nat
  | [] => 0
  | .D :: r => 2 + wlen r
  | .K _ :: r => 1 + wlen r
  | .N :: r => 1 + wlen r
  | .H :: r => 1 + wlen r
theorem wds_len : ∀ (fs : List Fw) (nm : List UInt8) (ns : List Int), (wds fs nm ns).length = wlen fs
  | [], _, _ => rfl
  | .K _ :: r, nm, ns => by show (wds r nm ns).length + 1 = 1 + wlen r; rw [wds_len r]; omega
  | .N :: r, nm, ns => by show (wds r nm ns).length + 1 = 1 + wlen r; rw [wds_len r]; omega
  | .H :: r, nm, ns => by show (wds r nm ns.tail).length + 1 = 1 + wlen r; rw [wds_len r]; omega
  | .D :: r, nm, ns => by show (wds r nm ns.tail).length + 1 + 1 = 2 + wlen r; rw [wds_len r]; omega
theorem cPs_count {c : Cmd} (h : cB c = true) : 3 ≤ (cPs c).length ∧ (cPs c).length ≤ 12 := by
  obtain ⟨h1, h2, _⟩ := valid_kind h
  have e : (cPs c).length = wlen (formW c.f0) + 1 := by unfold cPs cWds; rw [gapped_length, wds_len]
  rw [e]
  rcases kinds h1 h2 with h | h | h | h | h | h | h | h | h | h | h <;> rw [h] <;> decide
theorem sub_split (l : List Cmd) {i k : Nat} (hik : i ≤ k) : l = l.take i ++ ((l.take k).drop i ++ l.drop k) := by
  have h1 : l.take k = l.take i ++ (l.take k).drop i := by
    conv => lhs; rw [← List.take_append_drop i (l.take k)]
    rw [List.take_take, Nat.min_eq_left hik]
  rw [← List.append_assoc, ← h1, List.take_append_drop]
theorem printB_append (a b : List Cmd) : printB (a ++ b) = printB a ++ printB b := by unfold printB; rw [List.flatMap_append]
theorem validB_sub {a b c : List Cmd} (h : validB (a ++ (b ++ c)) = true) : validB b = true := by
  obtain ⟨h1, h2⟩ := validB_mem h
  unfold validB
  rw [Bool.and_eq_true, decide_eq_true_eq, List.all_eq_true]
  simp only [List.length_append] at h1
  exact ⟨by omega, fun x hx => h2 x (by simp [hx])⟩
theorem print_sub {a b c : List Cmd} {s : ByteArray} (h : printR (a ++ (b ++ c)) = (s, 0)) : (printR b).2 = 0 := by
  obtain ⟨hv, _, h8, h2, _⟩ := parse_print h
  have hvb := validB_sub hv
  rw [printB_append, printB_append, List.length_append, List.length_append] at h8
  rw [lPs_append, lPs_append, List.length_append, List.length_append] at h2
  rcases print_cases b with ⟨h, _⟩ | ⟨_, _, _, e, _⟩ | ⟨_, h, _⟩
  · rw [hvb] at h; cases h
  · rw [e]
  · exact absurd ⟨by omega, by omega⟩ h
theorem print_valid {l : List Cmd} (h : validB l = true) : (printR l).2 = 0 ∨ (printR l).2 = 2 := by
  rcases print_cases l with ⟨h', _⟩ | ⟨_, _, _, e, _⟩ | ⟨_, _, e⟩
  · rw [h] at h'; cases h'
  · rw [e]; exact .inl rfl
  · rw [e]; exact .inr rfl
theorem print_single {c : Cmd} (h : cB c = true) : ∃ s : ByteArray, printR [c] = (s, 0) ∧ Lx.lex s.data.toList = .ok (pTk (cPs c) 0) := by
  have hv : validB [c] = true := by unfold validB; simp [h]
  have hb := printB_len [c] (fun d hd => by obtain rfl := List.mem_singleton.1 hd; exact h)
  have hc := cPs_count h
  have hl : lPs [c] = cPs c := by unfold lPs; simp
  rcases print_cases [c] with ⟨h, _⟩ | ⟨_, _, _, e, g⟩ | ⟨_, h, _⟩
  · rw [hv] at h; cases h
  · rw [hl] at g
    exact ⟨_, e, by rw [data_back]; exact g⟩
  · exact absurd ⟨by simp at hb; omega, by rw [hl]; omega⟩ h
theorem tmod_nat {a n : Int} (h0 : 0 ≤ a) (h1 : a ≤ 65535) (hn : 0 < n) : ∃ i : Nat, Int.tmod (wrap64 a) n = (i : Int) ∧ (i : Int) < n := by
  rw [w64 (by omega) (by omega), Int.tmod_eq_emod_of_nonneg h0]
  refine ⟨(a % n).toNat, ?_, ?_⟩
  · have := Int.emod_nonneg a (show n ≠ 0 by omega); omega
  · have := Int.emod_lt_of_pos a hn
    have := Int.emod_nonneg a (show n ≠ 0 by omega); omega
theorem toCmd_cS (l : List S40) : l.map cS = l.map toCmd := rfl
theorem PrinterParts_ev (l : List S40) (a1 a2 : Int) (hl : l.length ≤ 9223372036854775807) (w1 : (Lit.int .u16 a1).wf = true) (w2 : (Lit.int .u16 a2).wf = true) : Ev (fun k => slotmeshlaw03_PrinterParts.f k l a1 a2) true := by
  have b1 : 0 ≤ a1 ∧ a1 ≤ 65535 := u16_bd w1
  have b2 : 0 ≤ a2 ∧ a2 ≤ 65535 := u16_bd w2
  unfold slotmeshlaw03_PrinterParts.f
  have skip : Ev (fun k => slotmeshlaw03_PrinterParts.j0 k l a1 a2 true true) true :=
    Ev.step (f := _) (fun k => by rw [slotmeshlaw03_PrinterParts.j0]) (evPos rfl (Ev.now _))
  refine evBind head3 (Ev.bind (few_ev l hl) ?_)
  by_cases hf : fewB l = true
  · refine evPos hf ?_
    obtain ⟨f1, f2⟩ := few_some hf
    refine Ev.bind (valid_ev l (fun x hx => ⟨by have := (f2 x hx).1; omega, by have := (f2 x hx).2; omega⟩) (by omega)) ?_
    rw [toCmd_cS]
    by_cases hv : validB (l.map toCmd) = true
    · refine evPos hv ?_
      by_cases h0 : l.length = 0
      · rw [show ((l.length : Int) == 0) = true by rw [h0]; rfl]; exact skip
      · rw [show ((l.length : Int) == 0) = false by rw [beq_eq_false_iff_ne]; omega]
        obtain ⟨i, hi, hin⟩ := tmod_nat b1.1 b1.2 (show (0 : Int) < (l.length : Int) by omega)
        have hin' : i < l.length := by omega
        have hw1 : wrap64 (wrap64 ((l.length : Int) - (i : Int)) + 1) = (l.length : Int) - i + 1 := by rw [w64 (x := (l.length : Int) - i) (by omega) (by omega), w64 (by omega) (by omega)]
        obtain ⟨m, hm, hmn⟩ := tmod_nat b2.1 b2.2 (show (0 : Int) < (l.length : Int) - i + 1 by omega)
        have hw2 : wrap64 ((i : Int) + (m : Int)) = ((i + m : Nat) : Int) := by rw [w64 (by omega) (by omega)]; omega
        have hw3 : wrap64 ((i : Int) + 1) = ((i + 1 : Nat) : Int) := by rw [w64 (by omega) (by omega)]; omega
        refine Ev.step (f := _) (fun k => by rw [slotmeshlaw03_PrinterParts.j0]) ?_
        rw [hi, hw1, hm, hw2, hw3]
        refine evNeg (by decide) (evNeg (by omega) (evNeg (by omega) (evBind (print_f l) (evPos (by omega) (evPos (by omega) (evPos (by omega) ?_))))))
        refine evBind (print_f _) (evPos (by omega) (evPos (by omega) (evBind (print_f _) ?_)))
        rw [Int.toNat_natCast, Int.toNat_natCast, Int.toNat_natCast]
        have hone : (l.take (i + 1)).drop i = [l[i]] := by
          rw [List.take_succ_eq_append_getElem hin', List.drop_left' (by rw [List.length_take]; omega)]
        rw [hone]
        have hcv : cB (toCmd l[i]) = true := (validB_mem hv).2 _ (List.mem_map.2 ⟨l[i], List.getElem_mem hin', rfl⟩)
        obtain ⟨s, hs1, hs2⟩ := print_single hcv
        rw [show ([l[i]].map toCmd) = [toCmd l[i]] from rfl, hs1]
        have href := Lr.ref_lex s
        rw [hs2] at href
        refine Ev.bind href (evPos rfl ?_)
        have hcount := cPs_count hcv
        have hlen : ((Lr.ans (.ok (pTk (cPs (toCmd l[i])) 0))).1.length : Int) = ((cPs (toCmd l[i])).length : Int) := by
          show ((List.map _ _).length : Int) = _
          rw [List.length_map, pTk_length]
        rw [hlen]
        have tail : Ev (fun _ => if (0 : Int) = 0 then (if (Lr.ans (.ok (pTk (cPs (toCmd l[i])) 0))).2.1 = 0 then (if ((cPs (toCmd l[i])).length : Int) ≥ 3 then some (decide (((cPs (toCmd l[i])).length : Int) ≤ 12)) else some false) else some false) else some false) true :=
          evPos rfl (evPos rfl (evPos (by omega) (evEq (Ev.now _) (decide_eq_true (by omega)))))
        rcases print_valid hv with hp | hp
        · refine evNeg (by rw [hp]; decide) (evPos hp (evPos ?_ tail))
          have e1 : printR (l.map toCmd) = ((printR (l.map toCmd)).1, 0) := by rw [← hp]
          rw [List.map_drop, List.map_take]
          rw [sub_split (l.map toCmd) (show i ≤ i + m by omega)] at e1
          exact print_sub e1
        · exact evPos hp tail
    · exact evNeg hv skip
  · exact evNeg hf skip
end Go.Proofs.YtdedlchpjboceaaDoor.Qy
end
