/- Texts of proofs: plain words, and walks through the program's functions. -/
import Derived.Test.YtdedlchpjboceaaDoorM3d43a7bf
import Derived.Test.YtdedlchpjboceaaDoorM6ce7cd3e
import Derived.Test.YtdedlchpjboceaaDoorM26dd341a

section
namespace Go.Proofs.YtdedlchpjboceaaDoor.Lr
open Go.RowKit Go.Proofs.YtdedlchpjboceaaDoor.PE Go.Proofs.YtdedlchpjboceaaDoorW.PrintWords Go.Proofs.YtdedlchpjboceaaDoorW.PrintLast Go.Proofs.YtdedlchpjboceaaDoor.Lx Go.Proofs.YtdedlchpjboceaaDoor.Qy
theorem bt_nat {s : ByteArray} {k : Nat} (h : k < s.size) : bt s (k : Int) = (s[k].toNat : Int) := (bt_at s k (by simpa using h)).symm
theorem letter_f (c : Int) : slotmeshref01_Letter.f c = some (decide (clsI c = 3)) := by
  unfold slotmeshref01_Letter.f clsI
  repeat' split
  all_goals first | rfl | (simp; omega) | (congr 1; simp; omega)
theorem digit_f (c : Int) : slotmeshref01_Digit.f c = some (decide (clsI c = 4)) := by
  unfold slotmeshref01_Digit.f clsI
  repeat' split
  all_goals first | rfl | (simp; omega) | (congr 1; simp; omega)
theorem begins_f (c : Int) : slotmeshref01_Begins.f c = some (decide (clsI c = 3 ∨ clsI c = 4 ∨ clsI c = 5)) := by
  unfold slotmeshref01_Begins.f
  rw [letter_f, digit_f]
  simp only [Option.bind_some, decide_eq_true_eq]
  by_cases h3 : clsI c = 3
  · simp [h3]
  · by_cases h4 : clsI c = 4
    · simp [h4]
    · rw [if_neg h3, if_neg h4]
      congr 1
      have : clsI c = 5 ↔ c = 59 := by unfold clsI; repeat' split <;> omega
      simp [h3, h4, this]
      rfl
def onB (nm dg : Bool) (c : Int) : Bool := if nm = true then pName c else if dg = true then pDigit c else false
theorem end_loop (s : ByteArray) (hs : s.size ≤ 140737488355328) (nm dg : Bool) (d : Nat) : ∀ j : Nat, j ≤ s.size → s.size - j = d → Ev (fun k => slotmeshref01_End.l0 k s (j : Int) nm dg) ((j + scan (onB nm dg) s j : Nat) : Int) := by
  induction d with
  | zero =>
    intro j hj hd
    refine Ev.step (f := _) (fun k => by rw [slotmeshref01_End.l0]) ?_
    refine evNeg (by omega) ?_
    rw [scan_end (by omega)]
    exact Ev.now _
  | succ d ih =>
    intro j hj hd
    have hlt : j < s.size := by omega
    have hih := ih (j + 1) (by omega) (by omega)
    have hw : wrap64 ((j : Int) + 1) = ((j + 1 : Nat) : Int) := by rw [w64 (by omega) (by omega)]; omega
    refine Ev.step (f := _) (fun k => by rw [slotmeshref01_End.l0]) ?_
    refine evPos (by omega) (evPos (by omega) ?_)
    rw [bt_nat hlt]
    refine evBind (letter_f _) (evBind (digit_f _) ?_)
    rw [hw]
    have hyes : onB nm dg (s[j].toNat : Int) = true → Ev (fun k => slotmeshref01_End.l0 k s ((j + 1 : Nat) : Int) nm dg) ((j + scan (onB nm dg) s j : Nat) : Int) := fun h => by
      rw [scan_yes hlt h, ← Nat.add_assoc]; exact hih
    have hno : onB nm dg (s[j].toNat : Int) = false → Ev (fun _ => some (j : Int)) ((j + scan (onB nm dg) s j : Nat) : Int) := fun h => by
      rw [scan_no hlt h]; exact Ev.now _
    cases nm with
    | true =>
      refine evPos rfl ?_
      by_cases h3 : clsI (s[j].toNat : Int) = 3
      · exact evPos (by simp [h3]) (hyes (by simp [onB, pName, h3]))
      · refine evNeg (by simp [h3]) ?_
        by_cases h4 : clsI (s[j].toNat : Int) = 4
        · exact evPos (by simp [h4]) (hyes (by simp [onB, pName, h4]))
        · refine evNeg (by simp [h4]) ?_
          by_cases h5 : (s[j].toNat : Int) = 95
          · exact evPos h5 (hyes (by simp [onB, pName, h5]))
          · refine evNeg h5 ?_
            have := hno (by simp only [onB, pName, if_true]; simp [h3, h4]; omega)
            cases dg with
            | true => exact evPos rfl this
            | false => exact evNeg (by simp) this
    | false =>
      refine evNeg (by simp) ?_
      cases dg with
      | true =>
        refine evPos rfl ?_
        by_cases h4 : clsI (s[j].toNat : Int) = 4
        · exact evPos (by simp [h4]) (hyes (by simp [onB, pDigit, h4]))
        · exact evNeg (by simp [h4]) (hno (by simp [onB, pDigit, h4]))
      | false => exact evNeg (by simp) (hno (by simp [onB]))
theorem onB_cont (c : UInt8) (h2 : cls c ≠ 2) : (fun x : UInt8 => onB (decide (clsI (c.toNat : Int) = 3)) (decide (clsI (c.toNat : Int) = 4)) (x.toNat : Int)) = cont (cls c) := by
  funext x
  unfold cls at h2 ⊢
  rcases (by have := clsI_range (c.toNat : Int); omega : clsI (c.toNat : Int) = 0 ∨ clsI (c.toNat : Int) = 1 ∨ clsI (c.toNat : Int) = 3 ∨ clsI (c.toNat : Int) = 4 ∨ clsI (c.toNat : Int) = 5) with hc | hc | hc | hc | hc
  all_goals (rw [hc]; simp [onB, cont])
theorem end_ev (s : ByteArray) (hs : s.size ≤ 140737488355328) (k : Nat) (h : k < s.size) (h2 : cls s[k] ≠ 2) : Ev (fun n => slotmeshref01_End.f n s (k : Int)) ((k + slen (s.data.toList.drop k) : Nat) : Int) := by
  unfold slotmeshref01_End.f
  refine evPos (by omega) (evPos (by omega) ?_)
  rw [bt_nat h]
  refine evBind (letter_f _) (evBind (digit_f _) ?_)
  rw [show wrap64 ((k : Int) + 1) = ((k + 1 : Nat) : Int) by rw [w64 (by omega) (by omega)]; omega]
  refine evEq (end_loop s hs _ _ _ (k + 1) (by omega) rfl) ?_
  rw [slen_at s k h, ← onB_cont _ h2]
  unfold scan
  omega
theorem gap_l1 (s : ByteArray) (hs : s.size ≤ 140737488355328) (r : Int) (d : Nat) : ∀ j : Nat, j ≤ s.size → s.size - j = d → Ev (fun k => slotmeshref01_Gap.l0 k s ((j + scan pHash s j : Nat) : Int)) r → Ev (fun k => slotmeshref01_Gap.l1 k s (j : Int)) r := by
  induction d with
  | zero =>
    intro j hj hd h
    refine Ev.step (f := _) (fun k => by rw [slotmeshref01_Gap.l1]) ?_
    refine evNeg (by omega) ?_
    rw [scan_end (by omega)] at h
    exact h
  | succ d ih =>
    intro j hj hd h
    have hlt : j < s.size := by omega
    refine Ev.step (f := _) (fun k => by rw [slotmeshref01_Gap.l1]) ?_
    refine evPos (by omega) (evPos (by omega) ?_)
    rw [bt_nat hlt]
    by_cases h10 : (s[j].toNat : Int) = 10
    · refine evPos h10 ?_
      rw [scan_no hlt (by simp [pHash, h10])] at h
      exact h
    · refine evNeg h10 ?_
      rw [show wrap64 ((j : Int) + 1) = ((j + 1 : Nat) : Int) by rw [w64 (by omega) (by omega)]; omega]
      refine ih (j + 1) (by omega) (by omega) ?_
      rw [scan_yes hlt (by simp [pHash, h10]), ← Nat.add_assoc] at h
      exact h
/-- Gap comes to where the gaps end. -/
theorem gap_ev (s : ByteArray) (hs : s.size ≤ 140737488355328) (d : Nat) : ∀ k : Nat, k ≤ s.size → s.size - k = d →
    ∃ (r : Nat) (G : List Sp), k ≤ r ∧ r ≤ s.size ∧ Ev (fun n => slotmeshref01_Gap.l0 n s (k : Int)) (r : Int) ∧ spans (s.data.toList.drop k) k = G ++ spans (s.data.toList.drop r) r ∧ (∀ x ∈ G, gapB x = true) ∧ (∀ h : r < s.size, cls s[r] ≠ 1 ∧ cls s[r] ≠ 2) := by
  induction d using Nat.strongRecOn with
  | _ d ih =>
    intro k hk hd
    by_cases hlt : k < s.size
    · have hstep := spans_at s k hlt _ rfl
      have hpos := slen_pos (l := s.data.toList.drop k) (by rw [drop_at s k hlt]; simp)
      have hle := slen_le (s.data.toList.drop k)
      rw [List.length_drop, list_size] at hle
      have hw : wrap64 ((k : Int) + 1) = ((k + 1 : Nat) : Int) := by rw [w64 (by omega) (by omega)]; omega
      by_cases h1 : cls s[k] = 1
      · rw [slen_one s k hlt (by rw [h1]; decide) (by rw [h1]; decide) (by rw [h1]; decide)] at hstep
        obtain ⟨r, G, a1, a2, a3, a4, a5, a6⟩ := ih (d - 1) (by omega) (k + 1) (by omega) (by omega)
        refine ⟨r, _ :: G, by omega, a2, ?_, by rw [hstep, a4, List.cons_append], fun x hx => ?_, a6⟩
        · have hb : (s[k].toNat : Int) = 32 ∨ (s[k].toNat : Int) = 9 ∨ (s[k].toNat : Int) = 10 := by
            unfold cls clsI at h1; repeat' split at h1
            all_goals first | assumption | cases h1
          have hj : Ev (fun n => slotmeshref01_Gap.j1 n s (k : Int) true) (r : Int) := by
            refine Ev.step (f := _) (fun n => by rw [slotmeshref01_Gap.j1]) ?_
            refine evPos rfl (evPos (by omega) (evPos (by omega) ?_))
            rw [bt_nat hlt, hw]
            exact evNeg (by omega) a3
          refine Ev.step (f := _) (fun n => by rw [slotmeshref01_Gap.l0]) ?_
          refine evPos (by omega) (evPos (by omega) ?_)
          rw [bt_nat hlt]
          rcases hb with hb | hb | hb
          · exact evPos hb hj
          · exact evNeg (by omega) (evPos hb hj)
          · exact evNeg (by omega) (evNeg (by omega) (evPos hb hj))
        · rcases List.mem_cons.1 hx with rfl | hx
          · simp [gapB, h1]
          · exact a5 x hx
      · by_cases h2 : cls s[k] = 2
        · have hb : (s[k].toNat : Int) = 35 := by
            unfold cls clsI at h2; repeat' split at h2
            all_goals first | assumption | (cases h2; done) | omega
          have hsc : slen (s.data.toList.drop k) = scan pHash s k := slen_scan s k hlt pHash (by rw [h2]; funext c; exact cont_two c) (cont_self _ (by rw [h2]; decide))
          rw [hsc] at hpos hle hstep
          obtain ⟨r, G, a1, a2, a3, a4, a5, a6⟩ := ih (d - scan pHash s k) (by omega) (k + scan pHash s k) (by omega) (by omega)
          refine ⟨r, _ :: G, by omega, a2, ?_, by rw [hstep, a4, List.cons_append], fun x hx => ?_, a6⟩
          · have hl1 := gap_l1 s hs (r : Int) _ k (by omega) rfl a3
            refine Ev.step (f := _) (fun n => by rw [slotmeshref01_Gap.l0]) ?_
            refine evPos (by omega) (evPos (by omega) ?_)
            rw [bt_nat hlt]
            refine evNeg (by omega) (evNeg (by omega) (evNeg (by omega) ?_))
            refine Ev.step (f := _) (fun n => by rw [slotmeshref01_Gap.j1]) ?_
            refine evPos (by rw [hb]; rfl) (evPos (by omega) (evPos (by omega) ?_))
            rw [bt_nat hlt]
            exact evPos hb hl1
          · rcases List.mem_cons.1 hx with rfl | hx
            · simp [gapB, h2]
            · exact a5 x hx
        · refine ⟨k, [], Nat.le_refl _, hk, ?_, rfl, fun x hx => by simp at hx, fun _ => ⟨h1, h2⟩⟩
          have hb : ¬ (s[k].toNat : Int) = 32 ∧ ¬ (s[k].toNat : Int) = 9 ∧ ¬ (s[k].toNat : Int) = 10 ∧ ¬ (s[k].toNat : Int) = 35 := by
            unfold cls clsI at h1 h2
            refine ⟨fun e => ?_, fun e => ?_, fun e => ?_, fun e => ?_⟩ <;> rw [e] at h1 h2 <;> simp at h1 h2
          refine Ev.step (f := _) (fun n => by rw [slotmeshref01_Gap.l0]) ?_
          refine evPos (by omega) (evPos (by omega) ?_)
          rw [bt_nat hlt]
          refine evNeg hb.1 (evNeg hb.2.1 (evNeg hb.2.2.1 ?_))
          refine Ev.step (f := _) (fun n => by rw [slotmeshref01_Gap.j1]) ?_
          exact evNeg (by simpa using hb.2.2.2) (Ev.now _)
    · refine ⟨k, [], Nat.le_refl _, hk, ?_, rfl, fun x hx => by simp at hx, fun h => absurd h hlt⟩
      refine Ev.step (f := _) (fun n => by rw [slotmeshref01_Gap.l0]) ?_
      refine evNeg (by omega) ?_
      refine Ev.step (f := _) (fun n => by rw [slotmeshref01_Gap.j1]) ?_
      exact evNeg (by simp) (Ev.now _)
theorem take_succ (s : ByteArray) (k : Nat) (h : k < s.size) : s.data.toList.take (k + 1) = s.data.toList.take k ++ [s[k]] := by
  rw [List.take_succ_eq_append_getElem (by rw [list_size]; exact h)]; rfl
theorem val_snoc (l : List UInt8) (c : UInt8) : val (l ++ [c]) = 10 * val l + (c.toNat - 48) := by simp [val]
theorem mem_get (s : ByteArray) (k : Nat) (h : k < s.size) : s[k] ∈ s.data.toList := by
  have : s[k] = s.data.toList[k]'(by rw [list_size]; exact h) := rfl
  rw [this]; exact List.getElem_mem _
theorem value_loop (s : ByteArray) (hs : s.size ≤ 140737488355328) (hd : ∀ c ∈ s.data.toList, digitB c) (d : Nat) : ∀ j : Nat, j ≤ s.size → s.size - j = d →
    Ev (fun k => slotmeshref01_value.l0 k s (min (val (s.data.toList.take j) : Int) 1000000001) (j : Int)) (min (val s.data.toList : Int) 1000000001) := by
  induction d with
  | zero =>
    intro j hj hd'
    refine Ev.step (f := _) (fun k => by rw [slotmeshref01_value.l0]) ?_
    refine evNeg (by omega) ?_
    rw [List.take_of_length_le (by rw [list_size]; omega)]
    exact Ev.now _
  | succ d ih =>
    intro j hj hd'
    have hlt : j < s.size := by omega
    have hc := hd _ (mem_get s j hlt)
    unfold digitB at hc
    refine Ev.step (f := _) (fun k => by rw [slotmeshref01_value.l0]) ?_
    refine evPos (by omega) (evPos (by omega) ?_)
    rw [bt_nat hlt]
    have h := ih (j + 1) (by omega) (by omega)
    rw [take_succ s j hlt, val_snoc] at h
    generalize hv : val (s.data.toList.take j) = v at h ⊢
    have hm : (0 : Int) ≤ min (v : Int) 1000000001 ∧ min (v : Int) 1000000001 ≤ 1000000001 := by omega
    have e1 : wrap64 (10 * min (v : Int) 1000000001) = 10 * min (v : Int) 1000000001 := w64 (by omega) (by omega)
    have e2 : ((s[j].toNat : Int) - 48) % 256 = (s[j].toNat : Int) - 48 := by omega
    rw [e1, e2, w64 (x := 10 * min (v : Int) 1000000001 + ((s[j].toNat : Int) - 48)) (by omega) (by omega)]
    rw [show wrap64 ((j : Int) + 1) = ((j + 1 : Nat) : Int) by rw [w64 (by omega) (by omega)]; omega]
    rw [show mn (10 * min (v : Int) 1000000001 + ((s[j].toNat : Int) - 48)) 1000000001 = min ((10 * v + (s[j].toNat - 48) : Nat) : Int) 1000000001 by unfold mn; omega]
    exact h
theorem value_ev (s : ByteArray) (hs : s.size ≤ 140737488355328) (hd : ∀ c ∈ s.data.toList, digitB c) : Ev (fun k => slotmeshref01_value.f k s) (min (val s.data.toList : Int) 1000000001) := by
  unfold slotmeshref01_value.f
  have := value_loop s hs hd _ 0 (by omega) rfl
  rw [List.take_zero, show min ((val [] : Nat) : Int) 1000000001 = 0 from by decide] at this
  exact this
/-- Token's answer, as plain words. -/
def tokAns (r : Except Int Tk) : Int × ByteArray × Int × Int × Int := match r with | .ok x => (x.kind, ⟨x.t.toArray⟩, x.n, 0, 0) | .error e => (0, ⟨#[]⟩, 0, 0, e)
theorem token_ev (t : ByteArray) (hs : t.size ≤ 140737488355328) (h0 : 0 < t.size) (k : Int) (hk : cls t[0] = k) (h345 : k = 3 ∨ k = 4 ∨ k = 5) (hd : k = 4 → ∀ c ∈ t.data.toList, digitB c) (o : Nat) :
    Ev (fun n => slotmeshref01_Token.f n t) (tokAns (tokOf k t.data.toList o)) := by
  unfold slotmeshref01_Token.f tokOf
  have hb := bt_nat (s := t) (k := 0) h0
  rw [list_size]
  refine evPos (by omega) ?_
  have hb' : bt t 0 = (t[0].toNat : Int) := hb
  rw [hb']
  refine evBind (letter_f _) (evBind (digit_f _) ?_)
  unfold cls at hk
  rw [hk]
  rcases h345 with rfl | rfl | rfl
  · refine evPos (by decide) ?_
    simp only [if_true]
    by_cases hl : 12 < t.size
    · rw [if_pos hl]; exact evPos (by omega) (Ev.now _)
    · rw [if_neg hl]; exact evNeg (by omega) (Ev.now _)
  · refine evNeg (by decide) (evPos (by decide) ?_)
    rw [if_neg (by decide)]
    simp only [if_true]
    have hj : ∀ b : Bool, Ev (fun n => slotmeshref01_Token.j0 n t b) (if b = true then (0, ⟨#[]⟩, 0, 0, 7) else tokAns (if 1000000000 < val t.data.toList then .error 3 else .ok ⟨2, [], val t.data.toList, o⟩)) := by
      intro b
      refine Ev.step (f := _) (fun n => by rw [slotmeshref01_Token.j0]) ?_
      cases b with
      | true => exact evPos rfl (Ev.now _)
      | false =>
        refine evNeg (by decide) ?_
        refine Ev.bind (value_ev t hs (hd rfl)) ?_
        simp only [Bool.false_eq_true, if_false]
        by_cases hv : 1000000000 < val t.data.toList
        · rw [if_pos hv]; exact evPos (by omega) (Ev.now _)
        · rw [if_neg hv]; refine evNeg (by omega) ?_
          rw [show min (val t.data.toList : Int) 1000000001 = (val t.data.toList : Int) by omega]
          exact Ev.now _
    have hh : t.data.toList.head? = some t[0] := by have := drop_at t 0 h0; rw [List.drop_zero] at this; rw [this]; rfl
    have h48 : t[0] = 48 ↔ (t[0].toNat : Int) = 48 := ⟨fun e => by rw [e]; rfl, fun e => UInt8.toNat_inj.1 (by change t[0].toNat = 48; omega)⟩
    by_cases hl : 1 < t.size
    · refine evPos (by omega) ?_
      by_cases hz : (t[0].toNat : Int) = 48
      · rw [if_pos ⟨hl, by rw [hh, h48.2 hz]⟩]
        exact evEq (hj _) (by rw [hz]; rfl)
      · rw [if_neg (fun h => hz (h48.1 (Option.some.inj (hh.symm.trans h.2))))]
        exact evEq (hj _) (by rw [if_neg (by simpa using hz)])
    · rw [if_neg (fun h => hl h.1)]
      refine evNeg (by omega) ?_
      exact evEq (hj _) (by simp)
  · refine evNeg (by decide) (evNeg (by decide) ?_)
    rw [if_neg (by decide), if_neg (by decide)]
    exact Ev.now _
def toTok (x : Tk) : S45 := ofTok (Px.toTk x)
/-- What Lex answers, of a result. -/
def ans (r : Except (Int × Nat) (List Tk)) : List S45 × Int × Int := match r with | .ok ts => (ts.map toTok, 0, 0) | .error e => ([], e.1, (e.2 : Nat))
theorem fold_gaps (L : List Sp) : ∀ {R : List Sp} (us : List Tk), (∀ y ∈ L, gapB y = true) → (L ++ R).foldl pstep (.ok us) = R.foldl pstep (.ok us) := by
  induction L with
  | nil => intro R us _; rfl
  | cons y L ih => intro R us hy; rw [List.cons_append, List.foldl_cons, pstep_gap (hy y List.mem_cons_self)]; exact ih us (fun z hz => hy z (List.mem_cons_of_mem _ hz))
theorem lex_loop (s : ByteArray) (hs : s.size ≤ 8000) (d : Nat) : ∀ (at_ : Nat) (ts : List Tk), at_ ≤ s.size → s.size - at_ = d → ts.length ≤ 2000 → (∀ h : at_ < s.size, cls s[at_] ≠ 1 ∧ cls s[at_] ≠ 2) →
    Ev (fun k => slotmeshref01_Lex.l0 k s (ts.map toTok) (at_ : Int)) (ans ((spans (s.data.toList.drop at_) at_).foldl pstep (.ok ts))) := by
  induction d using Nat.strongRecOn with
  | _ d ih =>
    intro a ts ha hd hts hg
    by_cases hlt : a < s.size
    · obtain ⟨hg1, hg2⟩ := hg hlt
      have hstep := spans_at s a hlt _ rfl
      have hpos := slen_pos (l := s.data.toList.drop a) (by rw [drop_at s a hlt]; simp)
      have hle := slen_le (s.data.toList.drop a)
      rw [List.length_drop, list_size] at hle
      refine Ev.step (f := _) (fun k => by rw [slotmeshref01_Lex.l0]) ?_
      refine evPos (by omega) (evPos (by omega) ?_)
      rw [bt_nat hlt]
      refine evBind (begins_f _) ?_
      rw [hstep, List.foldl_cons]
      have hmem := spans_good (s.data.toList.drop a) a ⟨a, cls s[a], (s.data.toList.drop a).take (slen (s.data.toList.drop a))⟩ (by rw [hstep]; simp)
      obtain ⟨m1, m2, m3, m4, _, _, _⟩ := hmem
      dsimp only at m1 m2 m3 m4
      by_cases h0 : cls s[a] = 0
      · refine evNeg (by unfold cls at h0; simp [h0]) ?_
        have : pstep (.ok ts) ⟨a, cls s[a], (s.data.toList.drop a).take (slen (s.data.toList.drop a))⟩ = .error (7, a) := by
          simp only [pstep]; rw [if_neg (by omega), if_pos h0]
        rw [this, foldl_error]
        exact Ev.now _
      · have h345 : cls s[a] = 3 ∨ cls s[a] = 4 ∨ cls s[a] = 5 := by omega
        refine evPos (by unfold cls at h345; simp only [decide_eq_true_eq]; omega) ?_
        by_cases h2 : ts.length = 2000
        · have : pstep (.ok ts) ⟨a, cls s[a], (s.data.toList.drop a).take (slen (s.data.toList.drop a))⟩ = .error (2, a) := by
            simp only [pstep]; rw [if_neg (by omega), if_neg h0, if_pos h2]
          rw [this, foldl_error]
          exact evPos (by rw [List.length_map]; omega) (Ev.now _)
        · refine evNeg (by rw [List.length_map]; omega) ?_
          refine Ev.bind (end_ev s (by omega) a hlt hg2) ?_
          generalize hm : slen (s.data.toList.drop a) = m at hpos hle m1 m2 hstep ⊢
          refine evPos (by omega) (evPos (by omega) ?_)
          have hext : s.extract (a : Int).toNat ((a + m : Nat) : Int).toNat = ⟨((s.data.toList.drop a).take m).toArray⟩ := by
            rw [Int.toNat_natCast, Int.toNat_natCast, ext_list, show a + m - a = m by omega]
          rw [hext]
          have hsz : (⟨((s.data.toList.drop a).take m).toArray⟩ : ByteArray).size = m := by
            simp only [ByteArray.size, List.size_toArray, List.length_take, List.length_drop]; rw [list_size]; omega
          have hd0 : (s.data.toList.drop a).take m = s[a] :: ((s.data.toList.drop (a + 1)).take (m - 1)) := by
            rw [drop_at s a hlt, show m = (m - 1) + 1 by omega, List.take_succ_cons]; simp
          have hz : (⟨((s.data.toList.drop a).take m).toArray⟩ : ByteArray)[0]'(by omega) = s[a] := by
            show ((s.data.toList.drop a).take m).toArray[0]'_ = s[a]
            simp only [hd0, List.getElem_toArray, List.getElem_cons_zero]
          refine Ev.bind (token_ev ⟨((s.data.toList.drop a).take m).toArray⟩ (by omega) (by omega) (cls s[a]) (by rw [hz]) h345 (fun e => by simpa using m2 e) a) ?_
          show Ev _ _
          simp only []
          cases hT : tokOf (cls s[a]) ((s.data.toList.drop a).take m) a with
          | error e =>
            have he := tokOf_err hT
            have : pstep (.ok ts) ⟨a, cls s[a], (s.data.toList.drop a).take m⟩ = .error (e, a) := by
              simp only [pstep]; rw [if_neg (by omega), if_neg h0, if_neg h2, hT]
            rw [this, foldl_error]
            exact evNeg (by show ¬ e = 0; omega) (Ev.now _)
          | ok x =>
            have ho := tokOf_o hT
            have : pstep (.ok ts) ⟨a, cls s[a], (s.data.toList.drop a).take m⟩ = .ok (ts ++ [x]) := by
              simp only [pstep]; rw [if_neg (by omega), if_neg h0, if_neg h2, hT]
            rw [this]
            refine evPos rfl (evPos (by rw [List.length_map]; omega) ?_)
            obtain ⟨r, G, g1, g2, g3, g4, g5, g6⟩ := gap_ev s (by omega) _ (a + m) (by omega) rfl
            refine Ev.bind (show Ev (fun n => slotmeshref01_Gap.f n s ((a + m : Nat) : Int)) (r : Int) from g3) ?_
            have hih := ih (s.size - r) (by omega) r (ts ++ [x]) g2 rfl (by simp only [List.length_append, List.length_cons, List.length_nil]; omega) g6
            have hfold : (spans (s.data.toList.drop (a + m)) (a + m)).foldl pstep (.ok (ts ++ [x])) = (spans (s.data.toList.drop r) r).foldl pstep (.ok (ts ++ [x])) := by
              rw [g4, fold_gaps G _ g5]
            rw [hfold]
            have hmap : (ts ++ [x]).map toTok = ts.map toTok ++ [(⟨(tokAns (.ok x)).1, (tokAns (.ok x)).2.1, (tokAns (.ok x)).2.2.1, (a : Int)⟩ : S45)] := by
              rw [List.map_append]; simp [toTok, ofTok, Px.toTk, tokAns, ho]
            rw [hmap] at hih
            exact hih
    · refine Ev.step (f := _) (fun k => by rw [slotmeshref01_Lex.l0]) ?_
      refine evNeg (by omega) ?_
      rw [List.drop_eq_nil_of_le (by rw [list_size]; omega), spans_nil]
      exact Ev.now _
/-- The reference's Lex answers what Lex answers. -/
theorem ref_lex (s : ByteArray) : Ev (fun k => slotmeshref01_Lex.f k s) (ans (lex s.data.toList)) := by
  unfold slotmeshref01_Lex.f lex
  rw [list_size]
  by_cases hl : 8000 < s.size
  · rw [if_pos hl]; exact evPos (by omega) (Ev.now _)
  · rw [if_neg hl]
    refine evNeg (by omega) ?_
    obtain ⟨r, G, g1, g2, g3, g4, g5, g6⟩ := gap_ev s (by omega) _ 0 (by omega) rfl
    refine Ev.bind (show Ev (fun n => slotmeshref01_Gap.f n s 0) (r : Int) from g3) ?_
    have := lex_loop s (by omega) _ r [] g2 rfl (by simp) g6
    rw [List.drop_zero] at g4
    unfold procF
    rw [g4, fold_gaps G [] g5]
    exact this
end Go.Proofs.YtdedlchpjboceaaDoor.Lr
end
