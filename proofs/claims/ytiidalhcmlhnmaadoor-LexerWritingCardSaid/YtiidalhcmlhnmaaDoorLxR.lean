/-
  Plain laws on what the reference lexer's functions compute (printed as Lean functions with a number of rounds): each comes to the plain word's answer.
-/
import Derived.Test.YtiidalhcmlhnmaaDoorPAx3
import Derived.Test.YtiidalhcmlhnmaaDoorLxC
namespace Go.Proofs.YtiidalhcmlhnmaaDoor.LR
open Go.RowKit Go.Proofs.YtiidalhcmlhnmaaDoor.PA Go.Proofs.YtiidalhcmlhnmaaDoorW.PrintWords Go.Proofs.YtiidalhcmlhnmaaDoorW.PrintLast Go.Proofs.YtiidalhcmlhnmaaDoor.Lx

/-! ### Rounds -/
section
variable {α β : Type}
theorem evPos {c : Prop} [Decidable c] {f g : Nat → Option α} {r : α} (h : c) (e : Ev f r) : Ev (fun k => if c then f k else g k) r := Ev.congr (fun _ => if_pos h) e
theorem evNeg {c : Prop} [Decidable c] {f g : Nat → Option α} {r : α} (h : ¬ c) (e : Ev g r) : Ev (fun k => if c then f k else g k) r := Ev.congr (fun _ => if_neg h) e
theorem evBind {o : Option α} {a : α} {f : Nat → α → Option β} {r : β} (h : o = some a) (e : Ev (fun k => f k a) r) : Ev (fun k => o.bind (f k)) r := Ev.congr (fun k => by rw [h]; rfl) e
theorem evNow {o : Option α} {r : α} (h : o = some r) : Ev (fun _ => o) r := by rw [h]; exact Ev.now r
theorem evEq {f : Nat → Option α} {r r' : α} (e : Ev f r) (h : r = r') : Ev f r' := h ▸ e
end
theorem w64 {x : Int} (h0 : -9223372036854775808 ≤ x) (h1 : x ≤ 9223372036854775807) : wrap64 x = x := by unfold wrap64; omega

/-! ### Bytes -/
theorem bt_nat {s : ByteArray} {k : Nat} (h : k < s.size) : bt s (k : Int) = (s[k].toNat : Int) := (bt_at s k (by simpa using h)).symm
theorem letter_f (c : Int) : slotmeshref01_Letter.f c = some (decide (clsI c = 3)) := by
  unfold slotmeshref01_Letter.f clsI
  repeat' split
  all_goals first | rfl | (simp; omega) | (congr 1; simp; omega)
theorem digit_f (c : Int) : slotmeshref01_Digit.f c = some (decide (clsI c = 4)) := by
  unfold slotmeshref01_Digit.f clsI
  repeat' split
  all_goals first | rfl | (simp; omega) | (congr 1; simp; omega)
theorem begins_f (c : Int) : slotmeshref01_Begins.f c = some (decide (clsI c = 3 ∨ clsI c = 4 ∨ clsI c = 5)) := by
  unfold slotmeshref01_Begins.f
  rw [letter_f, digit_f]
  simp only [Option.bind_some, decide_eq_true_eq]
  by_cases h3 : clsI c = 3
  · simp [h3]
  · by_cases h4 : clsI c = 4
    · simp [h4]
    · rw [if_neg h3, if_neg h4]
      congr 1
      have : clsI c = 5 ↔ c = 59 := by unfold clsI; repeat' split <;> omega
      simp [h3, h4, this]
      rfl

/-! ### End -/
def onB (nm dg : Bool) (c : Int) : Bool := if nm = true then pName c else if dg = true then pDigit c else false
theorem end_loop (s : ByteArray) (hs : s.size ≤ 140737488355328) (nm dg : Bool) (d : Nat) : ∀ j : Nat, j ≤ s.size → s.size - j = d → Ev (fun k => slotmeshref01_End.l0 k s (j : Int) nm dg) ((j + scan (onB nm dg) s j : Nat) : Int) := by
  induction d with
  | zero =>
    intro j hj hd
    refine Ev.step (f := _) (fun k => by rw [slotmeshref01_End.l0]) ?_
    refine evNeg (by omega) ?_
    rw [scan_end (by omega)]
    exact Ev.now _
  | succ d ih =>
    intro j hj hd
    have hlt : j < s.size := by omega
    have hih := ih (j + 1) (by omega) (by omega)
    have hw : wrap64 ((j : Int) + 1) = ((j + 1 : Nat) : Int) := by rw [w64 (by omega) (by omega)]; omega
    refine Ev.step (f := _) (fun k => by rw [slotmeshref01_End.l0]) ?_
    refine evPos (by omega) (evPos (by omega) ?_)
    rw [bt_nat hlt]
    refine evBind (letter_f _) (evBind (digit_f _) ?_)
    rw [hw]
    have hyes : onB nm dg (s[j].toNat : Int) = true → Ev (fun k => slotmeshref01_End.l0 k s ((j + 1 : Nat) : Int) nm dg) ((j + scan (onB nm dg) s j : Nat) : Int) := fun h => by
      rw [scan_yes hlt h, ← Nat.add_assoc]; exact hih
    have hno : onB nm dg (s[j].toNat : Int) = false → Ev (fun _ => some (j : Int)) ((j + scan (onB nm dg) s j : Nat) : Int) := fun h => by
      rw [scan_no hlt h]; exact Ev.now _
    cases nm with
    | true =>
      refine evPos rfl ?_
      by_cases h3 : clsI (s[j].toNat : Int) = 3
      · exact evPos (by simp [h3]) (hyes (by simp [onB, pName, h3]))
      · refine evNeg (by simp [h3]) ?_
        by_cases h4 : clsI (s[j].toNat : Int) = 4
        · exact evPos (by simp [h4]) (hyes (by simp [onB, pName, h4]))
        · refine evNeg (by simp [h4]) ?_
          by_cases h5 : (s[j].toNat : Int) = 95
          · exact evPos h5 (hyes (by simp [onB, pName, h5]))
          · refine evNeg h5 ?_
            have := hno (by simp only [onB, pName, if_true]; simp [h3, h4]; omega)
            cases dg with
            | true => exact evPos rfl this
            | false => exact evNeg (by simp) this
    | false =>
      refine evNeg (by simp) ?_
      cases dg with
      | true =>
        refine evPos rfl ?_
        by_cases h4 : clsI (s[j].toNat : Int) = 4
        · exact evPos (by simp [h4]) (hyes (by simp [onB, pDigit, h4]))
        · exact evNeg (by simp [h4]) (hno (by simp [onB, pDigit, h4]))
      | false => exact evNeg (by simp) (hno (by simp [onB]))
theorem onB_cont (c : UInt8) (h2 : cls c ≠ 2) : (fun x : UInt8 => onB (decide (clsI (c.toNat : Int) = 3)) (decide (clsI (c.toNat : Int) = 4)) (x.toNat : Int)) = cont (cls c) := by
  funext x
  unfold cls at h2 ⊢
  rcases (by have := clsI_range (c.toNat : Int); omega : clsI (c.toNat : Int) = 0 ∨ clsI (c.toNat : Int) = 1 ∨ clsI (c.toNat : Int) = 3 ∨ clsI (c.toNat : Int) = 4 ∨ clsI (c.toNat : Int) = 5) with hc | hc | hc | hc | hc
  all_goals (rw [hc]; simp [onB, cont])
theorem end_ev (s : ByteArray) (hs : s.size ≤ 140737488355328) (k : Nat) (h : k < s.size) (h2 : cls s[k] ≠ 2) : Ev (fun n => slotmeshref01_End.f n s (k : Int)) ((k + slen (s.data.toList.drop k) : Nat) : Int) := by
  unfold slotmeshref01_End.f
  refine evPos (by omega) (evPos (by omega) ?_)
  rw [bt_nat h]
  refine evBind (letter_f _) (evBind (digit_f _) ?_)
  rw [show wrap64 ((k : Int) + 1) = ((k + 1 : Nat) : Int) by rw [w64 (by omega) (by omega)]; omega]
  refine evEq (end_loop s hs _ _ _ (k + 1) (by omega) rfl) ?_
  rw [slen_at s k h, ← onB_cont _ h2]
  unfold scan
  omega

/-! ### Gap -/
theorem gap_l1 (s : ByteArray) (hs : s.size ≤ 140737488355328) (r : Int) (d : Nat) : ∀ j : Nat, j ≤ s.size → s.size - j = d → Ev (fun k => slotmeshref01_Gap.l0 k s ((j + scan pHash s j : Nat) : Int)) r → Ev (fun k => slotmeshref01_Gap.l1 k s (j : Int)) r := by
  induction d with
  | zero =>
    intro j hj hd h
    refine Ev.step (f := _) (fun k => by rw [slotmeshref01_Gap.l1]) ?_
    refine evNeg (by omega) ?_
    rw [scan_end (by omega)] at h
    exact h
  | succ d ih =>
    intro j hj hd h
    have hlt : j < s.size := by omega
    refine Ev.step (f := _) (fun k => by rw [slotmeshref01_Gap.l1]) ?_
    refine evPos (by omega) (evPos (by omega) ?_)
    rw [bt_nat hlt]
    by_cases h10 : (s[j].toNat : Int) = 10
    · refine evPos h10 ?_
      rw [scan_no hlt (by simp [pHash, h10])] at h
      exact h
    · refine evNeg h10 ?_
      rw [show wrap64 ((j : Int) + 1) = ((j + 1 : Nat) : Int) by rw [w64 (by omega) (by omega)]; omega]
      refine ih (j + 1) (by omega) (by omega) ?_
      rw [scan_yes hlt (by simp [pHash, h10]), ← Nat.add_assoc] at h
      exact h
/-- Gap comes to where the gaps end. -/
theorem gap_ev (s : ByteArray) (hs : s.size ≤ 140737488355328) (d : Nat) : ∀ k : Nat, k ≤ s.size → s.size - k = d →
    ∃ (r : Nat) (G : List Sp), k ≤ r ∧ r ≤ s.size ∧ Ev (fun n => slotmeshref01_Gap.l0 n s (k : Int)) (r : Int) ∧ spans (s.data.toList.drop k) k = G ++ spans (s.data.toList.drop r) r ∧ (∀ x ∈ G, gapB x = true) ∧ (∀ h : r < s.size, cls s[r] ≠ 1 ∧ cls s[r] ≠ 2) := by
  induction d using Nat.strongRecOn with
  | _ d ih =>
    intro k hk hd
    by_cases hlt : k < s.size
    · have hstep := spans_at s k hlt _ rfl
      have hpos := slen_pos (l := s.data.toList.drop k) (by rw [drop_at s k hlt]; simp)
      have hle := slen_le (s.data.toList.drop k)
      rw [List.length_drop, list_size] at hle
      have hw : wrap64 ((k : Int) + 1) = ((k + 1 : Nat) : Int) := by rw [w64 (by omega) (by omega)]; omega
      by_cases h1 : cls s[k] = 1
      · rw [slen_one s k hlt (by rw [h1]; decide) (by rw [h1]; decide) (by rw [h1]; decide)] at hstep
        obtain ⟨r, G, a1, a2, a3, a4, a5, a6⟩ := ih (d - 1) (by omega) (k + 1) (by omega) (by omega)
        refine ⟨r, _ :: G, by omega, a2, ?_, by rw [hstep, a4, List.cons_append], fun x hx => ?_, a6⟩
        · have hb : (s[k].toNat : Int) = 32 ∨ (s[k].toNat : Int) = 9 ∨ (s[k].toNat : Int) = 10 := by
            unfold cls clsI at h1; repeat' split at h1
            all_goals first | assumption | cases h1
          have hj : Ev (fun n => slotmeshref01_Gap.j1 n s (k : Int) true) (r : Int) := by
            refine Ev.step (f := _) (fun n => by rw [slotmeshref01_Gap.j1]) ?_
            refine evPos rfl (evPos (by omega) (evPos (by omega) ?_))
            rw [bt_nat hlt, hw]
            exact evNeg (by omega) a3
          refine Ev.step (f := _) (fun n => by rw [slotmeshref01_Gap.l0]) ?_
          refine evPos (by omega) (evPos (by omega) ?_)
          rw [bt_nat hlt]
          rcases hb with hb | hb | hb
          · exact evPos hb hj
          · exact evNeg (by omega) (evPos hb hj)
          · exact evNeg (by omega) (evNeg (by omega) (evPos hb hj))
        · rcases List.mem_cons.1 hx with rfl | hx
          · simp [gapB, h1]
          · exact a5 x hx
      · by_cases h2 : cls s[k] = 2
        · have hb : (s[k].toNat : Int) = 35 := by
            unfold cls clsI at h2; repeat' split at h2
            all_goals first | assumption | (cases h2; done) | omega
          have hsc : slen (s.data.toList.drop k) = scan pHash s k := slen_scan s k hlt pHash (by rw [h2]; funext c; exact cont_two c) (cont_self _ (by rw [h2]; decide))
          rw [hsc] at hpos hle hstep
          obtain ⟨r, G, a1, a2, a3, a4, a5, a6⟩ := ih (d - scan pHash s k) (by omega) (k + scan pHash s k) (by omega) (by omega)
          refine ⟨r, _ :: G, by omega, a2, ?_, by rw [hstep, a4, List.cons_append], fun x hx => ?_, a6⟩
          · have hl1 := gap_l1 s hs (r : Int) _ k (by omega) rfl a3
            refine Ev.step (f := _) (fun n => by rw [slotmeshref01_Gap.l0]) ?_
            refine evPos (by omega) (evPos (by omega) ?_)
            rw [bt_nat hlt]
            refine evNeg (by omega) (evNeg (by omega) (evNeg (by omega) ?_))
            refine Ev.step (f := _) (fun n => by rw [slotmeshref01_Gap.j1]) ?_
            refine evPos (by rw [hb]; rfl) (evPos (by omega) (evPos (by omega) ?_))
            rw [bt_nat hlt]
            exact evPos hb hl1
          · rcases List.mem_cons.1 hx with rfl | hx
            · simp [gapB, h2]
            · exact a5 x hx
        · refine ⟨k, [], Nat.le_refl _, hk, ?_, rfl, fun x hx => by simp at hx, fun _ => ⟨h1, h2⟩⟩
          have hb : ¬ (s[k].toNat : Int) = 32 ∧ ¬ (s[k].toNat : Int) = 9 ∧ ¬ (s[k].toNat : Int) = 10 ∧ ¬ (s[k].toNat : Int) = 35 := by
            unfold cls clsI at h1 h2
            refine ⟨fun e => ?_, fun e => ?_, fun e => ?_, fun e => ?_⟩ <;> rw [e] at h1 h2 <;> simp at h1 h2
          refine Ev.step (f := _) (fun n => by rw [slotmeshref01_Gap.l0]) ?_
          refine evPos (by omega) (evPos (by omega) ?_)
          rw [bt_nat hlt]
          refine evNeg hb.1 (evNeg hb.2.1 (evNeg hb.2.2.1 ?_))
          refine Ev.step (f := _) (fun n => by rw [slotmeshref01_Gap.j1]) ?_
          exact evNeg (by simpa using hb.2.2.2) (Ev.now _)
    · refine ⟨k, [], Nat.le_refl _, hk, ?_, rfl, fun x hx => by simp at hx, fun h => absurd h hlt⟩
      refine Ev.step (f := _) (fun n => by rw [slotmeshref01_Gap.l0]) ?_
      refine evNeg (by omega) ?_
      refine Ev.step (f := _) (fun n => by rw [slotmeshref01_Gap.j1]) ?_
      exact evNeg (by simp) (Ev.now _)

end Go.Proofs.YtiidalhcmlhnmaaDoor.LR
