/- Texts of proofs: plain words, and walks through the program's functions. -/
import Derived.Test.YtdedlchpjboceaaDoorMfb496182
import Derived.Test.YtdedlchpjboceaaDoorMbd7a5faf
import Derived.Test.YtdedlchpjboceaaDoorM11ccb677
import Derived.Test.YtdedlchpjboceaaDoorM5900f009
import Derived.Test.YtdedlchpjboceaaDoorM954d476f

section
/-
  Plain laws on what the reference's small functions compute (printed as Lean functions with a number of rounds): few commands; equal lists of commands. The fixed examples.
-/
namespace Go.Proofs.YtdedlchpjboceaaDoor.Qy
open Go.RowKit Go.Proofs.YtdedlchpjboceaaDoorW.PrintWords Go.Proofs.YtdedlchpjboceaaDoorW.PrintLast Go.Proofs.YtdedlchpjboceaaDoor.Lx Go.Proofs.YtdedlchpjboceaaDoor.Px Go.Proofs.YtdedlchpjboceaaDoor.Tx Go.Proofs.YtdedlchpjboceaaDoor.Qz Go.Proofs.YtdedlchpjboceaaDoor.PE

theorem rd_at (l : List S40) (j : Nat) (h : j < l.length) : rd_T40 l (j : Int) = l[j] := by
  unfold rd_T40
  rw [Int.toNat_natCast, List.getD_eq_getElem?_getD, List.getElem?_eq_getElem h]; rfl
theorem print_f (l : List S40) : printer_Print.f l = some (printR (l.map toCmd)) := rfl
set_option maxRecDepth 100000 in
theorem head3 : slotmeshlaw03_head.f = some true := by
  unfold slotmeshlaw03_head.f printer_Print.f
  simp only [printRF_eq]
  kernel_rfl

/-! ### Few -/
def few1 (x : S40) : Bool := decide (x.f2.length ≤ 20) && decide (x.f1.size ≤ 50)
def fewB (l : List S40) : Bool := l.all few1 && decide (l.length ≤ 310)
theorem few_loop (l : List S40) (hl : l.length ≤ 9223372036854775807) (d : Nat) : ∀ j : Nat, j ≤ l.length → l.length - j = d →
    Ev (fun k => slotmeshref02_Few.l0 k l (j : Int)) ((l.drop j).all few1 && decide (l.length ≤ 310)) := by
  induction d with
  | zero =>
    intro j hj hd
    refine Ev.step (f := _) (fun k => by rw [slotmeshref02_Few.l0]) ?_
    refine evNeg (by omega) ?_
    rw [List.drop_of_length_le (by omega)]
    refine evEq (Ev.now _) ?_
    simp only [List.all_nil, Bool.true_and]
    congr 1
    exact propext (by omega)
  | succ d ih =>
    intro j hj hd
    have hlt : j < l.length := by omega
    have hih := ih (j + 1) (by omega) (by omega)
    have hw : wrap64 ((j : Int) + 1) = ((j + 1 : Nat) : Int) := by rw [w64 (by omega) (by omega)]; omega
    refine Ev.step (f := _) (fun k => by rw [slotmeshref02_Few.l0]) ?_
    refine evPos (by omega) (evPos (by omega) ?_)
    rw [rd_at l j hlt, List.drop_eq_getElem_cons hlt, List.all_cons]
    by_cases h1 : l[j].f2.length ≤ 20
    · refine evNeg (by omega) ?_
      by_cases h2 : l[j].f1.size ≤ 50
      · refine evNeg (by omega) ?_
        rw [hw]
        have e : few1 l[j] = true := by unfold few1; simp [h1, h2]
        rw [e, Bool.true_and]
        exact hih
      · refine evPos (by omega) ?_
        have e : few1 l[j] = false := by unfold few1; simp [h2]
        rw [e]; exact Ev.now _
    · refine evPos (by omega) ?_
      have e : few1 l[j] = false := by unfold few1; simp [h1]
      rw [e]; exact Ev.now _
theorem few_ev (l : List S40) (hl : l.length ≤ 9223372036854775807) : Ev (fun k => slotmeshref02_Few.f k l) (fewB l) := few_loop l hl l.length 0 (Nat.zero_le _) rfl
theorem few_some {l : List S40} (h : fewB l = true) : l.length ≤ 310 ∧ ∀ x ∈ l, x.f2.length ≤ 20 ∧ x.f1.size ≤ 50 := by
  unfold fewB at h
  rw [Bool.and_eq_true, decide_eq_true_eq, List.all_eq_true] at h
  refine ⟨h.2, fun x hx => ?_⟩
  have := h.1 x hx
  unfold few1 at this
  simpa using this

/-! ### Same -/
def eqS (x y : S40) : Bool := decide (x.f0 = y.f0) && decide (x.f1.toList = y.f1.toList) && decide (x.f3 = y.f3) && decide (x.f2 = y.f2)
def allS : List S40 → List S40 → Bool
  | x :: xs, y :: ys => eqS x y && allS xs ys
  | [], [] => true
  | [], _ :: _ => false
  | _ :: _, [] => false
theorem eqS_iff (x y : S40) : eqS x y = true ↔ x = y := by
  unfold eqS
  simp only [Bool.and_eq_true, decide_eq_true_eq]
  constructor
  · rintro ⟨⟨⟨h0, h1⟩, h3⟩, h2⟩
    obtain ⟨a, b, c, d⟩ := x
    obtain ⟨a', b', c', d'⟩ := y
    simp only at h0 h1 h2 h3
    subst h0; subst h2; subst h3
    rw [ByteArray.toList_eq, ByteArray.toList_eq] at h1
    have : b = b' := by
      obtain ⟨⟨l⟩⟩ := b
      obtain ⟨⟨l'⟩⟩ := b'
      simp at h1
      rw [h1]
    rw [this]
  · rintro rfl; exact ⟨⟨⟨rfl, rfl⟩, rfl⟩, rfl⟩
theorem allS_iff : ∀ a b : List S40, allS a b = true ↔ a = b
  | [], [] => by simp [allS]
  | [], _ :: _ => by simp [allS]
  | _ :: _, [] => by simp [allS]
  | x :: xs, y :: ys => by
    show (eqS x y && allS xs ys) = true ↔ _
    rw [Bool.and_eq_true, eqS_iff, allS_iff xs ys]
    simp
theorem same_in (a b : List S40) (j : Nat) (hja : j < a.length) (hjb : j < b.length) (hb : ∀ x ∈ a, x.f2.length ≤ 1000000) (hl : a.length ≤ 1000000) (hlen : a[j].f2.length = b[j].f2.length) (R : Bool)
    (hR : Ev (fun k => slotmeshref02_Same.l0 k a b ((j + 1 : Nat) : Int)) R) (d : Nat) : ∀ i : Nat, i ≤ a[j].f2.length → a[j].f2.length - i = d →
    Ev (fun k => slotmeshref02_Same.l1 k a b (j : Int) (i : Int)) (decide (a[j].f2.drop i = b[j].f2.drop i) && R) := by
  have hm := hb a[j] (List.getElem_mem _)
  induction d with
  | zero =>
    intro i hi hd
    refine Ev.step (f := _) (fun k => by rw [slotmeshref02_Same.l1]) ?_
    refine evPos (by omega) (evPos (by omega) ?_)
    rw [rd_at a j hja]
    refine evNeg (by omega) ?_
    rw [show wrap64 ((j : Int) + 1) = ((j + 1 : Nat) : Int) by rw [w64 (by omega) (by omega)]; omega]
    rw [List.drop_of_length_le (by omega), List.drop_of_length_le (by omega), decide_eq_true rfl, Bool.true_and]
    exact hR
  | succ d ih =>
    intro i hi hd
    have hlt : i < a[j].f2.length := by omega
    have hih := ih (i + 1) (by omega) (by omega)
    refine Ev.step (f := _) (fun k => by rw [slotmeshref02_Same.l1]) ?_
    refine evPos (by omega) (evPos (by omega) ?_)
    rw [rd_at a j hja, rd_at b j hjb]
    refine evPos (by omega) (evPos (by omega) (evPos (by omega) (evPos (by omega) ?_)))
    rw [rd_int _ i hlt, rd_int _ i (by omega), List.drop_eq_getElem_cons hlt, List.drop_eq_getElem_cons (show i < b[j].f2.length by omega)]
    by_cases he : a[j].f2[i] = b[j].f2[i]
    · refine evPos he ?_
      rw [show wrap64 ((i : Int) + 1) = ((i + 1 : Nat) : Int) by rw [w64 (by omega) (by omega)]; omega]
      refine evEq hih ?_
      congr 1
      exact decide_eq_decide.2 ⟨fun h => by rw [h, he], fun h => (List.cons.inj h).2⟩
    · refine evNeg he (evEq (Ev.now _) ?_)
      rw [decide_eq_false (fun h => he (List.cons.inj h).1)]; rfl
theorem same_loop (a b : List S40) (hlen : a.length = b.length) (hb : ∀ x ∈ a, x.f2.length ≤ 1000000) (hl : a.length ≤ 1000000) (d : Nat) : ∀ j : Nat, j ≤ a.length → a.length - j = d →
    Ev (fun k => slotmeshref02_Same.l0 k a b (j : Int)) (allS (a.drop j) (b.drop j)) := by
  induction d with
  | zero =>
    intro j hj hd
    refine Ev.step (f := _) (fun k => by rw [slotmeshref02_Same.l0]) ?_
    refine evNeg (by omega) ?_
    rw [List.drop_of_length_le (by omega), List.drop_of_length_le (by omega)]
    exact Ev.now _
  | succ d ih =>
    intro j hj hd
    have hja : j < a.length := by omega
    have hjb : j < b.length := by omega
    have hih := ih (j + 1) (by omega) (by omega)
    refine Ev.step (f := _) (fun k => by rw [slotmeshref02_Same.l0]) ?_
    refine evPos (by omega) (evPos (by omega) (evPos (by omega) ?_))
    rw [rd_at a j hja, rd_at b j hjb, List.drop_eq_getElem_cons hja, List.drop_eq_getElem_cons hjb]
    show Ev _ (eqS a[j] b[j] && allS (a.drop (j + 1)) (b.drop (j + 1)))
    have no : ∀ {x y : S40}, (¬ x = y) → eqS x y = false := fun h => by
      rw [← Bool.not_eq_true]; intro e; exact h ((eqS_iff _ _).1 e)
    have bad : ∀ R : Bool, Ev (fun k => slotmeshref02_Same.j1 k a b (j : Int) true) (false && R) := fun R => by
      refine Ev.step (f := _) (fun k => by rw [slotmeshref02_Same.j1]) ?_
      exact evPos rfl (Ev.now _)
    by_cases h0 : a[j].f0 = b[j].f0
    · refine evPos h0 ?_
      by_cases h1 : a[j].f1.toList = b[j].f1.toList
      · refine evPos h1 ?_
        by_cases h3 : a[j].f3 = b[j].f3
        · refine evPos h3 ?_
          by_cases h2 : a[j].f2.length = b[j].f2.length
          · rw [show (((a[j].f2.length : Int)) != (b[j].f2.length : Int)) = false by rw [h2]; simp]
            refine Ev.step (f := _) (fun k => by rw [slotmeshref02_Same.j1]) ?_
            refine evNeg (by decide) ?_
            refine evEq (same_in a b j hja hjb hb hl h2 _ hih a[j].f2.length 0 (Nat.zero_le _) rfl) ?_
            rw [List.drop_zero, List.drop_zero]
            unfold eqS
            rw [decide_eq_true h0, decide_eq_true h1, decide_eq_true h3]
            simp
          · rw [show (((a[j].f2.length : Int)) != (b[j].f2.length : Int)) = true by rw [bne_iff_ne]; omega, no (fun e => h2 (by rw [e]))]
            exact bad _
        · refine evNeg h3 ?_
          rw [no (fun e => h3 (by rw [e]))]
          exact bad _
      · refine evNeg h1 ?_
        rw [no (fun e => h1 (by rw [e]))]
        exact bad _
    · refine evNeg h0 ?_
      rw [no (fun e => h0 (by rw [e]))]
      exact bad _
theorem same_ev (a b : List S40) (hb : ∀ x ∈ a, x.f2.length ≤ 1000000) (hl : a.length ≤ 1000000) : Ev (fun k => slotmeshref02_Same.f k a b) (allS a b) := by
  by_cases h : a.length = b.length
  · refine evPos (by omega) ?_
    have := same_loop a b h hb hl a.length 0 (Nat.zero_le _) rfl
    exact this
  · refine evNeg (by omega) ?_
    have : allS a b = false := by
      rw [← Bool.not_eq_true]; intro e; exact h (by rw [(allS_iff _ _).1 e])
    rw [this]; exact Ev.now _

/-! ### commands under their two names -/
def ofC (x : Px.Cmd) : S40 := ⟨x.f0, x.f1, x.f2, x.f3⟩
theorem of_to (x : S40) : ofC (toCmd x) = x := rfl
theorem to_of (x : Px.Cmd) : toCmd (ofC x) = x := rfl
theorem strip_map (l : List S40) : (l.map stripS).map toCmd = (l.map toCmd).map strip0 := by simp [List.map_map]; intro x _; rfl
theorem toCmd_inj {a b : List S40} (h : a.map toCmd = b.map toCmd) : a = b := by
  have := congrArg (List.map ofC) h
  simpa [List.map_map, Function.comp_def, of_to] using this

end Go.Proofs.YtdedlchpjboceaaDoor.Qy
end
