/- Texts of proofs: plain words, and walks through the program's functions. -/
import Derived.DataShut
import Derived.Test.YtdedlchpjboceaaDoorMbe97fddd
import Derived.Test.YtdedlchpjboceaaDoorM5717b290
import Derived.Test.YtdedlchpjboceaaDoorMc66c978b

section
namespace Go.Proofs.YtdedlchpjboceaaDoor.Qy
open Go.RowKit Go.Proofs.YtdedlchpjboceaaDoorW.PrintWords Go.Proofs.YtdedlchpjboceaaDoorW.PrintLast Go.Proofs.YtdedlchpjboceaaDoor.Lx Go.Proofs.YtdedlchpjboceaaDoor.Px Go.Proofs.YtdedlchpjboceaaDoor.Tx Go.Proofs.YtdedlchpjboceaaDoor.Qz Go.Proofs.YtdedlchpjboceaaDoor.PE
theorem u8_bdR {a : Int} (h : (Lit.int .u8 a).wf = true) : 0 ≤ a ∧ a ≤ 255 := by
  have := (Lit.wf_int_iff .u8 a).1 h
  simpa [IntKind.min, IntKind.max, IntKind.signed, IntKind.bits] using this
def badT (t : Tok) : Bool := decide (t.f1 ≠ atT) && (formC t.f1).isNone
def checkW (l : List Tok) : Bool := (match l with | [] => false | t :: _ => decide (t.f3 = 0) && badT t) && (match l.reverse with | [] => false | s :: r => semiB s && r.all (fun t => !semiB t))
theorem checkW_some {l : List Tok} (h : checkW l = true) : ∃ t r p s, l = t :: r ∧ l = p ++ [s] ∧ t.f3 = 0 ∧ badT t = true ∧ SemiFree p ∧ semiB s = true := by
  unfold checkW at h
  rw [Bool.and_eq_true] at h
  obtain ⟨h1, h2⟩ := h
  cases l with
  | nil => cases h1
  | cons t r =>
    rw [Bool.and_eq_true, decide_eq_true_eq] at h1
    cases hr : (t :: r).reverse with
    | nil => rw [hr] at h2; cases h2
    | cons s q =>
      rw [hr] at h2
      rw [Bool.and_eq_true] at h2
      refine ⟨t, r, q.reverse, s, rfl, ?_, h1.1, h1.2, ?_, h2.1⟩
      · have := congrArg List.reverse hr
        rw [List.reverse_reverse, List.reverse_cons] at this
        exact this
      · intro u hu
        have := List.all_eq_true.1 h2.2 u (List.mem_reverse.1 hu)
        simpa using this
theorem bad_first {t : Tok} (h : badT t = true) (e : Int) (l : List Tok) : cmdR e (t :: l) = .error (t.f3, t :: l) := by
  unfold badT at h
  rw [Bool.and_eq_true, decide_eq_true_eq] at h
  unfold cmdR
  have hn : nextT (t :: l) e = t := rfl
  rw [hn, if_neg h.1]
  unfold tailR
  rw [hn]
  cases hf : formC t.f1 with
  | none => rfl
  | some x => rw [hf] at h; cases h.2
def wordsE : List ByteArray := [(⟨#[]⟩ : ByteArray), (⟨#[120]⟩ : ByteArray), (⟨#[49, 50]⟩ : ByteArray), (⟨#[109, 111, 118, 101, 32, 97, 32, 51, 32, 52]⟩ : ByteArray), (⟨#[102, 97, 105, 108, 32, 97]⟩ : ByteArray), (⟨#[98, 97, 116, 116, 101, 114, 121, 32, 53]⟩ : ByteArray), (⟨#[102, 97, 115, 116, 32, 114, 117, 110, 32, 53]⟩ : ByteArray), (⟨#[100, 97, 116, 97, 32, 49, 32, 114, 97, 110, 103, 101, 32, 50]⟩ : ByteArray)]
set_option maxRecDepth 100000 in
theorem words_bad : ∀ w ∈ wordsE, checkW ((toks (spansF (w.data.toList ++ [59]).length (w.data.toList ++ [59]) 0)).map toTk) = true := by
  intro w hw
  simp only [wordsE, List.mem_cons, List.mem_nil_iff, or_false] at hw
  rcases hw with rfl | rfl | rfl | rfl | rfl | rfl | rfl | rfl <;> kernel_rfl
theorem AllN.left {a b : List Tok} (h : AllN (a ++ b)) : AllN a := fun t ht => h t (List.mem_append_left _ ht)
theorem err_parse {a b : ByteArray} {x y : List Cmd} {w : List UInt8} {us : List Tk} (h1 : parseR a = (x, [])) (h2 : parseR b = (y, [])) (hw : checkW ((toks (spans w 0)).map toTk) = true)
    (hl : Lx.lex (a.data.toList ++ 10 :: (w ++ 10 :: b.data.toList)) = .ok us) (s : ByteArray) (hs : s.data.toList = a.data.toList ++ 10 :: (w ++ 10 :: b.data.toList)) : parseR s = ([], [⟨7, (a.size : Int) + 1⟩]) := by
  obtain ⟨ts, l1, s1, _⟩ := parse_clean h1
  obtain ⟨vs, l2, s2, _⟩ := parse_clean h2
  have e := (Lr.lex_bound hl).2.1
  rw [Lr.join_toks, Lr.join_toks, ← (Lr.lex_bound l1).2.1, ← (Lr.lex_bound l2).2.1] at e
  have hN := lex_allN hl
  rw [← hs] at hl
  have hd : ((a.data.toList.length + 1 : Nat) : Int) = (a.size : Int) + 1 := by rw [list_size]; omega
  have em : us.map toTk = ts.map toTk ++ (((toks (spans w 0)).map toTk).map (shK ((a.size : Int) + 1)) ++ ((vs.map toTk).map (shK ((w.length + 1 : Nat) : Int))).map (shK ((a.size : Int) + 1))) := by
    rw [e, List.map_append, List.map_append, List.map_append, map_shift, map_shift, map_shift, hd]
  rw [em] at hN
  obtain ⟨t, r, p, s', e1, e2, e3, e4, e5, e6⟩ := checkW_some hw
  have hNr := hN.right
  have hNb := hNr.right
  have hS2 := segs_shift ((a.size : Int) + 1) (segs_shift ((w.length + 1 : Nat) : Int) s2 (lex_allN l2)) (by
    intro u hu
    obtain ⟨v, hv, rfl⟩ := List.mem_map.1 hu
    exact lex_allN l2 v hv)
  have hseg : Seg (p.map (shK ((a.size : Int) + 1))) (shK ((a.size : Int) + 1) s') (.error (shK ((a.size : Int) + 1) t).f3) := by
    refine .er (q := []) (l := r.map (shK ((a.size : Int) + 1))) ?_ ?_
    · rw [List.nil_append, ← List.map_cons, ← e1, e2, List.map_append]; rfl
    · intro e m
      have hx : p.map (shK ((a.size : Int) + 1)) ++ shK ((a.size : Int) + 1) s' :: m = shK ((a.size : Int) + 1) t :: (r.map (shK ((a.size : Int) + 1)) ++ m) := by
        have : (p ++ [s']).map (shK ((a.size : Int) + 1)) ++ m = (t :: r).map (shK ((a.size : Int) + 1)) ++ m := by rw [← e2, e1]
        simpa using this
      rw [hx]
      exact bad_first (t := shK ((a.size : Int) + 1) t) e4 e _
  have hf3 : (shK ((a.size : Int) + 1) t).f3 = (a.size : Int) + 1 := by show t.f3 + _ = _; rw [e3]; omega
  rw [hf3] at hseg
  have hxl := segs_len s1
  have hyl := segs_len hS2
  rw [List.length_map] at hxl
  have hyv : (y.map (shC ((w.length + 1 : Nat) : Int))).map (shC ((a.size : Int) + 1)) = y.map (fun c => shC ((a.size : Int) + 1) (shC ((w.length + 1 : Nat) : Int) c)) := by rw [List.map_map]; rfl
  generalize (y.map (shC ((w.length + 1 : Nat) : Int))).map (shC ((a.size : Int) + 1)) = Y at hS2 hyl hyv
  generalize ((vs.map toTk).map (shK ((w.length + 1 : Nat) : Int))).map (shK ((a.size : Int) + 1)) = B at *
  have hlen : us.length = ts.length + ((p.length + 1) + B.length) := by
    have := congrArg List.length em
    rw [List.length_map, List.length_append, List.length_append, List.length_map, List.length_map, e2, List.length_append] at this
    exact this
  unfold parseR
  rw [hl]
  dsimp only
  rw [em, e2, List.map_append]
  have hshape : List.map (shK ((a.size : Int) + 1)) p ++ List.map (shK ((a.size : Int) + 1)) [s'] ++ B = p.map (shK ((a.size : Int) + 1)) ++ shK ((a.size : Int) + 1) s' :: B := by simp
  rw [hshape, show us.length = ((us.length - x.length - 1 - Y.length) + Y.length + 1) + x.length by omega]
  rw [pLoop_segs s1 _ _ _ _ (by decide)]
  rw [pLoop_er (free_sim (sim_sh ((a.size : Int) + 1) p) e5) (show semiB (shK ((a.size : Int) + 1) s') = true from e6) hseg _ _ _ (by simp)]
  have hB := pLoop_segs (e := (s.size : Int)) hS2 (us.length - x.length - 1 - Y.length) [] ([] ++ x) ([] ++ [⟨7, (a.size : Int) + 1⟩]) (by simp)
  rw [List.append_nil] at hB
  rw [hB, pLoop_none]
  rfl
theorem errors_data (a w b : ByteArray) : ((((a ++ (⟨#[10]⟩ : ByteArray)) ++ w) ++ (⟨#[59, 10]⟩ : ByteArray)) ++ b).data.toList = a.data.toList ++ 10 :: ((w.data.toList ++ [59]) ++ 10 :: b.data.toList) := by simp [ByteArray.data_append]
theorem words_size : ∀ w ∈ wordsE, w.size ≤ 14 := by
  intro w hw
  simp only [wordsE, List.mem_cons, List.mem_nil_iff, or_false] at hw
  rcases hw with rfl | rfl | rfl | rfl | rfl | rfl | rfl | rfl <;> decide
theorem rdOfR (l : List ByteArray) (j : Nat) (h : j < l.length) : rdOf ByteArray.empty l (j : Int) = l[j] := by
  unfold rdOf
  rw [Int.toNat_natCast, List.getD_eq_getElem?_getD, List.getElem?_eq_getElem h]; rfl
theorem zero_of {m n : Nat} (h : ¬ ((m : Int) + (n : Int) > 0)) : m = 0 ∧ n = 0 := by omega
theorem sum_dg {d e : List Dg} (h1 : d.length ≤ 20) (h2 : e.length ≤ 20) : wrap64 (((d.map ofDg).length : Int) + ((e.map ofDg).length : Int)) = (d.length : Int) + (e.length : Int) := by
  rw [List.length_map, List.length_map]; exact w64 (by omega) (by omega)
attribute [local irreducible] parseR
theorem errors_end (a b : ByteArray) (ha : a.size ≤ 8010) (hb : b.size ≤ 8010) (pk : Int) (hp : 0 ≤ pk ∧ pk ≤ 255) (n : Int) :
    Ev (fun k => slotmeshlaw02_ParserErrors.l0 k a b pk true ((parseR a).2.map ofDg) n n) true := by
  refine Ev.step (f := _) (fun k => by rw [slotmeshlaw02_ParserErrors.l0]) ?_
  refine evNeg (by omega) ?_
  refine evBind (parseF b) (evBind (rfl : some wordsE = some wordsE) ?_)
  have e : Int.tmod (wrap64 pk) 8 = pk % 8 := by rw [w64 (by omega) (by omega), Int.tmod_eq_emod_of_nonneg hp.1]
  have h0 := Int.emod_nonneg pk (show (8 : Int) ≠ 0 by decide)
  have h1 := Int.emod_lt_of_pos pk (show (0 : Int) < 8 by decide)
  obtain ⟨i, hi⟩ : ∃ i : Nat, pk % 8 = (i : Int) := ⟨(pk % 8).toNat, by omega⟩
  have hi8 : i < 8 := by omega
  have hwl : wordsE.length = 8 := rfl
  have hiw : i < wordsE.length := by rw [hwl]; exact hi8
  rw [e, hi, rdOfR wordsE i hiw]
  have hmem : wordsE[i] ∈ wordsE := List.getElem_mem _
  have hsz := words_size _ hmem
  have hbad := words_bad _ hmem
  generalize wordsE[i] = w at hsz hbad hmem
  rw [spansF_eq _ _ _ (Nat.le_refl _)] at hbad
  have z1 : (a ++ (⟨#[10]⟩ : ByteArray)).size = a.size + 1 := by rw [ByteArray.size_append]; rfl
  have z2 : ((a ++ (⟨#[10]⟩ : ByteArray)) ++ w).size = a.size + 1 + w.size := by rw [ByteArray.size_append, z1]
  have z3 : (((a ++ (⟨#[10]⟩ : ByteArray)) ++ w) ++ (⟨#[59, 10]⟩ : ByteArray)).size = a.size + 1 + w.size + 2 := by rw [ByteArray.size_append, z2]; rfl
  have q1 : (0 : Int) ≤ (i : Int) := Int.natCast_nonneg _
  have q2 : (i : Int) < (wordsE.length : Int) := Int.ofNat_lt.2 hiw
  have q3 : a.size + 1 ≤ 9223372036854775807 := by omega
  have q4 : (a ++ (⟨#[10]⟩ : ByteArray)).size + w.size ≤ 9223372036854775807 := by rw [z1]; omega
  have q5 : ((a ++ (⟨#[10]⟩ : ByteArray)) ++ w).size + 2 ≤ 9223372036854775807 := by rw [z2]; omega
  have q6 : (((a ++ (⟨#[10]⟩ : ByteArray)) ++ w) ++ (⟨#[59, 10]⟩ : ByteArray)).size + b.size ≤ 9223372036854775807 := by rw [z3]; omega
  obtain ⟨_, _, n1, _⟩ := parse_diags a
  obtain ⟨_, _, n2, _⟩ := parse_diags b
  have hw := sum_dg n1 n2
  have skip : ∀ s, Ev (fun k => slotmeshlaw02_ParserErrors.j2 k a true s true) true := fun s =>
    Ev.step (f := _) (fun k => by rw [slotmeshlaw02_ParserErrors.j2]) (evPos rfl (Ev.now _))
  refine evPos q1 ?_
  refine evPos q2 ?_
  refine evPos q3 ?_
  refine evPos q4 ?_
  refine evPos q5 ?_
  refine evPos q6 ?_
  rw [hw]
  by_cases hd : ((parseR a).2.length : Int) + ((parseR b).2.length : Int) > 0
  · exact evPos hd (skip _)
  · refine evNeg hd (Ev.bind (usableK _) ?_)
    have d1 : (parseR a).2 = [] := List.eq_nil_of_length_eq_zero (zero_of hd).1
    have d2 : (parseR b).2 = [] := List.eq_nil_of_length_eq_zero (zero_of hd).2
    have p1 : parseR a = ((parseR a).1, []) := by rw [← d1]
    have p2 : parseR b = ((parseR b).1, []) := by rw [← d2]
    have hdata := errors_data a w b
    generalize ((((a ++ (⟨#[10]⟩ : ByteArray)) ++ w) ++ (⟨#[59, 10]⟩ : ByteArray)) ++ b) = s at hdata
    rw [hdata]
    cases hl : Lx.lex (a.data.toList ++ 10 :: ((w.data.toList ++ [59]) ++ 10 :: b.data.toList)) with
    | error e => exact skip _
    | ok us =>
      have hpe := err_parse p1 p2 hbad hl s hdata
      refine Ev.step (f := _) (fun k => by rw [slotmeshlaw02_ParserErrors.j2]) ?_
      refine evNeg (by simp) (evBind (parseF_of hpe) (evPos rfl ?_))
      have hw3 : wrap64 ((a.size : Int) + 1) = (a.size : Int) + 1 := w64 (by omega) (by omega)
      rw [hw3]
      exact Ev.bind (diags_self [⟨7, (a.size : Int) + 1⟩] (by simp)) (Ev.now _)
theorem errors_loop (a b : ByteArray) (ha : a.size ≤ 8010) (hb : b.size ≤ 8010) (pk : Int) (hp : 0 ≤ pk ∧ pk ≤ 255) (d : Nat) : ∀ j : Nat, j ≤ (parseR a).2.length → (parseR a).2.length - j = d →
    Ev (fun k => slotmeshlaw02_ParserErrors.l0 k a b pk true ((parseR a).2.map ofDg) (((parseR a).2.map ofDg).length : Int) (j : Int)) true := by
  obtain ⟨g1, g2, g3, _⟩ := parse_diags a
  have hend := errors_end a b ha hb pk hp (((parseR a).2.map ofDg).length : Int)
  generalize (parseR a).2 = D at *
  have hml : (D.map ofDg).length = D.length := List.length_map _
  induction d with
  | zero =>
    intro j hj hd
    obtain rfl : j = D.length := by omega
    rw [hml] at hend ⊢
    exact hend
  | succ d ih =>
    intro j hj hd
    have hlt : j < D.length := by omega
    have hih := ih (j + 1) (by omega) (by omega)
    have hw : wrap64 ((j : Int) + 1) = ((j + 1 : Nat) : Int) := by rw [w64 (by omega) (by omega)]; omega
    have hrd : ∀ i : Nat, (h : i < D.length) → rd_T54 (D.map ofDg) (i : Int) = ofDg D[i] := fun i h => by
      rw [rd_dg _ i (by rw [hml]; exact h), List.getElem_map]
    have hg := g2 D[j] (List.getElem_mem _)
    rw [hml] at hih ⊢
    refine Ev.step (f := _) (fun k => by rw [slotmeshlaw02_ParserErrors.l0]) ?_
    refine evPos (by omega) (evPos (by omega) (evPos (by rw [hml]; omega) ?_))
    rw [hrd j hlt, hw]
    have f1 : (ofDg D[j]).f1 = D[j].f1 := rfl
    have f0 : (ofDg D[j]).f0 = D[j].f0 := rfl
    rw [f1, f0]
    refine evNeg (by omega) (evNeg (by omega) ?_)
    by_cases h0 : (j : Int) > 0
    · have hw2 : wrap64 ((j : Int) - 1) = ((j - 1 : Nat) : Int) := by rw [w64 (by omega) (by omega)]; omega
      have hj1 : j - 1 < D.length := by omega
      have hpw := List.pairwise_iff_getElem.1 g1 (j - 1) j hj1 hlt (by omega)
      refine evPos h0 ?_
      rw [hw2, hrd (j - 1) hj1]
      have f2 : (ofDg D[j - 1]).f1 = D[j - 1].f1 := rfl
      rw [f2]
      exact evPos (by omega) (evPos (by rw [hml]; omega) (evNeg (by omega) (evNeg hg.2.2 hih)))
    · exact evNeg h0 (evNeg hg.2.2 hih)
theorem ParserErrors_ev (a b : ByteArray) (pk : Int) (_ : a.size ≤ 140737488351232) (_ : b.size ≤ 140737488351232) (hp : (Lit.int .u8 pk).wf = true) : Ev (fun k => slotmeshlaw02_ParserErrors.f k a b pk) true := by
  have hp' := u8_bdR hp
  unfold slotmeshlaw02_ParserErrors.f
  have skip : Ev (fun k => slotmeshlaw02_ParserErrors.j0 k a b pk true true) true :=
    Ev.step (f := _) (fun k => by rw [slotmeshlaw02_ParserErrors.j0]) (evPos rfl (Ev.now _))
  refine Ev.bind head2_ev ?_
  by_cases h1 : (a.size : Int) > 8010
  · exact evPos h1 skip
  · refine evNeg h1 ?_
    by_cases h2 : (b.size : Int) > 8010
    · rw [decide_eq_true h2]; exact skip
    · rw [decide_eq_false h2]
      refine Ev.step (f := _) (fun k => by rw [slotmeshlaw02_ParserErrors.j0]) ?_
      refine evNeg (by decide) (evBind (parseF a) ?_)
      exact errors_loop a b (by omega) (by omega) pk hp' _ 0 (Nat.zero_le _) rfl
end Go.Proofs.YtdedlchpjboceaaDoor.Qy
end
