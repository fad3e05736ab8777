/-
  Plain laws shared by the six statements on the lexer: the fixed examples; equal lists of tokens.
-/
import Derived.Test.YtiidalhcmlhnmaaDoorLxS
import Derived.KernelRfl
namespace Go.Proofs.YtiidalhcmlhnmaaDoor.LR
open Go.RowKit Go.Proofs.YtiidalhcmlhnmaaDoor.PA Go.Proofs.YtiidalhcmlhnmaaDoorW.PrintWords Go.Proofs.YtiidalhcmlhnmaaDoorW.PrintLast Go.Proofs.YtiidalhcmlhnmaaDoor.Lx

/-- Spans, to be reckoned. -/
def spansF : Nat → List UInt8 → Nat → List Sp
  | 0, _, _ => []
  | _ + 1, [], _ => []
  | n + 1, c :: t, o => ⟨o, cls c, c :: t.takeWhile (cont (cls c))⟩ :: spansF n (t.dropWhile (cont (cls c))) (o + 1 + (t.takeWhile (cont (cls c))).length)
theorem spansF_eq (n : Nat) : ∀ (l : List UInt8) (o : Nat), l.length ≤ n → spansF n l o = spans l o := by
  induction n with
  | zero => intro l o h; obtain rfl := List.eq_nil_of_length_eq_zero (Nat.le_zero.1 h); rw [spans_nil]; rfl
  | succ n ih =>
    intro l o h
    cases l with
    | nil => rw [spans_nil]; rfl
    | cons c t =>
      have := dw_le (cont (cls c)) t
      simp only [List.length_cons] at h
      rw [spans_cons]; simp only [spansF]; rw [ih _ _ (by omega)]
def lexF (s : List UInt8) : Except (Int × Nat) (List Tk) := if 8000 < s.length then .error (2, 0) else procF (spansF s.length s 0)
theorem lex_eq (s : List UInt8) : lex s = lexF s := by unfold lex lexF; rw [spansF_eq _ _ _ (Nat.le_refl _)]

theorem fails_f (s : ByteArray) (e : Int) (o : Nat) (h : lex s.data.toList = .error (e, o)) : slotmeshlaw01_fails.f s e (o : Int) = some true := by
  unfold slotmeshlaw01_fails.f
  rw [lexer_f, h]
  simp [ans]

theorem rd_at (l : List S31) (j : Nat) (h : j < l.length) : rd_T31 l (j : Int) = l[j] := by
  unfold rd_T31
  rw [Int.toNat_natCast, List.getD_eq_getElem?_getD, List.getElem?_eq_getElem h]; rfl
theorem toTok_shift (d : Nat) (x : Tk) : toTok (shiftT d x) = ⟨(toTok x).f0, (toTok x).f1, (toTok x).f2, (toTok x).f3 + (d : Int)⟩ := by
  unfold toTok shiftT; simp
theorem same_loop (ts : List Tk) (d : Nat) (hd : d ≤ 1000000) (hb : ∀ x ∈ ts, x.o ≤ 1000000) (hl : ts.length ≤ 1000000) (n : Nat) : ∀ j : Nat, j ≤ ts.length → ts.length - j = n →
    Ev (fun k => slotmeshref01_Same.l0 k (ts.map toTok) ((ts.map (shiftT d)).map toTok) (d : Int) (j : Int)) true := by
  induction n with
  | zero =>
    intro j hj hn
    refine Ev.step (f := _) (fun k => by rw [slotmeshref01_Same.l0]) ?_
    exact evNeg (by rw [List.length_map]; omega) (Ev.now _)
  | succ n ih =>
    intro j hj hn
    have hlt : j < ts.length := by omega
    refine Ev.step (f := _) (fun k => by rw [slotmeshref01_Same.l0]) ?_
    refine evPos (by rw [List.length_map]; omega) (evPos (by omega) (evPos (by rw [List.length_map, List.length_map]; omega) ?_))
    rw [rd_at _ j (by rw [List.length_map]; omega), rd_at _ j (by rw [List.length_map, List.length_map]; omega)]
    simp only [List.getElem_map, toTok_shift]
    have h1 := hb ts[j] (List.getElem_mem hlt)
    refine evPos trivial (evPos trivial (evPos trivial (evPos ?_ ?_)))
    · exact w64 (by simp only [toTok]; omega) (by simp only [toTok]; omega)
    · rw [show wrap64 ((j : Int) + 1) = ((j + 1 : Nat) : Int) by rw [w64 (by omega) (by omega)]; omega]
      exact ih (j + 1) (by omega) (by omega)
/-- Same: two lists of tokens that are equal but for a shift. -/
theorem same_ev (ts : List Tk) (d : Nat) (hd : d ≤ 1000000) (hb : ∀ x ∈ ts, x.o ≤ 1000000) (hl : ts.length ≤ 1000000) :
    Ev (fun k => slotmeshref01_Same.f k (ts.map toTok) ((ts.map (shiftT d)).map toTok) (d : Int)) true := by
  unfold slotmeshref01_Same.f
  refine evPos (by simp) ?_
  exact same_loop ts d hd hb hl _ 0 (by omega) rfl
theorem shiftT_zero (ts : List Tk) : ts.map (shiftT 0) = ts := by
  have : shiftT 0 = id := by funext x; rfl
  rw [this, List.map_id]
theorem same_self (ts : List Tk) (hb : ∀ x ∈ ts, x.o ≤ 1000000) (hl : ts.length ≤ 1000000) : Ev (fun k => slotmeshref01_Same.f k (ts.map toTok) (ts.map toTok) 0) true := by
  have := same_ev ts 0 (by omega) hb hl
  rw [shiftT_zero] at this
  exact this

/-- The fixed examples hold. -/
theorem head_ev : Ev (fun k => slotmeshlaw01_head.f k) true := by
  have h1 : lex [97, 116, 32, 55, 48, 32, 114, 101, 97, 100, 32, 110, 49, 59] = .ok [⟨1, [97, 116], 0, 0⟩, ⟨2, [], 70, 3⟩, ⟨1, [114, 101, 97, 100], 0, 6⟩, ⟨1, [110, 49], 0, 11⟩, ⟨3, [59], 0, 13⟩] := by rw [lex_eq]; kernel_rfl
  have h2 : lex [49, 50, 97, 98, 59, 35, 32, 120] = .ok [⟨2, [], 12, 0⟩, ⟨1, [97, 98], 0, 2⟩, ⟨3, [59], 0, 4⟩] := by rw [lex_eq]; kernel_rfl
  have f1 := fails_f ⟨#[114, 117, 110, 32, 48, 48, 55]⟩ 7 4 (by rw [lex_eq]; kernel_rfl)
  have f2 := fails_f ⟨#[114, 117, 110, 32, 49, 48, 48, 48, 48, 48, 48, 48, 48, 49]⟩ 3 4 (by rw [lex_eq]; kernel_rfl)
  have f3 := fails_f ⟨#[109, 101, 115, 104, 44, 32]⟩ 7 4 (by rw [lex_eq]; kernel_rfl)
  have f4 := fails_f ⟨#[97, 32, 97, 98, 99, 100, 101, 102, 103, 104, 105, 106, 107, 108, 109]⟩ 3 2 (by rw [lex_eq]; kernel_rfl)
  unfold slotmeshlaw01_head.f
  refine evBind ((lexer_f _).trans (congrArg some (congrArg ans h1))) (evBind ((lexer_f _).trans (congrArg some (congrArg ans h2))) ?_)
  refine evPos rfl (evPos rfl (evBind f1 (evPos rfl (evBind f2 (evPos rfl (evBind f3 (evPos rfl (evBind f4 (evPos rfl ?_)))))))))
  refine Ev.bind (same_self [⟨1, [97, 116], 0, 0⟩, ⟨2, [], 70, 3⟩, ⟨1, [114, 101, 97, 100], 0, 6⟩, ⟨1, [110, 49], 0, 11⟩, ⟨3, [59], 0, 13⟩] (by decide) (by decide)) (evPos rfl ?_)
  refine Ev.bind (same_self [⟨2, [], 12, 0⟩, ⟨1, [97, 98], 0, 2⟩, ⟨3, [59], 0, 4⟩] (by decide) (by decide)) (Ev.now _)

/-- A token's offset is its span's. -/
theorem toks_mem {xs : List Sp} {t : Tk} (h : t ∈ toks xs) : ∃ x ∈ xs, t.o = x.o ∧ gapB x = false ∧ tokOf x.k x.t x.o = .ok t := by
  unfold toks at h
  obtain ⟨x, hx, he⟩ := List.mem_filterMap.1 h
  refine ⟨x, hx, ?_⟩
  unfold tokB at he
  split at he
  · cases he
  · rename_i hg
    split at he
    · rename_i y hy
      injection he with he; subst he
      exact ⟨tokOf_o hy, by simpa using hg, hy⟩
    · cases he
theorem lex_bound {s : List UInt8} {ts : List Tk} (h : lex s = .ok ts) : s.length ≤ 8000 ∧ ts = toks (spans s 0) ∧ (∀ x ∈ spans s 0, goodB x) ∧ (∀ t ∈ ts, t.o < s.length) ∧ ts.length ≤ 2000 := by
  unfold lex at h
  split at h
  · cases h
  · rename_i hl
    obtain ⟨a, rfl, c⟩ := (procF_ok_iff _ _).1 h
    refine ⟨by omega, rfl, a, fun t ht => ?_, c⟩
    obtain ⟨x, hx, e, _, _⟩ := toks_mem ht
    obtain ⟨g1, _, _, _, _, _, g7⟩ := spans_good s 0 x hx
    have := List.length_pos_iff.2 g1
    omega
theorem lex_ok_of {s : List UInt8} (hl : s.length ≤ 8000) (h : ∀ x ∈ spans s 0, goodB x) (hc : (toks (spans s 0)).length ≤ 2000) : lex s = .ok (toks (spans s 0)) := by
  unfold lex; rw [if_neg (by omega)]; exact (procF_ok_iff _ _).2 ⟨h, rfl, hc⟩

end Go.Proofs.YtiidalhcmlhnmaaDoor.LR
