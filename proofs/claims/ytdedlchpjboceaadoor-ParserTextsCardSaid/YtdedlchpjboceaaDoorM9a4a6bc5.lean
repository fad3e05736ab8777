/- Texts of proofs: plain words, and walks through the program's functions. -/
import Derived.Test.YtdedlchpjboceaaDoorMa6d5fc08
import Derived.Test.YtdedlchpjboceaaDoorM1464dd80
import Derived.Test.YtdedlchpjboceaaDoorMda667c34
import Derived.Shelf.Strings.BuilderK
import Derived.Shelf.Strings.BuilderRune
import Derived.Test.YtdedlchpjboceaaDoorProg
import Derived.Laws.RangeString
import Derived.IntWalk
import Derived.Deep.LoopGhost

section
namespace Go.Proofs.YtdedlchpjboceaaDoor.Px
open Go.RowKit Go.Shelf Go.Proofs.YtdedlchpjboceaaDoor.Lx Go.Proofs.YtdedlchpjboceaaDoorW.PrintWords Go.Proofs.YtdedlchpjboceaaDoorW.PrintLast Go.Proofs.YtdedlchpjboceaaDoorW.PrintMore
attribute [local go_sem] Oper.semAt_some
/-- A diagnostic. -/
structure Dg where
  f0 : Int
  f1 : Int
def kD : Kd Dg := Kd.iso (Kd.pair (Kd.int .i64) (Kd.int .i64)) (fun x : Dg => (x.f0, x.f1))
theorem kD_mkM (w : World) (base : Nat) (ok : Nat → Prop) (x : Dg) : kD.M w base ok x [.int .i64 x.f0, .int .i64 x.f1] := ⟨[.int .i64 x.f0], [.int .i64 x.f1], rfl, rfl, rfl⟩
theorem stepIt_le {e : Int} {i : It} {l l' : List Tok} {c c' : Cmd} (h : stepIt e i l c = .ok (l', c')) : l'.length ≤ l.length := by
  cases i with
  | W s => simp only [stepIt] at h; split at h <;> simp at h; obtain ⟨rfl, _⟩ := h; simp
  | Nm => simp only [stepIt] at h; split at h <;> simp at h; obtain ⟨rfl, _⟩ := h; simp
  | Num => simp only [stepIt] at h; split at h <;> simp at h; obtain ⟨rfl, _⟩ := h; simp
  | Dr =>
    simp only [stepIt] at h
    split at h
    · by_cases hk : (nextT l.tail e).f0 = 2
      · rw [if_pos hk] at h; simp at h; obtain ⟨rfl, _⟩ := h; simp; omega
      · rw [if_neg hk] at h; simp at h
    · simp at h
theorem stepIt_er {e : Int} {i : It} {l l' : List Tok} {c : Cmd} {a : Int} (h : stepIt e i l c = .error (a, l')) : l'.length ≤ l.length := by
  cases i with
  | W s => simp only [stepIt] at h; split at h <;> simp at h; obtain ⟨_, rfl⟩ := h; simp
  | Nm => simp only [stepIt] at h; split at h <;> simp at h; obtain ⟨_, rfl⟩ := h; simp
  | Num => simp only [stepIt] at h; split at h <;> simp at h; obtain ⟨_, rfl⟩ := h; simp
  | Dr =>
    simp only [stepIt] at h
    split at h
    · by_cases hk : (nextT l.tail e).f0 = 2
      · rw [if_pos hk] at h; simp at h
      · rw [if_neg hk] at h; simp at h; obtain ⟨_, rfl⟩ := h; simp
    · simp at h; obtain ⟨_, rfl⟩ := h; simp
theorem runIt_le {e : Int} : ∀ {is : List It} {l l' : List Tok} {c c' : Cmd}, runIt e is l c = .ok (l', c') → l'.length ≤ l.length
  | [], l, l', c, c', h => by simp [runIt] at h; obtain ⟨rfl, _⟩ := h; exact Nat.le_refl _
  | i :: is, l, l', c, c', h => by
    cases hs : stepIt e i l c with
    | error x => rw [runIt_cons_err hs] at h; cases h
    | ok y =>
      obtain ⟨l1, c1⟩ := y
      rw [runIt_cons_ok hs] at h
      exact Nat.le_trans (runIt_le h) (stepIt_le hs)
theorem runIt_er {e : Int} : ∀ {is : List It} {l l' : List Tok} {c : Cmd} {a : Int}, runIt e is l c = .error (a, l') → l'.length ≤ l.length
  | [], l, l', c, a, h => by simp [runIt] at h
  | i :: is, l, l', c, a, h => by
    cases hs : stepIt e i l c with
    | error x => rw [runIt_cons_err hs] at h; cases h; exact stepIt_er hs
    | ok y =>
      obtain ⟨l1, c1⟩ := y
      rw [runIt_cons_ok hs] at h
      exact Nat.le_trans (runIt_er h) (stepIt_le hs)
theorem tailR_le {e : Int} {fm : ByteArray → Option (Int × List It)} {l l' : List Tok} {c c' : Cmd} (h : tailR e fm l c = .ok (l', c')) : l'.length ≤ l.length - 1 := by
  unfold tailR at h
  split at h
  · cases h
  · have := runIt_le h; simpa using this
theorem tailR_er {e : Int} {fm : ByteArray → Option (Int × List It)} {l l' : List Tok} {c : Cmd} {a : Int} (h : tailR e fm l c = .error (a, l')) : l'.length ≤ l.length := by
  unfold tailR at h
  split at h
  · cases h; exact Nat.le_refl _
  · have := runIt_er h; rw [List.length_tail] at this; omega
theorem cmdR_ok {e : Int} {l l' : List Tok} {c : Cmd} (h : cmdR e l = .ok (l', c)) (hl : l ≠ []) : l'.length < l.length := by
  have hp := List.length_pos_iff.2 hl
  unfold cmdR at h
  split at h
  · cases hs : runIt e (.W atT :: nums_ 1) l (cmd0 (nextT l e).f3) with
    | error x => rw [hs] at h; cases h
    | ok y =>
      rw [hs] at h
      have h1 : y.1.length ≤ l.length := runIt_le (c' := y.2) hs
      have h2 : l'.length ≤ y.1.length - 1 := tailR_le (c := y.2) h
      omega
  · have := tailR_le h; omega
theorem cmdR_er {e : Int} {l l' : List Tok} {a : Int} (h : cmdR e l = .error (a, l')) : l'.length ≤ l.length := by
  unfold cmdR at h
  split at h
  · cases hs : runIt e (.W atT :: nums_ 1) l (cmd0 (nextT l e).f3) with
    | error x => rw [hs] at h; cases h; exact runIt_er hs
    | ok y =>
      rw [hs] at h
      have h1 : y.1.length ≤ l.length := runIt_le (c' := y.2) hs
      have h2 : l'.length ≤ y.1.length := tailR_er (c := y.2) h
      omega
  · exact tailR_er h
theorem idxT_range : ∀ (l : List Tok) (k : Nat), idxT k l = -1 ∨ ∃ m : Nat, idxT k l = ((k + m : Nat) : Int) ∧ m < l.length
  | [], k => .inl rfl
  | x :: l, k => by
    by_cases h : semiB x = true
    · exact .inr ⟨0, by show (if semiB x = true then (k : Int) else idxT (k + 1) l) = _; rw [if_pos h]; rfl, by simp⟩
    · have he : idxT k (x :: l) = idxT (k + 1) l := if_neg h
      rw [he]
      rcases idxT_range l (k + 1) with h1 | ⟨m, h1, h2⟩
      · exact .inl h1
      · exact .inr ⟨m + 1, by rw [h1]; congr 1; omega, by simp; omega⟩
/-- The loop: from the tokens that are left, with what has come. -/
def pLoop (e : Int) : Nat → List Tok → List Cmd → List Dg → List Cmd × List Dg
  | 0, _, o, d => (o, d)
  | n + 1, l, o, d =>
    if l.length = 0 ∨ 20 ≤ d.length then (o, d) else
    match cmdR e l with
    | .ok (l', c) => pLoop e n l' (o ++ [c]) d
    | .error (a, l') => if idxT 0 l' < 0 then (o, d ++ [⟨7, a⟩]) else pLoop e n (l'.drop ((idxT 0 l').toNat + 1)) o (d ++ [⟨7, a⟩])
/-- Behind the loop. -/
def pEnd (o : List Cmd) (d : List Dg) : List Cmd × List Dg :=
  if 0 < d.length then ([], d) else if 300 < o.length then ([], [⟨2, (rd_C o 300).f3⟩]) else (o, [])
def toTk (x : Lx.Tk) : Tok := ⟨x.kind, ⟨x.t.toArray⟩, x.n, x.o⟩
/-- 'Parse'. -/
def parseR (s : ByteArray) : List Cmd × List Dg :=
  match Lx.lex s.data.toList with
  | .error e => ([], [⟨e.1, (e.2 : Nat)⟩])
  | .ok ts => pEnd (pLoop s.size ts.length (ts.map toTk) [] []).1 (pLoop s.size ts.length (ts.map toTk) [] []).2
theorem reps_tk {w : World} {base : Nat} {ok : Nat → Prop} : ∀ ts : List Lx.Tk, Reps (kT.M w base ok) 4 (ts.map toTk) (Lx.tkCells ts)
  | [] => Reps.none _ _
  | x :: ts => Kd.reps_append (ps := [toTk x]) (by have h := Reps.snoc (Reps.none _ 4) (kT_mkM w base ok (toTk x)) rfl; simpa [tkCell, toTk] using h) (reps_tk ts)
def LexPost (s : ByteArray) (w : World) (x : Ending) (w' : World) : Prop :=
  Below w.heap.size w w' ∧ match Lx.lex s.data.toList with
    | .ok ts => ∃ v, x = .returned (.tuple #[v, .int .i64 0, .int .i64 0]) ∧ Kd.R kT 45 w' w.heap.size (fun _ => True) v (ts.map toTk)
    | .error e => x = .returned (.tuple #[.slice none 0 0, .int .i64 e.1, .int .i64 (e.2 : Nat)])
theorem lex_any (s : ByteArray) (w : World) (hG : GOK w) : Calls Tryd.prog 21 #[.string s] w (LexPost s w) := by
  unfold LexPost Lx.lex
  rw [Lx.list_size]
  by_cases hl : 8000 < s.size
  · rw [if_pos hl]
    refine (Lx.Lex_long s hl w).mono ?_
    rintro x w' ⟨rfl, hb⟩
    exact ⟨hb, rfl⟩
  · rw [if_neg hl]
    refine (Lx.Lex_main s (by omega) w hG).mono ?_
    rintro x w' ⟨⟨v, ts, hp, rfl, ho⟩ | ⟨er, o, hp, rfl⟩, hb⟩
    · rw [hp]
      exact ⟨hb, v, rfl, ⟨fun _ _ => trivial, _, by rw [List.length_map]; exact ho, reps_tk ts⟩⟩
    · rw [hp]
      exact ⟨hb, rfl⟩
end Go.Proofs.YtdedlchpjboceaaDoor.Px
end

section
namespace Go.Proofs.YtdedlchpjboceaaDoor.Px
open Go.RowKit Go.Shelf Go.Proofs.YtdedlchpjboceaaDoor.Lx Go.Proofs.YtdedlchpjboceaaDoorW.PrintWords Go.Proofs.YtdedlchpjboceaaDoorW.PrintLast Go.Proofs.YtdedlchpjboceaaDoorW.PrintMore
attribute [local go_sem] Oper.semAt_some
/-- Another row, of another type, has been written. -/
theorem keep_other {α : Type} {d : Kd α} {e : Nat} {W w1 : World} {base : Nat} {v : Value} {xs : List α} (h : d.R e W base (fun _ => True) v xs) {b8 t8 sz n : Nat} {v8 : Value} {xs8 : List Value} (ho : W.ownsRow b8 t8 sz v8 n xs8) (hne : ∀ q, q ∈ e :: d.E → q ≠ t8) (hg : W.grownBy w1 v8.ownBlock) : d.R e w1 base (fun _ => True) v xs := by
  cases hv : v8.ownBlock with
  | none => rw [hv] at hg; exact Kd.R_grown h hg (fun _ _ => by simp)
  | some g =>
    obtain ⟨cells, hc⟩ := own_typed ho g hv
    rw [hv] at hg
    exact Kd.R_mono (Kd.R_grown (Kd.R_types h hc hne) hg (fun k hk e => hk.2 (by injection e))) (fun _ _ => trivial)
/-- The reader stays where a row that lies behind it is written. -/
theorem PreR.grown {W w1 : World} {R : Nat} {l : List Tok} {e : Int} (h : PreR W R l e) {row : Option Nat} (hg : W.grownBy w1 row) (hr : ∀ k, row = some k → R < k) : PreR w1 R l e := by
  obtain ⟨A, cap, k, nm, vn, a, h3, h4, h5, h6⟩ := h
  refine ⟨A, cap, k, nm, vn, a, (hg.block R (blk_lt h3) (fun e => ?_)).trans h3, h4, C_same h5 (fun ad e _ => hg.block _ (h6 ad e).1 (fun e' => ?_)), fun ad e => ⟨Nat.lt_of_lt_of_le (h6 ad e).1 hg.size, (h6 ad e).2⟩⟩
  · have := hr R e.symm; omega
  · have := hr _ e'.symm; have := (h6 ad e).2.2; omega
theorem PreR.lt {W : World} {R : Nat} {l : List Tok} {e : Int} (h : PreR W R l e) : R < W.heap.size := by
  obtain ⟨A, cap, k, nm, vn, a, h3, _⟩ := h; exact blk_lt h3
/-- Between two rounds of Parse's loop. -/
structure PI (w W : World) (R : Nat) (e : Int) (l : List Tok) (v8 v9 : Value) (o : List Cmd) (d : List Dg) : Prop where
  pre : PreR W R l e
  le : w.heap.size ≤ R
  out : Kd.R kC 40 W (R + 1) (fun _ => True) v8 o
  dg : Kd.R kD 54 W (R + 1) (fun _ => True) v9 d
  below : Below w.heap.size w W
theorem PI.alloc {w W : World} {R : Nat} {e : Int} {l : List Tok} {v8 v9 : Value} {o : List Cmd} {d : List Dg} (h : PI w W R e l v8 v9 o d) {W' : World} (hb : Below W.heap.size W W') : PI w W' R e l v8 v9 o d :=
  ⟨h.pre.below hb, h.le, Kd.R_below h.out hb, Kd.R_below h.dg hb, below_then h.below h.below.size hb⟩
/-- Behind a step that changes the reader's block alone. -/
theorem PI.step {w W W' : World} {R : Nat} {e : Int} {l l' : List Tok} {v8 v9 : Value} {o : List Cmd} {d : List Dg} (h : PI w W R e l v8 v9 o d) (hg : W.grownBy W' (some R)) (hp : PreR W' R l' e) : PI w W' R e l' v8 v9 o d := by
  have hok : ∀ k, (R + 1 ≤ k) → some k ≠ some R := fun k hk e => by injection e with e; omega
  refine ⟨hp, h.le, ?_, ?_, h.below.grown hg h.below.size (fun k e => by injection e with e; have := h.le; omega)⟩
  · exact Kd.R_mono (Kd.R_grown (Kd.R_bound h.out) hg (fun k hk => hok k hk.2.1)) (fun _ _ => trivial)
  · exact Kd.R_mono (Kd.R_grown (Kd.R_bound h.dg) hg (fun k hk => hok k hk.2.1)) (fun _ _ => trivial)
theorem PI.rows8 {w W : World} {R : Nat} {e : Int} {l : List Tok} {v8 v9 : Value} {o : List Cmd} {d : List Dg} (h : PI w W R e l v8 v9 o d) : ∃ inner, W.ownsRow (R + 1) 40 4 v8 o.length inner := Kd.R_own h.out
theorem PI.rows9 {w W : World} {R : Nat} {e : Int} {l : List Tok} {v8 v9 : Value} {o : List Cmd} {d : List Dg} (h : PI w W R e l v8 v9 o d) : ∃ inner, W.ownsRow (R + 1) 54 2 v9 d.length inner := Kd.R_own h.dg
theorem PI.app8 {w W w1 : World} {R : Nat} {e : Int} {l : List Tok} {v8 v9 v1 : Value} {o o' : List Cmd} {d : List Dg} (h : PI w W R e l v8 v9 o d) (hg : W.grownBy w1 v8.ownBlock) (hn : Kd.R kC 40 w1 (R + 1) (fun _ => True) v1 o') : PI w w1 R e l v1 v9 o' d := by
  obtain ⟨inner, ho⟩ := h.rows8
  have hr : ∀ k, v8.ownBlock = some k → R < k := fun k hk => by have := own_base ho k hk; omega
  exact ⟨h.pre.grown hg hr, h.le, hn, keep_other h.dg ho (by decide) hg, h.below.grown hg h.below.size (fun k hk => by have := hr k hk; have := h.le; omega)⟩
theorem PI.app9 {w W w1 : World} {R : Nat} {e : Int} {l : List Tok} {v8 v9 v1 : Value} {o : List Cmd} {d d' : List Dg} (h : PI w W R e l v8 v9 o d) (hg : W.grownBy w1 v9.ownBlock) (hn : Kd.R kD 54 w1 (R + 1) (fun _ => True) v1 d') : PI w w1 R e l v8 v1 o d' := by
  obtain ⟨inner, ho⟩ := h.rows9
  have hr : ∀ k, v9.ownBlock = some k → R < k := fun k hk => by have := own_base ho k hk; omega
  exact ⟨h.pre.grown hg hr, h.le, keep_other h.out ho (by decide) hg, hn, h.below.grown hg h.below.size (fun k hk => by have := hr k hk; have := h.le; omega)⟩
/-- What the reader's command reads as, made from R + 1 on; its numbers' row is not the commands' own. -/
theorem PI.newC {w W : World} {R b : Nat} {e : Int} {l : List Tok} {v8 v9 : Value} {o : List Cmd} {d : List Dg} (h : PI w W R e l v8 v9 o d) {c : Cmd} (hS : RS b W R l e c) (hb : R + 1 ≤ b) : ∃ A cap vn, (W.cell? ⟨R, 0, none⟩ = some (.slice A l.length cap) ∧ W.cell? ⟨R, 1, none⟩ = some (.int .i64 e) ∧ W.cell? ⟨R, 2, none⟩ = some (.int .i64 c.f0) ∧ W.cell? ⟨R, 3, none⟩ = some (.string c.f1) ∧ W.cell? ⟨R, 4, none⟩ = some vn ∧ W.cell? ⟨R, 5, none⟩ = some (.int .i64 c.f3)) ∧
    kC.M W (R + 1) (fun k => True ∧ some k ≠ v8.ownBlock) c [.int .i64 c.f0, .string c.f1, vn, .int .i64 c.f3] := by
  obtain ⟨h1, h2, A, cap, vn, h3, h4, h5, h6, h7⟩ := hS
  refine ⟨A, cap, vn, ⟨by rw [blk_cell h3]; rfl, by rw [blk_cell h3]; rfl, by rw [blk_cell h3]; rfl, by rw [blk_cell h3]; rfl, by rw [blk_cell h3]; rfl, by rw [blk_cell h3]; rfl⟩, kC_mkM _ _ _ _ ?_⟩
  obtain ⟨inner, ho⟩ := h.rows8
  have h7' := Kd.R_lower h7 hb
  cases hv : v8.ownBlock with
  | none => exact Kd.R_mono h7' (fun k _ => ⟨trivial, by simp⟩)
  | some g =>
    obtain ⟨cells, hc⟩ := own_typed ho g hv
    exact Kd.R_mono (Kd.R_types h7' hc (by decide)) (fun k hk => ⟨trivial, fun e => hk.2 (by injection e)⟩)
/-- The reader behind a cut of its list. -/
theorem PreR.cut {W : World} {R : Nat} {l : List Tok} {e : Int} {A : Option Addr} {cap : Nat} (h : PreR W R l e) (hc : W.cell? ⟨R, 0, none⟩ = some (.slice A l.length cap)) (m : Nat) (hm : m ≤ l.length) (A' : Option Addr) (hA : A' = if cap = m then A else A.map (·.add (m * 4))) :
    PreR (W.setCell ⟨R, 0, none⟩ (.slice A' (l.length - m) (cap - m))) R (l.drop m) e ∧ W.grownBy (W.setCell ⟨R, 0, none⟩ (.slice A' (l.length - m) (cap - m))) (some R) := by
  obtain ⟨A0, cap0, k, nm, vn, a, h3, h4, h5, h6⟩ := h
  have he : A0 = A ∧ cap0 = cap := by rw [blk_cell h3] at hc; injection hc with hc; injection hc with h1 _ h2; exact ⟨h1, h2⟩
  obtain ⟨rfl, rfl⟩ := he
  have h8 : ∀ ad, A' = some ad → ad.block < W.heap.size ∧ ad.block ≠ R ∧ ad.block < R := by
    intro ad e
    rw [hA] at e
    split at e
    · exact h6 ad e
    · obtain ⟨ad0, e0, rfl⟩ := Option.map_eq_some_iff.1 e
      have hb : (ad0.add (m * 4)).block = ad0.block := by unfold Addr.add; split <;> rfl
      rw [hb]; exact h6 ad0 e0
  have h9 := Kd.C_drop (k := kT) (m := m) (c := cap0) h5 hm h4
  refine ⟨⟨A', cap0 - m, k, nm, vn, a, ?_, by rw [List.length_drop]; omega, ?_, fun ad e => ⟨by rw [size_set]; exact (h8 ad e).1, (h8 ad e).2⟩⟩, grownBy_setCell' W R _⟩
  · rw [List.length_drop]; exact (blk_set h3 0 _).trans rfl
  · rw [hA]
    refine C_same h9 (fun ad e hp => Below.heap_setCell _ _ _ _ ?_)
    exact (h8 ad (by rw [hA]; exact e)).2.1
end Go.Proofs.YtdedlchpjboceaaDoor.Px
end

section
namespace Go.Proofs.YtdedlchpjboceaaDoor.Px
open Go.RowKit Go.Shelf Go.Proofs.YtdedlchpjboceaaDoor.Lx Go.Proofs.YtdedlchpjboceaaDoorW.PrintWords Go.Proofs.YtdedlchpjboceaaDoorW.PrintLast Go.Proofs.YtdedlchpjboceaaDoorW.PrintMore
attribute [local go_sem] Oper.semAt_some
theorem PI.start {w w1 : World} {v : Value} {ts : List Tok} (hb : Below w.heap.size w w1) (hT : Kd.R kT 45 w1 w.heap.size (fun _ => True) v ts) (e : Int) :
    ∃ A c, v = .slice A ts.length c ∧ PI w (w1.alloc (.cells #[.slice A ts.length c, .int .i64 e, .int .i64 0, .string ⟨#[]⟩, .slice none 0 0, .int .i64 0] 64)) w1.heap.size e ts (.slice none 0 0) (.slice none 0 0) [] [] := by
  obtain ⟨A, c, rfl, hl, hC⟩ := Kd.R_reads hT
  obtain ⟨inner, ho⟩ := Kd.R_own hT
  have hba := (Below.refl w1.heap.size w1).alloc (Nat.le_refl _) (.cells #[.slice A ts.length c, .int .i64 e, .int .i64 0, .string ⟨#[]⟩, .slice none 0 0, .int .i64 0] 64)
  refine ⟨A, c, rfl, ⟨A, c, 0, ⟨#[]⟩, .slice none 0 0, 0, blk_new _ _, hl, Kd.C_below hC hba, fun ad hA => ?_⟩, hb.size, Kd.R_nil _ _ _ _ _, Kd.R_nil _ _ _ _ _, below_alloc hb _⟩
  have := own_lt ho ad.block (by rw [hA]; rfl)
  exact ⟨by rw [World.size_alloc]; omega, by omega, by omega⟩
theorem infoCmd : (Tryd.prog.info? 40).map (fun i => (i.zero, i.size, i.bytes)) = some (some (.agg #[.int .i64 0, .string ⟨#[]⟩, .slice none 0 0, .int .i64 0]), 4, 56) := by kernel_rfl
theorem infoDiag : (Tryd.prog.info? 54).map (fun i => (i.zero, i.size, i.bytes)) = some (some (.agg #[.int .i64 0, .int .i64 0]), 2, 16) := by kernel_rfl
/-- What Parse answers: two rows of its own. -/
def ParsePost (w : World) (r : List Cmd × List Dg) (x : Ending) (w' : World) : Prop :=
  Below w.heap.size w w' ∧ ∃ v0 v1, x = .returned (.tuple #[v0, v1]) ∧ Kd.R kC 40 w' w.heap.size (fun _ => True) v0 r.1 ∧ Kd.R kD 54 w' w.heap.size (fun _ => True) v1 r.2
/-- A row of one diagnostic, new. -/
theorem one_diag (W : World) (base : Nat) (hb : base ≤ W.heap.size) (a b : Int) : Kd.R kD 54 (W.alloc (.cells #[.int .i64 a, .int .i64 b] 54)) base (fun _ => True) (.slice (some ⟨W.heap.size, 0, none⟩) 1 1) [⟨a, b⟩] := by
  refine ⟨fun _ _ => trivial, [.int .i64 a, .int .i64 b], ⟨rfl, .inr ⟨W.heap.size, 1, #[.int .i64 a, .int .i64 b], rfl, hb, blk_new _ _, Nat.le_refl _, by decide, rfl, rfl⟩⟩, ?_⟩
  have h := Reps.snoc (Reps.none (kD.M (W.alloc (.cells #[.int .i64 a, .int .i64 b] 54)) base (fun k => True ∧ some k ≠ (Value.slice (some ⟨W.heap.size, 0, none⟩) 1 1).ownBlock)) 2) (kD_mkM _ _ _ (⟨a, b⟩ : Dg)) rfl
  have hsz : kD.sz = 2 := rfl
  rw [hsz]
  simpa using h
theorem procF_err (xs : List Lx.Sp) : ∀ er, Lx.procF xs = .error er → er.1 ≠ 0 := by
  induction hn : xs.length generalizing xs with
  | zero =>
    obtain rfl := List.eq_nil_of_length_eq_zero hn
    intro er h; simp [procF] at h
  | succ n ih =>
    rcases snoc_cases xs with rfl | ⟨pre, x, rfl⟩
    · simp at hn
    · intro er h
      rw [procF_snoc] at h
      simp at hn
      cases hp : procF pre with
      | error e => rw [hp] at h; simp only [pstep] at h; cases h; exact ih pre hn _ hp
      | ok ps =>
        rw [hp] at h; simp only [pstep] at h
        split at h
        · cases h
        · split at h
          · cases h; show (7 : Int) ≠ 0; decide
          · split at h
            · cases h; show (2 : Int) ≠ 0; decide
            · split at h
              · rename_i he; cases h; have := tokOf_err he; show _ ≠ _; omega
              · cases h
theorem lex_err {s : List UInt8} {er : Int × Nat} (h : Lx.lex s = .error er) : er.1 ≠ 0 := by
  unfold Lx.lex at h
  split at h
  · cases h; decide
  · exact procF_err _ er h
theorem pEnd_diags {o : List Cmd} {d : List Dg} (h : 0 < d.length) : pEnd o d = ([], d) := if_pos h
theorem pEnd_many {o : List Cmd} {d : List Dg} (h : d.length = 0) (h2 : 300 < o.length) : pEnd o d = ([], [⟨2, (rd_C o 300).f3⟩]) := by unfold pEnd; rw [if_neg (by omega), if_pos h2]
theorem pEnd_all {o : List Cmd} {d : List Dg} (h : d.length = 0) (h2 : o.length ≤ 300) : pEnd o d = (o, []) := by unfold pEnd; rw [if_neg (by omega), if_neg (by omega)]
theorem PI.fin_diags {w W : World} {R : Nat} {e : Int} {l : List Tok} {v8 v9 : Value} {o : List Cmd} {d : List Dg} (h : PI w W R e l v8 v9 o d) {r : List Cmd × List Dg} (hr : pEnd o d = r) (hd : 0 < d.length) : ParsePost w r (.returned (.tuple #[.slice none 0 0, v9])) W := by
  rw [pEnd_diags hd] at hr
  subst hr
  exact ⟨h.below, _, _, rfl, Kd.R_nil _ _ _ _ _, Kd.R_lower h.dg (by have := h.le; omega)⟩
theorem PI.fin_all {w W : World} {R : Nat} {e : Int} {l : List Tok} {v8 v9 : Value} {o : List Cmd} {d : List Dg} (h : PI w W R e l v8 v9 o d) {r : List Cmd × List Dg} (hr : pEnd o d = r) (hd : d.length = 0) (ho : o.length ≤ 300) : ParsePost w r (.returned (.tuple #[v8, .slice none 0 0])) W := by
  rw [pEnd_all hd ho] at hr
  subst hr
  exact ⟨h.below, _, _, rfl, Kd.R_lower h.out (by have := h.le; omega), Kd.R_nil _ _ _ _ _⟩
theorem PI.fin_many {w W : World} {R : Nat} {e : Int} {l : List Tok} {v8 v9 : Value} {o : List Cmd} {d : List Dg} (h : PI w W R e l v8 v9 o d) {r : List Cmd × List Dg} (hr : pEnd o d = r) (hd : d.length = 0) (ho : 300 < o.length) : ParsePost w r (.returned (.tuple #[.slice none 0 0, .slice (some ⟨W.heap.size, 0, none⟩) 1 1])) (W.alloc (.cells #[.int .i64 2, .int .i64 (rd_C o 300).f3] 54)) := by
  rw [pEnd_many hd ho] at hr
  subst hr
  exact ⟨below_alloc h.below _, _, _, rfl, Kd.R_nil _ _ _ _ _, one_diag W _ h.below.size _ _⟩
theorem pLoop_stop {e : Int} {n : Nat} {l : List Tok} {o : List Cmd} {d : List Dg} (h : l.length = 0 ∨ 20 ≤ d.length) : pLoop e n l o d = (o, d) := by
  cases n with
  | zero => rfl
  | succ n => exact if_pos h
theorem pLoop_ok {e : Int} {n : Nat} {l l' : List Tok} {o : List Cmd} {d : List Dg} {c : Cmd} (h : ¬ (l.length = 0 ∨ 20 ≤ d.length)) (hc : cmdR e l = .ok (l', c)) : pLoop e (n + 1) l o d = pLoop e n l' (o ++ [c]) d := by
  show (if l.length = 0 ∨ 20 ≤ d.length then (o, d) else _) = _
  rw [if_neg h, hc]
theorem pLoop_brk {e a : Int} {n : Nat} {l l' : List Tok} {o : List Cmd} {d : List Dg} (h : ¬ (l.length = 0 ∨ 20 ≤ d.length)) (hc : cmdR e l = .error (a, l')) (hi : idxT 0 l' < 0) : pLoop e (n + 1) l o d = (o, d ++ [⟨7, a⟩]) := by
  show (if l.length = 0 ∨ 20 ≤ d.length then (o, d) else _) = _
  rw [if_neg h, hc]
  exact if_pos hi
theorem pLoop_go {e a : Int} {n m : Nat} {l l' : List Tok} {o : List Cmd} {d : List Dg} (h : ¬ (l.length = 0 ∨ 20 ≤ d.length)) (hc : cmdR e l = .error (a, l')) (hi : idxT 0 l' = (m : Nat)) : pLoop e (n + 1) l o d = pLoop e n (l'.drop (m + 1)) o (d ++ [⟨7, a⟩]) := by
  show (if l.length = 0 ∨ 20 ≤ d.length then (o, d) else _) = _
  rw [if_neg h, hc]
  show (if idxT 0 l' < 0 then _ else _) = _
  rw [hi, if_neg (by omega), Int.toNat_natCast]
set_option maxHeartbeats 16000000 in
set_option maxRecDepth 100000 in
theorem parse_any (s : ByteArray) (w : World) (hG : GOK w) : Calls Tryd.prog 20 #[.string s] w (ParsePost w (parseR s)) := by
  have hL := lex_any s w hG
  unfold LexPost at hL
  generalize hr : parseR s = r
  unfold parseR at hr
  cases hx : Lx.lex s.data.toList with
  | error er =>
    rw [hx] at hr hL
    have HR := Lib.hid hr
    have hne : (er.1 != 0) = true := by simpa using lex_err hx
    clear hr hx
    go_enter Tryd.func20, Tryd.ntmps20
    go_wp2_with (go_at_call 21; refine hL.mono ?_; rintro x w1 ⟨hb, rfl⟩)
    go_ret2
    have hr1 := HR.out
    subst hr1
    exact ⟨below_alloc hb _, _, _, rfl, Kd.R_nil _ _ _ _ _, one_diag w1 _ hb.size _ _⟩
  | ok ts =>
    rw [hx] at hr hL
    have HR := Lib.hid hr
    have hts : ts.length ≤ 2000 := by
      unfold Lx.lex at hx
      split at hx
      · cases hx
      · exact (toks_length _ _ hx).2
    clear hr hx
    go_enter Tryd.func20, Tryd.ntmps20
    go_wp2_with fail
    refine hL.mono ?_
    rintro x w1 ⟨hb, v, rfl, hT⟩
    obtain ⟨A, c, rfl, hI⟩ := PI.start hb hT (s.size : Int)
    have hlm : (List.map toTk ts).length = ts.length := by simp
    rw [hlm] at hI
    have HI := Lib.hid hI
    clear hI hT hb hL hlm
    go_wp2_with fail
    generalize (w1.alloc (.cells #[.slice A ts.length c, .int .i64 (s.size : Int), .int .i64 0, .string ⟨#[]⟩, .slice none 0 0, .int .i64 0] 64)) = W0 at HI ⊢
    generalize w1.heap.size = R at HI ⊢
    generalize (s.size : Int) = e at HI HR ⊢
    go_loopg [8, 9] ts.length (fun g v8 v9 W => ∃ (l : List Tok) (o : List Cmd) (d : List Dg) (A8 A9 : Option Addr) (c8 c9 : Nat), v8 = .slice A8 o.length c8 ∧ v9 = .slice A9 d.length c9 ∧ l.length ≤ g ∧ o.length + l.length ≤ 2000 ∧ d.length ≤ 20 ∧ Hid (pEnd (pLoop e g l o d).1 (pLoop e g l o d).2 = r) ∧ Hid (PI w W R e l (.slice A8 o.length c8) (.slice A9 d.length c9) o d))
    case atStart => exact ⟨ts.map toTk, [], [], none, none, 0, 0, rfl, rfl, by simp, by simpa using hts, by simp, HR, HI⟩
    case round =>
      obtain ⟨l, o, d, A8, A9, c8, c9, rfl, rfl, hl, ho, hd, hR, HP⟩ := hrel
      obtain ⟨A0, cap, k_, nm_, vn_, a_, h3, h4, h5, h6⟩ := HP.out.pre
      have q0 : wr.cell? ⟨R, 0, none⟩ = some (.slice A0 l.length cap) := by rw [blk_cell h3]; rfl
      clear h3 h4 h5 h6
      by_cases h0 : l.length = 0 ∨ 20 ≤ d.length
      · have hr1 := hR.out
        rw [pLoop_stop h0] at hr1
        have HR1 := Lib.hid hr1
        clear hR hr1
        by_cases hd0 : 0 < d.length
        · rcases h0 with h0 | h0
          all_goals
            go_wp2_with fail
            all_goals
              go_ret2
              exact HP.out.fin_diags HR1.out hd0
        · have h0' : l.length = 0 := by omega
          have hd1 : d.length = 0 := by omega
          clear h0
          by_cases ho3 : o.length ≤ 300
          · go_wp2_with fail
            go_ret2
            exact HP.out.fin_all HR1.out hd1 ho3
          · obtain ⟨A8', c8', he8, hl8, hC8⟩ := Kd.R_reads HP.out.out
            injection he8 with he8 _ _
            subst he8
            obtain ⟨ad, A2, c2, had, _, _, _, z3', _⟩ := at_C hC8 300 (by decide) (by omega)
            subst had
            have z3 : wr.cell? ⟨ad.block, ad.off + 1200 + 3, none⟩ = some (.int .i64 (rd_C o 300).f3) := z3'
            have ho4 : (300 : Int) < (o.length : Int) := by omega
            clear hC8 z3' hl8
            go_wp2
            refine start_ (n := 8) (S := fun W => W.cell? ⟨ad.block, ad.off + 1200 + 3, none⟩ = some (.int .i64 (rd_C o 300).f3)) (ds := []) #[false, false, false, false, false, false, false, false] (by kernel_rfl) rfl rfl (z3) (fun hHeld => ?_)
            have HPd := Lib.hid (HP.out.alloc (pw_below_drewN (Below.refl _ _) 1))
            have hdr : wr.drewN 1 = wr.drew := rfl
            rw [hdr] at HPd
            clear hdr
            generalize wr.drew = wd at HPd hHeld ⊢
            refine pure_ (i := 0) (N := some 85) (v := ?_) (a' := ?_) #[true, false, false, false, false, false, false, false] rfl rfl (by kernel_rfl) (fun _ _ _ h => h) (Or.inl ⟨by rfl, ?_⟩) ?_ ?_
            rotate_left
            · intro w'
              go_simp
              with_reducible rfl
            rotate_left
            · simp only [Act.put, List.setIfInBounds_toArray, List.set_cons_zero, List.set_cons_succ]
              rfl
            refine pure_ (i := 1) (N := some 86) (v := ?_) (a' := ?_) #[true, true, false, false, false, false, false, false] rfl rfl (by kernel_rfl) (fun _ _ _ h => h) (Or.inl ⟨by rfl, ?_⟩) ?_ ?_
            rotate_left
            · intro w'
              go_simp
              with_reducible rfl
            rotate_left
            · simp only [Act.put, List.setIfInBounds_toArray, List.set_cons_zero, List.set_cons_succ]
              rfl
            refine pure_ (i := 2) (N := some 87) (v := ?_) (a' := ?_) #[true, true, true, false, false, false, false, false] rfl rfl (by kernel_rfl) (fun _ _ _ h => h) (Or.inl ⟨by rfl, ?_⟩) ?_ ?_
            rotate_left
            · intro w'
              go_simp
              with_reducible rfl
            rotate_left
            · simp only [Act.put, List.setIfInBounds_toArray, List.set_cons_zero, List.set_cons_succ]
              rfl
            refine take_ (i := 3) (N := some 88) (v := ?_) (a' := ?_) #[true, true, true, true, false, false, false, false] rfl rfl (by kernel_rfl) (fun _ _ _ h => h) (Or.inl ⟨by rfl, ?_⟩) hHeld ?_ ?_
            rotate_left
            · intro w' hSw
              (try dsimp only at hSw)
              go_simp
              with_reducible rfl
            rotate_left
            · simp only [Act.put, List.setIfInBounds_toArray, List.set_cons_zero, List.set_cons_succ]
              rfl
            refine pure_ (i := 4) (N := some 89) (v := ?_) (a' := ?_) #[true, true, true, true, true, false, false, false] rfl rfl (by kernel_rfl) (fun _ _ _ h => h) (Or.inl ⟨by rfl, ?_⟩) ?_ ?_
            rotate_left
            · intro w'
              go_simp
              with_reducible rfl
            rotate_left
            · simp only [Act.put, List.setIfInBounds_toArray, List.set_cons_zero, List.set_cons_succ]
              rfl
            refine pure_ (i := 6) (N := some 2) (v := ?_) (a' := ?_) #[true, true, true, true, true, false, true, false] rfl rfl (by kernel_rfl) (fun _ _ _ h => h) (Or.inl ⟨by rfl, ?_⟩) ?_ ?_
            rotate_left
            · intro w'
              go_simp
              with_reducible rfl
            rotate_left
            · simp only [Act.put, List.setIfInBounds_toArray, List.set_cons_zero, List.set_cons_succ]
              rfl
            refine one_ (i := 5) (N := some 90) #[true, true, true, true, true, true, true, false] rfl rfl (by kernel_rfl) (by decide) (fun K hK => ?_)
            refine value_ (w1 := ?_) (v := ?_) (by rfl) rfl ?_ ?_
            rotate_left 2
            · go_simp
              constructor
              · rfl
              · rfl
            refine hK.out _ _ ((World.cell?_alloc_lt _ _ _ (World.block_lt_of_cell? _ _ hHeld)).trans hHeld) (fun _ => ?_)
            clear hK K
            refine norm_ (a' := ?_) ?_ ?_
            rotate_left
            · show Act.put _ (some 90) _ = _
              simp only [Act.put, List.setIfInBounds_toArray, List.set_cons_zero, List.set_cons_succ]
              rfl
            refine pure_ (i := 7) (N := some 3) (v := ?_) (a' := ?_) #[true, true, true, true, true, true, true, true] rfl rfl (by kernel_rfl) (fun _ _ _ h => h) (Or.inl ⟨by rfl, ?_⟩) ?_ ?_
            rotate_left
            · intro w'
              go_simp
              with_reducible rfl
            rotate_left
            · simp only [Act.put, List.setIfInBounds_toArray, List.set_cons_zero, List.set_cons_succ]
              rfl
            refine done_ (by kernel_rfl) ?_
            clear hHeld
            go_wp2
            go_ret2
            exact HPd.out.fin_many HR1.out hd1 (by omega)
      · have h1 : 0 < l.length := by omega
        have h2 : d.length < 20 := by omega
        have hl0 : l ≠ [] := List.length_pos_iff.1 h1
        obtain ⟨g, rfl⟩ : ∃ g, gk = g + 1 := ⟨gk - 1, by omega⟩
        have hC := command_any HP.out.pre
        have hRl := HP.out.pre.lt
        cases hc : cmdR e l with
        | ok y =>
          obtain ⟨l', cc⟩ := y
          rw [hc] at hC
          have hr1 := hR.out
          rw [pLoop_ok h0 hc] at hr1
          have hlt := cmdR_ok hc hl0
          have HR1 := Lib.hid hr1
          have HC := Lib.hid hC
          clear hR hr1 hc hC h0 hl0
          go_wp2_with fail
          refine HC.out.mono ?_
          rintro x w2 ⟨hg, rfl, hS⟩
          have hI2 := HP.out.step hg hS.pre
          obtain ⟨A1, cap1, vn, ⟨_, _, c2, c3, c4, c5⟩, hM⟩ := hI2.newC hS (by omega)
          have HI2 := Lib.hid hI2
          have HM := Lib.hid hM
          clear hg hS hI2 hM HP HC q0
          go_wp2_with (at_builtin; (refine Kd.R_append kC (w0 := w2) (R + 1) rfl (.tmp 47) (.tmp 52) 25 40 (.agg #[.int .i64 0, .string ⟨#[]⟩, .slice none 0 0, .int .i64 0]) 56 rfl Tryd.underlying25 infoCmd rfl (by decide) (by decide) (.slice A8 o.length c8) o cc [.int .i64 cc.f0, .string cc.f1, vn, .int .i64 cc.f3] (fun _ => True) (fun k => True ∧ some k ≠ (Value.slice A8 o.length c8).ownBlock) rfl rfl HM.out (fun _ h => h) (fun _ _ => trivial) HI2.out.out (Below.refl _ _) HI2.out.pre.lt (by omega) ?_); (intro v1 w3 HO3 _ hg3 _; obtain ⟨A9', c9', hv1⟩ := Kd.R_slice HO3; rw [List.length_append, List.length_singleton] at hv1; subst hv1))
          have HP3 := Lib.hid (HI2.out.app8 hg3 HO3)
          have hlen : (o ++ [cc]).length = o.length + 1 := by simp
          have HLEN := Lib.hid hlen
          clear hlen HO3 hg3 HI2 HM
          go_roundg g
          case measure => omega
          case rel => exact ⟨l', o ++ [cc], d, A9', A9, c9', c9, by rw [HLEN.out], rfl, by omega, by rw [HLEN.out]; omega, hd, HR1, by rw [HLEN.out]; exact HP3⟩
        | error y =>
          obtain ⟨a, l'⟩ := y
          rw [hc] at hC
          have hle := cmdR_er hc
          have HC := Lib.hid hC
          have HCC := Lib.hid hc
          have H0 := Lib.hid h0
          clear hC hc h0 hl0
          go_wp2_with fail
          refine HC.out.mono ?_
          rintro x w2 ⟨hg, rfl, cc, hS⟩
          have HI2 := Lib.hid (HP.out.step hg hS.pre)
          clear hg hS HP HC q0
          go_wp2_with (at_builtin; go_loud (refine Kd.R_append kD (w0 := w2) (R + 1) rfl (.tmp 54) (.tmp 57) 26 54 (.agg #[.int .i64 0, .int .i64 0]) 16 rfl Tryd.underlying26 infoDiag rfl (by decide) (by decide) (.slice A9 d.length c9) d (⟨7, a⟩ : Dg) [.int .i64 7, .int .i64 a] (fun _ => True) (fun _ => False) rfl rfl (kD_mkM _ _ _ _) (fun _ h => h.elim) (fun _ _ => trivial) HI2.out.dg (Below.refl _ _) HI2.out.pre.lt (by omega) ?_; intro v1 w3 HO3 _ hg3 _; obtain ⟨A9', c9', hv1⟩ := Kd.R_slice HO3; rw [List.length_append, List.length_singleton] at hv1; subst hv1; have HI3 := Lib.hid (HI2.out.app9 hg3 HO3); obtain ⟨A1, cap1, k1_, nm1_, vn1_, a1_, h3, h4, h5, h6⟩ := HI3.out.pre; have q0 : w3.cell? ⟨R, 0, none⟩ = some (.slice A1 l'.length cap1) := (blk_cell h3 0).trans rfl; have q1 := blk_frozen h3 0; have hIx := indexTok_any A1 cap1 l' w3 h5 (by omega); clear HO3 hg3 h3 h5 h6))
          rcases idxT_range l' 0 with hi | ⟨m, hi, hm⟩
          · rw [hi] at hIx
            have hr1 := hR.out
            rw [pLoop_brk H0.out HCC.out (by rw [hi]; decide)] at hr1
            have HR1 := Lib.hid hr1
            have hdl : 0 < (d ++ [(⟨7, a⟩ : Dg)]).length := by simp
            have HDL := Lib.hid hdl
            clear hR hr1 hi HCC H0 hdl
            go_wp2_with (go_at_call 44; refine hIx.mono ?_; rintro x w4 ⟨rfl, hb4⟩)
            go_ret2
            exact (HI3.out.alloc hb4).fin_diags HR1.out HDL.out
          · rw [Nat.zero_add] at hi
            rw [hi] at hIx
            have hr1 := hR.out
            rw [pLoop_go H0.out HCC.out hi] at hr1
            have HR1 := Lib.hid hr1
            clear hR hr1 hi HCC H0
            go_wp2_with fail
            refine hIx.mono ?_
            rintro x w4 ⟨rfl, hb4⟩
            have HI4 := Lib.hid (HI3.out.alloc hb4)
            have hcell : w4.cell? ⟨R, 0, none⟩ = some (.slice A1 l'.length cap1) := (hb4.cell (p := ⟨R, 0, none⟩) (World.block_lt_of_cell? _ _ q0)).trans q0
            have hfz : w4.frozen? ⟨R, 0, none⟩ = false := (hb4.frozen (p := ⟨R, 0, none⟩) (World.block_lt_of_cell? _ _ q0)).trans q1
            have hm1 : ((m : Int) + 1) ≤ l'.length := by omega
            have hm2 : m ≤ 2000 := by omega
            clear q0 q1 hb4 HI3 hIx
            go_wp2
            all_goals
              have hcut := HI4.out.pre.cut hcell (m + 1) (by omega) _ rfl
              have hI5 := HI4.out.step hcut.2 hcut.1
              first | rw [if_pos (by assumption : cap1 = m + 1), show cap1 - (m + 1) = 0 from by omega] at hI5 | rw [if_neg (by assumption : ¬cap1 = m + 1)] at hI5
              have HI5 := Lib.hid hI5
              have HDL := Lib.hid (show (d ++ [(⟨7, a⟩ : Dg)]).length = d.length + 1 by simp)
              have HDR := Lib.hid (show (l'.drop (m + 1)).length = l'.length - (m + 1) from List.length_drop)
              clear hcut hI5 HI4
              go_roundg g
              case measure => omega
              case rel => exact ⟨l'.drop (m + 1), o, d ++ [⟨7, a⟩], A8, A9', c8, c9', rfl, by rw [HDL.out], by rw [HDR.out]; omega, by rw [HDR.out]; omega, by rw [HDL.out]; omega, HR1, by rw [HDL.out]; exact HI5⟩
end Go.Proofs.YtdedlchpjboceaaDoor.Px
end

section
namespace Go.Proofs.YtdedlchpjboceaaDoor.Tx
open Go.RowKit Go.Shelf Go.Proofs.YtdedlchpjboceaaDoor.Lx Go.Proofs.YtdedlchpjboceaaDoor.Px Go.Proofs.YtdedlchpjboceaaDoorW.PrintWords Go.Proofs.YtdedlchpjboceaaDoorW.PrintLast Go.Proofs.YtdedlchpjboceaaDoorW.PrintMore
attribute [local go_sem] Oper.semAt_some
/-- A text at block b holds these bytes; what it has made lies from B on. -/
abbrev TxtAt (B b : Nat) (p : Value) (bs : List Value) (w : World) : Prop := Lib.BuilderAtF 81 5 B b p bs w
abbrev Txt (B b : Nat) (bs : List Value) (w : World) : Prop := Lib.IsBuilderF 81 5 B b bs w
end Go.Proofs.YtdedlchpjboceaaDoor.Tx
end

section
namespace Go.Proofs.YtdedlchpjboceaaDoor.Tx
open Go.RowKit Go.Shelf Go.Proofs.YtdedlchpjboceaaDoor.Lx Go.Proofs.YtdedlchpjboceaaDoor.Px Go.Proofs.YtdedlchpjboceaaDoorW.PrintWords Go.Proofs.YtdedlchpjboceaaDoorW.PrintLast Go.Proofs.YtdedlchpjboceaaDoorW.PrintMore
attribute [local go_sem] Oper.semAt_some
def absI (n : Int) : Int := max n (-n)
theorem absI_le {n : Int} (h1 : -1000000000 ≤ n) (h2 : n ≤ 1000000000) : 0 ≤ absI n ∧ absI n ≤ 1000000000 := by unfold absI; omega
def fastW : List UInt8 := [102, 97, 115, 116, 32]
def slowW : List UInt8 := [115, 108, 111, 119, 32]
/-- A form with its name and its numbers laid in; none where numbers lack. -/
def rend : List UInt8 → List UInt8 → List Int → Option (List UInt8)
  | [], _, _ => some []
  | c :: t, nm, ns =>
    if c = 78 then (rend t nm ns).map (fun x => nm ++ x)
    else if c = 37 then (if ns = [] then none else (rend t nm ns.tail).map (fun x => (if ns.headD 0 < 0 then slowW else fastW) ++ (Lib.itoa (absI (ns.headD 0)) ++ x)))
    else if c = 35 then (if ns = [] then none else (rend t nm ns.tail).map (fun x => Lib.itoa (absI (ns.headD 0)) ++ x))
    else (rend t nm ns).map (fun x => c :: x)
theorem Txt.len {B b : Nat} {cur : List UInt8} {W : World} (h : Txt B b (Lib.byteCells cur) W) : b < W.heap.size ∧ B ≤ b := by
  rcases h with h | h <;> exact ⟨h.lt, h.1⟩
theorem TxtAt.kept {B b it pos : Nat} {p : Value} {bs : List Value} {W W' : World} {s : ByteArray} (h : TxtAt B b p bs W) (hi : W.heap[it]? = some (.stringIter s pos)) (hg : W.grownBy W' (some it)) : TxtAt B b p bs W' := by
  obtain ⟨hB, v, hb, hown, hne⟩ := h
  refine ⟨hB, v, (hg.block b (blk_lt hb) (fun e => ?_)).trans hb, hown.kept hg ?_, hne⟩
  · have e' : b = it := by injection e
    rw [e', hi] at hb; cases hb
  · rcases hown.2 with ⟨rfl, _⟩ | ⟨g, cap, cur, fz, rfl, _, hgb, _⟩
    · exact .inl rfl
    · refine .inr (fun e => ?_)
      have e' : g = it := by simpa [Value.ownBlock] using e
      rw [e', hi] at hgb; cases hgb
theorem Txt.kept {B b it pos : Nat} {bs : List Value} {W W' : World} {s : ByteArray} (h : Txt B b bs W) (hi : W.heap[it]? = some (.stringIter s pos)) (hg : W.grownBy W' (some it)) : Txt B b bs W' :=
  h.elim (fun h => .inl (TxtAt.kept h hi hg)) (fun h => .inr (TxtAt.kept h hi hg))
theorem TxtAt.below {B b : Nat} {p : Value} {bs : List Value} {W W' : World} (h : TxtAt B b p bs W) (hb : Below W.heap.size W W') : TxtAt B b p bs W' := by
  obtain ⟨hB, v, hbk, hown, hne⟩ := h
  exact ⟨hB, v, blk_below hbk hb, hown.kept (grown_of_below hb none) (by cases v.ownBlock <;> simp), hne⟩
theorem Txt.below {B b : Nat} {bs : List Value} {W W' : World} (h : Txt B b bs W) (hb : Below W.heap.size W W') : Txt B b bs W' :=
  h.elim (fun h => .inl (TxtAt.below h hb)) (fun h => .inr (TxtAt.below h hb))
/-- Between two rounds: the text so far, the command's box. -/
structure CX (B b tb : Nat) (nm : ByteArray) (w0 : World) (cur : List UInt8) (W : World) : Prop where
  txt : Txt B b (Lib.byteCells cur) W
  box : ∃ k vn a, W.heap[tb]? = some (.cells #[.int .i64 k, .string nm, vn, .int .i64 a] 40 (0, 0))
  below : Below B w0 W
  le : B ≤ w0.heap.size
  ne : tb ≠ b
theorem CX.drew {B b tb : Nat} {nm : ByteArray} {w0 W : World} {cur : List UInt8} (h : CX B b tb nm w0 cur W) : CX B b tb nm w0 cur W.drew :=
  ⟨h.txt.below (Below.drew (Below.refl _ _)), h.box, Below.drew h.below, h.le, h.ne⟩
/-- The numbers that are left, as they lie in the argument. -/
def NumsAt (B : Nat) (w0 : World) (A : Option Addr) (c : Nat) (ns : List Int) : Prop :=
  (Kd.int .i64).C w0 A ns.length ns ∧ ns.length ≤ c ∧ (∀ ad, A = some ad → ad.block < B) ∧ ∀ n ∈ ns, -1000000000 ≤ n ∧ n ≤ 1000000000
theorem NumsAt.tail {B : Nat} {w0 : World} {A : Option Addr} {c : Nat} {n : Int} {ns : List Int} (h : NumsAt B w0 A c (n :: ns)) : NumsAt B w0 (if c = 1 then A else A.map (·.add 1)) (c - 1) ns := by
  obtain ⟨h1, h2, h3, h4⟩ := h
  simp only [List.length_cons] at h2
  refine ⟨Kd.C_drop (k := Kd.int .i64) (xs := n :: ns) (m := 1) (c := c) h1 (by simp) (by simpa using h2), by omega, fun ad e => ?_, fun m hm => h4 m (List.mem_cons_of_mem _ hm)⟩
  split at e
  · exact h3 ad e
  · obtain ⟨ad0, e0, rfl⟩ := Option.map_eq_some_iff.1 e
    exact h3 ad0 e0
theorem nDigits_le : ∀ (k n : Nat), n < 10 ^ (k + 1) → Lib.nDigits n ≤ k + 1
  | 0, n, h => by rw [Lib.nDigits_small (by simpa using h)]; exact Nat.le_refl _
  | k + 1, n, h => by
    by_cases hn : n < 10
    · rw [Lib.nDigits_small hn]; omega
    · rw [Lib.nDigits_big hn]
      have := nDigits_le k (n / 10) (by rw [Nat.pow_succ] at h; omega)
      omega
theorem itoa_le {n : Int} (h1 : -1000000000 ≤ n) (h2 : n ≤ 1000000000) : (Lib.itoa (absI n)).length ≤ 10 := by
  have h := absI_le h1 h2
  unfold Lib.itoa
  rw [if_neg (by omega)]
  rw [Lib.decDigits_length]
  exact nDigits_le 9 _ (by omega)
end Go.Proofs.YtdedlchpjboceaaDoor.Tx
end

section
namespace Go.Proofs.YtdedlchpjboceaaDoor.Tx
open Go.RowKit Go.Proofs.YtdedlchpjboceaaDoor.Lx Go.Proofs.YtdedlchpjboceaaDoor.Px Go.Proofs.YtdedlchpjboceaaDoorW.PrintWords
/-- The forms, by the commands' kinds. -/
def formsL : List (List UInt8) := [
  [],
  [109, 101, 115, 104, 32, 100, 97, 116, 97, 32, 35, 32, 114, 97, 110, 103, 101, 32, 35],
  [114, 111, 111, 116, 32, 78, 32, 97, 116, 32, 35, 32, 35],
  [110, 111, 100, 101, 32, 78, 32, 97, 116, 32, 35, 32, 35, 32, 37, 32, 98, 97, 116, 116, 101, 114, 121, 32, 35],
  [97, 116, 32, 35, 32, 109, 111, 118, 101, 32, 78, 32, 35, 32, 35],
  [97, 116, 32, 35, 32, 102, 97, 105, 108, 32, 78],
  [97, 116, 32, 35, 32, 115, 116, 97, 114, 116, 32, 78],
  [97, 116, 32, 35, 32, 114, 101, 97, 100, 32, 78, 32, 35],
  [97, 116, 32, 35, 32, 106, 97, 109, 32, 35, 32, 35, 32, 114, 97, 100, 105, 117, 115, 32, 35, 32, 99, 104, 97, 110, 110, 101, 108, 32, 35, 32, 102, 111, 114, 32, 35],
  [97, 116, 32, 35, 32, 114, 101, 112, 108, 97, 121, 32, 35, 32, 97, 116, 32, 35, 32, 35],
  [97, 116, 32, 35, 32, 112, 114, 111, 103, 114, 97, 109, 32, 35, 32, 115, 105, 122, 101, 32, 35],
  [114, 117, 110, 32, 35]]
def formB (k : Int) : List UInt8 := formsL.getD k.toNat []
theorem rend_some : ∀ (fm nm : List UInt8) (ns : List Int), (fm.countP (fun c => c = 37 ∨ c = 35)) ≤ ns.length → (∀ n ∈ ns, -1000000000 ≤ n ∧ n ≤ 1000000000) →
    ∃ t, rend fm nm ns = some t ∧ t.length ≤ fm.length * (15 + nm.length)
  | [], nm, ns, _, _ => ⟨[], rfl, by simp⟩
  | c :: fm, nm, ns, h, hb => by
    have hmul : (c :: fm).length * (15 + nm.length) = fm.length * (15 + nm.length) + (15 + nm.length) := by rw [List.length_cons, Nat.succ_mul]
    rw [hmul]
    by_cases h78 : c = 78
    · subst h78
      rw [List.countP_cons_of_neg (by decide)] at h
      obtain ⟨t, h1, h2⟩ := rend_some fm nm ns h hb
      exact ⟨nm ++ t, by show (rend fm nm ns).map _ = _; rw [h1]; rfl, by rw [List.length_append]; omega⟩
    · by_cases h37 : c = 37
      · subst h37
        rw [List.countP_cons_of_pos (by decide)] at h
        cases ns with
        | nil => simp at h
        | cons n ns =>
          obtain ⟨t, h1, h2⟩ := rend_some fm nm ns (by simpa using h) (fun m hm => hb m (List.mem_cons_of_mem _ hm))
          have hi := itoa_le (hb n (by simp)).1 (hb n (by simp)).2
          refine ⟨(if n < 0 then slowW else fastW) ++ (Lib.itoa (absI n) ++ t), ?_, ?_⟩
          · show (if n :: ns = [] then none else (rend fm nm ns).map (fun x => (if n < 0 then slowW else fastW) ++ (Lib.itoa (absI n) ++ x))) = _
            rw [if_neg (by simp), h1]; rfl
          · have : (if n < 0 then slowW else fastW).length = 5 := by split <;> rfl
            rw [List.length_append, List.length_append, this]; omega
      · by_cases h35 : c = 35
        · subst h35
          rw [List.countP_cons_of_pos (by decide)] at h
          cases ns with
          | nil => simp at h
          | cons n ns =>
            obtain ⟨t, h1, h2⟩ := rend_some fm nm ns (by simpa using h) (fun m hm => hb m (List.mem_cons_of_mem _ hm))
            have hi := itoa_le (hb n (by simp)).1 (hb n (by simp)).2
            refine ⟨Lib.itoa (absI n) ++ t, ?_, ?_⟩
            · show (if n :: ns = [] then none else (rend fm nm ns).map (fun x => Lib.itoa (absI n) ++ x)) = _
              rw [if_neg (by simp), h1]; rfl
            · rw [List.length_append]; omega
        · rw [List.countP_cons_of_neg (by simp [h37, h35])] at h
          obtain ⟨t, h1, h2⟩ := rend_some fm nm ns h hb
          refine ⟨c :: t, ?_, by rw [List.length_cons]; omega⟩
          show (if c = 78 then _ else if c = 37 then _ else if c = 35 then _ else _) = _
          rw [if_neg h78, if_neg h37, if_neg h35, h1]; rfl
/-- The line of a command, without its end. -/
def lineT (c : Cmd) : List UInt8 := (rend (formB c.f0) c.f1.data.toList c.f2).getD []
theorem numsB_bd {kd : Int} : ∀ {ns : List Int} {i : Nat}, numsB kd i ns = true → ∀ n ∈ ns, -1000000000 ≤ n ∧ n ≤ 1000000000
  | [], _, _, n, hn => by cases hn
  | m :: ns, i, h, n, hn => by
    have h' : (numB kd i m && numsB kd (i + 1) ns) = true := h
    rw [Bool.and_eq_true] at h'
    rcases List.mem_cons.1 hn with rfl | hn
    · have := h'.1
      unfold numB at this
      rw [decide_eq_true_eq] at this
      omega
    · exact numsB_bd h'.2 n hn
theorem valid_kind {c : Cmd} (h : cB c = true) : 1 ≤ c.f0 ∧ c.f0 ≤ 11 ∧ (c.f2.length : Int) = (shp c.f0).2 ∧ c.f1.data.toList.length ≤ 12 ∧ ∀ n ∈ c.f2, -1000000000 ≤ n ∧ n ≤ 1000000000 := by
  unfold cB cmdB at h
  simp only [Bool.and_eq_true, decide_eq_true_eq] at h
  obtain ⟨⟨⟨h1, h2⟩, h3⟩, h4⟩ := h
  have hk : 1 ≤ c.f0 ∧ c.f0 ≤ 11 := by
    by_cases hk : 1 ≤ c.f0 ∧ c.f0 ≤ 11
    · exact hk
    · have hs : shp c.f0 = (false, -1) := by unfold shp; simp only [show ¬ c.f0 = 1 by omega, show ¬ c.f0 = 2 by omega, show ¬ c.f0 = 3 by omega, show ¬ c.f0 = 4 by omega, show ¬ c.f0 = 5 by omega, show ¬ c.f0 = 6 by omega, show ¬ c.f0 = 7 by omega, show ¬ c.f0 = 8 by omega, show ¬ c.f0 = 9 by omega, show ¬ c.f0 = 10 by omega, show ¬ c.f0 = 11 by omega, if_false, or_self]
      rw [hs] at h1
      simp only at h1
      omega
  refine ⟨hk.1, hk.2, h1, ?_, numsB_bd h4⟩
  rw [Bool.or_eq_true] at h3
  rcases h3 with h3 | h3
  · have hb : (shp c.f0).1 = false := by simpa using h3
    rw [hb] at h2
    have hd : decide (c.f1.data.toList ≠ []) = false := by simpa using h2
    have : c.f1.data.toList = [] := by simpa using hd
    rw [this]; decide
  · unfold nameB at h3
    simp only [Bool.and_eq_true, decide_eq_true_eq] at h3
    exact h3.1.1.2
theorem form_count {k : Int} (h1 : 1 ≤ k) (h2 : k ≤ 11) : (((formB k).countP (fun c => c = 37 ∨ c = 35) : Nat) : Int) = (shp k).2 ∧ (formB k).length ≤ 40 ∧ ∀ x ∈ formB k, x.toNat < 128 := by
  rcases (by omega : k = 1 ∨ k = 2 ∨ k = 3 ∨ k = 4 ∨ k = 5 ∨ k = 6 ∨ k = 7 ∨ k = 8 ∨ k = 9 ∨ k = 10 ∨ k = 11) with rfl | rfl | rfl | rfl | rfl | rfl | rfl | rfl | rfl | rfl | rfl <;> decide
theorem line_valid {c : Cmd} (h : cB c = true) : rend (formB c.f0) c.f1.data.toList c.f2 = some (lineT c) ∧ (lineT c).length ≤ 1080 := by
  obtain ⟨h1, h2, h3, h4, h5⟩ := valid_kind h
  obtain ⟨f1, f2, f3⟩ := form_count h1 h2
  obtain ⟨t, ht, hl⟩ := rend_some (formB c.f0) c.f1.data.toList c.f2 (by omega) h5
  unfold lineT
  rw [ht]
  refine ⟨rfl, ?_⟩
  show t.length ≤ 1080
  have : (formB c.f0).length * (15 + c.f1.data.toList.length) ≤ 40 * 27 := Nat.mul_le_mul f2 (by omega)
  omega
/-- The text of commands: a line each. -/
def printB (l : List Cmd) : List UInt8 := l.flatMap (fun c => lineT c ++ [59, 10])
theorem printB_len : ∀ (l : List Cmd), (∀ c ∈ l, cB c = true) → (printB l).length ≤ l.length * 1082
  | [], _ => by simp [printB]
  | c :: l, h => by
    have h1 := (line_valid (h c (by simp))).2
    have h2 := printB_len l (fun d hd => h d (List.mem_cons_of_mem _ hd))
    have e : printB (c :: l) = (lineT c ++ [59, 10]) ++ printB l := rfl
    rw [e, List.length_append, List.length_append]
    simp only [List.length_cons, List.length_nil]; omega
/-- 'Print': its text and its error. -/
def printR (l : List Cmd) : ByteArray × Int :=
  if validB l = true then (match Lx.lex (printB l) with | .ok _ => (⟨(printB l).toArray⟩, 0) | .error _ => (⟨#[]⟩, 2)) else (⟨#[]⟩, 1)
end Go.Proofs.YtdedlchpjboceaaDoor.Tx
end

section
namespace Go.Proofs.YtdedlchpjboceaaDoor.Tx
open Go.RowKit Go.Shelf Go.Proofs.YtdedlchpjboceaaDoor.Lx Go.Proofs.YtdedlchpjboceaaDoor.Px Go.Proofs.YtdedlchpjboceaaDoorW.PrintWords Go.Proofs.YtdedlchpjboceaaDoorW.PrintLast Go.Proofs.YtdedlchpjboceaaDoorW.PrintMore
attribute [local go_sem] Oper.semAt_some
/-- The premises on the world: the error's variable, the forms, Itoa's table. -/
structure GP (w : World) : Prop where
  gok : GOK w
  forms : ∀ k : Int, 0 ≤ k → k < 12 → w.cell? ⟨0, k.toNat, none⟩ = some (.string ⟨(formB k).toArray⟩)
  tab : Lib.TabIs Tryd.prog w "internal/strconv.uint64pow10" .u64 Lib.pow10Tab
theorem GP.below {w w' : World} (h : GP w) (hb : Below w.heap.size w w') : GP w' :=
  ⟨h.gok.below hb, fun k h0 h1 => (hb.cell (p := ⟨0, k.toNat, none⟩) (World.block_lt_of_cell? w _ (h.forms k h0 h1))).trans (h.forms k h0 h1), Lib.tabBelow_of_tabIs h.tab w' hb⟩
end Go.Proofs.YtdedlchpjboceaaDoor.Tx
end
