/- Texts of proofs: plain words, and walks through the program's functions. -/
import Derived.Test.YtdedlchpjboceaaDoorM06144c9e
import Derived.Test.YtdedlchpjboceaaDoorM76ebdfc0
import Derived.Test.YtdedlchpjboceaaDoorM8c09361c
import Derived.Test.YtdedlchpjboceaaDoorMe5560f3b
import Derived.Laws.RangeString
import Derived.IntWalk
import Derived.Deep.LoopGhost

section
namespace Go.Proofs.YtdedlchpjboceaaDoor.Px
open Go.RowKit Go.Shelf Go.Proofs.YtdedlchpjboceaaDoor.Lx Go.Proofs.YtdedlchpjboceaaDoorW.PrintWords Go.Proofs.YtdedlchpjboceaaDoorW.PrintLast Go.Proofs.YtdedlchpjboceaaDoorW.PrintMore
attribute [local go_sem] Oper.semAt_some
/-- A diagnostic. -/
structure Dg where
  f0 : Int
  f1 : Int
def kD : Kd Dg := Kd.iso (Kd.pair (Kd.int .i64) (Kd.int .i64)) (fun x : Dg => (x.f0, x.f1))
def toTk (x : Lx.Tk) : Tok := ⟨x.kind, ⟨x.t.toArray⟩, x.n, x.o⟩
theorem reps_tk {w : World} {base : Nat} {ok : Nat → Prop} : ∀ ts : List Lx.Tk, Reps (kT.M w base ok) 4 (ts.map toTk) (Lx.tkCells ts)
  | [] => Reps.none _ _
  | x :: ts => Kd.reps_append (ps := [toTk x]) (by have h := Reps.snoc (Reps.none _ 4) (kT_mkM w base ok (toTk x)) rfl; simpa [tkCell, toTk] using h) (reps_tk ts)
def LexPost (s : ByteArray) (w : World) (x : Ending) (w' : World) : Prop :=
  Below w.heap.size w w' ∧ match Lx.lex s.data.toList with
    | .ok ts => ∃ v, x = .returned (.tuple #[v, .int .i64 0, .int .i64 0]) ∧ Kd.R kT 45 w' w.heap.size (fun _ => True) v (ts.map toTk)
    | .error e => x = .returned (.tuple #[.slice none 0 0, .int .i64 e.1, .int .i64 (e.2 : Nat)])
theorem lex_any (s : ByteArray) (w : World) (hG : GOK w) : Calls Tryd.prog 21 #[.string s] w (LexPost s w) := by
  unfold LexPost Lx.lex
  rw [Lx.list_size]
  by_cases hl : 8000 < s.size
  · rw [if_pos hl]
    refine (Lx.Lex_long s hl w).mono ?_
    rintro x w' ⟨rfl, hb⟩
    exact ⟨hb, rfl⟩
  · rw [if_neg hl]
    refine (Lx.Lex_main s (by omega) w hG).mono ?_
    rintro x w' ⟨⟨v, ts, hp, rfl, ho⟩ | ⟨er, o, hp, rfl⟩, hb⟩
    · rw [hp]
      exact ⟨hb, v, rfl, ⟨fun _ _ => trivial, _, by rw [List.length_map]; exact ho, reps_tk ts⟩⟩
    · rw [hp]
      exact ⟨hb, rfl⟩
end Go.Proofs.YtdedlchpjboceaaDoor.Px
end

section
namespace Go.Proofs.YtdedlchpjboceaaDoor.Px
open Go.RowKit Go.Shelf Go.Proofs.YtdedlchpjboceaaDoor.Lx Go.Proofs.YtdedlchpjboceaaDoorW.PrintWords Go.Proofs.YtdedlchpjboceaaDoorW.PrintLast Go.Proofs.YtdedlchpjboceaaDoorW.PrintMore
attribute [local go_sem] Oper.semAt_some
/-- The reader stays where a row that lies behind it is written. -/
theorem PreR.grown {W w1 : World} {R : Nat} {l : List Tok} {e : Int} (h : PreR W R l e) {row : Option Nat} (hg : W.grownBy w1 row) (hr : ∀ k, row = some k → R < k) : PreR w1 R l e := by
  obtain ⟨A, cap, k, nm, vn, a, h3, h4, h5, h6⟩ := h
  refine ⟨A, cap, k, nm, vn, a, (hg.block R (blk_lt h3) (fun e => ?_)).trans h3, h4, C_same h5 (fun ad e _ => hg.block _ (h6 ad e).1 (fun e' => ?_)), fun ad e => ⟨Nat.lt_of_lt_of_le (h6 ad e).1 hg.size, (h6 ad e).2⟩⟩
  · have := hr R e.symm; omega
  · have := hr _ e'.symm; have := (h6 ad e).2.2; omega
theorem PreR.lt {W : World} {R : Nat} {l : List Tok} {e : Int} (h : PreR W R l e) : R < W.heap.size := by
  obtain ⟨A, cap, k, nm, vn, a, h3, _⟩ := h; exact blk_lt h3
/-- Between two rounds of Parse's loop. -/
structure PI (w W : World) (R : Nat) (e : Int) (l : List Tok) (v8 v9 : Value) (o : List Cmd) (d : List Dg) : Prop where
  pre : PreR W R l e
  le : w.heap.size ≤ R
  out : Kd.R kC 40 W (R + 1) (fun _ => True) v8 o
  dg : Kd.R kD 54 W (R + 1) (fun _ => True) v9 d
  below : Below w.heap.size w W
theorem PI.alloc {w W : World} {R : Nat} {e : Int} {l : List Tok} {v8 v9 : Value} {o : List Cmd} {d : List Dg} (h : PI w W R e l v8 v9 o d) {W' : World} (hb : Below W.heap.size W W') : PI w W' R e l v8 v9 o d :=
  ⟨h.pre.below hb, h.le, Kd.R_below h.out hb, Kd.R_below h.dg hb, below_then h.below h.below.size hb⟩
/-- Behind a step that changes the reader's block alone. -/
theorem PI.step {w W W' : World} {R : Nat} {e : Int} {l l' : List Tok} {v8 v9 : Value} {o : List Cmd} {d : List Dg} (h : PI w W R e l v8 v9 o d) (hg : W.grownBy W' (some R)) (hp : PreR W' R l' e) : PI w W' R e l' v8 v9 o d := by
  have hok : ∀ k, (R + 1 ≤ k) → some k ≠ some R := fun k hk e => by injection e with e; omega
  refine ⟨hp, h.le, ?_, ?_, h.below.grown hg h.below.size (fun k e => by injection e with e; have := h.le; omega)⟩
  · exact Kd.R_mono (Kd.R_grown (Kd.R_bound h.out) hg (fun k hk => hok k hk.2.1)) (fun _ _ => trivial)
  · exact Kd.R_mono (Kd.R_grown (Kd.R_bound h.dg) hg (fun k hk => hok k hk.2.1)) (fun _ _ => trivial)
end Go.Proofs.YtdedlchpjboceaaDoor.Px
end

section
namespace Go.Proofs.YtdedlchpjboceaaDoor.Px
open Go.RowKit Go.Shelf Go.Proofs.YtdedlchpjboceaaDoor.Lx Go.Proofs.YtdedlchpjboceaaDoorW.PrintWords Go.Proofs.YtdedlchpjboceaaDoorW.PrintLast Go.Proofs.YtdedlchpjboceaaDoorW.PrintMore
attribute [local go_sem] Oper.semAt_some
theorem procF_err (xs : List Lx.Sp) : ∀ er, Lx.procF xs = .error er → er.1 ≠ 0 := by
  induction hn : xs.length generalizing xs with
  | zero =>
    obtain rfl := List.eq_nil_of_length_eq_zero hn
    intro er h; simp [procF] at h
  | succ n ih =>
    rcases snoc_cases xs with rfl | ⟨pre, x, rfl⟩
    · simp at hn
    · intro er h
      rw [procF_snoc] at h
      simp at hn
      cases hp : procF pre with
      | error e => rw [hp] at h; simp only [pstep] at h; cases h; exact ih pre hn _ hp
      | ok ps =>
        rw [hp] at h; simp only [pstep] at h
        split at h
        · cases h
        · split at h
          · cases h; show (7 : Int) ≠ 0; decide
          · split at h
            · cases h; show (2 : Int) ≠ 0; decide
            · split at h
              · rename_i he; cases h; have := tokOf_err he; show _ ≠ _; omega
              · cases h
theorem lex_err {s : List UInt8} {er : Int × Nat} (h : Lx.lex s = .error er) : er.1 ≠ 0 := by
  unfold Lx.lex at h
  split at h
  · cases h; decide
  · exact procF_err _ er h
end Go.Proofs.YtdedlchpjboceaaDoor.Px
end

section
namespace Go.Proofs.YtdedlchpjboceaaDoor.Tx
open Go.RowKit Go.Shelf Go.Proofs.YtdedlchpjboceaaDoor.Lx Go.Proofs.YtdedlchpjboceaaDoor.Px Go.Proofs.YtdedlchpjboceaaDoorW.PrintWords Go.Proofs.YtdedlchpjboceaaDoorW.PrintLast Go.Proofs.YtdedlchpjboceaaDoorW.PrintMore
attribute [local go_sem] Oper.semAt_some
/-- A text at block b holds these bytes; what it has made lies from B on. -/
abbrev TxtAt (B b : Nat) (p : Value) (bs : List Value) (w : World) : Prop := Lib.BuilderAtF 81 5 B b p bs w
abbrev Txt (B b : Nat) (bs : List Value) (w : World) : Prop := Lib.IsBuilderF 81 5 B b bs w
theorem liesText : liesAt Tryd.prog Tryd.prog.depth 81 (2 / Tryd.prog.cellsOf 81) 0 79 1 = true := by kernel_rfl
set_option maxHeartbeats 1000000 in
set_option maxRecDepth 100000 in
theorem check_fresh (b : Nat) (w : World) (h0 : w.cell? ⟨b, 0, none⟩ = some (.pointer none)) (hsh : w.shape? b = some (81, 2)) (hfz : w.frozen? ⟨b, 0, none⟩ = false) :
    Calls Tryd.prog 108 #[.pointer (some ⟨b, 0, none⟩)] w fun e w' => e = .returned (.tuple #[]) ∧ w' = w.setCell ⟨b, 0, none⟩ (.pointer (some ⟨b, 0, none⟩)) := by
  obtain ⟨j, hj, hjs⟩ := Option.map_eq_some_iff.1 Tryd.Builder_Extra_166.sizeBuilder
  have t0 := Tryd.underlying79
  have hto : (convert 77 139 (.pointer (some ⟨b, 0, none⟩))).run Tryd.prog w = .ok (.pointer (some ⟨b, 0, none⟩)) w := Lib.run_to_unsafe w ⟨b, 0, none⟩ Tryd.underlying77 Tryd.underlying139 hj (by rw [hjs]; decide) hsh (Nat.zero_lt_succ 1)
  have hfr : (convert 139 77 (.pointer (some ⟨b, 0, none⟩))).run Tryd.prog w = .ok (.pointer (some ⟨b, 0, none⟩)) w := Lib.run_from_unsafe w ⟨b, 0, none⟩ Tryd.underlying139 Tryd.underlying77 hj hsh liesText
  clear hsh
  go_enter Tryd.func108, Tryd.ntmps108
  go_wp2
  rw [run_callFunc_extern Tryd.func122 (by kernel_rfl) (by kernel_rfl) (by kernel_rfl) (e := Extern.AbiNoEscape.same) (by kernel_rfl)]
  rw [Lib.run_noEscape]
  simp only [Result.andThen]
  rw [Oper.upon_value]
  go_wp2
  go_end0
  exact ⟨rfl, rfl⟩
theorem check_any (B b : Nat) (bs : List Value) (w : World) (h : Txt B b bs w) :
    Calls Tryd.prog 108 #[.pointer (some ⟨b, 0, none⟩)] w fun e w' => e = .returned (.tuple #[]) ∧ (TxtAt B b (.pointer (some ⟨b, 0, none⟩)) bs w' ∧ Below B w w' ∧ Lib.OthersKept 5 (some b) w w') := by
  rcases h with h | h
  · refine (check_fresh b w h.cell0 h.shape h.frozen0).mono ?_
    rintro e w' ⟨rfl, rfl⟩
    exact ⟨rfl, h.used _, (Below.refl B w).setCell (p := ⟨b, 0, none⟩) h.1 _, (Lib.OthersKept.refl _ _ w).setCell ⟨b, 0, none⟩ rfl _⟩
  · refine (Any.Builder_copyCheck_used { Tryd.lays166 with } Tryd.Builder_Extra_166.toX72 b w h.cell0).mono ?_
    rintro e w' ⟨rfl, rfl⟩
    exact ⟨rfl, h, Below.refl B _, Lib.OthersKept.refl _ _ _⟩
set_option maxHeartbeats 2000000 in
set_option maxRecDepth 100000 in
theorem writeString_any (B b : Nat) (bs : List Value) (s : ByteArray) (w : World) (h : Txt B b bs w) (hlen : bs.length + s.size ≤ 1000000) (hBw : B ≤ w.heap.size) :
    Calls Tryd.prog 80 #[.pointer (some ⟨b, 0, none⟩), .string s] w fun e w' => e = .returned (.tuple #[.int .i64 s.size, .nilIface]) ∧ (TxtAt B b (.pointer (some ⟨b, 0, none⟩)) (bs ++ Lib.strCells s) w' ∧ Below B w w' ∧ Lib.OthersKept 5 (some b) w w') := by
  obtain ⟨i0, hi, hz0, hz1, hz2⟩ := info_parts Tryd.Builder_Extra_166.infoByte
  have t0 := Tryd.underlying79
  have hck := check_any B b bs w h
  clear h
  go_enter Tryd.func80, Tryd.ntmps80
  go_wp2_with fail
  refine hck.mono ?_
  rintro e w1 ⟨rfl, h1, hb1, hk1⟩
  obtain ⟨hB, v, hbk, hown, hne⟩ := h1
  have c0 : w1.cell? ⟨b, 0, none⟩ = some (.pointer (some ⟨b, 0, none⟩)) := by rw [Lib.cell_of_heap hbk]; rfl
  have c1 : w1.cell? ⟨b, 1, none⟩ = some v := by rw [Lib.cell_of_heap hbk]; rfl
  go_wp2_with (at_builtin; refine Lib.wpList_append_own_stringF _ rfl _ _ 58 9 rfl B 5 i0 Tryd.underlying58 Tryd.underlying9 hi hz0 hz1 hz2 _ _ _ rfl hown s rfl ?c3 ?c4 ?c5 ?_)
  case c3 => unfold maxLen; omega
  case c4 => omega
  case c5 => have := hb1.size; omega
  intro v' w2 hown' hgrow _
  have hlt : b < w1.heap.size := blk_lt hbk
  have hb2 : w2.heap[b]? = some (.cells #[.pointer (some ⟨b, 0, none⟩), v] 81 (0, 0)) := by
    rw [hgrow.block b hlt (fun e => hne e.symm)]
    exact hbk
  have d0 : w2.cell? ⟨b, 0, none⟩ = some (.pointer (some ⟨b, 0, none⟩)) := by rw [Lib.cell_of_heap hb2]; rfl
  have d1 : w2.cell? ⟨b, 1, none⟩ = some v := by rw [Lib.cell_of_heap hb2]; rfl
  have f1 : w2.frozen? ⟨b, 1, none⟩ = false := Lib.frozen_of_heap hb2 1
  obtain ⟨ao, n', cap, rfl⟩ : ∃ ao n' cap, v' = .slice ao n' cap := by
    rcases hown'.2 with ⟨hv, _⟩ | ⟨g, cap, cur, fz, hv, _⟩
    · exact ⟨_, _, _, hv⟩
    · exact ⟨_, _, _, hv⟩
  go_wp2
  go_ret2
  refine ⟨rfl, ?_, ?_, (hk1.grown hgrow (Lib.ownsRowF_kind hown)).setCell ⟨b, 1, none⟩ rfl _⟩
  · exact Lib.BuilderAtF.put (T := 81) (e := 5) hB hb2 (bs' := bs ++ Lib.strCells s) (by simpa [Lib.strCells_length] using hown') (by decide)
  · exact (hb1.grown hgrow (by have := hb1.size; omega) (fun k hk => (hown.lt k hk).1)).setCell (p := ⟨b, 1, none⟩) hB _
set_option maxHeartbeats 2000000 in
set_option maxRecDepth 100000 in
theorem writeRune_any (B b : Nat) (bs : List Value) (r : Int) (h0 : 0 ≤ r) (h1 : r ≤ 127) (w : World) (h : Txt B b bs w) (hlen : bs.length + 4 ≤ 1000000) (hBw : B ≤ w.heap.size) :
    Calls Tryd.prog 81 #[.pointer (some ⟨b, 0, none⟩), .int .i32 r] w fun e w' => (∃ u, e = .returned u) ∧ (TxtAt B b (.pointer (some ⟨b, 0, none⟩)) (bs ++ Lib.runeCells r) w' ∧ Below B w w' ∧ Lib.OthersKept 5 (some b) w w') := by
  have t0 := Tryd.underlying79
  have hck := check_any B b bs w h
  have hk4 := Lib.runeCells_le r
  clear h
  go_enter Tryd.func81, Tryd.ntmps81
  go_wp2_with fail
  refine hck.mono ?_
  rintro e w1 ⟨rfl, h1, hb1, hk1⟩
  obtain ⟨hB, v, hbk, hown, hne⟩ := h1
  obtain ⟨ao, cap, rfl⟩ : ∃ ao cap, v = .slice ao bs.length cap := by
    rcases hown.2 with ⟨hv, h0⟩ | ⟨g, cap, cur, fz, hv, _⟩
    · exact ⟨none, 0, by rw [hv, h0]⟩
    · exact ⟨_, _, hv⟩
  have c0 : w1.cell? ⟨b, 0, none⟩ = some (.pointer (some ⟨b, 0, none⟩)) := by rw [Lib.cell_of_heap hbk]; rfl
  have c1 : w1.cell? ⟨b, 1, none⟩ = some (.slice ao bs.length cap) := by rw [Lib.cell_of_heap hbk]; rfl
  go_wp2_with fail
  refine (Any.utf8_AppendRune_own { Tryd.lays168 with } Tryd.Builder_Extra_168 B _ bs.length bs r (by omega) (by omega) _ hown (by omega) (by have := hb1.size; omega)).mono ?_
  rintro e w2 ⟨v', rfl, hown', o, hgrow⟩
  have hlt : b < w1.heap.size := blk_lt hbk
  have hb2 : w2.heap[b]? = some (.cells #[.pointer (some ⟨b, 0, none⟩), .slice ao bs.length cap] 81 (0, 0)) := by
    rw [hgrow.block b (by simp; omega) (fun e => hne e.symm), Lib.alloc_old w1 _ b hlt]
    exact hbk
  have d0 : w2.cell? ⟨b, 0, none⟩ = some (.pointer (some ⟨b, 0, none⟩)) := by rw [Lib.cell_of_heap hb2]; rfl
  have d1 : w2.cell? ⟨b, 1, none⟩ = some (.slice ao bs.length cap) := by rw [Lib.cell_of_heap hb2]; rfl
  have f1 : w2.frozen? ⟨b, 1, none⟩ = false := Lib.frozen_of_heap hb2 1
  obtain ⟨g, cap', rfl⟩ : ∃ g cap', v' = .slice (some ⟨g, 0, none⟩) (bs.length + (Lib.runeCells r).length) cap' := by
    rcases hown'.2 with ⟨_, h0⟩ | ⟨g, cap', cur, fz, hv, _⟩
    · omega
    · exact ⟨g, cap', hv⟩
  go_wp2
  go_ret2
  refine ⟨⟨_, rfl⟩, ?_, ?_, ((hk1.alloc _).grown hgrow (Lib.ownsRowF_kind (hown.alloc _))).setCell ⟨b, 1, none⟩ rfl _⟩
  · exact Lib.BuilderAtF.put (T := 81) (e := 5) hB hb2 (bs' := bs ++ Lib.runeCells r) (by rw [List.length_append]; exact hown') (by decide)
  · exact ((hb1.alloc (by have := hb1.size; omega) _).grown hgrow (by have := hb1.size; simp; omega) (fun k hk => (hown.lt k hk).1)).setCell (p := ⟨b, 1, none⟩) hB _
set_option maxHeartbeats 2000000 in
set_option maxRecDepth 100000 in
theorem string_nil (B b : Nat) (p : Value) (w : World) (hbk : w.heap[b]? = some (.cells #[p, .slice none 0 0] 81 (0, 0))) :
    Calls Tryd.prog 50 #[.pointer (some ⟨b, 0, none⟩)] w fun e w' => e = .returned (.string ⟨#[]⟩) ∧ Below B w w' ∧ w'.heap[b]? = some (.cells #[p, .slice none 0 0] 81 (0, 0)) := by
  have mixed := Tryd.lays169.mixed
  have hUS : ∀ (W : World) (q : Option Addr), (Builtin.unsafeString_ #[115, 3] 9 #[.pointer q, .int .i64 0]).run Tryd.prog W = .ok (.string ByteArray.empty) W := Any.unsafeString_none Tryd.lays169 Tryd.Builder_Extra_169
  have c1 : w.drew.cell? ⟨b, 1, none⟩ = some (.slice none 0 0) := by
    have : w.drew.heap[b]? = some (.cells #[p, .slice none 0 0] 81 (0, 0)) := hbk
    rw [Lib.cell_of_heap this]; rfl
  have hSD : (Builtin.unsafeSliceData_ #[58] 115 #[.slice none 0 0]).run Tryd.prog w.drew = .ok (.pointer none) w.drew := rfl
  have t0 := Tryd.underlying79
  have hb : w.drew.heap[b]? = some (.cells #[p, .slice none 0 0] 81 (0, 0)) := hbk
  have HB := Lib.hid hb
  clear hbk hb
  go_enter Tryd.func50, Tryd.ntmps50
  go_wp2
  go_region_o
  all_goals (go_wp2; go_ret; exact ⟨rfl, Below.drew (Below.refl B w), HB.out⟩)
set_option maxHeartbeats 2000000 in
set_option maxRecDepth 100000 in
theorem string_some (B b : Nat) (l : List UInt8) (w : World) (h : Txt B b (Lib.byteCells l) w) (h0 : l ≠ []) :
    Calls Tryd.prog 50 #[.pointer (some ⟨b, 0, none⟩)] w fun e w' => e = .returned (.string ⟨l.toArray⟩) ∧ (Txt B b (Lib.byteCells l) w' ∧ Below B w w' ∧ Lib.OthersKept 5 (some b) w w') := by
  obtain ⟨p, hp, hAt⟩ : ∃ p, (p = .pointer none ∨ p = .pointer (some ⟨b, 0, none⟩)) ∧ TxtAt B b p (Lib.byteCells l) w := by
    rcases h with h | h
    · exact ⟨_, .inl rfl, h⟩
    · exact ⟨_, .inr rfl, h⟩
  obtain ⟨hB, v, hbk, hown, hne⟩ := hAt
  have hl0 : l.length ≠ 0 := by simpa using h0
  rw [Lib.byteCells_length] at hown
  obtain ⟨g, cap, cur, fz, rfl, hbg, hg, hfz, hnc, hcm, hcs, htake⟩ : ∃ g cap cur fz, v = .slice (some ⟨g, 0, none⟩) l.length cap ∧ B ≤ g ∧ w.heap[g]? = some (.cells cur 5 fz) ∧ fz.2 ≤ l.length * 1 ∧ l.length ≤ cap ∧ cap ≤ maxLen ∧ cur.size = cap * 1 ∧ cur.toList.take (l.length * 1) = Lib.byteCells l := by
    rcases hown.2 with ⟨_, hz⟩ | ⟨g, cap, cur, fz, hv, r⟩
    · exact absurd hz hl0
    · exact ⟨g, cap, cur, fz, hv, r⟩
  have c1 : w.drew.cell? ⟨b, 1, none⟩ = some (.slice (some ⟨g, 0, none⟩) l.length cap) := by
    have : w.drew.heap[b]? = some (.cells #[p, .slice (some ⟨g, 0, none⟩) l.length cap] 81 (0, 0)) := hbk
    rw [Lib.cell_of_heap this]; rfl
  have hSD : (Builtin.unsafeSliceData_ #[58] 115 #[.slice (some ⟨g, 0, none⟩) l.length cap]).run Tryd.prog w.drew = .ok (.pointer (some ⟨g, 0, none⟩)) w.drew :=
    Lib.run_unsafeSliceData_row _ _ _ _ _ _ (by omega)
  have hUS : (Builtin.unsafeString_ #[115, 3] 9 #[.pointer (some ⟨g, 0, none⟩), .int .i64 l.length]).run Tryd.prog w.drew = .ok (.string ⟨l.toArray⟩) (w.drew.freeze ⟨g, 0, none⟩ l.length) := by
    refine Lib.run_unsafeString_row w.drew 115 3 9 5 Tryd.underlying115 Tryd.Builder_Extra_169.cellsByte g cur.size (by have hg' : w.drew.heap[g]? = some (.cells cur 5 fz) := hg; simp [World.shape?, hg']) l h0 (by omega) (by unfold maxLen at hcm; omega) ?_
    intro j x hx
    exact hown.cells (g := g) rfl j (.int .u8 x.toNat) (by simp [Lib.byteCells, hx])
  have hkeep : Txt B b (Lib.byteCells l) (w.drew.freeze ⟨g, 0, none⟩ l.length) := by
    have hA : TxtAt B b p (Lib.byteCells l) w.drew := ⟨hB, _, hbk, by rw [Lib.byteCells_length]; exact hown, hne⟩
    have hF := hA.froze (g := g) (cap := cap) (by rw [Lib.byteCells_length]; exact c1)
    rw [Lib.byteCells_length] at hF
    rcases hp with rfl | rfl
    · exact .inl hF
    · exact .inr hF
  have mixed := Tryd.lays169.mixed
  have t0 := Tryd.underlying79
  have HX := Lib.hid (And.intro hkeep (And.intro hbg hg))
  clear hkeep hg hown hbk
  go_enter Tryd.func50, Tryd.ntmps50
  go_wp2
  go_region_o
  all_goals (go_wp2; go_ret; exact ⟨rfl, HX.out.1, Lib.below_freeze (Below.drew (Below.refl B w)) (p := ⟨g, 0, none⟩) HX.out.2.1 _, ((Lib.OthersKept.refl _ _ w).drew).freeze ⟨g, 0, none⟩ _ ⟨cur, fz, HX.out.2.2⟩⟩)
end Go.Proofs.YtdedlchpjboceaaDoor.Tx
end

section
namespace Go.Proofs.YtdedlchpjboceaaDoor.Tx
open Go.RowKit Go.Shelf Go.Proofs.YtdedlchpjboceaaDoor.Lx Go.Proofs.YtdedlchpjboceaaDoor.Px Go.Proofs.YtdedlchpjboceaaDoorW.PrintWords Go.Proofs.YtdedlchpjboceaaDoorW.PrintLast Go.Proofs.YtdedlchpjboceaaDoorW.PrintMore
attribute [local go_sem] Oper.semAt_some
def absI (n : Int) : Int := max n (-n)
theorem absI_le {n : Int} (h1 : -1000000000 ≤ n) (h2 : n ≤ 1000000000) : 0 ≤ absI n ∧ absI n ≤ 1000000000 := by unfold absI; omega
def fastW : List UInt8 := [102, 97, 115, 116, 32]
def slowW : List UInt8 := [115, 108, 111, 119, 32]
/-- A form with its name and its numbers laid in; none where numbers lack. -/
def rend : List UInt8 → List UInt8 → List Int → Option (List UInt8)
  | [], _, _ => some []
  | c :: t, nm, ns =>
    if c = 78 then (rend t nm ns).map (fun x => nm ++ x)
    else if c = 37 then (if ns = [] then none else (rend t nm ns.tail).map (fun x => (if ns.headD 0 < 0 then slowW else fastW) ++ (Lib.itoa (absI (ns.headD 0)) ++ x)))
    else if c = 35 then (if ns = [] then none else (rend t nm ns.tail).map (fun x => Lib.itoa (absI (ns.headD 0)) ++ x))
    else (rend t nm ns).map (fun x => c :: x)
theorem rend_name {t nm r : List UInt8} {ns : List Int} (h : rend (78 :: t) nm ns = some r) : ∃ r', rend t nm ns = some r' ∧ r = nm ++ r' := by
  have h' : (rend t nm ns).map (fun x => nm ++ x) = some r := h
  obtain ⟨r', h1, h2⟩ := Option.map_eq_some_iff.1 h'
  exact ⟨r', h1, h2.symm⟩
theorem rend_drift {t nm r : List UInt8} {ns : List Int} (h : rend (37 :: t) nm ns = some r) : ∃ n ns' r', ns = n :: ns' ∧ rend t nm ns' = some r' ∧ r = (if n < 0 then slowW else fastW) ++ (Lib.itoa (absI n) ++ r') := by
  have h' : (if ns = [] then none else (rend t nm ns.tail).map (fun x => (if ns.headD 0 < 0 then slowW else fastW) ++ (Lib.itoa (absI (ns.headD 0)) ++ x))) = some r := h
  cases ns with
  | nil => cases h'
  | cons n ns' =>
    rw [if_neg (by simp)] at h'
    obtain ⟨r', h1, h2⟩ := Option.map_eq_some_iff.1 h'
    exact ⟨n, ns', r', rfl, h1, h2.symm⟩
theorem rend_num {t nm r : List UInt8} {ns : List Int} (h : rend (35 :: t) nm ns = some r) : ∃ n ns' r', ns = n :: ns' ∧ rend t nm ns' = some r' ∧ r = Lib.itoa (absI n) ++ r' := by
  have h' : (if ns = [] then none else (rend t nm ns.tail).map (fun x => Lib.itoa (absI (ns.headD 0)) ++ x)) = some r := h
  cases ns with
  | nil => cases h'
  | cons n ns' =>
    rw [if_neg (by simp)] at h'
    obtain ⟨r', h1, h2⟩ := Option.map_eq_some_iff.1 h'
    exact ⟨n, ns', r', rfl, h1, h2.symm⟩
theorem rend_char {c : UInt8} {t nm r : List UInt8} {ns : List Int} (h1 : c ≠ 78) (h2 : c ≠ 37) (h3 : c ≠ 35) (h : rend (c :: t) nm ns = some r) : ∃ r', rend t nm ns = some r' ∧ r = c :: r' := by
  have h' : (rend t nm ns).map (fun x => c :: x) = some r := by rw [← h]; show _ = (if c = 78 then _ else if c = 37 then _ else if c = 35 then _ else _); rw [if_neg h1, if_neg h2, if_neg h3]
  obtain ⟨r', h1, h2⟩ := Option.map_eq_some_iff.1 h'
  exact ⟨r', h1, h2.symm⟩
/-- Itoa's table, whatever lies from B on. -/
def TabsOK (B : Nat) (w : World) : Prop := ∀ w', Below B w w' → Lib.TabIs Tryd.prog w' "internal/strconv.uint64pow10" .u64 Lib.pow10Tab
theorem Txt.len {B b : Nat} {cur : List UInt8} {W : World} (h : Txt B b (Lib.byteCells cur) W) : b < W.heap.size ∧ B ≤ b := by
  rcases h with h | h <;> exact ⟨h.lt, h.1⟩
theorem TxtAt.kept {B b it pos : Nat} {p : Value} {bs : List Value} {W W' : World} {s : ByteArray} (h : TxtAt B b p bs W) (hi : W.heap[it]? = some (.stringIter s pos)) (hg : W.grownBy W' (some it)) : TxtAt B b p bs W' := by
  obtain ⟨hB, v, hb, hown, hne⟩ := h
  refine ⟨hB, v, (hg.block b (blk_lt hb) (fun e => ?_)).trans hb, hown.kept hg ?_, hne⟩
  · have e' : b = it := by injection e
    rw [e', hi] at hb; cases hb
  · rcases hown.2 with ⟨rfl, _⟩ | ⟨g, cap, cur, fz, rfl, _, hgb, _⟩
    · exact .inl rfl
    · refine .inr (fun e => ?_)
      have e' : g = it := by simpa [Value.ownBlock] using e
      rw [e', hi] at hgb; cases hgb
theorem Txt.kept {B b it pos : Nat} {bs : List Value} {W W' : World} {s : ByteArray} (h : Txt B b bs W) (hi : W.heap[it]? = some (.stringIter s pos)) (hg : W.grownBy W' (some it)) : Txt B b bs W' :=
  h.elim (fun h => .inl (TxtAt.kept h hi hg)) (fun h => .inr (TxtAt.kept h hi hg))
theorem TxtAt.below {B b : Nat} {p : Value} {bs : List Value} {W W' : World} (h : TxtAt B b p bs W) (hb : Below W.heap.size W W') : TxtAt B b p bs W' := by
  obtain ⟨hB, v, hbk, hown, hne⟩ := h
  exact ⟨hB, v, blk_below hbk hb, hown.kept (grown_of_below hb none) (by cases v.ownBlock <;> simp), hne⟩
theorem Txt.below {B b : Nat} {bs : List Value} {W W' : World} (h : Txt B b bs W) (hb : Below W.heap.size W W') : Txt B b bs W' :=
  h.elim (fun h => .inl (TxtAt.below h hb)) (fun h => .inr (TxtAt.below h hb))
/-- Between two rounds: the text so far, the command's box. -/
structure CX (B b tb : Nat) (nm : ByteArray) (w0 : World) (cur : List UInt8) (W : World) : Prop where
  txt : Txt B b (Lib.byteCells cur) W
  box : ∃ k vn a, W.heap[tb]? = some (.cells #[.int .i64 k, .string nm, vn, .int .i64 a] 40 (0, 0))
  below : Below B w0 W
  le : B ≤ w0.heap.size
  ne : tb ≠ b
theorem CX.leW {B b tb : Nat} {nm : ByteArray} {w0 W : World} {cur : List UInt8} (h : CX B b tb nm w0 cur W) : B ≤ W.heap.size := Nat.le_trans h.le h.below.size
theorem CX.drew {B b tb : Nat} {nm : ByteArray} {w0 W : World} {cur : List UInt8} (h : CX B b tb nm w0 cur W) : CX B b tb nm w0 cur W.drew :=
  ⟨h.txt.below (Below.drew (Below.refl _ _)), h.box, Below.drew h.below, h.le, h.ne⟩
theorem CX.more {B b tb : Nat} {nm : ByteArray} {w0 W W' : World} {cur : List UInt8} (h : CX B b tb nm w0 cur W) (hb : Below W.heap.size W W') : CX B b tb nm w0 cur W' := by
  obtain ⟨k, vn, a, hx⟩ := h.box
  exact ⟨h.txt.below hb, ⟨k, vn, a, blk_below hx hb⟩, h.below.trans (hb.mono h.leW), h.le, h.ne⟩
theorem CX.iter {B b tb it pos : Nat} {nm s : ByteArray} {w0 W W' : World} {cur : List UInt8} (h : CX B b tb nm w0 cur W) (hi : W.heap[it]? = some (.stringIter s pos)) (hg : W.grownBy W' (some it)) (hB : B ≤ it) : CX B b tb nm w0 cur W' := by
  obtain ⟨k, vn, a, hx⟩ := h.box
  refine ⟨h.txt.kept hi hg, ⟨k, vn, a, (hg.block tb (blk_lt hx) (fun e => ?_)).trans hx⟩, h.below.grown hg h.leW (fun k e => by injection e with e; omega), h.le, h.ne⟩
  have e' : tb = it := by injection e
  rw [e', hi] at hx; cases hx
theorem CX.write {B b tb : Nat} {nm : ByteArray} {w0 W W' : World} {cur : List UInt8} {p : Value} {cs : List Value} {l : List UInt8} (h : CX B b tb nm w0 cur W) (ht : TxtAt B b p (Lib.byteCells cur ++ cs) W') (hp : p = .pointer (some ⟨b, 0, none⟩)) (hcs : cs = Lib.byteCells l) (hb : Below B W W') (hk : Lib.OthersKept 5 (some b) W W') : CX B b tb nm w0 (cur ++ l) W' := by
  obtain ⟨k, vn, a, hx⟩ := h.box
  subst hp
  refine ⟨.inr (by rw [Lib.byteCells_append, ← hcs]; exact ht), ⟨k, vn, a, hk tb _ hx (fun e => h.ne (by injection e)) (fun c fz e => by injection e with _ e; revert e; decide)⟩, h.below.trans hb, h.le, h.ne⟩
theorem iter_kept {b it pos : Nat} {s : ByteArray} {W W' : World} (hi : W.heap[it]? = some (.stringIter s pos)) (hk : Lib.OthersKept 5 (some b) W W') (hne : it ≠ b) : W'.heap[it]? = some (.stringIter s pos) := hk it _ hi (fun e => hne (by injection e)) (fun c fz e => by cases e)
/-- A rune more of an ASCII string. -/
theorem next_step {W : World} {it pos : Nat} {s : ByteArray} (hi : W.heap[it]? = some (.stringIter s pos)) (h : pos < s.size) (ha : (s[pos]'h).toNat < 128) (ty : TypeId) :
    ∃ W', (Instr.next (.pointer (some ⟨it, 0, none⟩)) true ty).run Tryd.prog W = .ok (.tuple #[.bool true, .int .i64 pos, .int .i32 (s[pos]'h).toNat]) W' ∧ W'.heap[it]? = some (.stringIter s (pos + 1)) ∧ W.grownBy W' (some it) := by
  have hlt := blk_lt hi
  refine ⟨{ W with heap := W.heap.setIfInBounds it (.stringIter s (pos + 1)) }, ?_, (MapKept.heap_set hi).1, ⟨rfl, rfl, rfl, by simp, fun k _ hne => (MapKept.heap_set hi).2 k (fun e => hne (by rw [e]))⟩⟩
  simp [Instr.next, getObj, setObj, Sem.run, hi, h, decode_ascii s pos h ha, goInt]
theorem next_end {W : World} {it pos : Nat} {s : ByteArray} (hi : W.heap[it]? = some (.stringIter s pos)) (h : ¬ pos < s.size) (ty : TypeId) :
    (Instr.next (.pointer (some ⟨it, 0, none⟩)) true ty).run Tryd.prog W = .ok (.tuple #[.bool false]) W := by
  simp [Instr.next, getObj, Sem.run, hi, h]
/-- The numbers that are left, as they lie in the argument. -/
def NumsAt (B : Nat) (w0 : World) (A : Option Addr) (c : Nat) (ns : List Int) : Prop :=
  (Kd.int .i64).C w0 A ns.length ns ∧ ns.length ≤ c ∧ (∀ ad, A = some ad → ad.block < B) ∧ ∀ n ∈ ns, -1000000000 ≤ n ∧ n ≤ 1000000000
theorem NumsAt.tail {B : Nat} {w0 : World} {A : Option Addr} {c : Nat} {n : Int} {ns : List Int} (h : NumsAt B w0 A c (n :: ns)) : NumsAt B w0 (if c = 1 then A else A.map (·.add 1)) (c - 1) ns := by
  obtain ⟨h1, h2, h3, h4⟩ := h
  simp only [List.length_cons] at h2
  refine ⟨Kd.C_drop (k := Kd.int .i64) (xs := n :: ns) (m := 1) (c := c) h1 (by simp) (by simpa using h2), by omega, fun ad e => ?_, fun m hm => h4 m (List.mem_cons_of_mem _ hm)⟩
  split at e
  · exact h3 ad e
  · obtain ⟨ad0, e0, rfl⟩ := Option.map_eq_some_iff.1 e
    exact h3 ad0 e0
theorem NumsAt.head {B : Nat} {w0 W : World} {A : Option Addr} {c : Nat} {n : Int} {ns : List Int} (h : NumsAt B w0 A c (n :: ns)) (hb : Below B w0 W) : ∃ ad, A = some ad ∧ W.cell? ad = some (.int .i64 n) := by
  obtain ⟨h1, h2, h3, h4⟩ := h
  have hr := (Kd.reads_of_C (enc := Value.int .i64) (d := (0 : Int)) (h1 := fun _ => rfl) h1)
  obtain ⟨ad, e, hc⟩ := hr.2.2 (by simp)
  have h0 := hc 0 (by simp)
  exact ⟨ad, e, (hb.cell (h3 ad e)).trans h0⟩
theorem nDigits_le : ∀ (k n : Nat), n < 10 ^ (k + 1) → Lib.nDigits n ≤ k + 1
  | 0, n, h => by rw [Lib.nDigits_small (by simpa using h)]; exact Nat.le_refl _
  | k + 1, n, h => by
    by_cases hn : n < 10
    · rw [Lib.nDigits_small hn]; omega
    · rw [Lib.nDigits_big hn]
      have := nDigits_le k (n / 10) (by rw [Nat.pow_succ] at h; omega)
      omega
theorem itoa_le {n : Int} (h1 : -1000000000 ≤ n) (h2 : n ≤ 1000000000) : (Lib.itoa (absI n)).length ≤ 10 := by
  have h := absI_le h1 h2
  unfold Lib.itoa
  rw [if_neg (by omega)]
  rw [Lib.decDigits_length]
  exact nDigits_le 9 _ (by omega)
/-- What 'command' leaves: the text, longer by the command's line. -/
def CmdPost (B b : Nat) (cur tot : List UInt8) (w : World) (x : Ending) (w' : World) : Prop :=
  x = .returned (.tuple #[]) ∧ TxtAt B b (.pointer (some ⟨b, 0, none⟩)) (Lib.byteCells (cur ++ (tot ++ [59, 10]))) w' ∧ Below B w w'
set_option maxHeartbeats 16000000 in
set_option maxRecDepth 100000 in
theorem tcmd_any (B b : Nat) (cur tot : List UInt8) (k a : Int) (nm : ByteArray) (A : Option Addr) (c : Nat) (ns : List Int) (w : World) (fm : ByteArray) (hk0 : 0 ≤ k) (hk1 : k < 12) (hfm : w.cell? ⟨0, k.toNat, none⟩ = some (.string fm)) (hasc : ∀ x ∈ fm.data.toList, x.toNat < 128)
    (hB : B ≤ w.heap.size) (hT : Txt B b (Lib.byteCells cur) w) (htab : TabsOK B w) (hN : NumsAt B w A c ns) (hr : rend fm.data.toList nm.data.toList ns = some tot) (hlen : cur.length + tot.length ≤ 900000) :
    Calls Tryd.prog 49 #[.pointer (some ⟨b, 0, none⟩), .agg #[.int .i64 k, .string nm, .slice A ns.length c, .int .i64 a]] w (CmdPost B b cur tot w) := by
  have hu := Tryd.underlying9
  have t0 := Tryd.underlying81
  have b0 : 0 < w.heap.size := World.block_lt_of_cell? w _ hfm
  obtain ⟨hbw, hBb⟩ := hT.len
  have hX : CX B b w.heap.size nm w cur ((w.alloc (.cells #[.int .i64 k, .string nm, .slice A ns.length c, .int .i64 a] 40)).iter fm 0) :=
    ⟨(hT.below (below_alloc (Below.refl _ _) _)).below (below_alloc (Below.refl _ _) _), ⟨_, _, _, Px.blk_alloc (blk_new _ _) _⟩, ((Below.refl B w).alloc hB _).alloc (by simp; omega) _, hB, by omega⟩
  have hI : ((w.alloc (.cells #[.int .i64 k, .string nm, .slice A ns.length c, .int .i64 a] 40)).iter fm 0).heap[w.heap.size + 1]? = some (.stringIter fm 0) := by
    have := World.iter_heap (w.alloc (.cells #[.int .i64 k, .string nm, .slice A ns.length c, .int .i64 a] 40)) fm 0
    rwa [World.size_alloc] at this
  have HX := Lib.hid hX
  have HI := Lib.hid hI
  have HN := Lib.hid hN
  have HR := Lib.hid (show ∃ t, rend (fm.data.toList.drop 0) nm.data.toList ns = some t ∧ cur ++ t = cur ++ tot from ⟨tot, hr, rfl⟩)
  have HA := Lib.hid hasc
  have HTB := Lib.hid htab
  clear hX hI hN hr hasc htab hT
  go_enter Tryd.func49, Tryd.ntmps49
  go_wp2
  generalize (w.alloc (.cells #[.int .i64 k, .string nm, .slice A ns.length c, .int .i64 a] 40)).iter fm 0 = W0 at HX HI ⊢
  obtain ⟨tb, htb⟩ : ∃ tb, w.heap.size = tb := ⟨_, rfl⟩
  obtain ⟨it, hit⟩ : ∃ it, w.heap.size + 1 = it := ⟨_, rfl⟩
  have hitB : B ≤ it := by omega
  have hitb : it ≠ b := by omega
  rw [hit] at HI ⊢
  rw [htb] at HX ⊢
  clear htb hit
  go_loopg [4] fm.size (fun g v4 W => ∃ (pos : Nat) (out t : List UInt8) (A : Option Addr) (c : Nat) (ns : List Int), pos + g = fm.size ∧ v4 = .slice A ns.length c ∧ Hid (rend (fm.data.toList.drop pos) nm.data.toList ns = some t ∧ out ++ t = cur ++ tot) ∧ Hid (CX B b tb nm w out W) ∧ Hid (W.heap[it]? = some (.stringIter fm pos)) ∧ Hid (NumsAt B w A c ns))
  case atStart =>
    obtain ⟨t, h1, h2⟩ := HR.out
    exact ⟨0, cur, t, A, c, ns, by omega, rfl, Lib.hid ⟨h1, h2⟩, HX, HI, HN⟩
  case round =>
    obtain ⟨pos, out, t, A, c, ns, hp, rfl, HRt, HX, HI, HN⟩ := hrel
    by_cases hlt : pos < fm.size
    · obtain ⟨g, rfl⟩ : ∃ g, gk = g + 1 := ⟨gk - 1, by omega⟩
      obtain ⟨ch, hch⟩ : ∃ ch, fm[pos] = ch := ⟨_, rfl⟩
      have hmem : ch ∈ fm.data.toList := by rw [← hch]; exact Array.getElem_mem_toList _
      have hchA := HA.out ch hmem
      obtain ⟨wr', hnx, hit', hg'⟩ := next_step HI.out hlt (by rw [hch]; exact hchA) 0
      rw [hch] at hnx
      have HX' := Lib.hid (HX.out.iter HI.out hg' hitB)
      obtain ⟨hr1, hr2⟩ := HRt.out
      rw [drop_at fm pos hlt, hch] at hr1
      have hol : out.length + t.length ≤ 900000 := by
        have := congrArg List.length hr2
        simp only [List.length_append] at this; omega
      clear hg' hmem HRt HX HI
      have HX := HX'
      clear HX'
      by_cases h78 : ch = 78
      · subst h78
        obtain ⟨r', hr3, hr4⟩ := rend_name hr1
        obtain ⟨k_, vn_, a_, hbx⟩ := HX.out.box
        have x1 : wr'.cell? ⟨tb, 1, none⟩ = some (.string nm) := by rw [blk_cell hbx]; rfl
        have hsz : out.length + nm.size ≤ 900000 := by
          have : nm.size = nm.data.toList.length := rfl
          rw [hr4] at hol; simp only [List.length_append] at hol; omega
        have HR2 := Lib.hid (And.intro hr3 (show (out ++ nm.data.toList) ++ r' = cur ++ tot by rw [← hr2, hr4, List.append_assoc]))
        clear hr1 hr2 hr3 hr4 hbx hol
        go_wp2
        refine start_ (n := 6) (S := fun W => W.cell? ⟨tb, 1, none⟩ = some (.string nm)) (ds := [5]) #[false, false, false, false, false, false] (by kernel_rfl) rfl rfl (x1) (fun hHeld => ?_)
        have HXd := Lib.hid HX.out.drew
        have HId := Lib.hid (show wr'.drew.heap[it]? = some (.stringIter fm (pos + 1)) from hit')
        clear hit' x1
        generalize wr'.drew = wd at HXd HId hHeld ⊢
        refine pure_ (i := 0) (N := some 26) (v := ?_) (a' := ?_) #[true, false, false, false, false, false] rfl rfl (by kernel_rfl) (fun _ _ _ h => h) (Or.inl ⟨by rfl, ?_⟩) ?_ ?_
        rotate_left
        · intro w'
          go_simp
          with_reducible rfl
        rotate_left
        · simp only [Act.put, List.setIfInBounds_toArray, List.set_cons_zero, List.set_cons_succ]
          rfl
        refine pure_ (i := 1) (N := some 27) (v := ?_) (a' := ?_) #[true, true, false, false, false, false] rfl rfl (by kernel_rfl) (fun _ _ _ h => h) (Or.inl ⟨by rfl, ?_⟩) ?_ ?_
        rotate_left
        · intro w'
          go_simp
          with_reducible rfl
        rotate_left
        · simp only [Act.put, List.setIfInBounds_toArray, List.set_cons_zero, List.set_cons_succ]
          rfl
        refine pure_ (i := 2) (N := some 28) (v := ?_) (a' := ?_) #[true, true, true, false, false, false] rfl rfl (by kernel_rfl) (fun _ _ _ h => h) (Or.inl ⟨by rfl, ?_⟩) ?_ ?_
        rotate_left
        · intro w'
          go_simp
          with_reducible rfl
        rotate_left
        · simp only [Act.put, List.setIfInBounds_toArray, List.set_cons_zero, List.set_cons_succ]
          rfl
        refine pure_ (i := 3) (N := some 29) (v := ?_) (a' := ?_) #[true, true, true, true, false, false] rfl rfl (by kernel_rfl) (fun _ _ _ h => h) (Or.inl ⟨by rfl, ?_⟩) ?_ ?_
        rotate_left
        · intro w'
          go_simp
          with_reducible rfl
        rotate_left
        · simp only [Act.put, List.setIfInBounds_toArray, List.set_cons_zero, List.set_cons_succ]
          rfl
        refine take_ (i := 4) (N := some 30) (v := ?_) (a' := ?_) #[true, true, true, true, true, false] rfl rfl (by kernel_rfl) (fun _ _ _ h => h) (Or.inl ⟨by rfl, ?_⟩) hHeld ?_ ?_
        rotate_left
        · intro w' hSw
          (try dsimp only at hSw)
          go_simp
          with_reducible rfl
        rotate_left
        · simp only [Act.put, List.setIfInBounds_toArray, List.set_cons_zero, List.set_cons_succ]
          rfl
        refine last_ (i := 5) (N := some 31) #[true, true, true, true, true, true] rfl rfl (by kernel_rfl) (by decide) (fun K hK => ?_)
        refine goes_ Tryd.func80 (by kernel_rfl) rfl #[.pointer (some ⟨b, 0, none⟩), .string nm] (by rfl) rfl rfl (by (try simp only [List.map_toArray, List.map_cons, List.map_nil]); first | done | rfl) ?_
        refine (writeString_any B b _ nm wd HXd.out.txt (by rw [Lib.byteCells_length]; omega) HXd.out.leW).mono ?_
        rintro x w2 ⟨rfl, hT2, hB2, hk2⟩
        refine ⟨_, rfl, ?_⟩
        refine hK.out _ _ ?_
        clear hK K
        refine norm_ (a' := ?_) ?_ ?_
        rotate_left
        · show Act.put _ (some 31) _ = _
          simp only [Act.put, List.setIfInBounds_toArray, List.set_cons_zero, List.set_cons_succ]
          rfl
        refine done_ (by kernel_rfl) ?_
        have HX2 := Lib.hid (HXd.out.write hT2 rfl (Lib.strCells_eq nm) hB2 hk2)
        have HI2 := Lib.hid (iter_kept HId.out hk2 hitb)
        clear hT2 hB2 hk2 HXd HId hHeld
        go_wp2
        go_roundg g
        case measure => omega
        case rel => exact ⟨pos + 1, out ++ nm.data.toList, r', A, c, ns, by omega, rfl, HR2, HX2, HI2, HN⟩
      · by_cases h37 : ch = 37
        · subst h37
          obtain ⟨n, ns', r', rfl, hr3, hr4⟩ := rend_drift hr1
          obtain ⟨ad, rfl, y0⟩ := HN.out.head HX.out.below
          have hcc := HN.out.2.1
          have hn0 := HN.out.2.2.2 n (by simp)
          obtain ⟨hn1, hn2⟩ := hn0
          by_cases hneg : n < 0
          · rw [if_pos hneg] at hr4
            have HR2 := Lib.hid (And.intro hr3 (show ((out ++ slowW) ++ Lib.itoa (absI n)) ++ r' = cur ++ tot by rw [← hr2, hr4]; simp only [List.append_assoc]))
            have hsw : out.length ≤ 900000 := by omega
            clear hr1 hr2 hr3 hr4 hol
            go_wp2_with fail
            refine (writeString_any B b _ ⟨#[115, 108, 111, 119, 32]⟩ wr' HX.out.txt (by rw [Lib.byteCells_length]; have : (⟨#[115, 108, 111, 119, 32]⟩ : ByteArray).size = 5 := rfl; omega) HX.out.leW).mono ?_
            rintro x w1 ⟨rfl, hT1, hB1, hk1⟩
            have HX1 := Lib.hid (HX.out.write (l := slowW) hT1 rfl rfl hB1 hk1)
            have hit2 := iter_kept hit' hk1 hitb
            have y1 : w1.cell? ad = some (.int .i64 n) := (hB1.cell (HN.out.2.2.1 ad rfl)).trans y0
            have hol2 : (out ++ slowW).length ≤ 900005 := by rw [List.length_append]; have : slowW.length = 5 := rfl; omega
            clear hT1 hB1 hk1 HX hit' y0
            have HX := HX1
            clear HX1
            go_wp2
            have HMX := Lib.hid (show max n (IntKind.i64.wrap (-n)) = absI n by rw [IntWalk.i64_in _ (by omega)]; rfl)
            refine start_ (n := 13) (S := fun W => W.cell? ad = some (.int .i64 n)) (ds := [11, 12]) #[false, false, false, false, false, false, false, false, false, false, false, false, false] (by kernel_rfl) rfl rfl (y1) (fun hHeld => ?_)
            have HXd := Lib.hid HX.out.drew
            have HId := Lib.hid (show w1.drew.heap[it]? = some (.stringIter fm (pos + 1)) from hit2)
            clear hit2 y1
            generalize w1.drew = wd at HXd HId hHeld ⊢
            refine pure_ (i := 0) (N := some 45) (v := ?_) (a' := ?_) #[true, false, false, false, false, false, false, false, false, false, false, false, false] rfl rfl (by kernel_rfl) (fun _ _ _ h => h) (Or.inl ⟨by rfl, ?_⟩) ?_ ?_
            rotate_left
            · intro w'
              go_simp
              with_reducible rfl
            rotate_left
            · simp only [Act.put, List.setIfInBounds_toArray, List.set_cons_zero, List.set_cons_succ]
              rfl
            refine pure_ (i := 1) (N := some 46) (v := ?_) (a' := ?_) #[true, true, false, false, false, false, false, false, false, false, false, false, false] rfl rfl (by kernel_rfl) (fun _ _ _ h => h) (Or.inl ⟨by rfl, ?_⟩) ?_ ?_
            rotate_left
            · intro w'
              go_simp
              with_reducible rfl
            rotate_left
            · simp only [Act.put, List.setIfInBounds_toArray, List.set_cons_zero, List.set_cons_succ]
              rfl
            refine pure_ (i := 2) (N := some 47) (v := ?_) (a' := ?_) #[true, true, true, false, false, false, false, false, false, false, false, false, false] rfl rfl (by kernel_rfl) (fun _ _ _ h => h) (Or.inl ⟨by rfl, ?_⟩) ?_ ?_
            rotate_left
            · intro w'
              go_simp
              with_reducible rfl
            rotate_left
            · simp only [Act.put, List.setIfInBounds_toArray, List.set_cons_zero, List.set_cons_succ]
              rfl
            refine pure_ (i := 3) (N := some 48) (v := ?_) (a' := ?_) #[true, true, true, true, false, false, false, false, false, false, false, false, false] rfl rfl (by kernel_rfl) (fun _ _ _ h => h) (Or.inl ⟨by rfl, ?_⟩) ?_ ?_
            rotate_left
            · intro w'
              go_simp
              with_reducible rfl
            rotate_left
            · simp only [Act.put, List.setIfInBounds_toArray, List.set_cons_zero, List.set_cons_succ]
              rfl
            refine pure_ (i := 4) (N := some 49) (v := ?_) (a' := ?_) #[true, true, true, true, true, false, false, false, false, false, false, false, false] rfl rfl (by kernel_rfl) (fun _ _ _ h => h) (Or.inl ⟨by rfl, ?_⟩) ?_ ?_
            rotate_left
            · intro w'
              go_simp
              with_reducible rfl
            rotate_left
            · simp only [Act.put, List.setIfInBounds_toArray, List.set_cons_zero, List.set_cons_succ]
              rfl
            refine take_ (i := 5) (N := some 50) (v := ?_) (a' := ?_) #[true, true, true, true, true, true, false, false, false, false, false, false, false] rfl rfl (by kernel_rfl) (fun _ _ _ h => h) (Or.inl ⟨by rfl, ?_⟩) hHeld ?_ ?_
            rotate_left
            · intro w' hSw
              (try dsimp only at hSw)
              go_simp
              with_reducible rfl
            rotate_left
            · simp only [Act.put, List.setIfInBounds_toArray, List.set_cons_zero, List.set_cons_succ]
              rfl
            refine pure_ (i := 6) (N := some 51) (v := ?_) (a' := ?_) #[true, true, true, true, true, true, true, false, false, false, false, false, false] rfl rfl (by kernel_rfl) (fun _ _ _ h => h) (Or.inl ⟨by rfl, ?_⟩) ?_ ?_
            rotate_left
            · intro w'
              go_simp
              with_reducible rfl
            rotate_left
            · simp only [Act.put, List.setIfInBounds_toArray, List.set_cons_zero, List.set_cons_succ]
              rfl
            refine pure_ (i := 7) (N := some 52) (v := ?_) (a' := ?_) #[true, true, true, true, true, true, true, true, false, false, false, false, false] rfl rfl (by kernel_rfl) (fun _ _ _ h => h) (Or.inl ⟨by rfl, ?_⟩) ?_ ?_
            rotate_left
            · intro w'
              go_simp
              with_reducible rfl
            rotate_left
            · simp only [Act.put, List.setIfInBounds_toArray, List.set_cons_zero, List.set_cons_succ]
              rfl
            refine take_ (i := 8) (N := some 53) (v := ?_) (a' := ?_) #[true, true, true, true, true, true, true, true, true, false, false, false, false] rfl rfl (by kernel_rfl) (fun _ _ _ h => h) (Or.inl ⟨by rfl, ?_⟩) hHeld ?_ ?_
            rotate_left
            · intro w' hSw
              (try dsimp only at hSw)
              go_simp
              with_reducible rfl
            rotate_left
            · simp only [Act.put, List.setIfInBounds_toArray, List.set_cons_zero, List.set_cons_succ]
              rfl
            refine pure_ (i := 9) (N := some 54) (v := ?_) (a' := ?_) #[true, true, true, true, true, true, true, true, true, true, false, false, false] rfl rfl (by kernel_rfl) (fun _ _ _ h => h) (Or.inl ⟨by rfl, ?_⟩) ?_ ?_
            rotate_left
            · intro w'
              go_simp
              with_reducible rfl
            rotate_left
            · simp only [Act.put, List.setIfInBounds_toArray, List.set_cons_zero, List.set_cons_succ]
              rfl
            refine pure_ (i := 10) (N := some 55) (v := ?_) (a' := ?_) #[true, true, true, true, true, true, true, true, true, true, true, false, false] rfl rfl (by kernel_rfl) (fun _ _ _ h => h) (Or.inl ⟨by rfl, ?_⟩) ?_ ?_
            rotate_left
            · intro w'
              go_simp
              with_reducible rfl
            rotate_left
            · simp only [Act.put, List.setIfInBounds_toArray, List.set_cons_zero, List.set_cons_succ]
              rfl
            refine last_ (i := 11) (N := some 56) #[true, true, true, true, true, true, true, true, true, true, true, true, false] rfl rfl (by kernel_rfl) (by decide) (fun K hK => ?_)
            refine goes_ Tryd.func40 (by kernel_rfl) rfl #[.int .i64 (absI n)] (by rfl) rfl rfl (by (try simp only [List.map_toArray, List.map_cons, List.map_nil]); first | done | rfl | (simp [Act.eval]; exact HMX.out)) ?_
            refine (Tryd.strconv_Itoa (absI n) (by have := absI_le hn1 hn2; omega) (by have := absI_le hn1 hn2; omega) wd (HTB.out wd HXd.out.below)).mono ?_
            rintro x w2 ⟨rfl, kk, os, rfl⟩
            refine ⟨_, rfl, ?_⟩
            have HX3 := Lib.hid (HXd.out.more (Lib.below_grow _ wd (Nat.le_refl _) kk os))
            have HI3 := Lib.hid (blk_below HId.out (Lib.below_grow _ wd (Nat.le_refl _) kk os))
            refine hK.out _ _ ?_
            clear hK K HXd HId hHeld
            generalize Sort.grow (wd.drewN kk) os = w3 at HX3 HI3 ⊢
            refine norm_ (a' := ?_) ?_ ?_
            rotate_left
            · show Act.put _ (some 56) _ = _
              simp only [Act.put, List.setIfInBounds_toArray, List.set_cons_zero, List.set_cons_succ]
              rfl
            refine last_ (i := 12) (N := some 57) #[true, true, true, true, true, true, true, true, true, true, true, true, true] rfl rfl (by kernel_rfl) (by decide) (fun K hK => ?_)
            refine goes_ Tryd.func80 (by kernel_rfl) rfl #[.pointer (some ⟨b, 0, none⟩), .string ⟨(Lib.itoa (absI n)).toArray⟩] (by rfl) rfl rfl (by (try simp only [List.map_toArray, List.map_cons, List.map_nil]); first | done | rfl) ?_
            refine (writeString_any B b _ ⟨(Lib.itoa (absI n)).toArray⟩ w3 HX3.out.txt (by rw [Lib.byteCells_length]; have := itoa_le hn1 hn2; have hz : (⟨(Lib.itoa (absI n)).toArray⟩ : ByteArray).size = (Lib.itoa (absI n)).length := (by simp [ByteArray.size]); omega) HX3.out.leW).mono ?_
            rintro x w4 ⟨rfl, hT4, hB4, hk4⟩
            refine ⟨_, rfl, ?_⟩
            refine hK.out _ _ ?_
            clear hK K
            refine norm_ (a' := ?_) ?_ ?_
            rotate_left
            · show Act.put _ (some 57) _ = _
              simp only [Act.put, List.setIfInBounds_toArray, List.set_cons_zero, List.set_cons_succ]
              rfl
            refine done_ (by kernel_rfl) ?_
            have HX4 := Lib.hid (HX3.out.write hT4 rfl (Lib.strCells_toArray _) hB4 hk4)
            have HI4 := Lib.hid (iter_kept HI3.out hk4 hitb)
            have HN4 := Lib.hid HN.out.tail
            clear hT4 hB4 hk4 HX3 HI3
            go_wp2
            all_goals
              have hN4 := HN4.out
              first | rw [if_pos (by assumption : c = 1), show c - 1 = 0 from by omega] at hN4 | rw [if_neg (by assumption : ¬c = 1)] at hN4
              have HN5 := Lib.hid hN4
              clear hN4
              go_roundg g
              case measure => omega
              case rel => exact ⟨pos + 1, _, r', _, _, ns', by omega, rfl, HR2, HX4, HI4, HN5⟩
          · rw [if_neg hneg] at hr4
            have HR2 := Lib.hid (And.intro hr3 (show ((out ++ fastW) ++ Lib.itoa (absI n)) ++ r' = cur ++ tot by rw [← hr2, hr4]; simp only [List.append_assoc]))
            have hsw : out.length ≤ 900000 := by omega
            clear hr1 hr2 hr3 hr4 hol
            go_wp2_with fail
            refine (writeString_any B b _ ⟨#[102, 97, 115, 116, 32]⟩ wr' HX.out.txt (by rw [Lib.byteCells_length]; have : (⟨#[102, 97, 115, 116, 32]⟩ : ByteArray).size = 5 := rfl; omega) HX.out.leW).mono ?_
            rintro x w1 ⟨rfl, hT1, hB1, hk1⟩
            have HX1 := Lib.hid (HX.out.write (l := fastW) hT1 rfl rfl hB1 hk1)
            have hit2 := iter_kept hit' hk1 hitb
            have y1 : w1.cell? ad = some (.int .i64 n) := (hB1.cell (HN.out.2.2.1 ad rfl)).trans y0
            have hol2 : (out ++ fastW).length ≤ 900005 := by rw [List.length_append]; have : fastW.length = 5 := rfl; omega
            clear hT1 hB1 hk1 HX hit' y0
            have HX := HX1
            clear HX1
            go_wp2
            have HMX := Lib.hid (show max n (IntKind.i64.wrap (-n)) = absI n by rw [IntWalk.i64_in _ (by omega)]; rfl)
            refine start_ (n := 13) (S := fun W => W.cell? ad = some (.int .i64 n)) (ds := [11, 12]) #[false, false, false, false, false, false, false, false, false, false, false, false, false] (by kernel_rfl) rfl rfl (y1) (fun hHeld => ?_)
            have HXd := Lib.hid HX.out.drew
            have HId := Lib.hid (show w1.drew.heap[it]? = some (.stringIter fm (pos + 1)) from hit2)
            clear hit2 y1
            generalize w1.drew = wd at HXd HId hHeld ⊢
            refine pure_ (i := 0) (N := some 45) (v := ?_) (a' := ?_) #[true, false, false, false, false, false, false, false, false, false, false, false, false] rfl rfl (by kernel_rfl) (fun _ _ _ h => h) (Or.inl ⟨by rfl, ?_⟩) ?_ ?_
            rotate_left
            · intro w'
              go_simp
              with_reducible rfl
            rotate_left
            · simp only [Act.put, List.setIfInBounds_toArray, List.set_cons_zero, List.set_cons_succ]
              rfl
            refine pure_ (i := 1) (N := some 46) (v := ?_) (a' := ?_) #[true, true, false, false, false, false, false, false, false, false, false, false, false] rfl rfl (by kernel_rfl) (fun _ _ _ h => h) (Or.inl ⟨by rfl, ?_⟩) ?_ ?_
            rotate_left
            · intro w'
              go_simp
              with_reducible rfl
            rotate_left
            · simp only [Act.put, List.setIfInBounds_toArray, List.set_cons_zero, List.set_cons_succ]
              rfl
            refine pure_ (i := 2) (N := some 47) (v := ?_) (a' := ?_) #[true, true, true, false, false, false, false, false, false, false, false, false, false] rfl rfl (by kernel_rfl) (fun _ _ _ h => h) (Or.inl ⟨by rfl, ?_⟩) ?_ ?_
            rotate_left
            · intro w'
              go_simp
              with_reducible rfl
            rotate_left
            · simp only [Act.put, List.setIfInBounds_toArray, List.set_cons_zero, List.set_cons_succ]
              rfl
            refine pure_ (i := 3) (N := some 48) (v := ?_) (a' := ?_) #[true, true, true, true, false, false, false, false, false, false, false, false, false] rfl rfl (by kernel_rfl) (fun _ _ _ h => h) (Or.inl ⟨by rfl, ?_⟩) ?_ ?_
            rotate_left
            · intro w'
              go_simp
              with_reducible rfl
            rotate_left
            · simp only [Act.put, List.setIfInBounds_toArray, List.set_cons_zero, List.set_cons_succ]
              rfl
            refine pure_ (i := 4) (N := some 49) (v := ?_) (a' := ?_) #[true, true, true, true, true, false, false, false, false, false, false, false, false] rfl rfl (by kernel_rfl) (fun _ _ _ h => h) (Or.inl ⟨by rfl, ?_⟩) ?_ ?_
            rotate_left
            · intro w'
              go_simp
              with_reducible rfl
            rotate_left
            · simp only [Act.put, List.setIfInBounds_toArray, List.set_cons_zero, List.set_cons_succ]
              rfl
            refine take_ (i := 5) (N := some 50) (v := ?_) (a' := ?_) #[true, true, true, true, true, true, false, false, false, false, false, false, false] rfl rfl (by kernel_rfl) (fun _ _ _ h => h) (Or.inl ⟨by rfl, ?_⟩) hHeld ?_ ?_
            rotate_left
            · intro w' hSw
              (try dsimp only at hSw)
              go_simp
              with_reducible rfl
            rotate_left
            · simp only [Act.put, List.setIfInBounds_toArray, List.set_cons_zero, List.set_cons_succ]
              rfl
            refine pure_ (i := 6) (N := some 51) (v := ?_) (a' := ?_) #[true, true, true, true, true, true, true, false, false, false, false, false, false] rfl rfl (by kernel_rfl) (fun _ _ _ h => h) (Or.inl ⟨by rfl, ?_⟩) ?_ ?_
            rotate_left
            · intro w'
              go_simp
              with_reducible rfl
            rotate_left
            · simp only [Act.put, List.setIfInBounds_toArray, List.set_cons_zero, List.set_cons_succ]
              rfl
            refine pure_ (i := 7) (N := some 52) (v := ?_) (a' := ?_) #[true, true, true, true, true, true, true, true, false, false, false, false, false] rfl rfl (by kernel_rfl) (fun _ _ _ h => h) (Or.inl ⟨by rfl, ?_⟩) ?_ ?_
            rotate_left
            · intro w'
              go_simp
              with_reducible rfl
            rotate_left
            · simp only [Act.put, List.setIfInBounds_toArray, List.set_cons_zero, List.set_cons_succ]
              rfl
            refine take_ (i := 8) (N := some 53) (v := ?_) (a' := ?_) #[true, true, true, true, true, true, true, true, true, false, false, false, false] rfl rfl (by kernel_rfl) (fun _ _ _ h => h) (Or.inl ⟨by rfl, ?_⟩) hHeld ?_ ?_
            rotate_left
            · intro w' hSw
              (try dsimp only at hSw)
              go_simp
              with_reducible rfl
            rotate_left
            · simp only [Act.put, List.setIfInBounds_toArray, List.set_cons_zero, List.set_cons_succ]
              rfl
            refine pure_ (i := 9) (N := some 54) (v := ?_) (a' := ?_) #[true, true, true, true, true, true, true, true, true, true, false, false, false] rfl rfl (by kernel_rfl) (fun _ _ _ h => h) (Or.inl ⟨by rfl, ?_⟩) ?_ ?_
            rotate_left
            · intro w'
              go_simp
              with_reducible rfl
            rotate_left
            · simp only [Act.put, List.setIfInBounds_toArray, List.set_cons_zero, List.set_cons_succ]
              rfl
            refine pure_ (i := 10) (N := some 55) (v := ?_) (a' := ?_) #[true, true, true, true, true, true, true, true, true, true, true, false, false] rfl rfl (by kernel_rfl) (fun _ _ _ h => h) (Or.inl ⟨by rfl, ?_⟩) ?_ ?_
            rotate_left
            · intro w'
              go_simp
              with_reducible rfl
            rotate_left
            · simp only [Act.put, List.setIfInBounds_toArray, List.set_cons_zero, List.set_cons_succ]
              rfl
            refine last_ (i := 11) (N := some 56) #[true, true, true, true, true, true, true, true, true, true, true, true, false] rfl rfl (by kernel_rfl) (by decide) (fun K hK => ?_)
            refine goes_ Tryd.func40 (by kernel_rfl) rfl #[.int .i64 (absI n)] (by rfl) rfl rfl (by (try simp only [List.map_toArray, List.map_cons, List.map_nil]); first | done | rfl | (simp [Act.eval]; exact HMX.out)) ?_
            refine (Tryd.strconv_Itoa (absI n) (by have := absI_le hn1 hn2; omega) (by have := absI_le hn1 hn2; omega) wd (HTB.out wd HXd.out.below)).mono ?_
            rintro x w2 ⟨rfl, kk, os, rfl⟩
            refine ⟨_, rfl, ?_⟩
            have HX3 := Lib.hid (HXd.out.more (Lib.below_grow _ wd (Nat.le_refl _) kk os))
            have HI3 := Lib.hid (blk_below HId.out (Lib.below_grow _ wd (Nat.le_refl _) kk os))
            refine hK.out _ _ ?_
            clear hK K HXd HId hHeld
            generalize Sort.grow (wd.drewN kk) os = w3 at HX3 HI3 ⊢
            refine norm_ (a' := ?_) ?_ ?_
            rotate_left
            · show Act.put _ (some 56) _ = _
              simp only [Act.put, List.setIfInBounds_toArray, List.set_cons_zero, List.set_cons_succ]
              rfl
            refine last_ (i := 12) (N := some 57) #[true, true, true, true, true, true, true, true, true, true, true, true, true] rfl rfl (by kernel_rfl) (by decide) (fun K hK => ?_)
            refine goes_ Tryd.func80 (by kernel_rfl) rfl #[.pointer (some ⟨b, 0, none⟩), .string ⟨(Lib.itoa (absI n)).toArray⟩] (by rfl) rfl rfl (by (try simp only [List.map_toArray, List.map_cons, List.map_nil]); first | done | rfl) ?_
            refine (writeString_any B b _ ⟨(Lib.itoa (absI n)).toArray⟩ w3 HX3.out.txt (by rw [Lib.byteCells_length]; have := itoa_le hn1 hn2; have hz : (⟨(Lib.itoa (absI n)).toArray⟩ : ByteArray).size = (Lib.itoa (absI n)).length := (by simp [ByteArray.size]); omega) HX3.out.leW).mono ?_
            rintro x w4 ⟨rfl, hT4, hB4, hk4⟩
            refine ⟨_, rfl, ?_⟩
            refine hK.out _ _ ?_
            clear hK K
            refine norm_ (a' := ?_) ?_ ?_
            rotate_left
            · show Act.put _ (some 57) _ = _
              simp only [Act.put, List.setIfInBounds_toArray, List.set_cons_zero, List.set_cons_succ]
              rfl
            refine done_ (by kernel_rfl) ?_
            have HX4 := Lib.hid (HX3.out.write hT4 rfl (Lib.strCells_toArray _) hB4 hk4)
            have HI4 := Lib.hid (iter_kept HI3.out hk4 hitb)
            have HN4 := Lib.hid HN.out.tail
            clear hT4 hB4 hk4 HX3 HI3
            go_wp2
            all_goals
              have hN4 := HN4.out
              first | rw [if_pos (by assumption : c = 1), show c - 1 = 0 from by omega] at hN4 | rw [if_neg (by assumption : ¬c = 1)] at hN4
              have HN5 := Lib.hid hN4
              clear hN4
              go_roundg g
              case measure => omega
              case rel => exact ⟨pos + 1, _, r', _, _, ns', by omega, rfl, HR2, HX4, HI4, HN5⟩
        · by_cases h35 : ch = 35
          · subst h35
            obtain ⟨n, ns', r', rfl, hr3, hr4⟩ := rend_num hr1
            obtain ⟨ad, rfl, y1⟩ := HN.out.head HX.out.below
            have hcc := HN.out.2.1
            have hn0 := HN.out.2.2.2 n (by simp)
            obtain ⟨hn1, hn2⟩ := hn0
            have HR2 := Lib.hid (And.intro hr3 (show (out ++ Lib.itoa (absI n)) ++ r' = cur ++ tot by rw [← hr2, hr4]; simp only [List.append_assoc]))
            have hol2 : out.length ≤ 900000 := by omega
            have hit2 := hit'
            clear hr1 hr2 hr3 hr4 hol hit'
            go_wp2
            have HMX := Lib.hid (show max n (IntKind.i64.wrap (-n)) = absI n by rw [IntWalk.i64_in _ (by omega)]; rfl)
            refine start_ (n := 13) (S := fun W => W.cell? ad = some (.int .i64 n)) (ds := [11, 12]) #[false, false, false, false, false, false, false, false, false, false, false, false, false] (by kernel_rfl) rfl rfl (y1) (fun hHeld => ?_)
            have HXd := Lib.hid HX.out.drew
            have HId := Lib.hid (show wr'.drew.heap[it]? = some (.stringIter fm (pos + 1)) from hit2)
            clear hit2 y1
            generalize wr'.drew = wd at HXd HId hHeld ⊢
            refine pure_ (i := 0) (N := some 45) (v := ?_) (a' := ?_) #[true, false, false, false, false, false, false, false, false, false, false, false, false] rfl rfl (by kernel_rfl) (fun _ _ _ h => h) (Or.inl ⟨by rfl, ?_⟩) ?_ ?_
            rotate_left
            · intro w'
              go_simp
              with_reducible rfl
            rotate_left
            · simp only [Act.put, List.setIfInBounds_toArray, List.set_cons_zero, List.set_cons_succ]
              rfl
            refine pure_ (i := 1) (N := some 46) (v := ?_) (a' := ?_) #[true, true, false, false, false, false, false, false, false, false, false, false, false] rfl rfl (by kernel_rfl) (fun _ _ _ h => h) (Or.inl ⟨by rfl, ?_⟩) ?_ ?_
            rotate_left
            · intro w'
              go_simp
              with_reducible rfl
            rotate_left
            · simp only [Act.put, List.setIfInBounds_toArray, List.set_cons_zero, List.set_cons_succ]
              rfl
            refine pure_ (i := 2) (N := some 47) (v := ?_) (a' := ?_) #[true, true, true, false, false, false, false, false, false, false, false, false, false] rfl rfl (by kernel_rfl) (fun _ _ _ h => h) (Or.inl ⟨by rfl, ?_⟩) ?_ ?_
            rotate_left
            · intro w'
              go_simp
              with_reducible rfl
            rotate_left
            · simp only [Act.put, List.setIfInBounds_toArray, List.set_cons_zero, List.set_cons_succ]
              rfl
            refine pure_ (i := 3) (N := some 48) (v := ?_) (a' := ?_) #[true, true, true, true, false, false, false, false, false, false, false, false, false] rfl rfl (by kernel_rfl) (fun _ _ _ h => h) (Or.inl ⟨by rfl, ?_⟩) ?_ ?_
            rotate_left
            · intro w'
              go_simp
              with_reducible rfl
            rotate_left
            · simp only [Act.put, List.setIfInBounds_toArray, List.set_cons_zero, List.set_cons_succ]
              rfl
            refine pure_ (i := 4) (N := some 49) (v := ?_) (a' := ?_) #[true, true, true, true, true, false, false, false, false, false, false, false, false] rfl rfl (by kernel_rfl) (fun _ _ _ h => h) (Or.inl ⟨by rfl, ?_⟩) ?_ ?_
            rotate_left
            · intro w'
              go_simp
              with_reducible rfl
            rotate_left
            · simp only [Act.put, List.setIfInBounds_toArray, List.set_cons_zero, List.set_cons_succ]
              rfl
            refine take_ (i := 5) (N := some 50) (v := ?_) (a' := ?_) #[true, true, true, true, true, true, false, false, false, false, false, false, false] rfl rfl (by kernel_rfl) (fun _ _ _ h => h) (Or.inl ⟨by rfl, ?_⟩) hHeld ?_ ?_
            rotate_left
            · intro w' hSw
              (try dsimp only at hSw)
              go_simp
              with_reducible rfl
            rotate_left
            · simp only [Act.put, List.setIfInBounds_toArray, List.set_cons_zero, List.set_cons_succ]
              rfl
            refine pure_ (i := 6) (N := some 51) (v := ?_) (a' := ?_) #[true, true, true, true, true, true, true, false, false, false, false, false, false] rfl rfl (by kernel_rfl) (fun _ _ _ h => h) (Or.inl ⟨by rfl, ?_⟩) ?_ ?_
            rotate_left
            · intro w'
              go_simp
              with_reducible rfl
            rotate_left
            · simp only [Act.put, List.setIfInBounds_toArray, List.set_cons_zero, List.set_cons_succ]
              rfl
            refine pure_ (i := 7) (N := some 52) (v := ?_) (a' := ?_) #[true, true, true, true, true, true, true, true, false, false, false, false, false] rfl rfl (by kernel_rfl) (fun _ _ _ h => h) (Or.inl ⟨by rfl, ?_⟩) ?_ ?_
            rotate_left
            · intro w'
              go_simp
              with_reducible rfl
            rotate_left
            · simp only [Act.put, List.setIfInBounds_toArray, List.set_cons_zero, List.set_cons_succ]
              rfl
            refine take_ (i := 8) (N := some 53) (v := ?_) (a' := ?_) #[true, true, true, true, true, true, true, true, true, false, false, false, false] rfl rfl (by kernel_rfl) (fun _ _ _ h => h) (Or.inl ⟨by rfl, ?_⟩) hHeld ?_ ?_
            rotate_left
            · intro w' hSw
              (try dsimp only at hSw)
              go_simp
              with_reducible rfl
            rotate_left
            · simp only [Act.put, List.setIfInBounds_toArray, List.set_cons_zero, List.set_cons_succ]
              rfl
            refine pure_ (i := 9) (N := some 54) (v := ?_) (a' := ?_) #[true, true, true, true, true, true, true, true, true, true, false, false, false] rfl rfl (by kernel_rfl) (fun _ _ _ h => h) (Or.inl ⟨by rfl, ?_⟩) ?_ ?_
            rotate_left
            · intro w'
              go_simp
              with_reducible rfl
            rotate_left
            · simp only [Act.put, List.setIfInBounds_toArray, List.set_cons_zero, List.set_cons_succ]
              rfl
            refine pure_ (i := 10) (N := some 55) (v := ?_) (a' := ?_) #[true, true, true, true, true, true, true, true, true, true, true, false, false] rfl rfl (by kernel_rfl) (fun _ _ _ h => h) (Or.inl ⟨by rfl, ?_⟩) ?_ ?_
            rotate_left
            · intro w'
              go_simp
              with_reducible rfl
            rotate_left
            · simp only [Act.put, List.setIfInBounds_toArray, List.set_cons_zero, List.set_cons_succ]
              rfl
            refine last_ (i := 11) (N := some 56) #[true, true, true, true, true, true, true, true, true, true, true, true, false] rfl rfl (by kernel_rfl) (by decide) (fun K hK => ?_)
            refine goes_ Tryd.func40 (by kernel_rfl) rfl #[.int .i64 (absI n)] (by rfl) rfl rfl (by (try simp only [List.map_toArray, List.map_cons, List.map_nil]); first | done | rfl | (simp [Act.eval]; exact HMX.out)) ?_
            refine (Tryd.strconv_Itoa (absI n) (by have := absI_le hn1 hn2; omega) (by have := absI_le hn1 hn2; omega) wd (HTB.out wd HXd.out.below)).mono ?_
            rintro x w2 ⟨rfl, kk, os, rfl⟩
            refine ⟨_, rfl, ?_⟩
            have HX3 := Lib.hid (HXd.out.more (Lib.below_grow _ wd (Nat.le_refl _) kk os))
            have HI3 := Lib.hid (blk_below HId.out (Lib.below_grow _ wd (Nat.le_refl _) kk os))
            refine hK.out _ _ ?_
            clear hK K HXd HId hHeld
            generalize Sort.grow (wd.drewN kk) os = w3 at HX3 HI3 ⊢
            refine norm_ (a' := ?_) ?_ ?_
            rotate_left
            · show Act.put _ (some 56) _ = _
              simp only [Act.put, List.setIfInBounds_toArray, List.set_cons_zero, List.set_cons_succ]
              rfl
            refine last_ (i := 12) (N := some 57) #[true, true, true, true, true, true, true, true, true, true, true, true, true] rfl rfl (by kernel_rfl) (by decide) (fun K hK => ?_)
            refine goes_ Tryd.func80 (by kernel_rfl) rfl #[.pointer (some ⟨b, 0, none⟩), .string ⟨(Lib.itoa (absI n)).toArray⟩] (by rfl) rfl rfl (by (try simp only [List.map_toArray, List.map_cons, List.map_nil]); first | done | rfl) ?_
            refine (writeString_any B b _ ⟨(Lib.itoa (absI n)).toArray⟩ w3 HX3.out.txt (by rw [Lib.byteCells_length]; have := itoa_le hn1 hn2; have hz : (⟨(Lib.itoa (absI n)).toArray⟩ : ByteArray).size = (Lib.itoa (absI n)).length := (by simp [ByteArray.size]); omega) HX3.out.leW).mono ?_
            rintro x w4 ⟨rfl, hT4, hB4, hk4⟩
            refine ⟨_, rfl, ?_⟩
            refine hK.out _ _ ?_
            clear hK K
            refine norm_ (a' := ?_) ?_ ?_
            rotate_left
            · show Act.put _ (some 57) _ = _
              simp only [Act.put, List.setIfInBounds_toArray, List.set_cons_zero, List.set_cons_succ]
              rfl
            refine done_ (by kernel_rfl) ?_
            have HX4 := Lib.hid (HX3.out.write hT4 rfl (Lib.strCells_toArray _) hB4 hk4)
            have HI4 := Lib.hid (iter_kept HI3.out hk4 hitb)
            have HN4 := Lib.hid HN.out.tail
            clear hT4 hB4 hk4 HX3 HI3
            go_wp2
            all_goals
              have hN4 := HN4.out
              first | rw [if_pos (by assumption : c = 1), show c - 1 = 0 from by omega] at hN4 | rw [if_neg (by assumption : ¬c = 1)] at hN4
              have HN5 := Lib.hid hN4
              clear hN4
              go_roundg g
              case measure => omega
              case rel => exact ⟨pos + 1, _, r', _, _, ns', by omega, rfl, HR2, HX4, HI4, HN5⟩
          · obtain ⟨r', hr3, hr4⟩ := rend_char h78 h37 h35 hr1
            have e78 : ((ch.toNat : Int) == 78) = false := beq_eq_false_iff_ne.2 (fun h => h78 (UInt8.toNat_inj.1 (by change ch.toNat = 78; omega)))
            have e37 : ((ch.toNat : Int) == 37) = false := beq_eq_false_iff_ne.2 (fun h => h37 (UInt8.toNat_inj.1 (by change ch.toNat = 37; omega)))
            have e35 : ((ch.toNat : Int) == 35) = false := beq_eq_false_iff_ne.2 (fun h => h35 (UInt8.toNat_inj.1 (by change ch.toNat = 35; omega)))
            have HR2 := Lib.hid (And.intro hr3 (show (out ++ [ch]) ++ r' = cur ++ tot by rw [← hr2, hr4, List.append_assoc]; rfl))
            have hrc : Lib.runeCells (ch.toNat : Int) = Lib.byteCells [ch] := by
              unfold Lib.runeCells; rw [Lib.encodeRuneZ_one (by omega) (by omega)]; rfl
            have HRC := Lib.hid hrc
            have hol2 : out.length ≤ 900000 := by omega
            clear hr1 hr2 hr3 hr4 hol hrc h78 h37 h35
            go_wp2_with fail
            refine (writeRune_any B b _ (ch.toNat : Int) (by omega) (by omega) wr' HX.out.txt (by rw [Lib.byteCells_length]; omega) HX.out.leW).mono ?_
            rintro x w1 ⟨⟨u, rfl⟩, hT1, hB1, hk1⟩
            have HX1 := Lib.hid (HX.out.write (l := [ch]) hT1 rfl HRC.out hB1 hk1)
            have HI1 := Lib.hid (iter_kept hit' hk1 hitb)
            clear hT1 hB1 hk1 HX hit'
            go_wp2
            go_roundg g
            case measure => omega
            case rel => exact ⟨pos + 1, out ++ [ch], r', A, c, ns, by omega, rfl, HR2, HX1, HI1, HN⟩
    · have hpe : pos = fm.size := by omega
      obtain ⟨hr1, hr2⟩ := HRt.out
      rw [List.drop_of_length_le (by rw [list_size]; omega)] at hr1
      have ht : t = [] := by have h' : some ([] : List UInt8) = some t := hr1; injection h' with h'; exact h'.symm
      rw [ht, List.append_nil] at hr2
      have hnx := next_end HI.out hlt 0
      have hol2 : out.length ≤ 900000 := by rw [hr2, List.length_append]; exact hlen
      have HR2 := Lib.hid hr2
      clear hr1 hr2 ht HRt HI
      go_wp2_with fail
      refine (writeString_any B b _ ⟨#[59, 10]⟩ wr HX.out.txt (by rw [Lib.byteCells_length]; have : (⟨#[59, 10]⟩ : ByteArray).size = 2 := rfl; omega) HX.out.leW).mono ?_
      rintro x w1 ⟨rfl, hT1, hB1, hk1⟩
      have HT1 := Lib.hid hT1
      have HB1 := Lib.hid (HX.out.below.trans hB1)
      clear hT1 hB1 hk1 HX
      go_wp2
      exact bodyPost_ret (v := .tuple #[]) (by simp [results, Tryd.results49, go_sem]) rfl ⟨rfl, by rw [← List.append_assoc, ← HR2.out, Lib.byteCells_append]; exact HT1.out, HB1.out⟩
end Go.Proofs.YtdedlchpjboceaaDoor.Tx
end

section
namespace Go.Proofs.YtdedlchpjboceaaDoor.Tx
open Go.RowKit Go.Proofs.YtdedlchpjboceaaDoor.Lx Go.Proofs.YtdedlchpjboceaaDoor.Px Go.Proofs.YtdedlchpjboceaaDoorW.PrintWords
/-- The forms, by the commands' kinds. -/
def formsL : List (List UInt8) := [
  [],
  [109, 101, 115, 104, 32, 100, 97, 116, 97, 32, 35, 32, 114, 97, 110, 103, 101, 32, 35],
  [114, 111, 111, 116, 32, 78, 32, 97, 116, 32, 35, 32, 35],
  [110, 111, 100, 101, 32, 78, 32, 97, 116, 32, 35, 32, 35, 32, 37, 32, 98, 97, 116, 116, 101, 114, 121, 32, 35],
  [97, 116, 32, 35, 32, 109, 111, 118, 101, 32, 78, 32, 35, 32, 35],
  [97, 116, 32, 35, 32, 102, 97, 105, 108, 32, 78],
  [97, 116, 32, 35, 32, 115, 116, 97, 114, 116, 32, 78],
  [97, 116, 32, 35, 32, 114, 101, 97, 100, 32, 78, 32, 35],
  [97, 116, 32, 35, 32, 106, 97, 109, 32, 35, 32, 35, 32, 114, 97, 100, 105, 117, 115, 32, 35, 32, 99, 104, 97, 110, 110, 101, 108, 32, 35, 32, 102, 111, 114, 32, 35],
  [97, 116, 32, 35, 32, 114, 101, 112, 108, 97, 121, 32, 35, 32, 97, 116, 32, 35, 32, 35],
  [97, 116, 32, 35, 32, 112, 114, 111, 103, 114, 97, 109, 32, 35, 32, 115, 105, 122, 101, 32, 35],
  [114, 117, 110, 32, 35]]
def formB (k : Int) : List UInt8 := formsL.getD k.toNat []
theorem rend_some : ∀ (fm nm : List UInt8) (ns : List Int), (fm.countP (fun c => c = 37 ∨ c = 35)) ≤ ns.length → (∀ n ∈ ns, -1000000000 ≤ n ∧ n ≤ 1000000000) →
    ∃ t, rend fm nm ns = some t ∧ t.length ≤ fm.length * (15 + nm.length)
  | [], nm, ns, _, _ => ⟨[], rfl, by simp⟩
  | c :: fm, nm, ns, h, hb => by
    have hmul : (c :: fm).length * (15 + nm.length) = fm.length * (15 + nm.length) + (15 + nm.length) := by rw [List.length_cons, Nat.succ_mul]
    rw [hmul]
    by_cases h78 : c = 78
    · subst h78
      rw [List.countP_cons_of_neg (by decide)] at h
      obtain ⟨t, h1, h2⟩ := rend_some fm nm ns h hb
      exact ⟨nm ++ t, by show (rend fm nm ns).map _ = _; rw [h1]; rfl, by rw [List.length_append]; omega⟩
    · by_cases h37 : c = 37
      · subst h37
        rw [List.countP_cons_of_pos (by decide)] at h
        cases ns with
        | nil => simp at h
        | cons n ns =>
          obtain ⟨t, h1, h2⟩ := rend_some fm nm ns (by simpa using h) (fun m hm => hb m (List.mem_cons_of_mem _ hm))
          have hi := itoa_le (hb n (by simp)).1 (hb n (by simp)).2
          refine ⟨(if n < 0 then slowW else fastW) ++ (Lib.itoa (absI n) ++ t), ?_, ?_⟩
          · show (if n :: ns = [] then none else (rend fm nm ns).map (fun x => (if n < 0 then slowW else fastW) ++ (Lib.itoa (absI n) ++ x))) = _
            rw [if_neg (by simp), h1]; rfl
          · have : (if n < 0 then slowW else fastW).length = 5 := by split <;> rfl
            rw [List.length_append, List.length_append, this]; omega
      · by_cases h35 : c = 35
        · subst h35
          rw [List.countP_cons_of_pos (by decide)] at h
          cases ns with
          | nil => simp at h
          | cons n ns =>
            obtain ⟨t, h1, h2⟩ := rend_some fm nm ns (by simpa using h) (fun m hm => hb m (List.mem_cons_of_mem _ hm))
            have hi := itoa_le (hb n (by simp)).1 (hb n (by simp)).2
            refine ⟨Lib.itoa (absI n) ++ t, ?_, ?_⟩
            · show (if n :: ns = [] then none else (rend fm nm ns).map (fun x => Lib.itoa (absI n) ++ x)) = _
              rw [if_neg (by simp), h1]; rfl
            · rw [List.length_append]; omega
        · rw [List.countP_cons_of_neg (by simp [h37, h35])] at h
          obtain ⟨t, h1, h2⟩ := rend_some fm nm ns h hb
          refine ⟨c :: t, ?_, by rw [List.length_cons]; omega⟩
          show (if c = 78 then _ else if c = 37 then _ else if c = 35 then _ else _) = _
          rw [if_neg h78, if_neg h37, if_neg h35, h1]; rfl
/-- The line of a command, without its end. -/
def lineT (c : Cmd) : List UInt8 := (rend (formB c.f0) c.f1.data.toList c.f2).getD []
theorem numsB_bd {kd : Int} : ∀ {ns : List Int} {i : Nat}, numsB kd i ns = true → ∀ n ∈ ns, -1000000000 ≤ n ∧ n ≤ 1000000000
  | [], _, _, n, hn => by cases hn
  | m :: ns, i, h, n, hn => by
    have h' : (numB kd i m && numsB kd (i + 1) ns) = true := h
    rw [Bool.and_eq_true] at h'
    rcases List.mem_cons.1 hn with rfl | hn
    · have := h'.1
      unfold numB at this
      rw [decide_eq_true_eq] at this
      omega
    · exact numsB_bd h'.2 n hn
theorem valid_kind {c : Cmd} (h : cB c = true) : 1 ≤ c.f0 ∧ c.f0 ≤ 11 ∧ (c.f2.length : Int) = (shp c.f0).2 ∧ c.f1.data.toList.length ≤ 12 ∧ ∀ n ∈ c.f2, -1000000000 ≤ n ∧ n ≤ 1000000000 := by
  unfold cB cmdB at h
  simp only [Bool.and_eq_true, decide_eq_true_eq] at h
  obtain ⟨⟨⟨h1, h2⟩, h3⟩, h4⟩ := h
  have hk : 1 ≤ c.f0 ∧ c.f0 ≤ 11 := by
    by_cases hk : 1 ≤ c.f0 ∧ c.f0 ≤ 11
    · exact hk
    · have hs : shp c.f0 = (false, -1) := by unfold shp; simp only [show ¬ c.f0 = 1 by omega, show ¬ c.f0 = 2 by omega, show ¬ c.f0 = 3 by omega, show ¬ c.f0 = 4 by omega, show ¬ c.f0 = 5 by omega, show ¬ c.f0 = 6 by omega, show ¬ c.f0 = 7 by omega, show ¬ c.f0 = 8 by omega, show ¬ c.f0 = 9 by omega, show ¬ c.f0 = 10 by omega, show ¬ c.f0 = 11 by omega, if_false, or_self]
      rw [hs] at h1
      simp only at h1
      omega
  refine ⟨hk.1, hk.2, h1, ?_, numsB_bd h4⟩
  rw [Bool.or_eq_true] at h3
  rcases h3 with h3 | h3
  · have hb : (shp c.f0).1 = false := by simpa using h3
    rw [hb] at h2
    have hd : decide (c.f1.data.toList ≠ []) = false := by simpa using h2
    have : c.f1.data.toList = [] := by simpa using hd
    rw [this]; decide
  · unfold nameB at h3
    simp only [Bool.and_eq_true, decide_eq_true_eq] at h3
    exact h3.1.1.2
theorem form_count {k : Int} (h1 : 1 ≤ k) (h2 : k ≤ 11) : (((formB k).countP (fun c => c = 37 ∨ c = 35) : Nat) : Int) = (shp k).2 ∧ (formB k).length ≤ 40 ∧ ∀ x ∈ formB k, x.toNat < 128 := by
  rcases (by omega : k = 1 ∨ k = 2 ∨ k = 3 ∨ k = 4 ∨ k = 5 ∨ k = 6 ∨ k = 7 ∨ k = 8 ∨ k = 9 ∨ k = 10 ∨ k = 11) with rfl | rfl | rfl | rfl | rfl | rfl | rfl | rfl | rfl | rfl | rfl <;> decide
theorem line_valid {c : Cmd} (h : cB c = true) : rend (formB c.f0) c.f1.data.toList c.f2 = some (lineT c) ∧ (lineT c).length ≤ 1080 := by
  obtain ⟨h1, h2, h3, h4, h5⟩ := valid_kind h
  obtain ⟨f1, f2, f3⟩ := form_count h1 h2
  obtain ⟨t, ht, hl⟩ := rend_some (formB c.f0) c.f1.data.toList c.f2 (by omega) h5
  unfold lineT
  rw [ht]
  refine ⟨rfl, ?_⟩
  show t.length ≤ 1080
  have : (formB c.f0).length * (15 + c.f1.data.toList.length) ≤ 40 * 27 := Nat.mul_le_mul f2 (by omega)
  omega
/-- The text of commands: a line each. -/
def printB (l : List Cmd) : List UInt8 := l.flatMap (fun c => lineT c ++ [59, 10])
theorem printB_snoc (l : List Cmd) (c : Cmd) : printB (l ++ [c]) = printB l ++ (lineT c ++ [59, 10]) := by simp [printB]
theorem printB_len : ∀ (l : List Cmd), (∀ c ∈ l, cB c = true) → (printB l).length ≤ l.length * 1082
  | [], _ => by simp [printB]
  | c :: l, h => by
    have h1 := (line_valid (h c (by simp))).2
    have h2 := printB_len l (fun d hd => h d (List.mem_cons_of_mem _ hd))
    have e : printB (c :: l) = (lineT c ++ [59, 10]) ++ printB l := rfl
    rw [e, List.length_append, List.length_append]
    simp only [List.length_cons, List.length_nil]; omega
/-- 'Print': its text and its error. -/
def printR (l : List Cmd) : ByteArray × Int :=
  if validB l = true then (match Lx.lex (printB l) with | .ok _ => (⟨(printB l).toArray⟩, 0) | .error _ => (⟨#[]⟩, 2)) else (⟨#[]⟩, 1)
end Go.Proofs.YtdedlchpjboceaaDoor.Tx
end

section
namespace Go.Proofs.YtdedlchpjboceaaDoor.Tx
open Go.RowKit Go.Shelf Go.Proofs.YtdedlchpjboceaaDoor.Lx Go.Proofs.YtdedlchpjboceaaDoor.Px Go.Proofs.YtdedlchpjboceaaDoorW.PrintWords Go.Proofs.YtdedlchpjboceaaDoorW.PrintLast Go.Proofs.YtdedlchpjboceaaDoorW.PrintMore
attribute [local go_sem] Oper.semAt_some
/-- The premises on the world: the error's variable, the forms, Itoa's table. -/
structure GP (w : World) : Prop where
  gok : GOK w
  forms : ∀ k : Int, 0 ≤ k → k < 12 → w.cell? ⟨0, k.toNat, none⟩ = some (.string ⟨(formB k).toArray⟩)
  tab : Lib.TabIs Tryd.prog w "internal/strconv.uint64pow10" .u64 Lib.pow10Tab
theorem GP.below {w w' : World} (h : GP w) (hb : Below w.heap.size w w') : GP w' :=
  ⟨h.gok.below hb, fun k h0 h1 => (hb.cell (p := ⟨0, k.toNat, none⟩) (World.block_lt_of_cell? w _ (h.forms k h0 h1))).trans (h.forms k h0 h1), Lib.tabBelow_of_tabIs h.tab w' hb⟩
theorem GP.tabs {w : World} (h : GP w) : TabsOK w.heap.size w := fun w' hb => Lib.tabBelow_of_tabIs h.tab w' hb
/-- A row of numbers of the argument, with its bounds. -/
theorem nums_at {w W : World} {B : Nat} {A : Option Addr} {c : Nat} {ns : List Int} (hC : (Kd.int .i64).C w A ns.length ns) (hc : ns.length ≤ c) (hB : w.heap.size = B) (hb : Below B w W) (hn : ∀ n ∈ ns, -1000000000 ≤ n ∧ n ≤ 1000000000) (hne : 0 < ns.length) : NumsAt B W A c ns := by
  subst hB
  refine ⟨Kd.C_below hC hb, hc, fun ad e => ?_, hn⟩
  have hr := (Kd.reads_of_C (enc := Value.int .i64) (d := (0 : Int)) (h1 := fun _ => rfl) hC)
  obtain ⟨ad', e', hcell⟩ := hr.2.2 hne
  rw [e'] at e; injection e with e; subst e
  exact World.block_lt_of_cell? w _ (hcell 0 hne)
theorem validB_all {l : List Cmd} (h : validB l = true) : l.length ≤ 300 ∧ ∀ c ∈ l, cB c = true := by
  unfold validB at h
  rw [Bool.and_eq_true, decide_eq_true_eq] at h
  exact ⟨by omega, fun c hc => List.all_eq_true.1 h.2 c hc⟩
/-- What Print answers. -/
def PrintPost (w : World) (r : ByteArray × Int) (x : Ending) (w' : World) : Prop := x = .returned (.tuple #[.string r.1, .int .i64 r.2]) ∧ Below w.heap.size w w'
set_option maxHeartbeats 8000000 in
set_option maxRecDepth 100000 in
theorem print_invalid (A : Option Addr) (c : Nat) (l : List Cmd) (w : World) (hC : Kd.C kC w A l.length l) (hv : validB l = false) :
    Calls Tryd.prog 27 #[.slice A l.length c] w (PrintPost w (printR l)) := by
  have hr : printR l = (⟨#[]⟩, 1) := by unfold printR; rw [hv]; rfl
  rw [hr]
  have hV := valid_any A c l w hC
  rw [hv] at hV
  clear hr hC hv
  go_enter Tryd.func27, Tryd.ntmps27
  go_wp2_with fail
  refine hV.mono ?_
  rintro x w1 ⟨rfl, hb⟩
  go_wp2
  go_ret2
  exact ⟨rfl, hb⟩
set_option maxHeartbeats 8000000 in
set_option maxRecDepth 100000 in
theorem print_nil (A : Option Addr) (c : Nat) (w : World) (hG : GP w) (hC : Kd.C kC w A 0 []) :
    Calls Tryd.prog 27 #[.slice A 0 c] w (PrintPost w (printR [])) := by
  have hlex : Lx.lex (printB []) = .ok [] := by
    have e : printB [] = [] := rfl
    rw [e]; unfold Lx.lex; rw [if_neg (by simp), spans_nil]; rfl
  have hr : printR [] = (⟨#[]⟩, 0) := by
    unfold printR
    rw [if_pos (by rfl), hlex]; rfl
  rw [hr]
  clear hlex
  have hV : Calls Tryd.prog 35 #[.slice A 0 c] w fun e w' => e = .returned (.bool true) ∧ Below w.heap.size w w' := valid_any A c [] w hC
  have HG := Lib.hid hG
  clear hr hC hG
  go_enter Tryd.func27, Tryd.ntmps27
  go_wp2_with fail
  refine hV.mono ?_
  rintro x w1 ⟨rfl, hb⟩
  have hb0 : w.heap.size ≤ w1.heap.size := hb.size
  have HB := Lib.hid (below_alloc hb (.cells #[.pointer none, .slice none 0 0] 81))
  have HK := Lib.hid (blk_new w1 (.cells #[.pointer none, .slice none 0 0] 81))
  have hu := Tryd.underlying81
  clear hb hV
  go_wp2_with fail
  generalize w1.alloc (.cells #[.pointer none, .slice none 0 0] 81) = W0 at HB HK ⊢
  go_loopg [15] 0 (fun g v W => v = .int .i64 0 ∧ W0 = W)
  case atStart => exact ⟨rfl, rfl⟩
  case round =>
    obtain ⟨rfl, rfl⟩ := hrel
    go_wp2_with fail
    refine (string_nil w1.heap.size w1.heap.size _ W0 HK.out).mono ?_
    rintro x w2 ⟨rfl, hb2, hk2⟩
    have HB2 := Lib.hid (HB.out.trans (hb2.mono hb0))
    have HK2 := Lib.hid hk2
    clear hb2 hk2
    go_wp2_with fail
    refine (lex_any _ w2 (HG.out.below HB2.out).gok).mono ?_
    rintro x w3 ⟨hb3, hx⟩
    have hle : Lx.lex (⟨#[]⟩ : ByteArray).data.toList = .ok [] := by
      show Lx.lex [] = _
      unfold Lx.lex; rw [if_neg (by simp), spans_nil]; rfl
    rw [hle] at hx
    obtain ⟨v, rfl, _⟩ := hx
    have HB3 := Lib.hid (below_then HB2.out HB2.out.size hb3)
    have HK3 := Lib.hid (blk_below HK2.out hb3)
    clear hb3 hle
    go_wp2_with fail
    refine (string_nil w1.heap.size w1.heap.size _ w3 HK3.out).mono ?_
    rintro x w4 ⟨rfl, hb4, _⟩
    have HB4 := Lib.hid (HB3.out.trans (hb4.mono hb0))
    clear hb4
    go_wp2
    go_ret2
    exact ⟨rfl, HB4.out⟩
set_option maxHeartbeats 16000000 in
set_option maxRecDepth 100000 in
theorem print_some (A : Option Addr) (c : Nat) (l : List Cmd) (w : World) (hG : GP w) (hC : Kd.C kC w A l.length l) (hv : validB l = true) (hne : l ≠ []) :
    Calls Tryd.prog 27 #[.slice A l.length c] w (PrintPost w (printR l)) := by
  obtain ⟨hl, hval⟩ := validB_all hv
  have hV := valid_any A c l w hC
  rw [hv] at hV
  have hr : printR l = (match Lx.lex (printB l) with | .ok _ => (⟨(printB l).toArray⟩, 0) | .error _ => (⟨#[]⟩, 2)) := if_pos hv
  generalize printR l = r at hr ⊢
  have HR := Lib.hid hr
  have HG := Lib.hid hG
  have HC := Lib.hid hC
  have HVAL := Lib.hid hval
  have hn0 : 0 < l.length := List.length_pos_iff.2 hne
  clear hr hC hG hv hval hne
  obtain ⟨B, hB⟩ : ∃ B, w.heap.size = B := ⟨_, rfl⟩
  have HBw := Lib.hid hB
  go_enter Tryd.func27, Tryd.ntmps27
  go_wp2_with fail
  refine hV.mono ?_
  rintro x w1 ⟨rfl, hb⟩
  rw [hB] at hb
  have hbs := hb.size
  rw [hB] at hbs
  have hb1 := hb.alloc hbs (.cells #[.pointer none, .slice none 0 0] 81)
  have HT := Lib.hid (show Txt B w1.heap.size (Lib.byteCells (printB (l.take 0))) (w1.alloc (.cells #[.pointer none, .slice none 0 0] 81)) from .inl ⟨hbs, _, blk_new _ _, World.ownsRowF_nil _ _ _ _, by simp [Value.ownBlock]⟩)
  have HB := Lib.hid hb1
  have hu := Tryd.underlying81
  have hu2 := Tryd.underlying40
  clear hb hV hb1 hB
  go_wp2_with fail
  generalize w1.alloc (.cells #[.pointer none, .slice none 0 0] 81) = W0 at HB HT ⊢
  obtain ⟨b, hbb⟩ : ∃ b, w1.heap.size = b := ⟨_, rfl⟩
  rw [hbb] at HT hbs ⊢
  clear hbb
  go_loopg [15] l.length (fun g v W => ∃ k : Nat, k + g = l.length ∧ v = .int .i64 k ∧ Hid (Txt B b (Lib.byteCells (printB (l.take k))) W) ∧ Hid (Below B w W))
  case atStart => exact ⟨0, by omega, rfl, HT, HB⟩
  case round =>
    obtain ⟨k, hk, rfl, HT, HB⟩ := hrel
    by_cases hlt : k < l.length
    · obtain ⟨g, rfl⟩ : ∃ g, gk = g + 1 := ⟨gk - 1, by omega⟩
      obtain ⟨ad, A2, c2, e, h0, h1, h2, h3, hl2, hi2⟩ := at_C HC.out (k : Int) (by omega) (by omega)
      cases e
      have hbelow : Below w.heap.size w wr := by rw [HBw.out]; exact HB.out
      replace h0 := (hbelow.cell (World.block_lt_of_cell? w _ h0)).trans h0
      replace h1 := (hbelow.cell (World.block_lt_of_cell? w _ h1)).trans h1
      replace h2 := (hbelow.cell (World.block_lt_of_cell? w _ h2)).trans h2
      replace h3 := (hbelow.cell (World.block_lt_of_cell? w _ h3)).trans h3
      rw [Int.toNat_natCast] at h0 h1 h2 h3
      have hx : rd_C l (k : Int) = l[k] := by unfold rd_C; rw [Int.toNat_natCast, List.getD_eq_getElem?_getD, List.getElem?_eq_getElem hlt]; rfl
      have hvx : cB (rd_C l (k : Int)) = true := by rw [hx]; exact HVAL.out _ (List.getElem_mem hlt)
      have HTK := Lib.hid (show printB (l.take (k + 1)) = printB (l.take k) ++ (lineT (rd_C l (k : Int)) ++ [59, 10]) by rw [List.take_succ_eq_append_getElem hlt, printB_snoc, hx])
      generalize rd_C l (k : Int) = x at h0 h1 h2 h3 hl2 hi2 hvx HTK
      obtain ⟨hk1, hk2, hk3, hk4, hk5⟩ := valid_kind hvx
      obtain ⟨hlr, hll⟩ := line_valid hvx
      have hlen := printB_len (l.take k) (fun d hd => HVAL.out d (List.mem_of_mem_take hd))
      have htk : (l.take k).length ≤ 300 := by rw [List.length_take]; omega
      have hba : Below B w (wr.alloc (.cells #[.int .i64 x.f0, .string x.f1, .slice A2 x.f2.length c2, .int .i64 x.f3] 40)) := HB.out.alloc (by have := HB.out.size; have := HBw.out; omega) _
      have hGP := HG.out.below (by rw [HBw.out]; exact hba)
      have hnz : 0 < x.f2.length := by
        have : (0 : Int) < (shp x.f0).2 := by
          rcases (by omega : x.f0 = 1 ∨ x.f0 = 2 ∨ x.f0 = 3 ∨ x.f0 = 4 ∨ x.f0 = 5 ∨ x.f0 = 6 ∨ x.f0 = 7 ∨ x.f0 = 8 ∨ x.f0 = 9 ∨ x.f0 = 10 ∨ x.f0 = 11) with e | e | e | e | e | e | e | e | e | e | e <;> rw [e] <;> decide
        omega
      have hCm := tcmd_any B b (printB (l.take k)) (lineT x) x.f0 x.f3 x.f1 A2 c2 x.f2 (wr.alloc (.cells #[.int .i64 x.f0, .string x.f1, .slice A2 x.f2.length c2, .int .i64 x.f3] 40)) ⟨(formB x.f0).toArray⟩ (by omega) (by omega) (hGP.forms x.f0 (by omega) (by omega)) (form_count hk1 hk2).2.2
        (by have := hba.size; have := HBw.out; omega) (HT.out.below (below_alloc (Below.refl _ _) _)) (fun w' hw' => HG.out.tabs w' (by rw [HBw.out]; exact hba.trans hw')) (nums_at hi2 hl2 HBw.out hba hk5 hnz) hlr (by omega)
      have HCm := Lib.hid hCm
      have HBA := Lib.hid hba
      clear hi2 hvx hbelow hk1 hk2 hk3 hk4 hk5 hlr hll hlen htk hba hGP hCm hl2 hnz
      go_wp2_with fail
      refine HCm.out.mono ?_
      rintro x w2 ⟨rfl, hT2, hb2⟩
      have HT2 := Lib.hid (show Txt B b (Lib.byteCells (printB (l.take (k + 1)))) w2 by rw [HTK.out]; exact .inr hT2)
      have HB2 := Lib.hid (HBA.out.trans hb2)
      clear hT2 hb2 HCm HBA h0 h1 h2 h3 HT HB
      go_wp2
      go_roundg g
      case measure => omega
      case rel => exact ⟨k + 1, by omega, by go_num, HT2, HB2⟩
    · have hkl : k = l.length := by omega
      have hTl : Txt B b (Lib.byteCells (printB l)) wr := by have := HT.out; rwa [hkl, List.take_length] at this
      have hnl : printB l ≠ [] := by
        cases l with
        | nil => simp at hn0
        | cons x l => show (lineT x ++ [59, 10]) ++ printB l ≠ []; simp
      have HT' := Lib.hid hTl
      have HNL := Lib.hid hnl
      clear HT hTl hnl hkl
      go_wp2_with fail
      refine (string_some B b (printB l) wr HT'.out HNL.out).mono ?_
      rintro x w2 ⟨rfl, hT2, hb2, _⟩
      have HB2 := Lib.hid (HB.out.trans hb2)
      have HT2 := Lib.hid hT2
      clear hT2 hb2 HB HT'
      go_wp2_with fail
      refine (lex_any _ w2 (HG.out.below (by rw [HBw.out]; exact HB2.out)).gok).mono ?_
      rintro x w3 ⟨hb3, hx⟩
      have hB3 : Below B w w3 := HB2.out.trans (hb3.mono (by have := HB2.out.size; have := HBw.out; omega))
      have HB3 := Lib.hid hB3
      have HT3 := Lib.hid (HT2.out.below hb3)
      have hdl : (⟨(printB l).toArray⟩ : ByteArray).data.toList = printB l := by simp
      rw [hdl] at hx
      have hR := HR.out
      clear hb3 hB3 HT2 HB2 hdl
      cases hlx : Lx.lex (printB l) with
      | error er =>
        rw [hlx] at hx hR
        have hr1 : r = (⟨#[]⟩, 2) := hR
        subst hr1
        have hne : (er.1 != 0) = true := by simpa using lex_err hlx
        simp only at hx
        obtain rfl := hx
        clear hR hlx HR
        go_wp2
        go_ret2
        exact ⟨rfl, by rw [HBw.out]; exact HB3.out⟩
      | ok ts =>
        rw [hlx] at hx hR
        have hr1 : r = (⟨(printB l).toArray⟩, 0) := hR
        subst hr1
        obtain ⟨v, rfl, _⟩ := hx
        clear hR hlx HR
        go_wp2_with fail
        refine (string_some B b (printB l) w3 HT3.out HNL.out).mono ?_
        rintro x w4 ⟨rfl, _, hb4, _⟩
        have HB4 := Lib.hid (HB3.out.trans hb4)
        clear hb4
        go_wp2
        go_ret2
        exact ⟨rfl, by rw [HBw.out]; exact HB4.out⟩
/-- 'Print', whatever the commands. -/
theorem print_any (A : Option Addr) (c : Nat) (l : List Cmd) (w : World) (hG : GP w) (hC : Kd.C kC w A l.length l) :
    Calls Tryd.prog 27 #[.slice A l.length c] w (PrintPost w (printR l)) := by
  cases hv : validB l with
  | false => exact print_invalid A c l w hC hv
  | true =>
    by_cases hne : l = []
    · subst hne; exact print_nil A c w hG hC
    · exact print_some A c l w hG hC hv hne
end Go.Proofs.YtdedlchpjboceaaDoor.Tx
end
