/- Texts of proofs: plain words, and walks through the program's functions. -/
import Derived.Test.YtdedlchpjboceaaDoorM99fb9145
import Derived.WalkLawsBesides
import Derived.Deep.LoopGhost
import Derived.MapKept
import Derived.Maps.Own
import Derived.Defers
import Derived.Recover

section
namespace Go.Proofs.YtdedlchpjboceaaDoor.Px
open Go.RowKit Go.Shelf Go.Proofs.YtdedlchpjboceaaDoor.Lx Go.Proofs.YtdedlchpjboceaaDoorW.PrintWords Go.Proofs.YtdedlchpjboceaaDoorW.PrintLast Go.Proofs.YtdedlchpjboceaaDoorW.PrintMore
attribute [local go_sem] Oper.semAt_some
theorem blk_set {W : World} {R : Nat} {cs : Array Value} {t : TypeId} {f : Nat × Nat} (h : W.heap[R]? = some (.cells cs t f)) (i : Nat) (v : Value) : (W.setCell ⟨R, i, none⟩ v).heap[R]? = some (.cells (cs.setIfInBounds i v) t f) := by
  obtain ⟨hlt, hk⟩ := Array.getElem?_eq_some_iff.1 h
  show (W.heap.modify R _)[R]? = _
  rw [Array.getElem?_eq_getElem (by rw [Array.size_modify]; exact hlt), Array.getElem_modify_self, hk]
  rfl
theorem blk_far {W : World} {R : Nat} {o : Obj} (h : W.heap[R]? = some o) (a : Addr) (v : Value) (hne : R ≠ a.block) : (W.setCell a v).heap[R]? = some o := (Below.heap_setCell W a v R hne).trans h
theorem blk_alloc {W : World} {R : Nat} {o : Obj} (h : W.heap[R]? = some o) (o' : Obj) : (W.alloc o').heap[R]? = some o := (Below.heap_alloc W o' R (blk_lt h)).trans h
theorem blk_frozen {W : World} {R : Nat} {cs : Array Value} {t : TypeId} (h : W.heap[R]? = some (.cells cs t (0, 0))) (i : Nat) : W.frozen? ⟨R, i, none⟩ = false := by
  unfold World.frozen?
  rw [show W.heap[(⟨R, i, none⟩ : Addr).block]? = _ from h]
  simp
/-- The reader's block: the list, the end, the command that is being built. -/
def Rd (W : World) (R : Nat) (vl : Value) (e k : Int) (nm : ByteArray) (vn : Value) (a : Int) : Prop :=
  W.heap[R]? = some (.cells #[vl, .int .i64 e, .int .i64 k, .string nm, vn, .int .i64 a] 64 (0, 0))
/-- What a step of the reader may change: its block; rows of numbers that lie from b on. -/
structure Fr (R b : Nat) (w w' : World) : Prop where
  os : w'.os = w.os
  tape : w'.tape = w.tape
  output : w'.output = w.output
  size : w.heap.size ≤ w'.heap.size
  block : ∀ k, k < w.heap.size → k ≠ R → (k < b ∨ ∀ cs f, w.heap[k]? ≠ some (.cells cs 3 f)) → w'.heap[k]? = w.heap[k]?
theorem Fr.refl (R b : Nat) (w : World) : Fr R b w w := ⟨rfl, rfl, rfl, Nat.le_refl _, fun _ _ _ _ => rfl⟩
theorem Fr.trans {R b : Nat} {w w1 w2 : World} (h : Fr R b w w1) (k : Fr R b w1 w2) : Fr R b w w2 :=
  ⟨k.os.trans h.os, k.tape.trans h.tape, k.output.trans h.output, Nat.le_trans h.size k.size, fun i hi hr hc => (k.block i (Nat.lt_of_lt_of_le hi h.size) hr (by rw [h.block i hi hr hc]; exact hc)).trans (h.block i hi hr hc)⟩
theorem Fr.of_below {R b : Nat} {w w1 : World} (h : Below w.heap.size w w1) : Fr R b w w1 := ⟨h.os, h.tape, h.output, h.size, fun k hk _ _ => h.block k hk⟩
theorem Fr.of_grown {R b : Nat} {w w1 : World} (h : w.grownBy w1 (some R)) : Fr R b w w1 := ⟨h.os, h.tape, h.output, h.size, fun k hk hr _ => h.block k hk (fun e => hr (by injection e))⟩
theorem Fr.alloc {R b : Nat} {w W : World} (h : Fr R b w W) (o : Obj) : Fr R b w (W.alloc o) := h.trans (.of_below ((Below.refl _ _).alloc (Nat.le_refl _) o))
theorem Fr.drew {R b : Nat} {w W : World} (h : Fr R b w W) : Fr R b w W.drew := ⟨h.os, h.tape, h.output, h.size, h.block⟩
theorem Fr.set {R b : Nat} {w W : World} (h : Fr R b w W) (i : Nat) (v : Value) : Fr R b w (W.setCell ⟨R, i, none⟩ v) := by
  refine h.trans ⟨rfl, rfl, rfl, ?_, fun k _ hr _ => Below.heap_setCell _ _ _ _ hr⟩
  show _ ≤ (W.heap.modify _ _).size
  rw [Array.size_modify]; exact Nat.le_refl _
/-- A block of the reader's own kind or of another type than int stays. -/
theorem Fr.kept {R b : Nat} {w W : World} (h : Fr R b w W) {k : Nat} {cs : Array Value} {t : TypeId} {f : Nat × Nat} (hk : w.heap[k]? = some (.cells cs t f)) (hr : k ≠ R) (ht : t ≠ 3 ∨ k < b) : W.heap[k]? = some (.cells cs t f) :=
  (h.block k (blk_lt hk) hr (ht.elim (fun ht => .inr (fun cs' f' e => by rw [hk] at e; injection e with e; injection e with _ e; exact ht e)) .inl)).trans hk
/-- A list of tokens reads the same where its own block is the same. -/
theorem C_same {w W : World} {A : Option Addr} {n : Nat} {l : List Tok} (h : Kd.C kT w A n l) (hs : ∀ ad, A = some ad → 0 < n → W.heap[ad.block]? = w.heap[ad.block]?) : Kd.C kT W A n l := by
  obtain ⟨h1, h2, h3⟩ := h
  refine ⟨h1, h2, fun hp => ?_⟩
  obtain ⟨ad, e, hc⟩ := h3 hp
  refine ⟨ad, e, fun j p hj => ?_⟩
  obtain ⟨cs, hl, hK, hcell⟩ := hc j p hj
  refine ⟨cs, hl, hK, fun i u hu => ?_⟩
  have hb : (ad.add (j * kT.sz + i)).block = ad.block := by unfold Addr.add; split <;> rfl
  exact (World.cell?_of_block (w := w) (by rw [hb]; exact hs ad e hp)).trans (hcell i u hu)
/-- The reader R: the tokens that are left, the end, the command; the command's numbers lie from b on. -/
structure RS (b : Nat) (W : World) (R : Nat) (l : List Tok) (e : Int) (c : Cmd) : Prop where
  lt : R < b
  le : b ≤ W.heap.size
  st : ∃ A cap vn, Rd W R (.slice A l.length cap) e c.f0 c.f1 vn c.f3 ∧ l.length ≤ cap ∧ Kd.C kT W A l.length l ∧ (∀ ad, A = some ad → ad.block < b ∧ ad.block ≠ R ∧ ad.block < R) ∧ (Kd.int .i64).R 3 W b (fun _ => True) vn c.f2
theorem RS.ne_row {b : Nat} {W : World} {R : Nat} {vn : Value} {ns : List Int} (hR : R < b) (h : (Kd.int .i64).R 3 W b (fun _ => True) vn ns) : some R ≠ vn.ownBlock := by
  intro e
  have := own_base h.2.choose_spec.1 R e.symm
  omega
/-- The same reader where what it reads is the same. -/
theorem RS.same {b : Nat} {w W : World} {R : Nat} {l : List Tok} {e : Int} {c : Cmd} (h : RS b w R l e c) (hs : w.heap.size ≤ W.heap.size) (hb : ∀ k, k < w.heap.size → W.heap[k]? = w.heap[k]?) : RS b W R l e c := by
  obtain ⟨h1, h2, A, cap, vn, h3, h4, h5, h6, h7⟩ := h
  refine ⟨h1, Nat.le_trans h2 hs, A, cap, vn, (hb R (blk_lt h3)).trans h3, h4, C_same h5 (fun ad e _ => hb _ (Nat.lt_of_lt_of_le (h6 ad e).1 h2)), h6, Kd.R_step h7 (fun k _ hk => hb k hk)⟩
theorem RS.below {b : Nat} {w W : World} {R : Nat} {l : List Tok} {e : Int} {c : Cmd} (h : RS b w R l e c) (hb : Below w.heap.size w W) : RS b W R l e c := h.same hb.size hb.block
theorem RS.alloc {b : Nat} {W : World} {R : Nat} {l : List Tok} {e : Int} {c : Cmd} (h : RS b W R l e c) (o : Obj) : RS b (W.alloc o) R l e c := h.below ((Below.refl _ _).alloc (Nat.le_refl _) o)
/-- A store into the reader's block that leaves the list and the numbers. -/
theorem RS.change {b : Nat} {w W : World} {R : Nat} {l : List Tok} {e : Int} {c c' : Cmd} (h : RS b w R l e c) (hn : c'.f2 = c.f2) (hs : w.heap.size ≤ W.heap.size) (hb : ∀ k, k < w.heap.size → k ≠ R → W.heap[k]? = w.heap[k]?) (hR : ∀ vl vn, Rd w R vl e c.f0 c.f1 vn c.f3 → Rd W R vl e c'.f0 c'.f1 vn c'.f3) : RS b W R l e c' := by
  obtain ⟨h1, h2, A, cap, vn, h3, h4, h5, h6, h7⟩ := h
  exact ⟨h1, Nat.le_trans h2 hs, A, cap, vn, hR _ _ h3, h4, C_same h5 (fun ad e _ => hb _ (Nat.lt_of_lt_of_le (h6 ad e).1 h2) (h6 ad e).2.1), h6, by rw [hn]; exact Kd.R_mono (Kd.R_step (Kd.R_bound h7) (fun k hk hlt => hb k hlt (fun e => by have := hk.2.1; omega))) (fun _ _ => trivial)⟩
theorem size_set (W : World) (a : Addr) (v : Value) : (W.setCell a v).heap.size = W.heap.size := by show (W.heap.modify _ _).size = _; rw [Array.size_modify]
theorem RS.set_kind {b : Nat} {w : World} {R : Nat} {l : List Tok} {e : Int} {c : Cmd} (h : RS b w R l e c) (k : Int) : RS b (w.setCell ⟨R, 2, none⟩ (.int .i64 k)) R l e { c with f0 := k } :=
  h.change rfl (by rw [size_set]; exact Nat.le_refl _) (fun j _ hj => Below.heap_setCell _ _ _ _ hj) (fun _ _ hR => (blk_set hR 2 _).trans rfl)
theorem RS.set_name {b : Nat} {w : World} {R : Nat} {l : List Tok} {e : Int} {c : Cmd} (h : RS b w R l e c) (s : ByteArray) : RS b (w.setCell ⟨R, 3, none⟩ (.string s)) R l e { c with f1 := s } :=
  h.change rfl (by rw [size_set]; exact Nat.le_refl _) (fun j _ hj => Below.heap_setCell _ _ _ _ hj) (fun _ _ hR => (blk_set hR 3 _).trans rfl)
/-- The reader's cells. -/
theorem RS.cells {b : Nat} {w : World} {R : Nat} {l : List Tok} {e : Int} {c : Cmd} (h : RS b w R l e c) : ∃ A cap vn, (w.cell? ⟨R, 0, none⟩ = some (.slice A l.length cap) ∧ w.cell? ⟨R, 1, none⟩ = some (.int .i64 e) ∧ w.cell? ⟨R, 2, none⟩ = some (.int .i64 c.f0) ∧ w.cell? ⟨R, 3, none⟩ = some (.string c.f1) ∧ w.cell? ⟨R, 4, none⟩ = some vn ∧ w.cell? ⟨R, 5, none⟩ = some (.int .i64 c.f3)) ∧ (∀ i, w.frozen? ⟨R, i, none⟩ = false) := by
  obtain ⟨_, _, A, cap, vn, h3, _⟩ := h
  exact ⟨A, cap, vn, ⟨by rw [blk_cell h3]; rfl, by rw [blk_cell h3]; rfl, by rw [blk_cell h3]; rfl, by rw [blk_cell h3]; rfl, by rw [blk_cell h3]; rfl, by rw [blk_cell h3]; rfl⟩, fun i => blk_frozen h3 i⟩
/-- A number more, appended and stored. -/
theorem RS.push {b : Nat} {w W : World} {R : Nat} {l : List Tok} {e : Int} {c : Cmd} (h : RS b w R l e c) {vn v1 : Value} (hv : w.cell? ⟨R, 4, none⟩ = some vn) (hg : w.grownBy W vn.ownBlock) :
    W.cell? ⟨R, 4, none⟩ = some vn ∧ W.frozen? ⟨R, 4, none⟩ = false ∧ R < W.heap.size ∧ Fr R b w (W.setCell ⟨R, 4, none⟩ v1) ∧ ((Kd.int .i64).R 3 w b (fun _ => True) vn c.f2) ∧
    ∀ ns, (Kd.int .i64).R 3 W b (fun _ => True) v1 ns → RS b (W.setCell ⟨R, 4, none⟩ v1) R l e { c with f2 := ns } := by
  obtain ⟨h1, h2, A, cap, vn', h3, h4, h5, h6, h7⟩ := h
  have he : vn' = vn := by rw [blk_cell h3] at hv; exact Option.some.inj hv
  subst he
  have hne := RS.ne_row h1 h7
  have h3' : Rd W R _ _ _ _ _ _ := (hg.block R (blk_lt h3) hne).trans h3
  have hrow : ∀ k, vn'.ownBlock = some k → b ≤ k ∧ ∃ cells, w.heap[k]? = some (.cells cells 3 (0, 0)) := fun k hk => ⟨own_base h7.2.choose_spec.1 k hk, own_typed h7.2.choose_spec.1 k hk⟩
  have hb : ∀ k, k < b → W.heap[k]? = w.heap[k]? := fun k hk => hg.block k (Nat.lt_of_lt_of_le hk h2) (fun e => by have := (hrow k e.symm).1; omega)
  have hs : w.heap.size ≤ W.heap.size := hg.size
  refine ⟨by rw [blk_cell h3']; rfl, blk_frozen h3' 4, blk_lt h3', ?_, h7, fun ns hns => ?_⟩
  · refine Fr.set ⟨hg.os, hg.tape, hg.output, hs, fun k hk hr hc => hg.block k hk (fun e => ?_)⟩ 4 _
    obtain ⟨hb1, cells, hcl⟩ := hrow k e.symm
    rcases hc with hc | hc
    · omega
    · exact hc _ _ hcl
  · refine ⟨h1, by rw [size_set]; exact Nat.le_trans h2 hs, A, cap, v1, (blk_set h3' 4 _).trans rfl, h4, C_same h5 (fun ad e _ => ?_), h6, ?_⟩
    · rw [Below.heap_setCell _ _ _ _ (h6 ad e).2.1]; exact hb _ (h6 ad e).1
    · exact Kd.R_mono (Kd.R_far (p := ⟨R, 4, none⟩) (Kd.R_bound hns) (fun k hk e => by have := hk.2.1; have : k = R := e; omega) v1) (fun _ _ => trivial)
/-- 'next', at a reader. -/
theorem next_rs {b : Nat} {w : World} {R : Nat} {l : List Tok} {e : Int} {c : Cmd} (h : RS b w R l e c) :
    Calls Tryd.prog 67 #[.pointer (some ⟨R, 0, none⟩)] w fun x w' => x = .returned (.agg #[.int .i64 (nextT l e).f0, .string (nextT l e).f1, .int .i64 (nextT l e).f2, .int .i64 (nextT l e).f3]) ∧ Below w.heap.size w w' := by
  obtain ⟨h1, h2, A, cap, vn, h3, h4, h5, h6, h7⟩ := h
  exact next_any R A cap l e w (by rw [blk_cell h3]; rfl) (by rw [blk_cell h3]; rfl) h5
/-- The reader behind a token. -/
theorem RS.tail {b : Nat} {w W : World} {R : Nat} {t : Tok} {l : List Tok} {e : Int} {c : Cmd} {A : Option Addr} {cap : Nat} {vn : Value} (h1 : R < b) (h2 : b ≤ w.heap.size) (h4 : l.length + 1 ≤ cap) (h5 : Kd.C kT w A (l.length + 1) (t :: l)) (h6 : ∀ ad, A = some ad → ad.block < b ∧ ad.block ≠ R ∧ ad.block < R) (h7 : (Kd.int .i64).R 3 w b (fun _ => True) vn c.f2)
    (hs : w.heap.size ≤ W.heap.size) (hb : ∀ k, k < w.heap.size → k ≠ R → W.heap[k]? = w.heap[k]?) {A' : Option Addr} (hA : A' = if cap = 1 then A else A.map (·.add 4)) (hR : Rd W R (.slice A' l.length (cap - 1)) e c.f0 c.f1 vn c.f3) : RS b W R l e c := by
  have h8 : ∀ ad, A' = some ad → ad.block < b ∧ ad.block ≠ R ∧ ad.block < R := by
    intro ad e
    rw [hA] at e
    split at e
    · exact h6 ad e
    · obtain ⟨ad0, e0, rfl⟩ := Option.map_eq_some_iff.1 e
      have hb : (ad0.add 4).block = ad0.block := rfl
      rw [hb]; exact h6 ad0 e0
  have h9 : Kd.C kT w A' l.length l := by
    have := Kd.C_drop (k := kT) (xs := t :: l) (m := 1) (c := cap) h5 (by simp) (by simpa using h4)
    rw [hA]; exact this
  refine ⟨h1, Nat.le_trans h2 hs, A', cap - 1, vn, hR, by omega, C_same h9 (fun ad e _ => hb _ (Nat.lt_of_lt_of_le (h8 ad e).1 h2) (h8 ad e).2.1), h8, Kd.R_mono (Kd.R_step (Kd.R_bound h7) (fun k hk hlt => hb k hlt (fun e => by have := hk.2.1; omega))) (fun _ _ => trivial)⟩
/-- A failure at an offset, as a panic's chain. -/
def failAt (a : Int) : List PanicEntry := [{ v := .iface 93 (.agg #[.int .i64 a]), recovered := false }]
set_option maxHeartbeats 4000000 in
set_option maxRecDepth 100000 in
theorem need_rs_ok4 {b : Nat} {w : World} {R : Nat} {t : Tok} {l : List Tok} {e : Int} {c : Cmd} (h : RS b w R (t :: l) e c) :
    Calls Tryd.prog 72 #[.pointer (some ⟨R, 0, none⟩), .bool true] w fun x w' => x = .returned (.agg #[.int .i64 t.f0, .string t.f1, .int .i64 t.f2, .int .i64 t.f3]) ∧ RS b w' R l e c ∧ (∀ d, Fr R d w w') ∧ w'.cell? ⟨R, 4, none⟩ = w.cell? ⟨R, 4, none⟩ := by
  have hn : ∀ W, Below w.heap.size w W → Calls Tryd.prog 67 #[.pointer (some ⟨R, 0, none⟩)] W fun x w' => x = .returned (.agg #[.int .i64 t.f0, .string t.f1, .int .i64 t.f2, .int .i64 t.f3]) ∧ Below W.heap.size W w' :=
    fun W hb => next_rs (h.below hb)
  obtain ⟨h1, h2, A, cap, vn, h3, h4, h5, h6, h7⟩ := h
  have H := Lib.hid (And.intro h1 (And.intro h2 (And.intro h3 (And.intro h4 (And.intro h5 (And.intro h6 h7))))))
  have c0 : w.cell? ⟨R, 0, none⟩ = some (.slice A (l.length + 1) cap) := by rw [blk_cell h3]; rfl
  have f0 := blk_frozen h3 0
  have b0 := World.block_lt_of_cell? w _ c0
  have hc : l.length + 1 ≤ cap := h4
  clear h1 h2 h3 h4 h5 h6 h7
  go_enter Tryd.func72, Tryd.ntmps72
  go_wp2_with (go_at_call 67; refine (hn _ (by repeat (first | exact Below.refl _ _ | apply below_alloc | apply pw_below_drewN))).mono ?_; rintro x w' ⟨rfl, hw⟩; have hB : Below w.heap.size w w' := below_then (below_alloc (Below.refl _ _) _) (by simp) hw; have h0' := (hB.cell (p := ⟨R, 0, none⟩) b0).trans c0; have hf' := (hB.frozen (p := ⟨R, 0, none⟩) b0).trans f0; have hs := hB.size; have hRs : R < w'.heap.size := Nat.lt_of_lt_of_le b0 hs; have hc0 : w'.cell? ⟨w.heap.size, 0, none⟩ = some (.int .i64 0) := (hw.cell (p := ⟨w.heap.size, 0, none⟩) (box_lt _ _)).trans (World.cell?_alloc_mark _ _ _ _ _); have hz0 : w'.frozen? ⟨w.heap.size, 0, none⟩ = false := (hw.frozen (p := ⟨w.heap.size, 0, none⟩) (box_lt _ _)).trans (box_frozen _ _ _ _); have hc1 : w'.cell? ⟨w.heap.size, 1, none⟩ = some (.string ⟨#[]⟩) := (hw.cell (p := ⟨w.heap.size, 1, none⟩) (box_lt _ _)).trans (World.cell?_alloc_mark _ _ _ _ _); have hz1 : w'.frozen? ⟨w.heap.size, 1, none⟩ = false := (hw.frozen (p := ⟨w.heap.size, 1, none⟩) (box_lt _ _)).trans (box_frozen _ _ _ _); have hc2 : w'.cell? ⟨w.heap.size, 2, none⟩ = some (.int .i64 0) := (hw.cell (p := ⟨w.heap.size, 2, none⟩) (box_lt _ _)).trans (World.cell?_alloc_mark _ _ _ _ _); have hz2 : w'.frozen? ⟨w.heap.size, 2, none⟩ = false := (hw.frozen (p := ⟨w.heap.size, 2, none⟩) (box_lt _ _)).trans (box_frozen _ _ _ _); have hc3 : w'.cell? ⟨w.heap.size, 3, none⟩ = some (.int .i64 0) := (hw.cell (p := ⟨w.heap.size, 3, none⟩) (box_lt _ _)).trans (World.cell?_alloc_mark _ _ _ _ _); have hz3 : w'.frozen? ⟨w.heap.size, 3, none⟩ = false := (hw.frozen (p := ⟨w.heap.size, 3, none⟩) (box_lt _ _)).trans (box_frozen _ _ _ _); have hb5 : w.heap.size < w'.heap.size := Nat.lt_of_lt_of_le (by simp) hw.size)
  all_goals
    obtain ⟨h1, h2, h3, h4, h5, h6, h7⟩ := H.out
    have hRw : R ≠ w.heap.size := Nat.ne_of_lt b0
    have nb : ∀ j, (⟨R, 0, none⟩ : Addr) ≠ ⟨w.heap.size, j, none⟩ := fun j e => hRw (by injection e)
    have hk : ∀ k (v : Value), k < w.heap.size → k ≠ R → (((((w'.setCell ⟨R, 0, none⟩ v).setCell ⟨w.heap.size, 0, none⟩ (.int .i64 t.f0)).setCell ⟨w.heap.size, 1, none⟩ (.string t.f1)).setCell ⟨w.heap.size, 2, none⟩ (.int .i64 t.f2)).setCell ⟨w.heap.size, 3, none⟩ (.int .i64 t.f3)).heap[k]? = w.heap[k]? := fun k v hk hr => by
      rw [Below.heap_setCell _ _ _ _ (Nat.ne_of_lt hk), Below.heap_setCell _ _ _ _ (Nat.ne_of_lt hk), Below.heap_setCell _ _ _ _ (Nat.ne_of_lt hk), Below.heap_setCell _ _ _ _ (Nat.ne_of_lt hk), Below.heap_setCell _ _ _ _ hr]
      exact hB.block k hk
    have hR1 := blk_below h3 hB
    generalize hX : World.alloc _ (Obj.cells #[.int .i64 t.f0, .string t.f1, .int .i64 t.f2, .int .i64 t.f3] 45) = X
    obtain ⟨r0, r1, r2, r3⟩ := four_cells _ w.heap.size _ _ _ _ _ (.int .i64 0) (.string ⟨#[]⟩) (.int .i64 0) (.int .i64 0) (by exact (World.cell?_setCell_other _ _ _ _ (nb 0)).trans hc0) (by exact (World.cell?_setCell_other _ _ _ _ (nb 1)).trans hc1) (by exact (World.cell?_setCell_other _ _ _ _ (nb 2)).trans hc2) (by exact (World.cell?_setCell_other _ _ _ _ (nb 3)).trans hc3) X hX.symm
    have hsz : w.heap.size ≤ X.heap.size := by rw [← hX]; simp [World.setCell]; omega
    have hRd : ∃ A', A' = (if cap = 1 then A else A.map (·.add 4)) ∧ Rd X R (.slice A' l.length (cap - 1)) e c.f0 c.f1 vn c.f3 := by
      refine Exists.intro ?_ (And.intro ?_ ?_)
      rotate_left 2
      focus
        rw [← hX]
        first | rw [show cap - 1 = 0 from by omega] | skip
        unfold Rd
        refine (blk_alloc (blk_far (blk_far (blk_far (blk_far (blk_set hR1 0 _) ⟨w.heap.size, 0, none⟩ _ hRw) ⟨w.heap.size, 1, none⟩ _ hRw) ⟨w.heap.size, 2, none⟩ _ hRw) ⟨w.heap.size, 3, none⟩ _ hRw) _).trans ?_
        rfl
      first | exact (if_pos (by assumption : cap = 1)).symm | exact (if_neg (by assumption : ¬cap = 1)).symm
    obtain ⟨A', hA', hRd⟩ := hRd
    have c4 : w.cell? ⟨R, 4, none⟩ = some vn := by rw [blk_cell h3]; rfl
    have c4' : X.cell? ⟨R, 4, none⟩ = some vn := by rw [blk_cell hRd]; rfl
    refine bodyPost_ret (v := .agg #[.int .i64 t.f0, .string t.f1, .int .i64 t.f2, .int .i64 t.f3]) (by simp [results, Tryd.results72, go_sem, r0, r1, r2, r3]) rfl ⟨rfl, ?_, ?_, c4'.trans c4.symm⟩
    · exact RS.tail h1 h2 h4 h5 h6 h7 hsz (fun k hk1 hk2 => by rw [← hX, Below.heap_alloc _ _ _ (by simp [World.setCell]; omega)]; exact hk k _ hk1 hk2) hA' hRd
    · rw [← hX]
      intro d
      exact Fr.of_grown (grown_alloc (grown_set (grown_set (grown_set (grown_set (grown_set (grown_of_below hB (some R)) _ _ (.inl rfl)) _ _ (.inr (Nat.le_refl _))) _ _ (.inr (Nat.le_refl _))) _ _ (.inr (Nat.le_refl _))) _ _ (.inr (Nat.le_refl _))) _)
/-- .. without the word on the numbers' cell. -/
theorem need_rs_ok {b : Nat} {w : World} {R : Nat} {t : Tok} {l : List Tok} {e : Int} {c : Cmd} (h : RS b w R (t :: l) e c) :
    Calls Tryd.prog 72 #[.pointer (some ⟨R, 0, none⟩), .bool true] w fun x w' => x = .returned (.agg #[.int .i64 t.f0, .string t.f1, .int .i64 t.f2, .int .i64 t.f3]) ∧ RS b w' R l e c ∧ (∀ d, Fr R d w w') :=
  (need_rs_ok4 h).mono (fun _ _ h => ⟨h.1, h.2.1, h.2.2.1⟩)
set_option maxHeartbeats 4000000 in
set_option maxRecDepth 100000 in
theorem need_rs_no {b : Nat} {w : World} {R : Nat} {l : List Tok} {e : Int} {c : Cmd} (h : RS b w R l e c) :
    Calls Tryd.prog 72 #[.pointer (some ⟨R, 0, none⟩), .bool false] w fun x w' => x = .panicked (failAt (nextT l e).f3) ∧ RS b w' R l e c ∧ (∀ d, Fr R d w w') := by
  obtain ⟨t, ht⟩ : ∃ t, nextT l e = t := ⟨_, rfl⟩
  have hn : ∀ W, Below w.heap.size w W → Calls Tryd.prog 67 #[.pointer (some ⟨R, 0, none⟩)] W fun x w' => x = .returned (.agg #[.int .i64 t.f0, .string t.f1, .int .i64 t.f2, .int .i64 t.f3]) ∧ Below W.heap.size W w' :=
    fun W hb => by have := next_rs (h.below hb); rwa [ht] at this
  have H := Lib.hid h
  rw [ht]
  clear h ht
  go_enter Tryd.func72, Tryd.ntmps72
  go_wp2_with (go_at_call 67; refine (hn _ (by repeat (first | exact Below.refl _ _ | apply below_alloc | apply pw_below_drewN))).mono ?_; rintro x w' ⟨rfl, hw⟩; have hB : Below w.heap.size w w' := below_then (below_alloc (Below.refl _ _) _) (by simp) hw)
  exact ⟨rfl, rfl, H.out.below (below_alloc hB _), fun d => Fr.of_below (below_alloc hB _)⟩
end Go.Proofs.YtdedlchpjboceaaDoor.Px
end

section
namespace Go.Proofs.YtdedlchpjboceaaDoor.Px
open Go.RowKit Go.Shelf Go.Proofs.YtdedlchpjboceaaDoor.Lx Go.Proofs.YtdedlchpjboceaaDoorW.PrintWords Go.Proofs.YtdedlchpjboceaaDoorW.PrintLast Go.Proofs.YtdedlchpjboceaaDoorW.PrintMore
attribute [local go_sem] Oper.semAt_some
/-- What a step of the reader comes to: the tokens that are left and the command; or the offset of an error, and the tokens that are left. -/
abbrev Res := Except (Int × List Tok) (List Tok × Cmd)
inductive It where
  | W (s : ByteArray)
  | Nm
  | Num
  | Dr
def slowT : ByteArray := ⟨#[115, 108, 111, 119]⟩
def fastT : ByteArray := ⟨#[102, 97, 115, 116]⟩
def stepIt (e : Int) : It → List Tok → Cmd → Res
  | .W s, l, c => if (nextT l e).f1 = s then .ok (l.tail, c) else .error ((nextT l e).f3, l)
  | .Nm, l, c => if (nextT l e).f0 = 1 ∧ nameB (nextT l e).f1.data.toList = true then .ok (l.tail, { c with f1 := (nextT l e).f1 }) else .error ((nextT l e).f3, l)
  | .Num, l, c => if (nextT l e).f0 = 2 then .ok (l.tail, { c with f2 := c.f2 ++ [(nextT l e).f2] }) else .error ((nextT l e).f3, l)
  | .Dr, l, c => if (nextT l e).f1 = slowT ∨ (nextT l e).f1 = fastT then
      (if (nextT l.tail e).f0 = 2 then .ok (l.tail.tail, { c with f2 := c.f2 ++ [if (nextT l e).f1 = slowT then IntKind.i64.wrap (-(nextT l.tail e).f2) else (nextT l.tail e).f2] }) else .error ((nextT l.tail e).f3, l.tail))
    else .error ((nextT l e).f3, l)
def runIt (e : Int) : List It → List Tok → Cmd → Res
  | [], l, c => .ok (l, c)
  | i :: is, l, c => match stepIt e i l c with
    | .ok (l', c') => runIt e is l' c'
    | .error x => .error x
theorem runIt_append (e : Int) (a b : List It) (l : List Tok) (c : Cmd) : runIt e (a ++ b) l c = match runIt e a l c with | .ok (l', c') => runIt e b l' c' | .error x => .error x := by
  induction a generalizing l c with
  | nil => rfl
  | cons i is ih =>
    simp only [List.cons_append, runIt]
    cases stepIt e i l c with
    | error x => rfl
    | ok y => exact ih y.1 y.2
/-- What a call of the reader's answers. -/
def PostR (b R : Nat) (e : Int) (w : World) (r : Res) (x : Ending) (w' : World) : Prop :=
  Fr R b w w' ∧ match r with
    | .ok y => x = .returned (.tuple #[]) ∧ RS b w' R y.1 e y.2
    | .error y => x = .panicked (failAt y.1) ∧ ∃ c, RS b w' R y.2 e c
theorem fieldT0 (a c d : Int) (s : ByteArray) (W : World) : (Instr.field 45 (.agg #[.int .i64 a, .string s, .int .i64 c, .int .i64 d]) 0).run Tryd.prog W = .ok (.int .i64 a) W := by kernel_rfl
theorem fieldT1 (a c d : Int) (s : ByteArray) (W : World) : (Instr.field 45 (.agg #[.int .i64 a, .string s, .int .i64 c, .int .i64 d]) 1).run Tryd.prog W = .ok (.string s) W := by kernel_rfl
theorem fieldT2 (a c d : Int) (s : ByteArray) (W : World) : (Instr.field 45 (.agg #[.int .i64 a, .string s, .int .i64 c, .int .i64 d]) 2).run Tryd.prog W = .ok (.int .i64 c) W := by kernel_rfl
theorem fieldT3 (a c d : Int) (s : ByteArray) (W : World) : (Instr.field 45 (.agg #[.int .i64 a, .string s, .int .i64 c, .int .i64 d]) 3).run Tryd.prog W = .ok (.int .i64 d) W := by kernel_rfl
/-- .. where no row of numbers has changed. -/
def PostS (b R : Nat) (e : Int) (w : World) (r : Res) (x : Ending) (w' : World) : Prop :=
  (∀ d, Fr R d w w') ∧ match r with
    | .ok y => x = .returned (.tuple #[]) ∧ RS b w' R y.1 e y.2
    | .error y => x = .panicked (failAt y.1) ∧ ∃ c, RS b w' R y.2 e c
theorem PostS.post {b R : Nat} {e : Int} {w : World} {r : Res} {x : Ending} {w' : World} (h : PostS b R e w r x w') : PostR b R e w r x w' := ⟨h.1 b, h.2⟩
theorem nextT_cons {l : List Tok} {e : Int} (h : (nextT l e).f1 ≠ ⟨#[]⟩) : ∃ t l', l = t :: l' := by
  cases l with
  | nil => exact absurd rfl h
  | cons t l' => exact ⟨t, l', rfl⟩
theorem nextT_kind {l : List Tok} {e : Int} (h : (nextT l e).f0 ≠ 0) : ∃ t l', l = t :: l' := by
  cases l with
  | nil => exact absurd rfl h
  | cons t l' => exact ⟨t, l', rfl⟩
theorem eq_toList (a b : ByteArray) : (a.toList == b.toList) = decide (a = b) := by
  rw [ByteArray.toList_eq, ByteArray.toList_eq, Bool.eq_iff_iff, beq_iff_eq, decide_eq_true_eq]
  exact ⟨fun h => by cases a; cases b; simp at h; rw [h], fun h => by rw [h]⟩
set_option maxHeartbeats 4000000 in
set_option maxRecDepth 100000 in
theorem word_rsS {b : Nat} {w : World} {R : Nat} {l : List Tok} {e : Int} {c : Cmd} (s : ByteArray) (hs : s ≠ ⟨#[]⟩) (h : RS b w R l e c) :
    Calls Tryd.prog 69 #[.pointer (some ⟨R, 0, none⟩), .string s] w (PostS b R e w (stepIt e (.W s) l c)) := by
  have hn := next_rs h
  have hf1 := fieldT1
  obtain ⟨n, hN⟩ : ∃ n, nextT l e = n := ⟨_, rfl⟩
  rw [hN] at hn
  cases hb : (n.f1.toList == s.toList) with
  | true =>
    have hq : n.f1 = s := by rw [eq_toList, decide_eq_true_eq] at hb; exact hb
    have hr : stepIt e (.W s) l c = .ok (l.tail, c) := if_pos (by rw [hN]; exact hq)
    rw [hr]
    obtain ⟨t, l', rfl⟩ := nextT_cons (l := l) (e := e) (by rw [hN, hq]; exact hs)
    have hd := fun W (hb : Below w.heap.size w W) => need_rs_ok (h.below hb)
    clear hr hq hN h hs
    go_enter Tryd.func69, Tryd.ntmps69
    go_wp2_with fail
    refine hn.mono ?_
    rintro x w1 ⟨rfl, hw⟩
    go_wp2_with fail
    refine (hd _ hw).mono ?_
    rintro x w2 ⟨rfl, hS, hF⟩
    go_wp2
    exact bodyPost_ret (v := .tuple #[]) (by simp [results, Tryd.results69, go_sem]) rfl ⟨fun d => (Fr.of_below hw).trans (hF d), rfl, hS⟩
  | false =>
    have hq : ¬ n.f1 = s := by rw [eq_toList, decide_eq_false_iff_not] at hb; exact hb
    have hr : stepIt e (.W s) l c = .error (n.f3, l) := by rw [← hN]; exact if_neg (by rw [hN]; exact hq)
    rw [hr]
    have hd := fun W (hb : Below w.heap.size w W) => need_rs_no (h.below hb)
    rw [hN] at hd
    clear hr hq hN h hs
    go_enter Tryd.func69, Tryd.ntmps69
    go_wp2_with fail
    refine hn.mono ?_
    rintro x w1 ⟨rfl, hw⟩
    go_wp2_with fail
    refine (hd _ hw).mono ?_
    rintro x w2 ⟨rfl, hS, hF⟩
    exact ⟨rfl, fun d => (Fr.of_below hw).trans (hF d), rfl, _, hS⟩
set_option maxHeartbeats 4000000 in
set_option maxRecDepth 100000 in
theorem name_rsS {b : Nat} {w : World} {R : Nat} {l : List Tok} {e : Int} {c : Cmd} (h : RS b w R l e c) :
    Calls Tryd.prog 97 #[.pointer (some ⟨R, 0, none⟩)] w (PostS b R e w (stepIt e .Nm l c)) := by
  have hn := next_rs h
  have hf1 := fieldT1
  obtain ⟨n, hN⟩ : ∃ n, nextT l e = n := ⟨_, rfl⟩
  rw [hN] at hn
  have hq := fun W => isName_any n.f1 W
  have hfail : ¬ (n.f0 = 1 ∧ nameB n.f1.data.toList = true) → stepIt e .Nm l c = .error (n.f3, l) := fun hne => by rw [← hN]; exact if_neg (by rw [hN]; exact hne)
  have hdn := fun W (hb : Below w.heap.size w W) => need_rs_no (h.below hb)
  rw [hN] at hdn
  by_cases h1 : n.f0 = 1
  · cases h2 : nameB n.f1.data.toList with
    | true =>
      have hr : stepIt e .Nm l c = .ok (l.tail, { c with f1 := n.f1 }) := by rw [← hN]; exact if_pos (by rw [hN]; exact ⟨h1, h2⟩)
      rw [hr]
      rw [h2] at hq
      obtain ⟨t, l', rfl⟩ := nextT_kind (l := l) (e := e) (by rw [hN, h1]; decide)
      have htn : t = n := hN
      have hd := fun W (hb : Below w.heap.size w W) => need_rs_ok (h.below hb)
      rw [htn] at hd
      have hk : ((n.f0 : Int) == 1) = true := by rw [h1]; rfl
      clear hr hfail hdn htn hN h h1 h2
      go_enter Tryd.func97, Tryd.ntmps97
      go_wp2_with fail
      refine hn.mono ?_
      rintro x w1 ⟨rfl, hw⟩
      go_wp2_with fail
      refine (hq _).mono ?_
      rintro x w2 ⟨rfl, hw2⟩
      go_wp2_with fail
      have hB : Below w.heap.size w w2 := below_then (below_alloc hw _) (by have := hw.size; simp; omega) hw2
      refine (hd _ hB).mono ?_
      rintro x w3 ⟨rfl, hS, hF⟩
      obtain ⟨A, cap, vn, ⟨c0, c1, c2, c3, c4, c5⟩, hf⟩ := hS.cells
      have f3 := hf 3
      have HS := Lib.hid hS
      clear hS hf c0 c1 c2 c4 c5
      go_wp2
      exact bodyPost_ret (v := .tuple #[]) (by simp [results, Tryd.results97, go_sem]) rfl ⟨fun d => ((Fr.of_below hB).trans (hF d)).set _ _, rfl, HS.out.set_name _⟩
    | false =>
      rw [hfail (by rw [h2]; simp)]
      rw [h2] at hq
      have hk : ((n.f0 : Int) == 1) = true := by rw [h1]; rfl
      clear hfail hN h h1 h2
      go_enter Tryd.func97, Tryd.ntmps97
      go_wp2_with fail
      refine hn.mono ?_
      rintro x w1 ⟨rfl, hw⟩
      go_wp2_with fail
      refine (hq _).mono ?_
      rintro x w2 ⟨rfl, hw2⟩
      go_wp2_with fail
      have hB : Below w.heap.size w w2 := below_then (below_alloc hw _) (by have := hw.size; simp; omega) hw2
      refine (hdn _ hB).mono ?_
      rintro x w3 ⟨rfl, hS, hF⟩
      exact ⟨rfl, fun d => (Fr.of_below hB).trans (hF d), rfl, _, hS⟩
  · rw [hfail (fun hh => h1 hh.1)]
    have hk : ((n.f0 : Int) == 1) = false := by simpa using h1
    clear hfail hN h h1 hq
    go_enter Tryd.func97, Tryd.ntmps97
    go_wp2_with fail
    refine hn.mono ?_
    rintro x w1 ⟨rfl, hw⟩
    go_wp2_with fail
    refine (hdn _ (below_alloc hw _)).mono ?_
    rintro x w3 ⟨rfl, hS, hF⟩
    exact ⟨rfl, fun d => (Fr.of_below (below_alloc hw _)).trans (hF d), rfl, _, hS⟩
theorem word_rs {b : Nat} {w : World} {R : Nat} {l : List Tok} {e : Int} {c : Cmd} (s : ByteArray) (hs : s ≠ ⟨#[]⟩) (h : RS b w R l e c) :
    Calls Tryd.prog 69 #[.pointer (some ⟨R, 0, none⟩), .string s] w (PostR b R e w (stepIt e (.W s) l c)) := (word_rsS s hs h).mono (fun _ _ h => h.post)
theorem name_rs {b : Nat} {w : World} {R : Nat} {l : List Tok} {e : Int} {c : Cmd} (h : RS b w R l e c) :
    Calls Tryd.prog 97 #[.pointer (some ⟨R, 0, none⟩)] w (PostR b R e w (stepIt e .Nm l c)) := (name_rsS h).mono (fun _ _ h => h.post)
end Go.Proofs.YtdedlchpjboceaaDoor.Px
end

section
namespace Go.Proofs.YtdedlchpjboceaaDoor.Px
open Go.RowKit Go.Shelf Go.Proofs.YtdedlchpjboceaaDoor.Lx Go.Proofs.YtdedlchpjboceaaDoorW.PrintWords Go.Proofs.YtdedlchpjboceaaDoorW.PrintLast Go.Proofs.YtdedlchpjboceaaDoorW.PrintMore
attribute [local go_sem] Oper.semAt_some
section
variable {P : Program} {ops : Array Oper} {Q : Exit → Act → World → Prop}
/-- A call of a Go function in a region, by a contract that lets it panic. -/
theorem goesP_ {oi : Oper} {N : Option Tmp} {a : Act} {w : World} {K : Act → World → Prop} {f : FuncId} {fn : Func} {xs : Array Operand} {ts : Array TypeId} (hf : P.funcs[f]? = some fn) (hname : (fn.name == "runtime.NumGoroutine") = false) (hb : fn.body.isSome = true) (args : Array Value)
    (hw : Region.wanted oi (yielded ops a.tmps) = true) (hN : oi.dst = N) (hop : oi.op = .call { callee := .value (.func f), args := xs, argTypes := ts }) (hargs : xs.map a.eval = args)
    (h : Calls P f args w fun e w' => (∃ v, e = .returned v ∧ K (a.put N v) w') ∨ (∃ ch, e = .panicked ch ∧ Q (.panic ch) a w')) : if Region.wanted oi (yielded ops a.tmps) = true then Oper.wp P oi a w K Q else K (a.put N undef) w := by
  rw [if_pos hw]
  have he := enters_ hf hname hb args w
  have hrun : (execOp a.eval oi).run P w = .ok (.enter f args) w := by
    unfold execOp
    simp [hop, resolve, Deferred.ofValue, invoke, Act.eval, hargs, he]
  unfold Oper.wp
  rw [hrun, Oper.upon_enter]
  refine h.mono fun e w'' hh => ?_
  rcases hh with ⟨v, rfl, hk⟩ | ⟨ch, rfl, hk⟩
  · subst hN; exact hk
  · exact hk
end
theorem RS.drew {b : Nat} {w : World} {R : Nat} {l : List Tok} {e : Int} {c : Cmd} (h : RS b w R l e c) : RS b w.drew R l e c := h.same (Nat.le_refl _) (fun _ _ => rfl)
/-- Some numbers. -/
abbrev nums_ (k : Nat) : List It := List.replicate k It.Num
theorem infoInt : (Tryd.prog.info? 3).map (fun i => (i.zero, i.size, i.bytes)) = some (some (.int .i64 0), 1, 8) := by kernel_rfl
set_option maxHeartbeats 8000000 in
set_option maxRecDepth 100000 in
theorem numbers_rs {b : Nat} {w : World} {R : Nat} {l : List Tok} {e : Int} {c : Cmd} (m : Nat) (hm : c.f2.length + m ≤ 1000) (h : RS b w R l e c) :
    Calls Tryd.prog 70 #[.pointer (some ⟨R, 0, none⟩), .int .i64 (m : Nat)] w (PostR b R e w (runIt e (nums_ m) l c)) := by
  have H := Lib.hid h
  have hf0 := fieldT0
  have hf2 := fieldT2
  clear h
  go_enter Tryd.func70, Tryd.ntmps70
  go_wp2
  go_loopg [5] m (fun g v w' => ∃ (k : Nat) (l' : List Tok) (c' : Cmd), k + g = m ∧ v = .int .i64 k ∧ Hid (runIt e (nums_ g) l' c' = runIt e (nums_ m) l c) ∧ c'.f2.length + g ≤ 1000 ∧ Hid (RS b w' R l' e c') ∧ Hid (Fr R b w w'))
  case atStart => exact ⟨0, l, c, by omega, rfl, Lib.hid rfl, hm, H, Lib.hid (Fr.refl _ _ _)⟩
  case round =>
    obtain ⟨k, l', c', hk, rfl, hH, hn1, HS, HF⟩ := hrel
    by_cases hlt : k < m
    · obtain ⟨g, rfl⟩ : ∃ g, gk = g + 1 := ⟨gk - 1, by omega⟩
      have hS := HS.out
      obtain ⟨A, cap, vn, ⟨c0, c1, c2, c3, c4, c5⟩, hf⟩ := hS.cells
      clear HS c0 c1 c2 c3 c5 hf
      cases hk2 : ((nextT l' e).f0 == 2) with
      | true =>
        have hkk : (nextT l' e).f0 = 2 := by simpa using hk2
        obtain ⟨t, l'', rfl⟩ := nextT_kind (l := l') (e := e) (by rw [hkk]; decide)
        have hst : runIt e (nums_ m) l c = runIt e (nums_ g) l'' { c' with f2 := c'.f2 ++ [t.f2] } := by
          rw [← hH.out]
          show (match stepIt e .Num (t :: l'') c' with | .ok (l2, c2) => runIt e (nums_ g) l2 c2 | .error x => .error x) = _
          have : stepIt e .Num (t :: l'') c' = .ok (l'', { c' with f2 := c'.f2 ++ [t.f2] }) := if_pos hkk
          rw [this]
        have HST := Lib.hid hst
        clear hst hH hkk
        go_wp2
        refine start_ (n := 19) (S := fun W => W.cell? ⟨R, 4, none⟩ = some vn) (ds := [18]) #[false, false, false, false, false, false, false, false, false, false, false, false, false, false, false, false, false, false, false] (by kernel_rfl) rfl rfl (c4) (fun hHeld => ?_)
        have HD := Lib.hid hS.drew
        have HFd := Lib.hid HF.out.drew
        clear hS
        generalize wr.drew = wd at HD HFd hHeld ⊢
        refine pure_ (i := 0) (N := some 7) (v := ?_) (a' := ?_) #[true, false, false, false, false, false, false, false, false, false, false, false, false, false, false, false, false, false, false] rfl rfl (by kernel_rfl) (fun _ _ _ h => h) (Or.inl ⟨by rfl, ?_⟩) ?_ ?_
        rotate_left
        · intro w'
          go_simp
          with_reducible rfl
        rotate_left
        · simp only [Act.put, List.setIfInBounds_toArray, List.set_cons_zero, List.set_cons_succ]
          rfl
        refine pure_ (i := 1) (N := some 8) (v := ?_) (a' := ?_) #[true, true, false, false, false, false, false, false, false, false, false, false, false, false, false, false, false, false, false] rfl rfl (by kernel_rfl) (fun _ _ _ h => h) (Or.inl ⟨by rfl, ?_⟩) ?_ ?_
        rotate_left
        · intro w'
          go_simp
          with_reducible rfl
        rotate_left
        · simp only [Act.put, List.setIfInBounds_toArray, List.set_cons_zero, List.set_cons_succ]
          rfl
        refine pure_ (i := 2) (N := some 9) (v := ?_) (a' := ?_) #[true, true, true, false, false, false, false, false, false, false, false, false, false, false, false, false, false, false, false] rfl rfl (by kernel_rfl) (fun _ _ _ h => h) (Or.inl ⟨by rfl, ?_⟩) ?_ ?_
        rotate_left
        · intro w'
          go_simp
          with_reducible rfl
        rotate_left
        · simp only [Act.put, List.setIfInBounds_toArray, List.set_cons_zero, List.set_cons_succ]
          rfl
        refine pure_ (i := 3) (N := some 10) (v := ?_) (a' := ?_) #[true, true, true, true, false, false, false, false, false, false, false, false, false, false, false, false, false, false, false] rfl rfl (by kernel_rfl) (fun _ _ _ h => h) (Or.inl ⟨by rfl, ?_⟩) ?_ ?_
        rotate_left
        · intro w'
          go_simp
          with_reducible rfl
        rotate_left
        · simp only [Act.put, List.setIfInBounds_toArray, List.set_cons_zero, List.set_cons_succ]
          rfl
        refine pure_ (i := 4) (N := some 11) (v := ?_) (a' := ?_) #[true, true, true, true, true, false, false, false, false, false, false, false, false, false, false, false, false, false, false] rfl rfl (by kernel_rfl) (fun _ _ _ h => h) (Or.inl ⟨by rfl, ?_⟩) ?_ ?_
        rotate_left
        · intro w'
          go_simp
          with_reducible rfl
        rotate_left
        · simp only [Act.put, List.setIfInBounds_toArray, List.set_cons_zero, List.set_cons_succ]
          rfl
        refine take_ (i := 5) (N := some 12) (v := ?_) (a' := ?_) #[true, true, true, true, true, true, false, false, false, false, false, false, false, false, false, false, false, false, false] rfl rfl (by kernel_rfl) (fun _ _ _ h => h) (Or.inl ⟨by rfl, ?_⟩) hHeld ?_ ?_
        rotate_left
        · intro w' hSw
          (try dsimp only at hSw)
          go_simp
          with_reducible rfl
        rotate_left
        · simp only [Act.put, List.setIfInBounds_toArray, List.set_cons_zero, List.set_cons_succ]
          rfl
        refine pure_ (i := 6) (N := some 13) (v := ?_) (a' := ?_) #[true, true, true, true, true, true, true, false, false, false, false, false, false, false, false, false, false, false, false] rfl rfl (by kernel_rfl) (fun _ _ _ h => h) (Or.inl ⟨by rfl, ?_⟩) ?_ ?_
        rotate_left
        · intro w'
          go_simp
          with_reducible rfl
        rotate_left
        · simp only [Act.put, List.setIfInBounds_toArray, List.set_cons_zero, List.set_cons_succ]
          rfl
        refine pure_ (i := 7) (N := some 14) (v := ?_) (a' := ?_) #[true, true, true, true, true, true, true, true, false, false, false, false, false, false, false, false, false, false, false] rfl rfl (by kernel_rfl) (fun _ _ _ h => h) (Or.inl ⟨by rfl, ?_⟩) ?_ ?_
        rotate_left
        · intro w'
          go_simp
          with_reducible rfl
        rotate_left
        · simp only [Act.put, List.setIfInBounds_toArray, List.set_cons_zero, List.set_cons_succ]
          rfl
        refine one_ (i := 8) (N := some 15) #[true, true, true, true, true, true, true, true, true, false, false, false, false, false, false, false, false, false, false] rfl rfl (by kernel_rfl) (by decide) (fun K hK => ?_)
        refine goes_ Tryd.func67 (by kernel_rfl) rfl #[.pointer (some ⟨R, 0, none⟩)] (by rfl) rfl rfl (by (try simp only [List.map_toArray, List.map_cons, List.map_nil]); first | done | rfl) ?_
        refine (next_rs HD.out).mono ?_
        rintro x w1 ⟨rfl, hw⟩
        refine ⟨_, rfl, ?_⟩
        have HD1 := Lib.hid (HD.out.below hw)
        have HF1 := Lib.hid (HFd.out.trans (.of_below hw))
        have hH1 := (hw.cell (p := ⟨R, 4, none⟩) (World.block_lt_of_cell? _ _ hHeld)).trans hHeld
        refine hK.out _ _ hH1 (fun hHeld => ?_)
        clear hK K HD HFd hw hH1
        refine norm_ (a' := ?_) ?_ ?_
        rotate_left
        · show Act.put _ (some 15) _ = _
          simp only [Act.put, List.setIfInBounds_toArray, List.set_cons_zero, List.set_cons_succ]
          rfl
        refine pure_ (i := 9) (N := some 16) (v := ?_) (a' := ?_) #[true, true, true, true, true, true, true, true, true, true, false, false, false, false, false, false, false, false, false] rfl rfl (by kernel_rfl) (fun _ _ _ h => h) (Or.inl ⟨by rfl, ?_⟩) ?_ ?_
        rotate_left
        · intro w'
          go_simp
          with_reducible rfl
        rotate_left
        · simp only [Act.put, List.setIfInBounds_toArray, List.set_cons_zero, List.set_cons_succ]
          rfl
        refine pure_ (i := 10) (N := some 17) (v := ?_) (a' := ?_) #[true, true, true, true, true, true, true, true, true, true, true, false, false, false, false, false, false, false, false] rfl rfl (by kernel_rfl) (fun _ _ _ h => h) (Or.inl ⟨by rfl, ?_⟩) ?_ ?_
        rotate_left
        · intro w'
          go_simp
          with_reducible rfl
        rotate_left
        · simp only [Act.put, List.setIfInBounds_toArray, List.set_cons_zero, List.set_cons_succ]
          rfl
        refine one_ (i := 11) (N := some 18) #[true, true, true, true, true, true, true, true, true, true, true, true, false, false, false, false, false, false, false] rfl rfl (by kernel_rfl) (by decide) (fun K hK => ?_)
        refine goesP_ Tryd.func72 (by kernel_rfl) rfl #[.pointer (some ⟨R, 0, none⟩), .bool true] (by rfl) rfl rfl (by (try simp only [List.map_toArray, List.map_cons, List.map_nil]); first | done | rfl | (simp [Act.eval, hk2]; done)) ?_
        refine (need_rs_ok4 HD1.out).mono ?_
        rintro x w2 ⟨rfl, hS2, hF2, h4⟩
        refine .inl ⟨_, rfl, ?_⟩
        have HD2 := Lib.hid hS2
        have HF2 := Lib.hid (HF1.out.trans (hF2 _))
        have hH2 : w2.cell? ⟨R, 4, none⟩ = some vn := h4.trans hHeld
        refine hK.out _ _ hH2 (fun hHeld => ?_)
        clear hK K HD1 HF1 hS2 hF2 h4 hH2
        refine norm_ (a' := ?_) ?_ ?_
        rotate_left
        · show Act.put _ (some 18) _ = _
          simp only [Act.put, List.setIfInBounds_toArray, List.set_cons_zero, List.set_cons_succ]
          rfl
        refine pure_ (i := 12) (N := some 19) (v := ?_) (a' := ?_) #[true, true, true, true, true, true, true, true, true, true, true, true, true, false, false, false, false, false, false] rfl rfl (by kernel_rfl) (fun _ _ _ h => h) (Or.inl ⟨by rfl, ?_⟩) ?_ ?_
        rotate_left
        · intro w'
          go_simp
          with_reducible rfl
        rotate_left
        · simp only [Act.put, List.setIfInBounds_toArray, List.set_cons_zero, List.set_cons_succ]
          rfl
        refine one_ (i := 13) (N := some 20) #[true, true, true, true, true, true, true, true, true, true, true, true, true, true, false, false, false, false, false] rfl rfl (by kernel_rfl) (by decide) (fun K hK => ?_)
        refine value_ (w1 := ?_) (v := ?_) (by rfl) rfl ?_ ?_
        rotate_left 2
        · go_simp
          constructor
          · rfl
          · rfl
        refine hK.out _ _ ((World.cell?_alloc_lt _ _ _ (World.block_lt_of_cell? _ _ hHeld)).trans hHeld) (fun _ => ?_)
        clear hK K
        refine norm_ (a' := ?_) ?_ ?_
        rotate_left
        · show Act.put _ (some 20) _ = _
          simp only [Act.put, List.setIfInBounds_toArray, List.set_cons_zero, List.set_cons_succ]
          rfl
        refine one_ (i := 14) (N := some 21) #[true, true, true, true, true, true, true, true, true, true, true, true, true, true, true, false, false, false, false] rfl rfl (by kernel_rfl) (by decide) (fun K hK => ?_)
        refine Kd.R_append_step (Kd.int .i64) (w0 := w2) b (by rfl) (.tmp 12) (.tmp 20) 38 3 (.int .i64 0) 8 rfl Tryd.underlying38 infoInt rfl (by decide) (by decide) vn c'.f2 t.f2 [.int .i64 t.f2] (fun _ => True) (fun _ => False) rfl rfl rfl (fun _ h => h.elim) (fun _ _ => trivial) (HD2.out.push (v1 := vn) hHeld (grown_of_below (Below.refl _ _) _)).2.2.2.2.1 (Below.refl _ _) HD2.out.le (by have := hn1; omega) ?_
        intro v1 w3 HO3 _ hg3 _
        obtain ⟨A3, c3, hv1⟩ := Kd.R_slice HO3
        rw [show (c'.f2 ++ [t.f2]).length = c'.f2.length + 1 from by simp] at hv1
        subst hv1
        obtain ⟨p1, p2, p3, p4, _, p5⟩ := HD2.out.push (v1 := .slice A3 (c'.f2.length + 1) c3) hHeld hg3
        have p6 := p5 _ HO3
        have P4 := Lib.hid (HF2.out.trans p4)
        have P6 := Lib.hid p6
        refine hK.out _ _ p1 (fun _ => ?_)
        clear hK K HD2 HF2 p4 p5 p6 HO3 hg3 hHeld
        refine norm_ (a' := ?_) ?_ ?_
        rotate_left
        · show Act.put _ (some 21) _ = _
          simp only [Act.put, List.setIfInBounds_toArray, List.set_cons_zero, List.set_cons_succ]
          rfl
        refine pure_ (i := 15) (N := some 22) (v := ?_) (a' := ?_) #[true, true, true, true, true, true, true, true, true, true, true, true, true, true, true, true, false, false, false] rfl rfl (by kernel_rfl) (fun _ _ _ h => h) (Or.inl ⟨by rfl, ?_⟩) ?_ ?_
        rotate_left
        · intro w'
          go_simp
          with_reducible rfl
        rotate_left
        · simp only [Act.put, List.setIfInBounds_toArray, List.set_cons_zero, List.set_cons_succ]
          rfl
        refine pure_ (i := 16) (N := some 23) (v := ?_) (a' := ?_) #[true, true, true, true, true, true, true, true, true, true, true, true, true, true, true, true, true, false, false] rfl rfl (by kernel_rfl) (fun _ _ _ h => h) (Or.inl ⟨by rfl, ?_⟩) ?_ ?_
        rotate_left
        · intro w'
          go_simp
          with_reducible rfl
        rotate_left
        · simp only [Act.put, List.setIfInBounds_toArray, List.set_cons_zero, List.set_cons_succ]
          rfl
        refine pure_ (i := 17) (N := some 24) (v := ?_) (a' := ?_) #[true, true, true, true, true, true, true, true, true, true, true, true, true, true, true, true, true, true, false] rfl rfl (by kernel_rfl) (fun _ _ _ h => h) (Or.inl ⟨by rfl, ?_⟩) ?_ ?_
        rotate_left
        · intro w'
          go_simp
          with_reducible rfl
        rotate_left
        · simp only [Act.put, List.setIfInBounds_toArray, List.set_cons_zero, List.set_cons_succ]
          rfl
        refine last_ (i := 18) (N := none) #[true, true, true, true, true, true, true, true, true, true, true, true, true, true, true, true, true, true, true] rfl rfl (by kernel_rfl) (by decide) (fun K hK => ?_)
        refine skip_ (w1 := ?_) (by rfl) rfl ?_ ?_
        rotate_left
        · go_simp
          rfl
        refine hK.out _ _ ?_
        clear hK K
        refine done_ (by kernel_rfl) ?_
        clear p1 p2 p3
        go_wp2
        go_roundg g
        case measure => omega
        case rel => exact ⟨k + 1, l'', _, by omega, by go_num, Lib.hid HST.out.symm, by simp; omega, P6, P4⟩
      | false =>
        have hkk : ¬ (nextT l' e).f0 = 2 := by simpa using hk2
        have hst : runIt e (nums_ m) l c = .error ((nextT l' e).f3, l') := by
          rw [← hH.out]
          show (match stepIt e .Num l' c' with | .ok (l2, c2) => runIt e (nums_ g) l2 c2 | .error x => .error x) = _
          have : stepIt e .Num l' c' = .error ((nextT l' e).f3, l') := if_neg hkk
          rw [this]
        rw [hst]
        clear hst hH hkk
        go_wp2
        refine start_ (n := 19) (S := fun W => W.cell? ⟨R, 4, none⟩ = some vn) (ds := [18]) #[false, false, false, false, false, false, false, false, false, false, false, false, false, false, false, false, false, false, false] (by kernel_rfl) rfl rfl (c4) (fun hHeld => ?_)
        have HD := Lib.hid hS.drew
        have HFd := Lib.hid HF.out.drew
        clear hS
        generalize wr.drew = wd at HD HFd hHeld ⊢
        refine pure_ (i := 0) (N := some 7) (v := ?_) (a' := ?_) #[true, false, false, false, false, false, false, false, false, false, false, false, false, false, false, false, false, false, false] rfl rfl (by kernel_rfl) (fun _ _ _ h => h) (Or.inl ⟨by rfl, ?_⟩) ?_ ?_
        rotate_left
        · intro w'
          go_simp
          with_reducible rfl
        rotate_left
        · simp only [Act.put, List.setIfInBounds_toArray, List.set_cons_zero, List.set_cons_succ]
          rfl
        refine pure_ (i := 1) (N := some 8) (v := ?_) (a' := ?_) #[true, true, false, false, false, false, false, false, false, false, false, false, false, false, false, false, false, false, false] rfl rfl (by kernel_rfl) (fun _ _ _ h => h) (Or.inl ⟨by rfl, ?_⟩) ?_ ?_
        rotate_left
        · intro w'
          go_simp
          with_reducible rfl
        rotate_left
        · simp only [Act.put, List.setIfInBounds_toArray, List.set_cons_zero, List.set_cons_succ]
          rfl
        refine pure_ (i := 2) (N := some 9) (v := ?_) (a' := ?_) #[true, true, true, false, false, false, false, false, false, false, false, false, false, false, false, false, false, false, false] rfl rfl (by kernel_rfl) (fun _ _ _ h => h) (Or.inl ⟨by rfl, ?_⟩) ?_ ?_
        rotate_left
        · intro w'
          go_simp
          with_reducible rfl
        rotate_left
        · simp only [Act.put, List.setIfInBounds_toArray, List.set_cons_zero, List.set_cons_succ]
          rfl
        refine pure_ (i := 3) (N := some 10) (v := ?_) (a' := ?_) #[true, true, true, true, false, false, false, false, false, false, false, false, false, false, false, false, false, false, false] rfl rfl (by kernel_rfl) (fun _ _ _ h => h) (Or.inl ⟨by rfl, ?_⟩) ?_ ?_
        rotate_left
        · intro w'
          go_simp
          with_reducible rfl
        rotate_left
        · simp only [Act.put, List.setIfInBounds_toArray, List.set_cons_zero, List.set_cons_succ]
          rfl
        refine pure_ (i := 4) (N := some 11) (v := ?_) (a' := ?_) #[true, true, true, true, true, false, false, false, false, false, false, false, false, false, false, false, false, false, false] rfl rfl (by kernel_rfl) (fun _ _ _ h => h) (Or.inl ⟨by rfl, ?_⟩) ?_ ?_
        rotate_left
        · intro w'
          go_simp
          with_reducible rfl
        rotate_left
        · simp only [Act.put, List.setIfInBounds_toArray, List.set_cons_zero, List.set_cons_succ]
          rfl
        refine take_ (i := 5) (N := some 12) (v := ?_) (a' := ?_) #[true, true, true, true, true, true, false, false, false, false, false, false, false, false, false, false, false, false, false] rfl rfl (by kernel_rfl) (fun _ _ _ h => h) (Or.inl ⟨by rfl, ?_⟩) hHeld ?_ ?_
        rotate_left
        · intro w' hSw
          (try dsimp only at hSw)
          go_simp
          with_reducible rfl
        rotate_left
        · simp only [Act.put, List.setIfInBounds_toArray, List.set_cons_zero, List.set_cons_succ]
          rfl
        refine pure_ (i := 6) (N := some 13) (v := ?_) (a' := ?_) #[true, true, true, true, true, true, true, false, false, false, false, false, false, false, false, false, false, false, false] rfl rfl (by kernel_rfl) (fun _ _ _ h => h) (Or.inl ⟨by rfl, ?_⟩) ?_ ?_
        rotate_left
        · intro w'
          go_simp
          with_reducible rfl
        rotate_left
        · simp only [Act.put, List.setIfInBounds_toArray, List.set_cons_zero, List.set_cons_succ]
          rfl
        refine pure_ (i := 7) (N := some 14) (v := ?_) (a' := ?_) #[true, true, true, true, true, true, true, true, false, false, false, false, false, false, false, false, false, false, false] rfl rfl (by kernel_rfl) (fun _ _ _ h => h) (Or.inl ⟨by rfl, ?_⟩) ?_ ?_
        rotate_left
        · intro w'
          go_simp
          with_reducible rfl
        rotate_left
        · simp only [Act.put, List.setIfInBounds_toArray, List.set_cons_zero, List.set_cons_succ]
          rfl
        refine one_ (i := 8) (N := some 15) #[true, true, true, true, true, true, true, true, true, false, false, false, false, false, false, false, false, false, false] rfl rfl (by kernel_rfl) (by decide) (fun K hK => ?_)
        refine goes_ Tryd.func67 (by kernel_rfl) rfl #[.pointer (some ⟨R, 0, none⟩)] (by rfl) rfl rfl (by (try simp only [List.map_toArray, List.map_cons, List.map_nil]); first | done | rfl) ?_
        refine (next_rs HD.out).mono ?_
        rintro x w1 ⟨rfl, hw⟩
        refine ⟨_, rfl, ?_⟩
        have HD1 := Lib.hid (HD.out.below hw)
        have HF1 := Lib.hid (HFd.out.trans (.of_below hw))
        have hH1 := (hw.cell (p := ⟨R, 4, none⟩) (World.block_lt_of_cell? _ _ hHeld)).trans hHeld
        refine hK.out _ _ hH1 (fun hHeld => ?_)
        clear hK K HD HFd hw hH1
        refine norm_ (a' := ?_) ?_ ?_
        rotate_left
        · show Act.put _ (some 15) _ = _
          simp only [Act.put, List.setIfInBounds_toArray, List.set_cons_zero, List.set_cons_succ]
          rfl
        refine pure_ (i := 9) (N := some 16) (v := ?_) (a' := ?_) #[true, true, true, true, true, true, true, true, true, true, false, false, false, false, false, false, false, false, false] rfl rfl (by kernel_rfl) (fun _ _ _ h => h) (Or.inl ⟨by rfl, ?_⟩) ?_ ?_
        rotate_left
        · intro w'
          go_simp
          with_reducible rfl
        rotate_left
        · simp only [Act.put, List.setIfInBounds_toArray, List.set_cons_zero, List.set_cons_succ]
          rfl
        refine pure_ (i := 10) (N := some 17) (v := ?_) (a' := ?_) #[true, true, true, true, true, true, true, true, true, true, true, false, false, false, false, false, false, false, false] rfl rfl (by kernel_rfl) (fun _ _ _ h => h) (Or.inl ⟨by rfl, ?_⟩) ?_ ?_
        rotate_left
        · intro w'
          go_simp
          with_reducible rfl
        rotate_left
        · simp only [Act.put, List.setIfInBounds_toArray, List.set_cons_zero, List.set_cons_succ]
          rfl
        refine one_ (i := 11) (N := some 18) #[true, true, true, true, true, true, true, true, true, true, true, true, false, false, false, false, false, false, false] rfl rfl (by kernel_rfl) (by decide) (fun K hK => ?_)
        refine goesP_ Tryd.func72 (by kernel_rfl) rfl #[.pointer (some ⟨R, 0, none⟩), .bool false] (by rfl) rfl rfl (by (try simp only [List.map_toArray, List.map_cons, List.map_nil]); first | done | rfl | (simp [Act.eval, hk2]; done)) ?_
        refine (need_rs_no HD1.out).mono ?_
        rintro x w2 ⟨rfl, hS2, hF2⟩
        exact .inr ⟨_, rfl, rfl, HF1.out.trans (hF2 _), rfl, _, hS2⟩
    · have hg : gk = 0 := by omega
      subst hg
      have hst : runIt e (nums_ m) l c = .ok (l', c') := hH.out.symm
      rw [hst]
      clear hH hst
      go_wp2
      exact bodyPost_ret (v := .tuple #[]) (by simp [results, Tryd.results70, go_sem]) rfl ⟨HF.out, rfl, HS.out⟩
end Go.Proofs.YtdedlchpjboceaaDoor.Px
end

section
namespace Go.Proofs.YtdedlchpjboceaaDoor.Px
open Go.RowKit Go.Shelf Go.Proofs.YtdedlchpjboceaaDoor.Lx Go.Proofs.YtdedlchpjboceaaDoorW.PrintWords Go.Proofs.YtdedlchpjboceaaDoorW.PrintLast Go.Proofs.YtdedlchpjboceaaDoorW.PrintMore
attribute [local go_sem] Oper.semAt_some
theorem PostR.ok_ {b R : Nat} {e : Int} {w : World} {r : Res} {x : Ending} {w' : World} {y : List Tok × Cmd} (h : PostR b R e w r x w') (hr : r = .ok y) : x = .returned (.tuple #[]) ∧ Fr R b w w' ∧ RS b w' R y.1 e y.2 := by subst hr; exact ⟨h.2.1, h.1, h.2.2⟩
theorem PostR.err_ {b R : Nat} {e : Int} {w : World} {r : Res} {x : Ending} {w' : World} {y : Int × List Tok} (h : PostR b R e w r x w') (hr : r = .error y) : x = .panicked (failAt y.1) ∧ Fr R b w w' ∧ ∃ c, RS b w' R y.2 e c := by subst hr; exact ⟨h.2.1, h.1, h.2.2⟩
theorem own_cap {w : World} {base : Nat} {e : TypeId} {size n : Nat} {a : Addr} {cap : Nat} {xs : List Value} (h : w.ownsRow base e size (.slice (some a) n cap) n xs) : n ≤ cap := by
  rcases h.2 with ⟨h, _⟩ | ⟨g, cap', cur, e, _, _, hle, _⟩
  · cases h
  · cases e; exact hle
theorem slow_list : slowT.toList = [115, 108, 111, 119] := by rw [ByteArray.toList_eq]; rfl
/-- The last of the numbers, and a store to it. -/
theorem RS.lastN {b : Nat} {w : World} {R : Nat} {l : List Tok} {e : Int} {c : Cmd} {ns : List Int} {n : Int} (h : RS b w R l e { c with f2 := ns ++ [n] }) :
    ∃ g cap, w.cell? ⟨R, 4, none⟩ = some (.slice (some ⟨g, 0, none⟩) (ns.length + 1) cap) ∧ ns.length + 1 ≤ cap ∧ w.frozen? ⟨R, 4, none⟩ = false ∧ w.cell? ⟨g, ns.length, none⟩ = some (.int .i64 n) ∧ w.frozen? ⟨g, ns.length, none⟩ = false ∧
      ∀ m, RS b (w.drew.setCell ⟨g, ns.length, none⟩ (.int .i64 m)) R l e { c with f2 := ns ++ [m] } ∧ Fr R b w (w.drew.setCell ⟨g, ns.length, none⟩ (.int .i64 m)) := by
  obtain ⟨h1, h2, A, cap, vn, h3, h4, h5, h6, h7⟩ := h
  have hl : (ns ++ [n]).length = ns.length + 1 := by simp
  have ho := Kd.own_of_R h7
  obtain ⟨g, cp, hv, hbg, hcap⟩ := ho.form (by show 0 < (ns ++ [n]).length; omega)
  have hv' : vn = .slice (some ⟨g, 0, none⟩) (ns ++ [n]).length cp := hv
  subst hv'
  have hg2 := own_typed ho g rfl
  obtain ⟨cells, hcells⟩ := hg2
  have hcell : w.cell? ((⟨g, 0, none⟩ : Addr).add ns.length) = some (.int .i64 n) := ho.cells (g := g) rfl ns.length (.int .i64 n) (by
    show (encs (Value.int .i64) (ns ++ [n]))[ns.length]? = _
    simp [encs])
  rw [add_plain] at hcell
  have hgR : g ≠ R := by omega
  refine ⟨g, cp, by rw [blk_cell h3, ← hl]; rfl, by rw [← hl]; exact own_cap ho, blk_frozen h3 4, hcell, blk_frozen hcells _, fun m => ⟨?_, ?_⟩⟩
  · have hd := Kd.R_drew h7
    have hp := (Kd.R_put hd (ns.length : Int) m).1
    have hset : (ns ++ [n]).set ((ns.length : Int).toNat) m = ns ++ [m] := by rw [Int.toNat_natCast]; simp
    rw [hset] at hp
    have hlm : (ns ++ [n]).length = (ns ++ [m]).length := by simp
    refine ⟨h1, by rw [size_set]; exact h2, A, cap, .slice (some ⟨g, 0, none⟩) (ns ++ [n]).length cp, blk_far h3 ⟨g, ns.length, none⟩ _ (Ne.symm hgR), h4, C_same h5 (fun ad e _ => ?_), h6, hp⟩
    exact Below.heap_setCell _ _ _ _ (fun e' => by have := (h6 ad e).1; have : ad.block = g := e'; omega)
  · refine ⟨rfl, rfl, rfl, by rw [size_set]; exact Nat.le_refl _, fun k hk hr hc => Below.heap_setCell _ _ _ _ (fun e' => ?_)⟩
    have e'' : k = g := e'
    subst e''
    rcases hc with hc | hc
    · omega
    · exact hc _ _ hcells
set_option maxHeartbeats 16000000 in
set_option maxRecDepth 100000 in
theorem drift_rs {b : Nat} {w : World} {R : Nat} {l : List Tok} {e : Int} {c : Cmd} (hm : c.f2.length + 1 ≤ 1000) (h : RS b w R l e c) :
    Calls Tryd.prog 99 #[.pointer (some ⟨R, 0, none⟩)] w (PostR b R e w (stepIt e .Dr l c)) := by
  have hn := next_rs h
  have hf1 := fieldT1
  obtain ⟨n, hN⟩ : ∃ n, nextT l e = n := ⟨_, rfl⟩
  have hD : stepIt e .Dr l c = if (nextT l e).f1 = slowT ∨ (nextT l e).f1 = fastT then
      (if (nextT l.tail e).f0 = 2 then .ok (l.tail.tail, { c with f2 := c.f2 ++ [if (nextT l e).f1 = slowT then IntKind.i64.wrap (-(nextT l.tail e).f2) else (nextT l.tail e).f2] }) else .error ((nextT l.tail e).f3, l.tail))
    else .error ((nextT l e).f3, l) := rfl
  have hM : runIt e (nums_ 1) l.tail c = if (nextT l.tail e).f0 = 2 then .ok (l.tail.tail, { c with f2 := c.f2 ++ [(nextT l.tail e).f2] }) else .error ((nextT l.tail e).f3, l.tail) := by
    show (match stepIt e .Num l.tail c with | .ok (l', c') => runIt e [] l' c' | .error x => .error x) = _
    by_cases hh : (nextT l.tail e).f0 = 2
    · have h0 : stepIt e .Num l.tail c = .ok (l.tail.tail, { c with f2 := c.f2 ++ [(nextT l.tail e).f2] }) := if_pos hh
      rw [h0, if_pos hh]; rfl
    · have h0 : stepIt e .Num l.tail c = .error ((nextT l.tail e).f3, l.tail) := if_neg hh
      rw [h0, if_neg hh]
  obtain ⟨q, hq⟩ : ∃ q, nextT l.tail e = q := ⟨_, rfl⟩
  generalize stepIt e .Dr l c = r at hD ⊢
  rw [hN, hq] at hD
  rw [hq] at hM
  rw [hN] at hn
  cases hs : (n.f1.toList == slowT.toList) with
  | true =>
    have hs' : n.f1 = slowT := by rw [eq_toList, decide_eq_true_eq] at hs; exact hs
    have hs2 : (n.f1.toList == [115, 108, 111, 119]) = true := by rw [← slow_list]; exact hs
    have hw' : stepIt e (.W slowT) l c = .ok (l.tail, c) := if_pos (by rw [hN]; exact hs')
    have hW := fun W (hb : Below w.heap.size w W) => word_rs slowT (by decide) (h.below hb)
    rw [if_pos (.inl hs'), if_pos hs'] at hD
    have HR := Lib.hid hD
    have HM := Lib.hid hM
    have HW := Lib.hid hw'
    clear hD hM hs hs' hw' h hN hq
    go_enter Tryd.func99, Tryd.ntmps99
    go_wp2_with fail
    refine hn.mono ?_
    rintro x w1 ⟨rfl, hw⟩
    go_wp2_with fail
    refine (hW _ hw).mono ?_
    intro x w2 hP
    obtain ⟨rfl, hF2, hS2⟩ := hP.ok_ HW.out
    have HF2 := Lib.hid ((Fr.of_below hw).trans hF2)
    have HS2 := Lib.hid hS2
    clear hP hF2 hS2 hW hn hw HW
    go_wp2_with fail
    refine (numbers_rs 1 hm HS2.out).mono ?_
    intro x w3 hP
    by_cases hk : q.f0 = 2
    · have hm1 := HM.out
      have hr1 := HR.out
      rw [if_pos hk] at hm1 hr1
      subst hr1
      obtain ⟨rfl, hF3, hS3⟩ := hP.ok_ hm1
      have HF3 := Lib.hid (HF2.out.trans hF3)
      obtain ⟨g, cap, q1, q2, q3, q4, q5, hQ6'⟩ := hS3.lastN
      clear hP HM HR hm1 hF3 hS3 hk HF2 HS2
      have hm' : c.f2.length ≤ 999 := by omega
      go_wp2
      · refine start_ (n := 17) (S := fun W => W.cell? ⟨R, 4, none⟩ = some (.slice (some ⟨g, 0, none⟩) (c.f2.length + 1) cap) ∧ W.cell? ⟨g, c.f2.length, none⟩ = some (.int .i64 q.f2)) (ds := [16]) #[false, false, false, false, false, false, false, false, false, false, false, false, false, false, false, false, false] (by kernel_rfl) rfl rfl (⟨q1, q4⟩) (fun hHeld => ?_)
        have Q6 := Lib.hid (hQ6' (IntKind.i64.wrap (-q.f2)))
        have q3' : w3.drew.frozen? ⟨g, c.f2.length, none⟩ = false := q5
        clear q5 hQ6'
        generalize w3.drew = wd at q3' Q6 hHeld ⊢
        obtain ⟨hHeld1, hHeld2⟩ := id hHeld
        have hlt : (c.f2.length : Int) < (c.f2.length : Int) + 1 := by omega
        refine pure_ (i := 0) (N := some 24) (v := ?_) (a' := ?_) #[true, false, false, false, false, false, false, false, false, false, false, false, false, false, false, false, false] rfl rfl (by kernel_rfl) (fun _ _ _ h => h) (Or.inl ⟨by rfl, ?_⟩) ?_ ?_
        rotate_left
        · intro w'
          go_simp
          with_reducible rfl
        rotate_left
        · simp only [Act.put, List.setIfInBounds_toArray, List.set_cons_zero, List.set_cons_succ]
          rfl
        refine pure_ (i := 1) (N := some 25) (v := ?_) (a' := ?_) #[true, true, false, false, false, false, false, false, false, false, false, false, false, false, false, false, false] rfl rfl (by kernel_rfl) (fun _ _ _ h => h) (Or.inl ⟨by rfl, ?_⟩) ?_ ?_
        rotate_left
        · intro w'
          go_simp
          with_reducible rfl
        rotate_left
        · simp only [Act.put, List.setIfInBounds_toArray, List.set_cons_zero, List.set_cons_succ]
          rfl
        refine pure_ (i := 2) (N := some 26) (v := ?_) (a' := ?_) #[true, true, true, false, false, false, false, false, false, false, false, false, false, false, false, false, false] rfl rfl (by kernel_rfl) (fun _ _ _ h => h) (Or.inl ⟨by rfl, ?_⟩) ?_ ?_
        rotate_left
        · intro w'
          go_simp
          with_reducible rfl
        rotate_left
        · simp only [Act.put, List.setIfInBounds_toArray, List.set_cons_zero, List.set_cons_succ]
          rfl
        refine pure_ (i := 3) (N := some 27) (v := ?_) (a' := ?_) #[true, true, true, true, false, false, false, false, false, false, false, false, false, false, false, false, false] rfl rfl (by kernel_rfl) (fun _ _ _ h => h) (Or.inl ⟨by rfl, ?_⟩) ?_ ?_
        rotate_left
        · intro w'
          go_simp
          with_reducible rfl
        rotate_left
        · simp only [Act.put, List.setIfInBounds_toArray, List.set_cons_zero, List.set_cons_succ]
          rfl
        refine take_ (i := 4) (N := some 28) (v := ?_) (a' := ?_) #[true, true, true, true, true, false, false, false, false, false, false, false, false, false, false, false, false] rfl rfl (by kernel_rfl) (fun _ _ _ h => h) (Or.inl ⟨by rfl, ?_⟩) hHeld ?_ ?_
        rotate_left
        · intro w' hSw
          (try dsimp only at hSw)
          go_simp
          with_reducible rfl
        rotate_left
        · simp only [Act.put, List.setIfInBounds_toArray, List.set_cons_zero, List.set_cons_succ]
          rfl
        refine pure_ (i := 5) (N := some 29) (v := ?_) (a' := ?_) #[true, true, true, true, true, true, false, false, false, false, false, false, false, false, false, false, false] rfl rfl (by kernel_rfl) (fun _ _ _ h => h) (Or.inl ⟨by rfl, ?_⟩) ?_ ?_
        rotate_left
        · intro w'
          go_simp
          with_reducible rfl
        rotate_left
        · simp only [Act.put, List.setIfInBounds_toArray, List.set_cons_zero, List.set_cons_succ]
          rfl
        refine pure_ (i := 6) (N := some 30) (v := ?_) (a' := ?_) #[true, true, true, true, true, true, true, false, false, false, false, false, false, false, false, false, false] rfl rfl (by kernel_rfl) (fun _ _ _ h => h) (Or.inl ⟨by rfl, ?_⟩) ?_ ?_
        rotate_left
        · intro w'
          go_simp
          with_reducible rfl
        rotate_left
        · simp only [Act.put, List.setIfInBounds_toArray, List.set_cons_zero, List.set_cons_succ]
          rfl
        refine pure_ (i := 7) (N := some 31) (v := ?_) (a' := ?_) #[true, true, true, true, true, true, true, true, false, false, false, false, false, false, false, false, false] rfl rfl (by kernel_rfl) (fun _ _ _ h => h) (Or.inl ⟨by rfl, ?_⟩) ?_ ?_
        rotate_left
        · intro w'
          go_simp
          with_reducible rfl
        rotate_left
        · simp only [Act.put, List.setIfInBounds_toArray, List.set_cons_zero, List.set_cons_succ]
          rfl
        refine pure_ (i := 8) (N := some 32) (v := ?_) (a' := ?_) #[true, true, true, true, true, true, true, true, true, false, false, false, false, false, false, false, false] rfl rfl (by kernel_rfl) (fun _ _ _ h => h) (Or.inl ⟨by rfl, ?_⟩) ?_ ?_
        rotate_left
        · intro w'
          go_simp
          with_reducible rfl
        rotate_left
        · simp only [Act.put, List.setIfInBounds_toArray, List.set_cons_zero, List.set_cons_succ]
          rfl
        refine pure_ (i := 9) (N := some 33) (v := ?_) (a' := ?_) #[true, true, true, true, true, true, true, true, true, true, false, false, false, false, false, false, false] rfl rfl (by kernel_rfl) (fun _ _ _ h => h) (Or.inl ⟨by rfl, ?_⟩) ?_ ?_
        rotate_left
        · intro w'
          go_simp
          with_reducible rfl
        rotate_left
        · simp only [Act.put, List.setIfInBounds_toArray, List.set_cons_zero, List.set_cons_succ]
          rfl
        refine take_ (i := 10) (N := some 34) (v := ?_) (a' := ?_) #[true, true, true, true, true, true, true, true, true, true, true, false, false, false, false, false, false] rfl rfl (by kernel_rfl) (fun _ _ _ h => h) (Or.inl ⟨by rfl, ?_⟩) hHeld ?_ ?_
        rotate_left
        · intro w' hSw
          (try dsimp only at hSw)
          go_simp
          with_reducible rfl
        rotate_left
        · simp only [Act.put, List.setIfInBounds_toArray, List.set_cons_zero, List.set_cons_succ]
          rfl
        refine pure_ (i := 11) (N := some 35) (v := ?_) (a' := ?_) #[true, true, true, true, true, true, true, true, true, true, true, true, false, false, false, false, false] rfl rfl (by kernel_rfl) (fun _ _ _ h => h) (Or.inl ⟨by rfl, ?_⟩) ?_ ?_
        rotate_left
        · intro w'
          go_simp
          with_reducible rfl
        rotate_left
        · simp only [Act.put, List.setIfInBounds_toArray, List.set_cons_zero, List.set_cons_succ]
          rfl
        refine pure_ (i := 12) (N := some 36) (v := ?_) (a' := ?_) #[true, true, true, true, true, true, true, true, true, true, true, true, true, false, false, false, false] rfl rfl (by kernel_rfl) (fun _ _ _ h => h) (Or.inl ⟨by rfl, ?_⟩) ?_ ?_
        rotate_left
        · intro w'
          go_simp
          with_reducible rfl
        rotate_left
        · simp only [Act.put, List.setIfInBounds_toArray, List.set_cons_zero, List.set_cons_succ]
          rfl
        refine take_ (i := 13) (N := some 37) (v := ?_) (a' := ?_) #[true, true, true, true, true, true, true, true, true, true, true, true, true, true, false, false, false] rfl rfl (by kernel_rfl) (fun _ _ _ h => h) (Or.inl ⟨by rfl, ?_⟩) hHeld ?_ ?_
        rotate_left
        · intro w' hSw
          (try dsimp only at hSw)
          go_simp
          with_reducible rfl
        rotate_left
        · simp only [Act.put, List.setIfInBounds_toArray, List.set_cons_zero, List.set_cons_succ]
          rfl
        refine pure_ (i := 14) (N := some 38) (v := ?_) (a' := ?_) #[true, true, true, true, true, true, true, true, true, true, true, true, true, true, true, false, false] rfl rfl (by kernel_rfl) (fun _ _ _ h => h) (Or.inl ⟨by rfl, ?_⟩) ?_ ?_
        rotate_left
        · intro w'
          go_simp
          with_reducible rfl
        rotate_left
        · simp only [Act.put, List.setIfInBounds_toArray, List.set_cons_zero, List.set_cons_succ]
          rfl
        refine pure_ (i := 15) (N := some 39) (v := ?_) (a' := ?_) #[true, true, true, true, true, true, true, true, true, true, true, true, true, true, true, true, false] rfl rfl (by kernel_rfl) (fun _ _ _ h => h) (Or.inl ⟨by rfl, ?_⟩) ?_ ?_
        rotate_left
        · intro w'
          go_simp
          with_reducible rfl
        rotate_left
        · simp only [Act.put, List.setIfInBounds_toArray, List.set_cons_zero, List.set_cons_succ]
          rfl
        refine last_ (i := 16) (N := none) #[true, true, true, true, true, true, true, true, true, true, true, true, true, true, true, true, true] rfl rfl (by kernel_rfl) (by decide) (fun K hK => ?_)
        refine skip_ (w1 := ?_) (by rfl) rfl ?_ ?_
        rotate_left
        · go_simp
          rfl
        refine hK.out _ _ ?_
        clear hK K
        refine done_ (by kernel_rfl) ?_
        clear hHeld hHeld1 hHeld2 q3'
        go_wp2
        exact bodyPost_ret (v := .tuple #[]) (by simp [results, Tryd.results99, go_sem]) rfl ⟨HF3.out.trans Q6.out.2, rfl, Q6.out.1⟩
    · have hm1 := HM.out
      have hr1 := HR.out
      rw [if_neg hk] at hm1 hr1
      subst hr1
      obtain ⟨rfl, hF3, hS3⟩ := hP.err_ hm1
      exact ⟨rfl, HF2.out.trans hF3, rfl, hS3⟩
  | false =>
    have hs' : ¬ n.f1 = slowT := by rw [eq_toList, decide_eq_false_iff_not] at hs; exact hs
    have hs2 : (n.f1.toList == [115, 108, 111, 119]) = false := by rw [← slow_list]; exact hs
    have hW := fun W (hb : Below w.heap.size w W) => word_rs fastT (by decide) (h.below hb)
    by_cases hf : n.f1 = fastT
    · have hw' : stepIt e (.W fastT) l c = .ok (l.tail, c) := if_pos (by rw [hN]; exact hf)
      rw [if_pos (.inr hf), if_neg hs'] at hD
      have HR := Lib.hid hD
      have HM := Lib.hid hM
      have HW := Lib.hid hw'
      clear hD hM hs hs' hw' h hN hq hf
      go_enter Tryd.func99, Tryd.ntmps99
      go_wp2_with fail
      refine hn.mono ?_
      rintro x w1 ⟨rfl, hw⟩
      go_wp2_with fail
      refine (hW _ hw).mono ?_
      intro x w2 hP
      obtain ⟨rfl, hF2, hS2⟩ := hP.ok_ HW.out
      have HF2 := Lib.hid ((Fr.of_below hw).trans hF2)
      have HS2 := Lib.hid hS2
      clear hP hF2 hS2 hW hn hw HW
      go_wp2_with fail
      refine (numbers_rs 1 hm HS2.out).mono ?_
      intro x w3 hP
      by_cases hk : q.f0 = 2
      · have hm1 := HM.out
        have hr1 := HR.out
        rw [if_pos hk] at hm1 hr1
        subst hr1
        obtain ⟨rfl, hF3, hS3⟩ := hP.ok_ hm1
        have HF3 := Lib.hid (HF2.out.trans hF3)
        have HS3 := Lib.hid hS3
        clear hP HM HR hm1 hF3 hS3 hk HF2 HS2
        go_wp2
        exact bodyPost_ret (v := .tuple #[]) (by simp [results, Tryd.results99, go_sem]) rfl ⟨HF3.out, rfl, HS3.out⟩
      · have hm1 := HM.out
        have hr1 := HR.out
        rw [if_neg hk] at hm1 hr1
        subst hr1
        obtain ⟨rfl, hF3, hS3⟩ := hP.err_ hm1
        exact ⟨rfl, HF2.out.trans hF3, rfl, hS3⟩
    · have hw' : stepIt e (.W fastT) l c = .error (n.f3, l) := by rw [← hN]; exact if_neg (by rw [hN]; exact hf)
      rw [if_neg (fun hh => hh.elim hs' hf)] at hD
      have HR := Lib.hid hD
      have HW := Lib.hid hw'
      clear hD hM hs hs' hw' h hN hq hf
      go_enter Tryd.func99, Tryd.ntmps99
      go_wp2_with fail
      refine hn.mono ?_
      rintro x w1 ⟨rfl, hw⟩
      go_wp2_with fail
      refine (hW _ hw).mono ?_
      intro x w2 hP
      obtain ⟨rfl, hF2, hS2⟩ := hP.err_ HW.out
      have hr1 := HR.out
      subst hr1
      exact ⟨rfl, (Fr.of_below hw).trans hF2, rfl, hS2⟩
end Go.Proofs.YtdedlchpjboceaaDoor.Px
end

section
namespace Go.Proofs.YtdedlchpjboceaaDoor.Px
open Go.RowKit Go.Shelf Go.Proofs.YtdedlchpjboceaaDoor.Lx Go.Proofs.YtdedlchpjboceaaDoorW.PrintWords Go.Proofs.YtdedlchpjboceaaDoorW.PrintLast Go.Proofs.YtdedlchpjboceaaDoorW.PrintMore
attribute [local go_sem] Oper.semAt_some
/-- Key words, a number behind each. -/
def prs (ts : List ByteArray) : List It := ts.flatMap (fun s => [.W s, .Num])
theorem prs_cons (s : ByteArray) (ts : List ByteArray) : prs (s :: ts) = .W s :: .Num :: prs ts := rfl
theorem runIt_cons_ok {e : Int} {i : It} {is : List It} {l l' : List Tok} {c c' : Cmd} (h : stepIt e i l c = .ok (l', c')) : runIt e (i :: is) l c = runIt e is l' c' := by
  show (match stepIt e i l c with | .ok (l', c') => runIt e is l' c' | .error x => .error x) = _
  rw [h]
theorem runIt_cons_err {e : Int} {i : It} {is : List It} {l : List Tok} {c : Cmd} {x : Int × List Tok} (h : stepIt e i l c = .error x) : runIt e (i :: is) l c = .error x := by
  show (match stepIt e i l c with | .ok (l', c') => runIt e is l' c' | .error x => .error x) = _
  rw [h]
theorem runIt_one (e : Int) (i : It) (l : List Tok) (c : Cmd) : runIt e [i] l c = stepIt e i l c := by
  show (match stepIt e i l c with | .ok (l', c') => runIt e [] l' c' | .error x => .error x) = _
  cases stepIt e i l c with
  | ok y => rfl
  | error x => rfl
/-- How many numbers an item adds. -/
def addN : It → Nat
  | .W _ => 0
  | .Nm => 0
  | .Num => 1
  | .Dr => 1
theorem stepIt_len {e : Int} {i : It} {l l' : List Tok} {c c' : Cmd} (h : stepIt e i l c = .ok (l', c')) : c'.f2.length = c.f2.length + addN i := by
  cases i with
  | W s => simp only [stepIt] at h; split at h <;> simp at h; obtain ⟨_, rfl⟩ := h; simp [addN]
  | Nm => simp only [stepIt] at h; split at h <;> simp at h; obtain ⟨_, rfl⟩ := h; simp [addN]
  | Num => simp only [stepIt] at h; split at h <;> simp at h; obtain ⟨_, rfl⟩ := h; simp [addN]
  | Dr =>
    simp only [stepIt] at h
    split at h
    · by_cases hk : (nextT l.tail e).f0 = 2
      · rw [if_pos hk] at h; simp at h; obtain ⟨_, rfl⟩ := h; simp [addN]
      · rw [if_neg hk] at h; simp at h
    · simp at h
theorem runIt_len {e : Int} {is : List It} : ∀ {l l' : List Tok} {c c' : Cmd}, runIt e is l c = .ok (l', c') → c'.f2.length = c.f2.length + (is.map addN).sum := by
  induction is with
  | nil => intro l l' c c' h; simp [runIt] at h; obtain ⟨_, rfl⟩ := h; simp
  | cons i is ih =>
    intro l l' c c' h
    cases hs : stepIt e i l c with
    | error x => rw [runIt_cons_err hs] at h; cases h
    | ok y =>
      obtain ⟨l1, c1⟩ := y
      rw [runIt_cons_ok hs] at h
      have := ih h
      have := stepIt_len hs
      simp only [List.map_cons, List.sum_cons]; omega
set_option maxHeartbeats 16000000 in
set_option maxRecDepth 100000 in
theorem pairs_rs {b : Nat} {w : World} {R : Nat} {l : List Tok} {e : Int} {c : Cmd} (ts : List ByteArray) (hne : ∀ s ∈ ts, s ≠ ⟨#[]⟩) (g : Nat) (hg : w.heap[g]? = some (.cells (ts.map Value.string).toArray 9 (0, 0))) (hgR : g ≠ R) (hm : c.f2.length + ts.length ≤ 1000) (h : RS b w R l e c) :
    Calls Tryd.prog 95 #[.pointer (some ⟨R, 0, none⟩), .slice (some ⟨g, 0, none⟩) ts.length ts.length] w (PostR b R e w (runIt e (prs ts) l c)) := by
  generalize hr : runIt e (prs ts) l c = r
  have HR := Lib.hid hr
  have H := Lib.hid h
  have HG := Lib.hid hg
  have HN := Lib.hid hne
  clear h hg hr hne
  go_enter Tryd.func95, Tryd.ntmps95
  go_wp2
  go_loopg [8] ts.length (fun gg v w' => ∃ (k : Nat) (l' : List Tok) (c' : Cmd), k + gg = ts.length ∧ v = .int .i64 k ∧ Hid (runIt e (prs (ts.drop k)) l' c' = r) ∧ c'.f2.length + gg ≤ 1000 ∧ Hid (RS b w' R l' e c') ∧ Hid (Fr R b w w'))
  case atStart => exact ⟨0, l, c, by omega, rfl, HR, hm, H, Lib.hid (Fr.refl _ _ _)⟩
  case round =>
    obtain ⟨k, l', c', hk, rfl, hH, hn1, HS, HF⟩ := hrel
    by_cases hlt : k < ts.length
    · obtain ⟨gg, rfl⟩ : ∃ gg, gk = gg + 1 := ⟨gk - 1, by omega⟩
      have hb := HF.out.kept HG.out hgR (.inl (by decide))
      obtain ⟨s, hs⟩ : ∃ s, ts[k] = s := ⟨_, rfl⟩
      have hc : wr.cell? ⟨g, k, none⟩ = some (.string s) := by rw [blk_cell hb]; simp [hlt, hs]
      have hd : ts.drop k = s :: ts.drop (k + 1) := by rw [List.drop_eq_getElem_cons hlt, hs]
      have hsn : s ≠ ⟨#[]⟩ := HN.out s (by rw [← hs]; exact List.getElem_mem hlt)
      have hrun := hH.out
      rw [hd, prs_cons] at hrun
      have HRUN := Lib.hid hrun
      have hW := word_rs s hsn HS.out
      clear hb hs hd hsn hrun hH
      go_wp2_with fail
      refine hW.mono ?_
      intro x w2 hP
      cases hst : stepIt e (.W s) l' c' with
      | error y =>
        obtain ⟨rfl, hF2, hS2⟩ := hP.err_ hst
        have hr1 := HRUN.out
        rw [runIt_cons_err hst] at hr1
        subst hr1
        exact ⟨rfl, HF.out.trans hF2, rfl, hS2⟩
      | ok y =>
        obtain ⟨l1, c1⟩ := y
        obtain ⟨rfl, hF2, hS2⟩ := hP.ok_ hst
        have hr1 := HRUN.out
        rw [runIt_cons_ok hst] at hr1
        have hl1 := stepIt_len hst
        have hl1' : c1.f2.length + (gg + 1) ≤ 1000 := by simp only [addN] at hl1; omega
        have HR1 := Lib.hid hr1
        have HF2 := Lib.hid (HF.out.trans hF2)
        have hM := numbers_rs 1 (by show c1.f2.length + 1 ≤ 1000; omega) hS2
        clear hP hst hr1 hl1 hF2 hS2 hW HS HF HRUN hc
        go_wp2_with fail
        refine hM.mono ?_
        intro x w3 hP
        cases hst : stepIt e .Num l1 c1 with
        | error y =>
          obtain ⟨rfl, hF3, hS3⟩ := hP.err_ ((runIt_one e .Num l1 c1).trans hst)
          have hr1 := HR1.out
          rw [runIt_cons_err hst] at hr1
          subst hr1
          exact ⟨rfl, HF2.out.trans hF3, rfl, hS3⟩
        | ok y =>
          obtain ⟨l2, c2⟩ := y
          obtain ⟨rfl, hF3, hS3⟩ := hP.ok_ ((runIt_one e .Num l1 c1).trans hst)
          have hr1 := HR1.out
          rw [runIt_cons_ok hst] at hr1
          have hl2 := stepIt_len hst
          have hl2' : c2.f2.length + gg ≤ 1000 := by simp only [addN] at hl2; omega
          have HR2 := Lib.hid hr1
          have HF3 := Lib.hid (HF2.out.trans hF3)
          have HS3 := Lib.hid hS3
          clear hP hst hr1 hl2 hF3 hS3 hM HF2 HR1
          go_wp2
          go_roundg gg
          case measure => omega
          case rel => exact ⟨k + 1, l2, c2, by omega, by go_num, HR2, hl2', HS3, HF3⟩
    · have hr1 := hH.out
      rw [List.drop_of_length_le (by omega)] at hr1
      have hr2 : r = .ok (l', c') := hr1.symm
      subst hr2
      clear hH hr1
      go_wp2
      exact bodyPost_ret (v := .tuple #[]) (by simp [results, Tryd.results95, go_sem]) rfl ⟨HF.out, rfl, HS.out⟩
end Go.Proofs.YtdedlchpjboceaaDoor.Px
end

section
namespace Go.Proofs.YtdedlchpjboceaaDoor.Px
open Go.RowKit Go.Shelf Go.Proofs.YtdedlchpjboceaaDoor.Lx Go.Proofs.YtdedlchpjboceaaDoorW.PrintWords Go.Proofs.YtdedlchpjboceaaDoorW.PrintLast Go.Proofs.YtdedlchpjboceaaDoorW.PrintMore
attribute [local go_sem] Oper.semAt_some
theorem runIt_app_ok {e : Int} {a b : List It} {l l' : List Tok} {c c' : Cmd} (h : runIt e a l c = .ok (l', c')) : runIt e (a ++ b) l c = runIt e b l' c' := by rw [runIt_append, h]
theorem runIt_app_err {e : Int} {a b : List It} {l : List Tok} {c : Cmd} {x : Int × List Tok} (h : runIt e a l c = .error x) : runIt e (a ++ b) l c = .error x := by rw [runIt_append, h]
def its_mesh : List It := prs [(⟨#[100, 97, 116, 97]⟩ : ByteArray), (⟨#[114, 97, 110, 103, 101]⟩ : ByteArray)] ++ []
set_option maxHeartbeats 16000000 in
set_option maxRecDepth 100000 in
theorem mesh_rs {b : Nat} {w : World} {R : Nat} {l : List Tok} {e : Int} {c : Cmd} (hm : c.f2.length + 2 ≤ 1000) (h : RS b w R l e c) :
    Calls Tryd.prog 94 #[.pointer (some ⟨R, 0, none⟩)] w (PostR b R e w (runIt e its_mesh l c)) := by
  generalize hr : runIt e its_mesh l c = r
  unfold its_mesh at hr
  have HR0 := Lib.hid hr
  have HS0 := Lib.hid h
  have HF0 := Lib.hid (Fr.refl R b w)
  have hn0 := hm
  clear hr h hm
  go_enter Tryd.func94, Tryd.ntmps94
  go_wp2_with fail
  refine (pairs_rs [(⟨#[100, 97, 116, 97]⟩ : ByteArray), (⟨#[114, 97, 110, 103, 101]⟩ : ByteArray)] (by decide) w.heap.size (blk_new _ _) (by have h1 := HS0.out.lt; have h2 := HS0.out.le; omega) (by show c.f2.length + 2 ≤ 1000; omega) (HS0.out.alloc _)).mono ?_
  intro x w1 hP
  cases hst : runIt e (prs [(⟨#[100, 97, 116, 97]⟩ : ByteArray), (⟨#[114, 97, 110, 103, 101]⟩ : ByteArray)]) l c with
  | error y =>
    obtain ⟨rfl, hF, hS⟩ := hP.err_ hst
    have hr1 := HR0.out
    rw [runIt_app_err hst] at hr1
    subst hr1
    exact ⟨rfl, (HF0.out.alloc _).trans hF, rfl, hS⟩
  | ok y =>
  obtain ⟨l1, c1⟩ := y
  obtain ⟨rfl, hF, hS⟩ := hP.ok_ hst
  have hr1 := HR0.out
  rw [runIt_app_ok hst] at hr1
  have hl1 := runIt_len hst
  have hn1 : c1.f2.length + 0 ≤ 1000 := by
    have h0 : ((prs [(⟨#[100, 97, 116, 97]⟩ : ByteArray), (⟨#[114, 97, 110, 103, 101]⟩ : ByteArray)]).map addN).sum = 2 := by decide
    rw [h0] at hl1; omega
  have HR1 := Lib.hid hr1
  have HF1 := Lib.hid ((HF0.out.alloc _).trans hF)
  have HS1 := Lib.hid hS
  clear hP hst hr1 hl1 hF hS HF0 HR0 HS0
  have hr1 : r = .ok (l1, c1) := HR1.out.symm
  subst hr1
  clear HR1
  go_wp2
  exact bodyPost_ret (v := .tuple #[]) (by simp [results, Tryd.results94, go_sem]) rfl ⟨HF1.out, rfl, HS1.out⟩
def its_root : List It := [It.Nm] ++ ([It.W ⟨#[97, 116]⟩] ++ (nums_ 2 ++ []))
set_option maxHeartbeats 16000000 in
set_option maxRecDepth 100000 in
theorem root_rs {b : Nat} {w : World} {R : Nat} {l : List Tok} {e : Int} {c : Cmd} (hm : c.f2.length + 2 ≤ 1000) (h : RS b w R l e c) :
    Calls Tryd.prog 96 #[.pointer (some ⟨R, 0, none⟩)] w (PostR b R e w (runIt e its_root l c)) := by
  generalize hr : runIt e its_root l c = r
  unfold its_root at hr
  have HR0 := Lib.hid hr
  have HS0 := Lib.hid h
  have HF0 := Lib.hid (Fr.refl R b w)
  have hn0 := hm
  clear hr h hm
  go_enter Tryd.func96, Tryd.ntmps96
  go_wp2_with fail
  refine (name_rs HS0.out).mono ?_
  intro x w1 hP
  cases hst : runIt e ([It.Nm]) l c with
  | error y =>
    obtain ⟨rfl, hF, hS⟩ := hP.err_ ((runIt_one e _ l c).symm.trans hst)
    have hr1 := HR0.out
    rw [runIt_app_err hst] at hr1
    subst hr1
    exact ⟨rfl, HF0.out.trans hF, rfl, hS⟩
  | ok y =>
  obtain ⟨l1, c1⟩ := y
  obtain ⟨rfl, hF, hS⟩ := hP.ok_ ((runIt_one e _ l c).symm.trans hst)
  have hr1 := HR0.out
  rw [runIt_app_ok hst] at hr1
  have hl1 := runIt_len hst
  have hn1 : c1.f2.length + 2 ≤ 1000 := by
    have h0 : (([It.Nm]).map addN).sum = 0 := by decide
    rw [h0] at hl1; omega
  have HR1 := Lib.hid hr1
  have HF1 := Lib.hid (HF0.out.trans hF)
  have HS1 := Lib.hid hS
  clear hP hst hr1 hl1 hF hS HF0 HR0 HS0
  go_wp2_with fail
  refine (word_rs ⟨#[97, 116]⟩ (by decide) HS1.out).mono ?_
  intro x w2 hP
  cases hst : runIt e ([It.W ⟨#[97, 116]⟩]) l1 c1 with
  | error y =>
    obtain ⟨rfl, hF, hS⟩ := hP.err_ ((runIt_one e _ l1 c1).symm.trans hst)
    have hr1 := HR1.out
    rw [runIt_app_err hst] at hr1
    subst hr1
    exact ⟨rfl, HF1.out.trans hF, rfl, hS⟩
  | ok y =>
  obtain ⟨l2, c2⟩ := y
  obtain ⟨rfl, hF, hS⟩ := hP.ok_ ((runIt_one e _ l1 c1).symm.trans hst)
  have hr1 := HR1.out
  rw [runIt_app_ok hst] at hr1
  have hl1 := runIt_len hst
  have hn2 : c2.f2.length + 2 ≤ 1000 := by
    have h0 : (([It.W ⟨#[97, 116]⟩]).map addN).sum = 0 := by decide
    rw [h0] at hl1; omega
  have HR2 := Lib.hid hr1
  have HF2 := Lib.hid (HF1.out.trans hF)
  have HS2 := Lib.hid hS
  clear hP hst hr1 hl1 hF hS HF1 HR1 HS1
  go_wp2_with fail
  refine (numbers_rs 2 (by omega) HS2.out).mono ?_
  intro x w3 hP
  cases hst : runIt e (nums_ 2) l2 c2 with
  | error y =>
    obtain ⟨rfl, hF, hS⟩ := hP.err_ hst
    have hr1 := HR2.out
    rw [runIt_app_err hst] at hr1
    subst hr1
    exact ⟨rfl, HF2.out.trans hF, rfl, hS⟩
  | ok y =>
  obtain ⟨l3, c3⟩ := y
  obtain ⟨rfl, hF, hS⟩ := hP.ok_ hst
  have hr1 := HR2.out
  rw [runIt_app_ok hst] at hr1
  have hl1 := runIt_len hst
  have hn3 : c3.f2.length + 0 ≤ 1000 := by
    have h0 : ((nums_ 2).map addN).sum = 2 := by decide
    rw [h0] at hl1; omega
  have HR3 := Lib.hid hr1
  have HF3 := Lib.hid (HF2.out.trans hF)
  have HS3 := Lib.hid hS
  clear hP hst hr1 hl1 hF hS HF2 HR2 HS2
  have hr1 : r = .ok (l3, c3) := HR3.out.symm
  subst hr1
  clear HR3
  go_wp2
  exact bodyPost_ret (v := .tuple #[]) (by simp [results, Tryd.results96, go_sem]) rfl ⟨HF3.out, rfl, HS3.out⟩
def its_node : List It := [It.Nm] ++ ([It.W ⟨#[97, 116]⟩] ++ (nums_ 2 ++ ([It.Dr] ++ (prs [(⟨#[98, 97, 116, 116, 101, 114, 121]⟩ : ByteArray)] ++ []))))
set_option maxHeartbeats 16000000 in
set_option maxRecDepth 100000 in
theorem node_rs {b : Nat} {w : World} {R : Nat} {l : List Tok} {e : Int} {c : Cmd} (hm : c.f2.length + 4 ≤ 1000) (h : RS b w R l e c) :
    Calls Tryd.prog 98 #[.pointer (some ⟨R, 0, none⟩)] w (PostR b R e w (runIt e its_node l c)) := by
  generalize hr : runIt e its_node l c = r
  unfold its_node at hr
  have HR0 := Lib.hid hr
  have HS0 := Lib.hid h
  have HF0 := Lib.hid (Fr.refl R b w)
  have hn0 := hm
  clear hr h hm
  go_enter Tryd.func98, Tryd.ntmps98
  go_wp2_with fail
  refine (name_rs HS0.out).mono ?_
  intro x w1 hP
  cases hst : runIt e ([It.Nm]) l c with
  | error y =>
    obtain ⟨rfl, hF, hS⟩ := hP.err_ ((runIt_one e _ l c).symm.trans hst)
    have hr1 := HR0.out
    rw [runIt_app_err hst] at hr1
    subst hr1
    exact ⟨rfl, HF0.out.trans hF, rfl, hS⟩
  | ok y =>
  obtain ⟨l1, c1⟩ := y
  obtain ⟨rfl, hF, hS⟩ := hP.ok_ ((runIt_one e _ l c).symm.trans hst)
  have hr1 := HR0.out
  rw [runIt_app_ok hst] at hr1
  have hl1 := runIt_len hst
  have hn1 : c1.f2.length + 4 ≤ 1000 := by
    have h0 : (([It.Nm]).map addN).sum = 0 := by decide
    rw [h0] at hl1; omega
  have HR1 := Lib.hid hr1
  have HF1 := Lib.hid (HF0.out.trans hF)
  have HS1 := Lib.hid hS
  clear hP hst hr1 hl1 hF hS HF0 HR0 HS0
  go_wp2_with fail
  refine (word_rs ⟨#[97, 116]⟩ (by decide) HS1.out).mono ?_
  intro x w2 hP
  cases hst : runIt e ([It.W ⟨#[97, 116]⟩]) l1 c1 with
  | error y =>
    obtain ⟨rfl, hF, hS⟩ := hP.err_ ((runIt_one e _ l1 c1).symm.trans hst)
    have hr1 := HR1.out
    rw [runIt_app_err hst] at hr1
    subst hr1
    exact ⟨rfl, HF1.out.trans hF, rfl, hS⟩
  | ok y =>
  obtain ⟨l2, c2⟩ := y
  obtain ⟨rfl, hF, hS⟩ := hP.ok_ ((runIt_one e _ l1 c1).symm.trans hst)
  have hr1 := HR1.out
  rw [runIt_app_ok hst] at hr1
  have hl1 := runIt_len hst
  have hn2 : c2.f2.length + 4 ≤ 1000 := by
    have h0 : (([It.W ⟨#[97, 116]⟩]).map addN).sum = 0 := by decide
    rw [h0] at hl1; omega
  have HR2 := Lib.hid hr1
  have HF2 := Lib.hid (HF1.out.trans hF)
  have HS2 := Lib.hid hS
  clear hP hst hr1 hl1 hF hS HF1 HR1 HS1
  go_wp2_with fail
  refine (numbers_rs 2 (by omega) HS2.out).mono ?_
  intro x w3 hP
  cases hst : runIt e (nums_ 2) l2 c2 with
  | error y =>
    obtain ⟨rfl, hF, hS⟩ := hP.err_ hst
    have hr1 := HR2.out
    rw [runIt_app_err hst] at hr1
    subst hr1
    exact ⟨rfl, HF2.out.trans hF, rfl, hS⟩
  | ok y =>
  obtain ⟨l3, c3⟩ := y
  obtain ⟨rfl, hF, hS⟩ := hP.ok_ hst
  have hr1 := HR2.out
  rw [runIt_app_ok hst] at hr1
  have hl1 := runIt_len hst
  have hn3 : c3.f2.length + 2 ≤ 1000 := by
    have h0 : ((nums_ 2).map addN).sum = 2 := by decide
    rw [h0] at hl1; omega
  have HR3 := Lib.hid hr1
  have HF3 := Lib.hid (HF2.out.trans hF)
  have HS3 := Lib.hid hS
  clear hP hst hr1 hl1 hF hS HF2 HR2 HS2
  go_wp2_with fail
  refine (drift_rs (by omega) HS3.out).mono ?_
  intro x w4 hP
  cases hst : runIt e ([It.Dr]) l3 c3 with
  | error y =>
    obtain ⟨rfl, hF, hS⟩ := hP.err_ ((runIt_one e _ l3 c3).symm.trans hst)
    have hr1 := HR3.out
    rw [runIt_app_err hst] at hr1
    subst hr1
    exact ⟨rfl, HF3.out.trans hF, rfl, hS⟩
  | ok y =>
  obtain ⟨l4, c4⟩ := y
  obtain ⟨rfl, hF, hS⟩ := hP.ok_ ((runIt_one e _ l3 c3).symm.trans hst)
  have hr1 := HR3.out
  rw [runIt_app_ok hst] at hr1
  have hl1 := runIt_len hst
  have hn4 : c4.f2.length + 1 ≤ 1000 := by
    have h0 : (([It.Dr]).map addN).sum = 1 := by decide
    rw [h0] at hl1; omega
  have HR4 := Lib.hid hr1
  have HF4 := Lib.hid (HF3.out.trans hF)
  have HS4 := Lib.hid hS
  clear hP hst hr1 hl1 hF hS HF3 HR3 HS3
  go_wp2_with fail
  refine (pairs_rs [(⟨#[98, 97, 116, 116, 101, 114, 121]⟩ : ByteArray)] (by decide) w4.heap.size (blk_new _ _) (by have h1 := HS4.out.lt; have h2 := HS4.out.le; omega) (by show c4.f2.length + 1 ≤ 1000; omega) (HS4.out.alloc _)).mono ?_
  intro x w5 hP
  cases hst : runIt e (prs [(⟨#[98, 97, 116, 116, 101, 114, 121]⟩ : ByteArray)]) l4 c4 with
  | error y =>
    obtain ⟨rfl, hF, hS⟩ := hP.err_ hst
    have hr1 := HR4.out
    rw [runIt_app_err hst] at hr1
    subst hr1
    exact ⟨rfl, (HF4.out.alloc _).trans hF, rfl, hS⟩
  | ok y =>
  obtain ⟨l5, c5⟩ := y
  obtain ⟨rfl, hF, hS⟩ := hP.ok_ hst
  have hr1 := HR4.out
  rw [runIt_app_ok hst] at hr1
  have hl1 := runIt_len hst
  have hn5 : c5.f2.length + 0 ≤ 1000 := by
    have h0 : ((prs [(⟨#[98, 97, 116, 116, 101, 114, 121]⟩ : ByteArray)]).map addN).sum = 1 := by decide
    rw [h0] at hl1; omega
  have HR5 := Lib.hid hr1
  have HF5 := Lib.hid ((HF4.out.alloc _).trans hF)
  have HS5 := Lib.hid hS
  clear hP hst hr1 hl1 hF hS HF4 HR4 HS4
  have hr1 : r = .ok (l5, c5) := HR5.out.symm
  subst hr1
  clear HR5
  go_wp2
  exact bodyPost_ret (v := .tuple #[]) (by simp [results, Tryd.results98, go_sem]) rfl ⟨HF5.out, rfl, HS5.out⟩
def its_run : List It := nums_ 1 ++ []
set_option maxHeartbeats 16000000 in
set_option maxRecDepth 100000 in
theorem run_rs {b : Nat} {w : World} {R : Nat} {l : List Tok} {e : Int} {c : Cmd} (hm : c.f2.length + 1 ≤ 1000) (h : RS b w R l e c) :
    Calls Tryd.prog 100 #[.pointer (some ⟨R, 0, none⟩)] w (PostR b R e w (runIt e its_run l c)) := by
  generalize hr : runIt e its_run l c = r
  unfold its_run at hr
  have HR0 := Lib.hid hr
  have HS0 := Lib.hid h
  have HF0 := Lib.hid (Fr.refl R b w)
  have hn0 := hm
  clear hr h hm
  go_enter Tryd.func100, Tryd.ntmps100
  go_wp2_with fail
  refine (numbers_rs 1 (by omega) HS0.out).mono ?_
  intro x w1 hP
  cases hst : runIt e (nums_ 1) l c with
  | error y =>
    obtain ⟨rfl, hF, hS⟩ := hP.err_ hst
    have hr1 := HR0.out
    rw [runIt_app_err hst] at hr1
    subst hr1
    exact ⟨rfl, HF0.out.trans hF, rfl, hS⟩
  | ok y =>
  obtain ⟨l1, c1⟩ := y
  obtain ⟨rfl, hF, hS⟩ := hP.ok_ hst
  have hr1 := HR0.out
  rw [runIt_app_ok hst] at hr1
  have hl1 := runIt_len hst
  have hn1 : c1.f2.length + 0 ≤ 1000 := by
    have h0 : ((nums_ 1).map addN).sum = 1 := by decide
    rw [h0] at hl1; omega
  have HR1 := Lib.hid hr1
  have HF1 := Lib.hid (HF0.out.trans hF)
  have HS1 := Lib.hid hS
  clear hP hst hr1 hl1 hF hS HF0 HR0 HS0
  have hr1 : r = .ok (l1, c1) := HR1.out.symm
  subst hr1
  clear HR1
  go_wp2
  exact bodyPost_ret (v := .tuple #[]) (by simp [results, Tryd.results100, go_sem]) rfl ⟨HF1.out, rfl, HS1.out⟩
def its_named (many : Nat) : List It := [It.Nm] ++ (nums_ many ++ [])
set_option maxHeartbeats 16000000 in
set_option maxRecDepth 100000 in
theorem named_rs {b : Nat} {w : World} {R : Nat} {l : List Tok} {e : Int} {c : Cmd} (many B : Nat) (hmany : many ≤ 2) (hB : w.heap[B]? = some (.cells #[.int .i64 (many : Nat)] 3 (0, 0))) (hBR : B ≠ R) (hm : c.f2.length + 2 ≤ 1000) (h : RS b w R l e c) :
    Calls Tryd.prog 102 #[.pointer (some ⟨R, 0, none⟩), .pointer (some ⟨B, 0, none⟩)] w (PostR b R e w (runIt e (its_named many) l c)) := by
  generalize hr : runIt e (its_named many) l c = r
  unfold its_named at hr
  have HR0 := Lib.hid hr
  have HS0 := Lib.hid h
  have HF0 := Lib.hid (Fr.refl R b w)
  have hn0 := hm
  have HB := Lib.hid hB
  clear hB
  clear hr h hm
  go_enter Tryd.func102, Tryd.ntmps102
  go_wp2_with fail
  refine (name_rsS HS0.out).mono ?_
  intro x w1 hPS
  have hP := hPS.post
  have HB1 := Lib.hid ((hPS.1 (B + 1)).kept HB.out hBR (.inr (Nat.lt_succ_self B)))
  clear hPS
  cases hst : runIt e ([It.Nm]) l c with
  | error y =>
    obtain ⟨rfl, hF, hS⟩ := hP.err_ ((runIt_one e _ l c).symm.trans hst)
    have hr1 := HR0.out
    rw [runIt_app_err hst] at hr1
    subst hr1
    exact ⟨rfl, HF0.out.trans hF, rfl, hS⟩
  | ok y =>
  obtain ⟨l1, c1⟩ := y
  obtain ⟨rfl, hF, hS⟩ := hP.ok_ ((runIt_one e _ l c).symm.trans hst)
  have hr1 := HR0.out
  rw [runIt_app_ok hst] at hr1
  have hl1 := runIt_len hst
  have hn1 : c1.f2.length + 2 ≤ 1000 := by
    have h0 : (([It.Nm]).map addN).sum = 0 := by decide
    rw [h0] at hl1; omega
  have HR1 := Lib.hid hr1
  have HF1 := Lib.hid (HF0.out.trans hF)
  have HS1 := Lib.hid hS
  clear hP hst hr1 hl1 hF hS HF0 HR0 HS0
  have hb1 : w1.cell? ⟨B, 0, none⟩ = some (.int .i64 (many : Nat)) := by rw [blk_cell HB1.out]; rfl
  go_wp2_with fail
  refine (numbers_rs many (by omega) HS1.out).mono ?_
  intro x w2 hP
  cases hst : runIt e (nums_ many) l1 c1 with
  | error y =>
    obtain ⟨rfl, hF, hS⟩ := hP.err_ hst
    have hr1 := HR1.out
    rw [runIt_app_err hst] at hr1
    subst hr1
    exact ⟨rfl, HF1.out.trans hF, rfl, hS⟩
  | ok y =>
  obtain ⟨l2, c2⟩ := y
  obtain ⟨rfl, hF, hS⟩ := hP.ok_ hst
  have hr1 := HR1.out
  rw [runIt_app_ok hst] at hr1
  have hl1 := runIt_len hst
  have HR2 := Lib.hid hr1
  have HF2 := Lib.hid (HF1.out.trans hF)
  have HS2 := Lib.hid hS
  clear hP hst hr1 hl1 hF hS HF1 HR1 HS1 hn1
  have hr1 : r = .ok (l2, c2) := HR2.out.symm
  subst hr1
  clear HR2
  go_wp2
  exact bodyPost_ret (v := .tuple #[]) (by simp [results, Tryd.results102, go_sem]) rfl ⟨HF2.out, rfl, HS2.out⟩
def its_jam : List It := nums_ 2 ++ (prs [(⟨#[114, 97, 100, 105, 117, 115]⟩ : ByteArray), (⟨#[99, 104, 97, 110, 110, 101, 108]⟩ : ByteArray), (⟨#[102, 111, 114]⟩ : ByteArray)] ++ [])
set_option maxHeartbeats 16000000 in
set_option maxRecDepth 100000 in
theorem jam_rs {b : Nat} {w : World} {R : Nat} {l : List Tok} {e : Int} {c : Cmd} (hm : c.f2.length + 5 ≤ 1000) (h : RS b w R l e c) :
    Calls Tryd.prog 103 #[.pointer (some ⟨R, 0, none⟩)] w (PostR b R e w (runIt e its_jam l c)) := by
  generalize hr : runIt e its_jam l c = r
  unfold its_jam at hr
  have HR0 := Lib.hid hr
  have HS0 := Lib.hid h
  have HF0 := Lib.hid (Fr.refl R b w)
  have hn0 := hm
  clear hr h hm
  go_enter Tryd.func103, Tryd.ntmps103
  go_wp2_with fail
  refine (numbers_rs 2 (by omega) HS0.out).mono ?_
  intro x w1 hP
  cases hst : runIt e (nums_ 2) l c with
  | error y =>
    obtain ⟨rfl, hF, hS⟩ := hP.err_ hst
    have hr1 := HR0.out
    rw [runIt_app_err hst] at hr1
    subst hr1
    exact ⟨rfl, HF0.out.trans hF, rfl, hS⟩
  | ok y =>
  obtain ⟨l1, c1⟩ := y
  obtain ⟨rfl, hF, hS⟩ := hP.ok_ hst
  have hr1 := HR0.out
  rw [runIt_app_ok hst] at hr1
  have hl1 := runIt_len hst
  have hn1 : c1.f2.length + 3 ≤ 1000 := by
    have h0 : ((nums_ 2).map addN).sum = 2 := by decide
    rw [h0] at hl1; omega
  have HR1 := Lib.hid hr1
  have HF1 := Lib.hid (HF0.out.trans hF)
  have HS1 := Lib.hid hS
  clear hP hst hr1 hl1 hF hS HF0 HR0 HS0
  go_wp2_with fail
  refine (pairs_rs [(⟨#[114, 97, 100, 105, 117, 115]⟩ : ByteArray), (⟨#[99, 104, 97, 110, 110, 101, 108]⟩ : ByteArray), (⟨#[102, 111, 114]⟩ : ByteArray)] (by decide) w1.heap.size (blk_new _ _) (by have h1 := HS1.out.lt; have h2 := HS1.out.le; omega) (by show c1.f2.length + 3 ≤ 1000; omega) (HS1.out.alloc _)).mono ?_
  intro x w2 hP
  cases hst : runIt e (prs [(⟨#[114, 97, 100, 105, 117, 115]⟩ : ByteArray), (⟨#[99, 104, 97, 110, 110, 101, 108]⟩ : ByteArray), (⟨#[102, 111, 114]⟩ : ByteArray)]) l1 c1 with
  | error y =>
    obtain ⟨rfl, hF, hS⟩ := hP.err_ hst
    have hr1 := HR1.out
    rw [runIt_app_err hst] at hr1
    subst hr1
    exact ⟨rfl, (HF1.out.alloc _).trans hF, rfl, hS⟩
  | ok y =>
  obtain ⟨l2, c2⟩ := y
  obtain ⟨rfl, hF, hS⟩ := hP.ok_ hst
  have hr1 := HR1.out
  rw [runIt_app_ok hst] at hr1
  have hl1 := runIt_len hst
  have hn2 : c2.f2.length + 0 ≤ 1000 := by
    have h0 : ((prs [(⟨#[114, 97, 100, 105, 117, 115]⟩ : ByteArray), (⟨#[99, 104, 97, 110, 110, 101, 108]⟩ : ByteArray), (⟨#[102, 111, 114]⟩ : ByteArray)]).map addN).sum = 3 := by decide
    rw [h0] at hl1; omega
  have HR2 := Lib.hid hr1
  have HF2 := Lib.hid ((HF1.out.alloc _).trans hF)
  have HS2 := Lib.hid hS
  clear hP hst hr1 hl1 hF hS HF1 HR1 HS1
  have hr1 : r = .ok (l2, c2) := HR2.out.symm
  subst hr1
  clear HR2
  go_wp2
  exact bodyPost_ret (v := .tuple #[]) (by simp [results, Tryd.results103, go_sem]) rfl ⟨HF2.out, rfl, HS2.out⟩
def its_replay : List It := nums_ 1 ++ ([It.W ⟨#[97, 116]⟩] ++ (nums_ 2 ++ []))
set_option maxHeartbeats 16000000 in
set_option maxRecDepth 100000 in
theorem replay_rs {b : Nat} {w : World} {R : Nat} {l : List Tok} {e : Int} {c : Cmd} (hm : c.f2.length + 3 ≤ 1000) (h : RS b w R l e c) :
    Calls Tryd.prog 104 #[.pointer (some ⟨R, 0, none⟩)] w (PostR b R e w (runIt e its_replay l c)) := by
  generalize hr : runIt e its_replay l c = r
  unfold its_replay at hr
  have HR0 := Lib.hid hr
  have HS0 := Lib.hid h
  have HF0 := Lib.hid (Fr.refl R b w)
  have hn0 := hm
  clear hr h hm
  go_enter Tryd.func104, Tryd.ntmps104
  go_wp2_with fail
  refine (numbers_rs 1 (by omega) HS0.out).mono ?_
  intro x w1 hP
  cases hst : runIt e (nums_ 1) l c with
  | error y =>
    obtain ⟨rfl, hF, hS⟩ := hP.err_ hst
    have hr1 := HR0.out
    rw [runIt_app_err hst] at hr1
    subst hr1
    exact ⟨rfl, HF0.out.trans hF, rfl, hS⟩
  | ok y =>
  obtain ⟨l1, c1⟩ := y
  obtain ⟨rfl, hF, hS⟩ := hP.ok_ hst
  have hr1 := HR0.out
  rw [runIt_app_ok hst] at hr1
  have hl1 := runIt_len hst
  have hn1 : c1.f2.length + 2 ≤ 1000 := by
    have h0 : ((nums_ 1).map addN).sum = 1 := by decide
    rw [h0] at hl1; omega
  have HR1 := Lib.hid hr1
  have HF1 := Lib.hid (HF0.out.trans hF)
  have HS1 := Lib.hid hS
  clear hP hst hr1 hl1 hF hS HF0 HR0 HS0
  go_wp2_with fail
  refine (word_rs ⟨#[97, 116]⟩ (by decide) HS1.out).mono ?_
  intro x w2 hP
  cases hst : runIt e ([It.W ⟨#[97, 116]⟩]) l1 c1 with
  | error y =>
    obtain ⟨rfl, hF, hS⟩ := hP.err_ ((runIt_one e _ l1 c1).symm.trans hst)
    have hr1 := HR1.out
    rw [runIt_app_err hst] at hr1
    subst hr1
    exact ⟨rfl, HF1.out.trans hF, rfl, hS⟩
  | ok y =>
  obtain ⟨l2, c2⟩ := y
  obtain ⟨rfl, hF, hS⟩ := hP.ok_ ((runIt_one e _ l1 c1).symm.trans hst)
  have hr1 := HR1.out
  rw [runIt_app_ok hst] at hr1
  have hl1 := runIt_len hst
  have hn2 : c2.f2.length + 2 ≤ 1000 := by
    have h0 : (([It.W ⟨#[97, 116]⟩]).map addN).sum = 0 := by decide
    rw [h0] at hl1; omega
  have HR2 := Lib.hid hr1
  have HF2 := Lib.hid (HF1.out.trans hF)
  have HS2 := Lib.hid hS
  clear hP hst hr1 hl1 hF hS HF1 HR1 HS1
  go_wp2_with fail
  refine (numbers_rs 2 (by omega) HS2.out).mono ?_
  intro x w3 hP
  cases hst : runIt e (nums_ 2) l2 c2 with
  | error y =>
    obtain ⟨rfl, hF, hS⟩ := hP.err_ hst
    have hr1 := HR2.out
    rw [runIt_app_err hst] at hr1
    subst hr1
    exact ⟨rfl, HF2.out.trans hF, rfl, hS⟩
  | ok y =>
  obtain ⟨l3, c3⟩ := y
  obtain ⟨rfl, hF, hS⟩ := hP.ok_ hst
  have hr1 := HR2.out
  rw [runIt_app_ok hst] at hr1
  have hl1 := runIt_len hst
  have hn3 : c3.f2.length + 0 ≤ 1000 := by
    have h0 : ((nums_ 2).map addN).sum = 2 := by decide
    rw [h0] at hl1; omega
  have HR3 := Lib.hid hr1
  have HF3 := Lib.hid (HF2.out.trans hF)
  have HS3 := Lib.hid hS
  clear hP hst hr1 hl1 hF hS HF2 HR2 HS2
  have hr1 : r = .ok (l3, c3) := HR3.out.symm
  subst hr1
  clear HR3
  go_wp2
  exact bodyPost_ret (v := .tuple #[]) (by simp [results, Tryd.results104, go_sem]) rfl ⟨HF3.out, rfl, HS3.out⟩
def its_program : List It := nums_ 1 ++ (prs [(⟨#[115, 105, 122, 101]⟩ : ByteArray)] ++ [])
set_option maxHeartbeats 16000000 in
set_option maxRecDepth 100000 in
theorem program_rs {b : Nat} {w : World} {R : Nat} {l : List Tok} {e : Int} {c : Cmd} (hm : c.f2.length + 2 ≤ 1000) (h : RS b w R l e c) :
    Calls Tryd.prog 105 #[.pointer (some ⟨R, 0, none⟩)] w (PostR b R e w (runIt e its_program l c)) := by
  generalize hr : runIt e its_program l c = r
  unfold its_program at hr
  have HR0 := Lib.hid hr
  have HS0 := Lib.hid h
  have HF0 := Lib.hid (Fr.refl R b w)
  have hn0 := hm
  clear hr h hm
  go_enter Tryd.func105, Tryd.ntmps105
  go_wp2_with fail
  refine (numbers_rs 1 (by omega) HS0.out).mono ?_
  intro x w1 hP
  cases hst : runIt e (nums_ 1) l c with
  | error y =>
    obtain ⟨rfl, hF, hS⟩ := hP.err_ hst
    have hr1 := HR0.out
    rw [runIt_app_err hst] at hr1
    subst hr1
    exact ⟨rfl, HF0.out.trans hF, rfl, hS⟩
  | ok y =>
  obtain ⟨l1, c1⟩ := y
  obtain ⟨rfl, hF, hS⟩ := hP.ok_ hst
  have hr1 := HR0.out
  rw [runIt_app_ok hst] at hr1
  have hl1 := runIt_len hst
  have hn1 : c1.f2.length + 1 ≤ 1000 := by
    have h0 : ((nums_ 1).map addN).sum = 1 := by decide
    rw [h0] at hl1; omega
  have HR1 := Lib.hid hr1
  have HF1 := Lib.hid (HF0.out.trans hF)
  have HS1 := Lib.hid hS
  clear hP hst hr1 hl1 hF hS HF0 HR0 HS0
  go_wp2_with fail
  refine (pairs_rs [(⟨#[115, 105, 122, 101]⟩ : ByteArray)] (by decide) w1.heap.size (blk_new _ _) (by have h1 := HS1.out.lt; have h2 := HS1.out.le; omega) (by show c1.f2.length + 1 ≤ 1000; omega) (HS1.out.alloc _)).mono ?_
  intro x w2 hP
  cases hst : runIt e (prs [(⟨#[115, 105, 122, 101]⟩ : ByteArray)]) l1 c1 with
  | error y =>
    obtain ⟨rfl, hF, hS⟩ := hP.err_ hst
    have hr1 := HR1.out
    rw [runIt_app_err hst] at hr1
    subst hr1
    exact ⟨rfl, (HF1.out.alloc _).trans hF, rfl, hS⟩
  | ok y =>
  obtain ⟨l2, c2⟩ := y
  obtain ⟨rfl, hF, hS⟩ := hP.ok_ hst
  have hr1 := HR1.out
  rw [runIt_app_ok hst] at hr1
  have hl1 := runIt_len hst
  have hn2 : c2.f2.length + 0 ≤ 1000 := by
    have h0 : ((prs [(⟨#[115, 105, 122, 101]⟩ : ByteArray)]).map addN).sum = 1 := by decide
    rw [h0] at hl1; omega
  have HR2 := Lib.hid hr1
  have HF2 := Lib.hid ((HF1.out.alloc _).trans hF)
  have HS2 := Lib.hid hS
  clear hP hst hr1 hl1 hF hS HF1 HR1 HS1
  have hr1 : r = .ok (l2, c2) := HR2.out.symm
  subst hr1
  clear HR2
  go_wp2
  exact bodyPost_ret (v := .tuple #[]) (by simp [results, Tryd.results105, go_sem]) rfl ⟨HF2.out, rfl, HS2.out⟩
end Go.Proofs.YtdedlchpjboceaaDoor.Px
end

section
namespace Go.Proofs.YtdedlchpjboceaaDoor.Px
open Go.RowKit Go.Shelf Go.Proofs.YtdedlchpjboceaaDoor.Lx Go.Proofs.YtdedlchpjboceaaDoorW.PrintWords Go.Proofs.YtdedlchpjboceaaDoorW.PrintLast Go.Proofs.YtdedlchpjboceaaDoorW.PrintMore
attribute [local go_sem] Oper.semAt_some
/-- Block b is a map with these entries. -/
def Mp (W : World) (b : Nat) (kvs : List (ByteArray × Value)) : Prop :=
  ∃ es clock, W.heap[b]? = some (.map es clock) ∧ es.toList.map (fun e => (e.key, e.val)) = kvs.map (fun p => (Value.string p.1, p.2))
theorem Mp.lt {W : World} {b : Nat} {kvs : List (ByteArray × Value)} (h : Mp W b kvs) : b < W.heap.size := by obtain ⟨es, cl, hb, _⟩ := h; exact blk_lt hb
theorem Mp.new (W : World) : Mp (W.alloc (.map #[] 0)) W.heap.size [] := ⟨#[], 0, blk_new _ _, rfl⟩
theorem Mp.same {W W' : World} {b : Nat} {kvs : List (ByteArray × Value)} (h : Mp W b kvs) (hb : W'.heap[b]? = W.heap[b]?) : Mp W' b kvs := by
  obtain ⟨es, cl, h1, h2⟩ := h
  exact ⟨es, cl, hb.trans h1, h2⟩
theorem findNow_kvs (k : ByteArray) : ∀ (l : List MapEntry) (kvs : List (ByteArray × Value)) (i : Nat), l.map (fun e => (e.key, e.val)) = kvs.map (fun p => (Value.string p.1, p.2)) →
    (Instr.findNow .string (.string k) l i = some none ∧ kvs.find? (fun p => decide (p.1 = k)) = none) ∨ ∃ j v, Instr.findNow .string (.string k) l i = some (some (j, v)) ∧ ∃ p, kvs.find? (fun p => decide (p.1 = k)) = some p ∧ p.2 = v
  | [], [], i, _ => .inl ⟨rfl, rfl⟩
  | [], _ :: _, i, h => by simp at h
  | _ :: _, [], i, h => by simp at h
  | x :: l, p :: kvs, i, h => by
    simp only [List.map_cons, List.cons.injEq, Prod.mk.injEq] at h
    obtain ⟨⟨h1, h2⟩, h3⟩ := h
    have hs : Instr.sameNow .string (.string k) x.key = some (k == p.1) := by rw [h1]; rfl
    by_cases hk : p.1 = k
    · have hb : (k == p.1) = true := (MapKept.bytes_beq _ _).2 hk.symm
      rw [hb] at hs
      refine .inr ⟨i, x.val, ?_, p, ?_, h2.symm⟩
      · unfold Instr.findNow; rw [hs]
      · simp [hk]
    · have hb : (k == p.1) = false := by
        cases hq : (k == p.1) with
        | false => rfl
        | true => exact absurd ((MapKept.bytes_beq _ _).1 hq).symm hk
      rw [hb] at hs
      rcases findNow_kvs k l kvs (i + 1) h3 with ⟨h4, h5⟩ | ⟨j, v, h4, h5⟩
      · refine .inl ⟨?_, ?_⟩
        · unfold Instr.findNow; rw [hs]; exact h4
        · simp [hk, h5]
      · refine .inr ⟨j, v, ?_, ?_⟩
        · unfold Instr.findNow; rw [hs]; exact h4
        · simp [hk, h5]
theorem Mp.insert {P : Program} {w : World} {b : Nat} {kvs : List (ByteArray × Value)} {t kt et : TypeId} (h : Mp w b kvs) (hm : P.underlying t = some (.map kt et)) (hd : P.underlying kt = some .string) (k : ByteArray) (v : Value) (hk : kvs.find? (fun p => decide (p.1 = k)) = none) :
    ∃ w', (Instr.mapUpdate t (.map (some b)) (.string k) v).run P w = .ok () w' ∧ Mp w' b (kvs ++ [(k, v)]) ∧ w.grownBy w' (some b) := by
  obtain ⟨es, cl, hb, he⟩ := h
  have hf : Instr.findNow .string (.string k) es.toList 0 = some none := by
    rcases findNow_kvs k es.toList kvs 0 he with ⟨h4, _⟩ | ⟨j, v', h4, p, h5, _⟩
    · exact h4
    · rw [hk] at h5; cases h5
  refine ⟨{ w with heap := w.heap.setIfInBounds b (.map (es.push ⟨.string k, v, cl⟩) (cl + 1)) }, ?_, ⟨es.push ⟨.string k, v, cl⟩, cl + 1, (MapKept.heap_set hb).1, by simp [he]⟩, ⟨rfl, rfl, rfl, by simp, fun i _ hne => (MapKept.heap_set hb).2 i (fun e => hne (by rw [e]))⟩⟩
  simp [Instr.mapUpdate, run_underlying hm, MapKept.run_getObj_map hb, MapKept.run_checkKey hd (show MapKept.IsKey .string (.string k) from trivial), MapKept.run_findKey hd hf, MapKept.run_setObj_map _ hb, Result.andThen]
/-- What a look-up finds. -/
def lookV (kvs : List (ByteArray × Value)) (k : ByteArray) (z : Value) : Value × Bool := match kvs.find? (fun p => decide (p.1 = k)) with | some p => (p.2, true) | none => (z, false)
theorem Mp.look {P : Program} {w : World} {b : Nat} {kvs : List (ByteArray × Value)} {t kt et : TypeId} (h : Mp w b kvs) (hm : P.underlying t = some (.map kt et)) (hd : P.underlying kt = some .string) (z : Value) (hz : (zeroValue et).run P w = .ok z w) (k : ByteArray) :
    (Instr.lookup t (.map (some b)) (.string k) true).run P w = .ok (.tuple #[(lookV kvs k z).1, .bool (lookV kvs k z).2]) w := by
  obtain ⟨es, cl, hb, he⟩ := h
  unfold lookV
  rcases findNow_kvs k es.toList kvs 0 he with ⟨h4, h5⟩ | ⟨j, v, h4, p, h5, h6⟩
  · rw [h5]
    simp [Instr.lookup, run_underlying hm, MapKept.run_getObj_map hb, MapKept.run_checkKey hd (show MapKept.IsKey .string (.string k) from trivial), MapKept.run_findKey hd h4, hz, Result.andThen]
  · rw [h5]
    simp [Instr.lookup, run_underlying hm, MapKept.run_getObj_map hb, MapKept.run_checkKey hd (show MapKept.IsKey .string (.string k) from trivial), MapKept.run_findKey hd h4, h6, Result.andThen]
/-- A map literal's entry, at the operation. -/
theorem wpList_insert {P : Program} (w : World) {ops : Array Oper} {rest : List Oper} {o : Oper} {a : Act} {Q : Exit → Act → World → Prop}
    (hg : o.guard = none) (m x v : Operand) (t : TypeId) (hop : o.op = Op.insert t m x v) (kt et : TypeId) (hm : P.underlying t = some (.map kt et)) (hd : P.underlying kt = some .string) (b : Nat) (kvs : List (ByteArray × Value))
    (hmv : a.eval m = .map (some b)) (h : Mp w b kvs) (k : ByteArray) (val : Value) (hx : a.eval x = .string k) (hv : a.eval v = val) (hk : kvs.find? (fun p => decide (p.1 = k)) = none)
    (hK : ∀ w', Mp w' b (kvs ++ [(k, val)]) → w.grownBy w' (some b) → wpList P ops Q rest (a.put o.dst undef) w') : wpList P ops Q (o :: rest) a w := by
  refine wpList_plain hg fun K' hK' => ?_
  obtain ⟨w', hrun, r1, r2⟩ := h.insert (t := t) hm hd k val hk
  unfold Oper.wp
  simp [execOp, hop, hmv, hx, hv, hrun, Result.andThen]
  exact hK' _ _ (hK w' r1 r2)
theorem below_map {w W W1 : World} {b : Nat} (h : Below w.heap.size w W) (g : W.grownBy W1 (some b)) (hb : w.heap.size ≤ b) : Below w.heap.size w W1 := h.grown g h.size (fun k e => by injection e with e; omega)
def bs (l : List UInt8) : ByteArray := ⟨l.toArray⟩
/-- A form as a value. -/
def formV (k : Int) (f : Value) : Value := .agg #[.int .i64 k, f]
def cmdKvs : List (ByteArray × Value) :=
  [(⟨#[109, 101, 115, 104]⟩, formV 1 (.func (.func 94) #[] #[])), (⟨#[114, 111, 111, 116]⟩, formV 2 (.func (.func 96) #[] #[])), (⟨#[110, 111, 100, 101]⟩, formV 3 (.func (.func 98) #[] #[])), (⟨#[114, 117, 110]⟩, formV 11 (.func (.func 100) #[] #[]))]
set_option maxHeartbeats 8000000 in
set_option maxRecDepth 100000 in
theorem commands_any (w : World) : Calls Tryd.prog 68 #[] w fun x w' => (x = .returned (.map (some w.heap.size)) ∧ Mp w' w.heap.size cmdKvs) ∧ Below w.heap.size w w' := by
  have hmk : ∀ W : World, (Instr.makeMap 95 none).run Tryd.prog W = .ok (.map (some W.heap.size)) (W.alloc (.map #[] 0)) := fun W => rfl
  have m0 := Mp.new w
  have hB0 := (Below.refl w.heap.size w).alloc (Nat.le_refl _) (.map #[] 0)
  go_enter Tryd.func68, Tryd.ntmps68
  go_wp2_with (refine wpList_insert _ rfl (.tmp 1) _ _ 95 rfl 9 101 Tryd.underlying95 Tryd.underlying9 w.heap.size _ rfl (by assumption) _ _ rfl rfl rfl ?_; intro w1 m1 g1; have hB1 := below_map (by assumption) g1 (Nat.le_refl _))
  go_ret
  exact ⟨⟨rfl, m1⟩, hB1⟩
set_option maxHeartbeats 4000000 in
theorem named_any (m : Int) (w : World) : Calls Tryd.prog 101 #[.int .i64 m] w fun x w' => x = .returned (.func (.func 102) #[] #[.pointer (some ⟨w.heap.size, 0, none⟩)]) ∧ w.alloc (.cells #[.int .i64 m] 3) = w' := by
  have hmf : ∀ (fn : Fn) (first cap : Array Value) (w : World), (Instr.makeFunc fn first cap).run Tryd.prog w = .ok (.func fn first cap) w := fun _ _ _ _ => rfl
  go_enter Tryd.func101, Tryd.ntmps101
  go_wp2
  go_ret
  exact ⟨rfl, rfl⟩
def evKvs (b0 b1 b2 b3 : Nat) : List (ByteArray × Value) :=
  [(⟨#[109, 111, 118, 101]⟩, formV 4 (.func (.func 102) #[] #[.pointer (some ⟨b0, 0, none⟩)])), (⟨#[102, 97, 105, 108]⟩, formV 5 (.func (.func 102) #[] #[.pointer (some ⟨b1, 0, none⟩)])), (⟨#[115, 116, 97, 114, 116]⟩, formV 6 (.func (.func 102) #[] #[.pointer (some ⟨b2, 0, none⟩)])), (⟨#[114, 101, 97, 100]⟩, formV 7 (.func (.func 102) #[] #[.pointer (some ⟨b3, 0, none⟩)])),
   (⟨#[106, 97, 109]⟩, formV 8 (.func (.func 103) #[] #[])), (⟨#[114, 101, 112, 108, 97, 121]⟩, formV 9 (.func (.func 104) #[] #[])), (⟨#[112, 114, 111, 103, 114, 97, 109]⟩, formV 10 (.func (.func 105) #[] #[]))]
/-- The numbers' boxes of the four named events. -/
def EvBoxes (w : World) (n b0 b1 b2 b3 : Nat) : Prop :=
  (n ≤ b0 ∧ n ≤ b1 ∧ n ≤ b2 ∧ n ≤ b3) ∧ w.heap[b0]? = some (.cells #[.int .i64 2] 3 (0, 0)) ∧ w.heap[b1]? = some (.cells #[.int .i64 0] 3 (0, 0)) ∧ w.heap[b2]? = some (.cells #[.int .i64 0] 3 (0, 0)) ∧ w.heap[b3]? = some (.cells #[.int .i64 1] 3 (0, 0))
/-- While the map of the events is made. -/
structure EvI (w W : World) (b : Nat) (kvs : List (ByteArray × Value)) (bx : List (Nat × Int)) : Prop where
  below : Below w.heap.size w W
  mp : Mp W b kvs
  le : w.heap.size ≤ b
  box : ∀ p ∈ bx, w.heap.size ≤ p.1 ∧ W.heap[p.1]? = some (.cells #[.int .i64 p.2] 3 (0, 0))
theorem EvI.alloc {w W : World} {b : Nat} {kvs : List (ByteArray × Value)} {bx : List (Nat × Int)} (h : EvI w W b kvs bx) (m : Int) : EvI w (W.alloc (.cells #[.int .i64 m] 3)) b kvs (bx ++ [(W.heap.size, m)]) := by
  refine ⟨h.below.alloc h.below.size _, h.mp.same (Below.heap_alloc _ _ _ h.mp.lt), h.le, fun p hp => ?_⟩
  rcases List.mem_append.1 hp with hp | hp
  · exact ⟨(h.box p hp).1, blk_alloc (h.box p hp).2 _⟩
  · obtain rfl := List.mem_singleton.1 hp
    exact ⟨h.below.size, blk_new _ _⟩
theorem named_I {w W : World} {b : Nat} {kvs : List (ByteArray × Value)} {bx : List (Nat × Int)} (h : EvI w W b kvs bx) (m : Int) : Calls Tryd.prog 101 #[.int .i64 m] W fun x w' => x = .returned (.func (.func 102) #[] #[.pointer (some ⟨W.heap.size, 0, none⟩)]) ∧ EvI w w' b kvs (bx ++ [(W.heap.size, m)]) :=
  (named_any m W).mono (fun x w' hh => ⟨hh.1, by rw [← hh.2]; exact h.alloc m⟩)
theorem EvI.ins {w W W1 : World} {b : Nat} {kvs kvs' : List (ByteArray × Value)} {bx : List (Nat × Int)} (h : EvI w W b kvs bx) (g : W.grownBy W1 (some b)) (m : Mp W1 b kvs') : EvI w W1 b kvs' bx := by
  refine ⟨below_map h.below g h.le, m, h.le, fun p hp => ⟨(h.box p hp).1, (g.block p.1 (blk_lt (h.box p hp).2) (fun e => ?_)).trans (h.box p hp).2⟩⟩
  obtain ⟨es, cl, hb, _⟩ := h.mp
  have e' : p.1 = b := by injection e
  rw [← e', (h.box p hp).2] at hb
  cases hb
theorem EvI.fin {w W : World} {b : Nat} {kvs : List (ByteArray × Value)} {bx : List (Nat × Int)} (h : EvI w W b kvs bx) (b0 b1 b2 b3 : Nat) (hb : bx = [(b0, 2), (b1, 0), (b2, 0), (b3, 1)]) (hk : kvs = evKvs b0 b1 b2 b3) :
    ∃ b' b0 b1 b2 b3, (Ending.returned (.map (some b)) = .returned (.map (some b')) ∧ Mp W b' (evKvs b0 b1 b2 b3) ∧ EvBoxes W w.heap.size b0 b1 b2 b3) ∧ Below w.heap.size w W := by
  subst hb hk
  have h0 := h.box (b0, 2) (by simp)
  have h1 := h.box (b1, 0) (by simp)
  have h2 := h.box (b2, 0) (by simp)
  have h3 := h.box (b3, 1) (by simp)
  exact ⟨b, b0, b1, b2, b3, ⟨rfl, h.mp, ⟨h0.1, h1.1, h2.1, h3.1⟩, h0.2, h1.2, h2.2, h3.2⟩, h.below⟩
set_option maxHeartbeats 8000000 in
set_option maxRecDepth 100000 in
theorem events_any (w : World) : Calls Tryd.prog 71 #[] w fun x w' => ∃ b b0 b1 b2 b3, (x = .returned (.map (some b)) ∧ Mp w' b (evKvs b0 b1 b2 b3) ∧ EvBoxes w' w.heap.size b0 b1 b2 b3) ∧ Below w.heap.size w w' := by
  have hmk : ∀ W : World, (Instr.makeMap 95 none).run Tryd.prog W = .ok (.map (some W.heap.size)) (W.alloc (.map #[] 0)) := fun W => rfl
  have hI0 : EvI w (w.alloc (.map #[] 0)) w.heap.size [] [] := ⟨(Below.refl w.heap.size w).alloc (Nat.le_refl _) (.map #[] 0), Mp.new w, Nat.le_refl _, fun p hp => by cases hp⟩
  go_enter Tryd.func71, Tryd.ntmps71
  go_wp2_with (first
    | (go_at_call 101; refine (named_I (by assumption) _).mono ?_; rintro x w' ⟨rfl, hI⟩)
    | (refine wpList_insert _ rfl (.tmp 2) _ _ 95 rfl 9 101 Tryd.underlying95 Tryd.underlying9 w.heap.size _ rfl (EvI.mp (by assumption)) _ _ rfl rfl rfl ?_; intro w1 m1 g1; have hI := EvI.ins (by assumption) g1 m1; clear m1 g1))
  go_ret
  rw [World.size_alloc] at hI
  exact hI.fin _ _ _ _ rfl rfl
end Go.Proofs.YtdedlchpjboceaaDoor.Px
end

section
namespace Go.Proofs.YtdedlchpjboceaaDoor.Px
open Go.RowKit Go.Shelf Go.Proofs.YtdedlchpjboceaaDoor.Lx Go.Proofs.YtdedlchpjboceaaDoorW.PrintWords Go.Proofs.YtdedlchpjboceaaDoorW.PrintLast Go.Proofs.YtdedlchpjboceaaDoorW.PrintMore
attribute [local go_sem] Oper.semAt_some
def atT : ByteArray := ⟨#[97, 116]⟩
def semiT : ByteArray := ⟨#[59]⟩
/-- The reader before a command. -/
def PreR (W : World) (R : Nat) (l : List Tok) (e : Int) : Prop :=
  ∃ A cap k nm vn a, Rd W R (.slice A l.length cap) e k nm vn a ∧ l.length ≤ cap ∧ Kd.C kT W A l.length l ∧ ∀ ad, A = some ad → ad.block < W.heap.size ∧ ad.block ≠ R ∧ ad.block < R
theorem RS.pre {b : Nat} {W : World} {R : Nat} {l : List Tok} {e : Int} {c : Cmd} (h : RS b W R l e c) : PreR W R l e := by
  obtain ⟨h1, h2, A, cap, vn, h3, h4, h5, h6, h7⟩ := h
  exact ⟨A, cap, _, _, vn, _, h3, h4, h5, fun ad e => ⟨Nat.lt_of_lt_of_le (h6 ad e).1 h2, (h6 ad e).2⟩⟩
theorem PreR.below {W W' : World} {R : Nat} {l : List Tok} {e : Int} (h : PreR W R l e) (hb : Below W.heap.size W W') : PreR W' R l e := by
  obtain ⟨A, cap, k, nm, vn, a, h3, h4, h5, h6⟩ := h
  exact ⟨A, cap, k, nm, vn, a, blk_below h3 hb, h4, Kd.C_below h5 hb, fun ad e => ⟨Nat.lt_of_lt_of_le (h6 ad e).1 hb.size, (h6 ad e).2⟩⟩
theorem next_pre {w : World} {R : Nat} {l : List Tok} {e : Int} (h : PreR w R l e) :
    Calls Tryd.prog 67 #[.pointer (some ⟨R, 0, none⟩)] w fun x w' => x = .returned (.agg #[.int .i64 (nextT l e).f0, .string (nextT l e).f1, .int .i64 (nextT l e).f2, .int .i64 (nextT l e).f3]) ∧ Below w.heap.size w w' := by
  obtain ⟨A, cap, k, nm, vn, a, h3, h4, h5, h6⟩ := h
  exact next_any R A cap l e w (by rw [blk_cell h3]; rfl) (by rw [blk_cell h3]; rfl) h5
/-- An empty command at an offset. -/
def cmd0 (a : Int) : Cmd := ⟨0, ⟨#[]⟩, [], a⟩
/-- The forms behind their first words. -/
def formC (s : ByteArray) : Option (Int × List It) :=
  if s = ⟨#[109, 101, 115, 104]⟩ then some (1, its_mesh) else if s = ⟨#[114, 111, 111, 116]⟩ then some (2, its_root) else if s = ⟨#[110, 111, 100, 101]⟩ then some (3, its_node) else if s = ⟨#[114, 117, 110]⟩ then some (11, its_run) else none
def formE (s : ByteArray) : Option (Int × List It) :=
  if s = ⟨#[109, 111, 118, 101]⟩ then some (4, its_named 2) else if s = ⟨#[102, 97, 105, 108]⟩ then some (5, its_named 0) else if s = ⟨#[115, 116, 97, 114, 116]⟩ then some (6, its_named 0) else if s = ⟨#[114, 101, 97, 100]⟩ then some (7, its_named 1)
  else if s = ⟨#[106, 97, 109]⟩ then some (8, its_jam) else if s = ⟨#[114, 101, 112, 108, 97, 121]⟩ then some (9, its_replay) else if s = ⟨#[112, 114, 111, 103, 114, 97, 109]⟩ then some (10, its_program) else none
/-- Behind the forms' choice. -/
def tailR (e : Int) (fm : ByteArray → Option (Int × List It)) (l : List Tok) (c : Cmd) : Res :=
  match fm (nextT l e).f1 with
  | none => .error ((nextT l e).f3, l)
  | some (k, its) => runIt e (its ++ [.W semiT]) l.tail { c with f0 := k }
/-- A command. -/
def cmdR (e : Int) (l : List Tok) : Res :=
  if (nextT l e).f1 = atT then
    (match runIt e (.W atT :: nums_ 1) l (cmd0 (nextT l e).f3) with
    | .error x => .error x
    | .ok (l1, c1) => tailR e formE l1 c1)
  else tailR e formC l (cmd0 (nextT l e).f3)
/-- What 'command' answers. -/
def PostC (R : Nat) (e : Int) (w : World) (r : Res) (x : Ending) (w' : World) : Prop :=
  w.grownBy w' (some R) ∧ match r with
    | .ok y => x = .returned (.tuple #[.int .i64 0, .bool true]) ∧ RS (w.heap.size + 2) w' R y.1 e y.2
    | .error y => x = .returned (.tuple #[.int .i64 y.1, .bool false]) ∧ ∃ c, RS (w.heap.size + 2) w' R y.2 e c
set_option maxHeartbeats 8000000 in
set_option maxRecDepth 100000 in
/-- The deferred closure where the frame panics: the failure's offset is laid, and false. -/
theorem catch_panicking (a x : Int) (P Q : Nat) (y : Bool) (w : World) (hp : w.heap[P]? = some (.cells #[.int .i64 x] 3 (0, 0))) (hq : w.heap[Q]? = some (.cells #[.bool y] 4 (0, 0))) (hne : P ≠ Q) :
    CallsD Tryd.prog 66 #[.pointer (some ⟨P, 0, none⟩), .pointer (some ⟨Q, 0, none⟩)] (.panicking (failAt a)) w fun e u' w' =>
      e = .returned (.tuple #[]) ∧ u' = .panicking [{ v := .iface 93 (.agg #[.int .i64 a]), recovered := true }] ∧ w' = (w.setCell ⟨P, 0, none⟩ (.int .i64 a)).setCell ⟨Q, 0, none⟩ (.bool false) := by
  have c0 : w.cell? ⟨P, 0, none⟩ = some (.int .i64 x) := by rw [blk_cell hp]; rfl
  have f0 := blk_frozen hp 0
  have hq' := blk_far hq ⟨P, 0, none⟩ (.int .i64 a) (Ne.symm hne)
  have c1 : (w.setCell ⟨P, 0, none⟩ (.int .i64 a)).cell? ⟨Q, 0, none⟩ = some (.bool y) := by rw [blk_cell hq']; rfl
  have f1 := blk_frozen hq' 0
  have hnn : ∀ w, (binOp .neq 20 (.iface 93 (.agg #[.int .i64 a])) .nilIface).run Tryd.prog w = .ok (.bool true) w := fun w => by kernel_rfl
  have hta : ∀ w, (Instr.typeAssert (.iface 93 (.agg #[.int .i64 a])) 20 93 false).run Tryd.prog w = .ok (.agg #[.int .i64 a]) w := fun w => by kernel_rfl
  have hfd : ∀ w, (Instr.field 93 (.agg #[.int .i64 a]) 0).run Tryd.prog w = .ok (.int .i64 a) w := fun w => by kernel_rfl
  refine callsD_of_wpS Tryd.func66 rfl fun c₀ cs hu => ?_
  apply wpS_seq
  apply wpS_region
  simp [wpOpsS, go_sem, recoverD, hu, failAt, Tryd.ntmps66, Exit.thenS]
  apply wpS_seq
  apply wpS_region
  simp [wpOpsS, go_sem, hnn, Exit.thenS, Act.put, Array.replicate]
  refine wpS_cond (t := true) (by simp [Act.eval]) ?_
  simp only [if_true]
  apply wpS_region
  simp [wpOpsS, go_sem, hta, hfd, c0, f0, c1, f1, bodyPostS, results, Tryd.results66]
set_option maxHeartbeats 8000000 in
set_option maxRecDepth 100000 in
/-- .. where the frame returns: nothing. -/
theorem catch_idle (P Q : Nat) (w : World) :
    CallsD Tryd.prog 66 #[.pointer (some ⟨P, 0, none⟩), .pointer (some ⟨Q, 0, none⟩)] .returning w fun e u' w' => e = .returned (.tuple #[]) ∧ u' = .returning ∧ w' = w := by
  have hnn : ∀ w, (binOp .neq 20 .nilIface .nilIface).run Tryd.prog w = .ok (.bool false) w := fun w => by kernel_rfl
  refine callsD_of_wpS Tryd.func66 rfl fun c₀ cs hu => ?_
  apply wpS_seq
  apply wpS_region
  simp [wpOpsS, go_sem, recoverD, hu, Tryd.ntmps66, Exit.thenS]
  apply wpS_seq
  apply wpS_region
  simp [wpOpsS, go_sem, hnn, Exit.thenS, Act.put, Array.replicate]
  refine wpS_cond (t := false) (by simp [Act.eval]) ?_
  simp only [Bool.false_eq_true, if_false]
  refine wpS_of_wp (wp_skip ?_)
  cases c₀
  simp_all [bodyPostS, results, Tryd.results66]
/-- The frame's two result boxes, of the reader's step since they were made. -/
structure CI (w : World) (R : Nat) (W : World) : Prop where
  fr : Fr R (w.heap.size + 2) w W
  b0 : ∃ x, W.heap[w.heap.size]? = some (.cells #[.int .i64 x] 3 (0, 0))
  b1 : ∃ y, W.heap[w.heap.size + 1]? = some (.cells #[.bool y] 4 (0, 0))
  lt : R < w.heap.size
theorem CI.step {w W W' : World} {R : Nat} (h : CI w R W) (hf : Fr R (w.heap.size + 2) W W') : CI w R W' := by
  have hr := h.lt
  obtain ⟨x, hx⟩ := h.b0
  obtain ⟨y, hy⟩ := h.b1
  exact ⟨h.fr.trans hf, ⟨x, hf.kept hx (by omega) (.inr (by omega))⟩, ⟨y, hf.kept hy (by omega) (.inr (by omega))⟩, hr⟩
theorem CI.grown {w W : World} {R : Nat} (h : CI w R W) : w.grownBy W (some R) :=
  ⟨h.fr.os, h.fr.tape, h.fr.output, h.fr.size, fun k hk hne => h.fr.block k hk (fun e => hne (by rw [e])) (.inl (by omega))⟩
/-- Stores to the frame's two boxes. -/
theorem RS.boxes {w W : World} {R : Nat} {l : List Tok} {e : Int} {c : Cmd} (h : RS (w.heap.size + 2) W R l e c) (hlt : R < w.heap.size) (x : Int) (y : Bool) (_ : W.heap[w.heap.size]? = some (.cells #[.int .i64 x] 3 (0, 0))) (_ : W.heap[w.heap.size + 1]? = some (.cells #[.bool y] 4 (0, 0))) (u v : Value) :
    RS (w.heap.size + 2) ((W.setCell ⟨w.heap.size, 0, none⟩ u).setCell ⟨w.heap.size + 1, 0, none⟩ v) R l e c := by
  obtain ⟨h1, h2, A, cap, vn, h3, h4, h5, h6, h7⟩ := h
  have hb : ∀ k, k ≠ w.heap.size → k ≠ w.heap.size + 1 → ((W.setCell ⟨w.heap.size, 0, none⟩ u).setCell ⟨w.heap.size + 1, 0, none⟩ v).heap[k]? = W.heap[k]? := fun k k1 k2 => by
    rw [Below.heap_setCell _ _ _ _ k2, Below.heap_setCell _ _ _ _ k1]
  refine ⟨h1, by rw [size_set, size_set]; exact h2, A, cap, vn, (hb R (by omega) (by omega)).trans h3, h4, C_same h5 (fun ad e _ => hb _ (by have := (h6 ad e).2.2; omega) (by have := (h6 ad e).2.2; omega)), h6, ?_⟩
  exact Kd.R_mono (Kd.R_step (Kd.R_bound h7) (fun k hk hlt => hb k (by have := hk.2.1; omega) (by have := hk.2.1; omega))) (fun _ _ => trivial)
/-- The panicking end. -/
theorem fin_panic {w W : World} {R : Nat} {l : List Tok} {e a : Int} {tmps : Array Value} {r : Res} (hI : CI w R W) (hS : ∃ c, RS (w.heap.size + 2) W R l e c) (hr : r = .error (a, l))
    (h2 : tmps.getD 2 undef = .pointer (some ⟨w.heap.size, 0, none⟩)) (h3 : tmps.getD 3 undef = .pointer (some ⟨w.heap.size + 1, 0, none⟩)) :
    bodyPostD Tryd.prog Tryd.f43 (PostC R e w r) (.panic (failAt a)) { tmps := tmps, defers := [{ target := .fn (.func 66) #[.pointer (some ⟨w.heap.size, 0, none⟩), .pointer (some ⟨w.heap.size + 1, 0, none⟩)], args := #[] }] } W := by
  subst hr
  obtain ⟨x, hx⟩ := hI.b0
  obtain ⟨y, hy⟩ := hI.b1
  have hlt := hI.lt
  show Leaves _ _ _ _ _ _ _
  refine leaves_cons (f := 66) (args := #[.pointer (some ⟨w.heap.size, 0, none⟩), .pointer (some ⟨w.heap.size + 1, 0, none⟩)]) (by simp [failAt]) (by simp [go_sem]) ?_
  refine (catch_panicking a x w.heap.size (w.heap.size + 1) y W hx hy (by omega)).mono ?_
  rintro e' u' w'' ⟨rfl, rfl, rfl⟩
  have g0 : ((W.setCell ⟨w.heap.size, 0, none⟩ (.int .i64 a)).setCell ⟨w.heap.size + 1, 0, none⟩ (.bool false)).heap[w.heap.size]? = some (.cells #[.int .i64 a] 3 (0, 0)) := blk_far ((blk_set hx 0 _).trans rfl) ⟨w.heap.size + 1, 0, none⟩ _ (by show w.heap.size ≠ w.heap.size + 1; omega)
  have g1 : ((W.setCell ⟨w.heap.size, 0, none⟩ (.int .i64 a)).setCell ⟨w.heap.size + 1, 0, none⟩ (.bool false)).heap[w.heap.size + 1]? = some (.cells #[.bool false] 4 (0, 0)) := (blk_set (blk_far hy ⟨w.heap.size, 0, none⟩ _ (by show w.heap.size + 1 ≠ w.heap.size; omega)) 0 _).trans rfl
  have c0 := blk_cell g0 0
  have c1 := blk_cell g1 0
  simp at c0 c1
  show Leaves _ _ _ _ [] (settle _) _
  refine ⟨.tuple #[.int .i64 a, .bool false], ?_, ⟨?_, rfl, ?_⟩⟩
  · simp only [Array.getD_eq_getD_getElem?] at h2 h3
    simp [results, Tryd.results43, go_sem, h2, h3, c0, c1]
  · have hg := hI.grown
    refine ⟨hg.os, hg.tape, hg.output, by rw [size_set, size_set]; exact hg.size, fun k hk hne => ?_⟩
    rw [Below.heap_setCell _ _ _ _ (show k ≠ w.heap.size + 1 by omega), Below.heap_setCell _ _ _ _ (show k ≠ w.heap.size by omega)]
    exact hg.block k hk hne
  · obtain ⟨c, hS⟩ := hS
    exact ⟨c, hS.boxes hlt x y hx hy _ _⟩
/-- The returning end, behind the stores of the results. -/
theorem fin_ret {w W : World} {R : Nat} {l : List Tok} {e : Int} {c : Cmd} {tmps : Array Value} {r : Res} (hI : CI w R W) (hS : RS (w.heap.size + 2) W R l e c) (hr : r = .ok (l, c))
    (h2 : tmps.getD 2 undef = .pointer (some ⟨w.heap.size, 0, none⟩)) (h3 : tmps.getD 3 undef = .pointer (some ⟨w.heap.size + 1, 0, none⟩)) :
    bodyPostD Tryd.prog Tryd.f43 (PostC R e w r) .ret { tmps := tmps, defers := [{ target := .fn (.func 66) #[.pointer (some ⟨w.heap.size, 0, none⟩), .pointer (some ⟨w.heap.size + 1, 0, none⟩)], args := #[] }] } ((W.setCell ⟨w.heap.size, 0, none⟩ (.int .i64 0)).setCell ⟨w.heap.size + 1, 0, none⟩ (.bool true)) := by
  subst hr
  obtain ⟨x, hx⟩ := hI.b0
  obtain ⟨y, hy⟩ := hI.b1
  have hlt := hI.lt
  show Leaves _ _ _ _ _ _ _
  refine leaves_cons (f := 66) (args := #[.pointer (some ⟨w.heap.size, 0, none⟩), .pointer (some ⟨w.heap.size + 1, 0, none⟩)]) (by simp) (by simp [go_sem]) ?_
  refine (catch_idle w.heap.size (w.heap.size + 1) _).mono ?_
  rintro e' u' w'' ⟨rfl, rfl, rfl⟩
  have g0 : ((W.setCell ⟨w.heap.size, 0, none⟩ (.int .i64 0)).setCell ⟨w.heap.size + 1, 0, none⟩ (.bool true)).heap[w.heap.size]? = some (.cells #[.int .i64 0] 3 (0, 0)) := blk_far ((blk_set hx 0 _).trans rfl) ⟨w.heap.size + 1, 0, none⟩ _ (by show w.heap.size ≠ w.heap.size + 1; omega)
  have g1 : ((W.setCell ⟨w.heap.size, 0, none⟩ (.int .i64 0)).setCell ⟨w.heap.size + 1, 0, none⟩ (.bool true)).heap[w.heap.size + 1]? = some (.cells #[.bool true] 4 (0, 0)) := (blk_set (blk_far hy ⟨w.heap.size, 0, none⟩ _ (by show w.heap.size + 1 ≠ w.heap.size; omega)) 0 _).trans rfl
  have c0 := blk_cell g0 0
  have c1 := blk_cell g1 0
  simp at c0 c1
  show Leaves _ _ _ _ [] (settle _) _
  refine ⟨.tuple #[.int .i64 0, .bool true], ?_, ⟨?_, rfl, hS.boxes hlt x y hx hy _ _⟩⟩
  · simp only [Array.getD_eq_getD_getElem?] at h2 h3
    simp [results, Tryd.results43, go_sem, h2, h3, c0, c1]
  · have hg := hI.grown
    refine ⟨hg.os, hg.tape, hg.output, by rw [size_set, size_set]; exact hg.size, fun k hk hne => ?_⟩
    rw [Below.heap_setCell _ _ _ _ (show k ≠ w.heap.size + 1 by omega), Below.heap_setCell _ _ _ _ (show k ≠ w.heap.size by omega)]
    exact hg.block k hk hne
end Go.Proofs.YtdedlchpjboceaaDoor.Px
end

section
namespace Go.Proofs.YtdedlchpjboceaaDoor.Px
open Go.RowKit Go.Shelf Go.Proofs.YtdedlchpjboceaaDoor.Lx Go.Proofs.YtdedlchpjboceaaDoorW.PrintWords Go.Proofs.YtdedlchpjboceaaDoorW.PrintLast Go.Proofs.YtdedlchpjboceaaDoorW.PrintMore
attribute [local go_sem] Oper.semAt_some
/-- A new command laid into the reader's block. -/
theorem RS.init {w W : World} {R : Nat} {l : List Tok} {e : Int} (h : PreR w R l e) (hb : Below w.heap.size w W) (hs : w.heap.size + 2 ≤ W.heap.size) (a : Int) :
    RS (w.heap.size + 2) ((((W.setCell ⟨R, 2, none⟩ (.int .i64 0)).setCell ⟨R, 3, none⟩ (.string ⟨#[]⟩)).setCell ⟨R, 4, none⟩ (.slice none 0 0)).setCell ⟨R, 5, none⟩ (.int .i64 a)) R l e (cmd0 a) ∧ (∀ d, Fr R d W ((((W.setCell ⟨R, 2, none⟩ (.int .i64 0)).setCell ⟨R, 3, none⟩ (.string ⟨#[]⟩)).setCell ⟨R, 4, none⟩ (.slice none 0 0)).setCell ⟨R, 5, none⟩ (.int .i64 a))) := by
  obtain ⟨A, cap, k, nm, vn, a', h3, h4, h5, h6⟩ := h
  have hR := blk_lt h3
  have h3' := blk_below h3 hb
  refine ⟨⟨by omega, by rw [size_set, size_set, size_set, size_set]; exact hs, A, cap, .slice none 0 0, ?_, h4, ?_, fun ad e => ⟨by have := (h6 ad e).1; omega, (h6 ad e).2⟩, Kd.R_nil _ _ _ _ _⟩, fun d => ((((Fr.refl R d W).set _ _).set _ _).set _ _).set _ _⟩
  · exact (blk_set (blk_set (blk_set (blk_set h3' 2 _) 3 _) 4 _) 5 _).trans rfl
  · refine C_same h5 (fun ad e _ => ?_)
    have hne : ad.block ≠ R := (h6 ad e).2.1
    rw [Below.heap_setCell _ _ _ _ hne, Below.heap_setCell _ _ _ _ hne, Below.heap_setCell _ _ _ _ hne, Below.heap_setCell _ _ _ _ hne]
    exact hb.block _ (h6 ad e).1
theorem PreR.cells {w : World} {R : Nat} {l : List Tok} {e : Int} (h : PreR w R l e) : ∃ k nm vn a, (w.cell? ⟨R, 2, none⟩ = some (.int .i64 k) ∧ w.cell? ⟨R, 3, none⟩ = some (.string nm) ∧ w.cell? ⟨R, 4, none⟩ = some vn ∧ w.cell? ⟨R, 5, none⟩ = some (.int .i64 a)) ∧ (∀ i, w.frozen? ⟨R, i, none⟩ = false) := by
  obtain ⟨A, cap, k, nm, vn, a', h3, h4, h5, h6⟩ := h
  exact ⟨k, nm, vn, a', ⟨by rw [blk_cell h3]; rfl, by rw [blk_cell h3]; rfl, by rw [blk_cell h3]; rfl, by rw [blk_cell h3]; rfl⟩, fun i => blk_frozen h3 i⟩
/-- A form's value: its function reads its items. -/
def FormV (b R : Nat) (e : Int) (v : Value) (k : Int) (its : List It) (ok : World → Prop) : Prop :=
  ∃ F caps, v = formV k (.func (.func F) #[] caps) ∧ (∀ args W, (callFunc F args).run Tryd.prog W = .ok (.enter F args) W) ∧
    ∀ W l c, RS b W R l e c → c.f2.length + 8 ≤ 1000 → ok W → Calls Tryd.prog F (#[.pointer (some ⟨R, 0, none⟩)] ++ caps) W (PostR b R e W (runIt e its l c))
theorem lookV_hit {kvs : List (ByteArray × Value)} {k s : ByteArray} {v z : Value} (h : s = k) : lookV ((k, v) :: kvs) s z = (v, true) := by subst h; simp [lookV]
theorem lookV_miss {kvs : List (ByteArray × Value)} {k s : ByteArray} {v z : Value} (h : ¬ s = k) : lookV ((k, v) :: kvs) s z = lookV kvs s z := by
  have h' : ¬ k = s := fun e => h e.symm
  simp [lookV, h']
theorem lookC (b R : Nat) (e : Int) (z : Value) (s : ByteArray) : (formC s = none ∧ lookV cmdKvs s z = (z, false)) ∨ ∃ k its v, formC s = some (k, its) ∧ lookV cmdKvs s z = (v, true) ∧ FormV b R e v k its (fun _ => True) := by
  unfold formC cmdKvs
  by_cases h : s = (⟨#[109, 101, 115, 104]⟩ : ByteArray)
  · exact .inr ⟨_, _, _, if_pos h, lookV_hit h, _, _, rfl, enters_of Tryd.func94 (by kernel_rfl) rfl, fun W l c hS hn hok => (mesh_rs (by omega) hS)⟩
  rw [if_neg h, lookV_miss h]
  by_cases h : s = (⟨#[114, 111, 111, 116]⟩ : ByteArray)
  · exact .inr ⟨_, _, _, if_pos h, lookV_hit h, _, _, rfl, enters_of Tryd.func96 (by kernel_rfl) rfl, fun W l c hS hn hok => (root_rs (by omega) hS)⟩
  rw [if_neg h, lookV_miss h]
  by_cases h : s = (⟨#[110, 111, 100, 101]⟩ : ByteArray)
  · exact .inr ⟨_, _, _, if_pos h, lookV_hit h, _, _, rfl, enters_of Tryd.func98 (by kernel_rfl) rfl, fun W l c hS hn hok => (node_rs (by omega) hS)⟩
  rw [if_neg h, lookV_miss h]
  by_cases h : s = (⟨#[114, 117, 110]⟩ : ByteArray)
  · exact .inr ⟨_, _, _, if_pos h, lookV_hit h, _, _, rfl, enters_of Tryd.func100 (by kernel_rfl) rfl, fun W l c hS hn hok => (run_rs (by omega) hS)⟩
  rw [if_neg h, lookV_miss h]
  exact .inl ⟨rfl, rfl⟩
theorem lookE {n : Nat} (b R : Nat) (hR : R < n) (b0 b1 b2 b3 : Nat) (e : Int) (z : Value) (s : ByteArray) : (formE s = none ∧ lookV (evKvs b0 b1 b2 b3) s z = (z, false)) ∨ ∃ k its v, formE s = some (k, its) ∧ lookV (evKvs b0 b1 b2 b3) s z = (v, true) ∧ FormV b R e v k its (fun W => EvBoxes W n b0 b1 b2 b3) := by
  unfold formE evKvs
  by_cases h : s = (⟨#[109, 111, 118, 101]⟩ : ByteArray)
  · exact .inr ⟨_, _, _, if_pos h, lookV_hit h, _, _, rfl, enters_of Tryd.func102 (by kernel_rfl) rfl, fun W l c hS hn hok => (named_rs 2 b0 (by decide) hok.2.1 (by have := hok.1; omega) (by omega) hS)⟩
  rw [if_neg h, lookV_miss h]
  by_cases h : s = (⟨#[102, 97, 105, 108]⟩ : ByteArray)
  · exact .inr ⟨_, _, _, if_pos h, lookV_hit h, _, _, rfl, enters_of Tryd.func102 (by kernel_rfl) rfl, fun W l c hS hn hok => (named_rs 0 b1 (by decide) hok.2.2.1 (by have := hok.1; omega) (by omega) hS)⟩
  rw [if_neg h, lookV_miss h]
  by_cases h : s = (⟨#[115, 116, 97, 114, 116]⟩ : ByteArray)
  · exact .inr ⟨_, _, _, if_pos h, lookV_hit h, _, _, rfl, enters_of Tryd.func102 (by kernel_rfl) rfl, fun W l c hS hn hok => (named_rs 0 b2 (by decide) hok.2.2.2.1 (by have := hok.1; omega) (by omega) hS)⟩
  rw [if_neg h, lookV_miss h]
  by_cases h : s = (⟨#[114, 101, 97, 100]⟩ : ByteArray)
  · exact .inr ⟨_, _, _, if_pos h, lookV_hit h, _, _, rfl, enters_of Tryd.func102 (by kernel_rfl) rfl, fun W l c hS hn hok => (named_rs 1 b3 (by decide) hok.2.2.2.2 (by have := hok.1; omega) (by omega) hS)⟩
  rw [if_neg h, lookV_miss h]
  by_cases h : s = (⟨#[106, 97, 109]⟩ : ByteArray)
  · exact .inr ⟨_, _, _, if_pos h, lookV_hit h, _, _, rfl, enters_of Tryd.func103 (by kernel_rfl) rfl, fun W l c hS hn hok => (jam_rs (by omega) hS)⟩
  rw [if_neg h, lookV_miss h]
  by_cases h : s = (⟨#[114, 101, 112, 108, 97, 121]⟩ : ByteArray)
  · exact .inr ⟨_, _, _, if_pos h, lookV_hit h, _, _, rfl, enters_of Tryd.func104 (by kernel_rfl) rfl, fun W l c hS hn hok => (replay_rs (by omega) hS)⟩
  rw [if_neg h, lookV_miss h]
  by_cases h : s = (⟨#[112, 114, 111, 103, 114, 97, 109]⟩ : ByteArray)
  · exact .inr ⟨_, _, _, if_pos h, lookV_hit h, _, _, rfl, enters_of Tryd.func105 (by kernel_rfl) rfl, fun W l c hS hn hok => (program_rs (by omega) hS)⟩
  rw [if_neg h, lookV_miss h]
  exact .inl ⟨rfl, rfl⟩
theorem zeroForm (W : World) : (zeroValue 101).run Tryd.prog W = .ok (.agg #[.int .i64 0, .nilFunc]) W := by kernel_rfl
theorem box2 (W : World) (u v : Value) (t : TypeId) : (W.alloc (.cells #[u, v] t)).heap[W.heap.size]? = some (.cells #[u, v] t (0, 0)) := blk_new _ _
set_option maxHeartbeats 16000000 in
set_option maxRecDepth 100000 in
theorem command_B {w : World} {R : Nat} {l : List Tok} {e : Int} (h : PreR w R l e) (hat : ¬ (nextT l e).f1 = atT) :
    Calls Tryd.prog 43 #[.pointer (some ⟨R, 0, none⟩)] w (PostC R e w (tailR e formC l (cmd0 (nextT l e).f3))) := by
  have hmf : ∀ (fn : Fn) (first cap : Array Value) (w : World), (Instr.makeFunc fn first cap).run Tryd.prog w = .ok (.func fn first cap) w := fun _ _ _ _ => rfl
  have hsn : ∀ (a : Addr) (m : Mode) (w : World), (store a .nilFunc m).run Tryd.prog w = stored Tryd.prog w a .nilFunc m := fun a m w => run_store Tryd.prog w a _ m rfl
  have hsf : ∀ (a : Addr) (m : Mode) (w : World) (F : Nat) (caps : Array Value), (store a (.func (.func F) #[] caps) m).run Tryd.prog w = stored Tryd.prog w a (.func (.func F) #[] caps) m := fun a m w F caps => run_store Tryd.prog w a _ m rfl
  have hf1 := fieldT1
  have hf3 := fieldT3
  have hlen : (⟨#[97, 116]⟩ : ByteArray).toList = [97, 116] := by rw [ByteArray.toList_eq]
  have hatB : ((nextT l e).f1.toList == [97, 116]) = false := by
    rw [← hlen, eq_toList]; exact decide_eq_false hat
  obtain ⟨n, hn⟩ : ∃ n, nextT l e = n := ⟨_, rfl⟩
  have HN := Lib.hid hn
  generalize hr : tailR e formC l (cmd0 (nextT l e).f3) = r
  rw [hn] at hr hatB
  have HR := Lib.hid hr
  have H := Lib.hid h
  have hRw := blk_lt h.choose_spec.choose_spec.choose_spec.choose_spec.choose_spec.choose_spec.1
  clear h hlen hr hat hn
  go_enter_defers Tryd.func43, Tryd.ntmps43
  go_wp2_with fail
  have hI1 : CI w R ((w.alloc (.cells #[.int .i64 0] 3)).alloc (.cells #[.bool false] 4)) := ⟨((Fr.refl _ _ _).alloc _).alloc _, ⟨0, blk_alloc (blk_new _ _) _⟩, ⟨false, by have := blk_new (w.alloc (.cells #[.int .i64 0] 3)) (.cells #[.bool false] 4); rwa [World.size_alloc] at this⟩, hRw⟩
  have hB1 : Below w.heap.size w ((w.alloc (.cells #[.int .i64 0] 3)).alloc (.cells #[.bool false] 4)) := below_alloc (below_alloc (Below.refl _ _) _) _
  have hs1 : w.heap.size + 2 ≤ ((w.alloc (.cells #[.int .i64 0] 3)).alloc (.cells #[.bool false] 4)).heap.size := by simp
  generalize (w.alloc (.cells #[.int .i64 0] 3)).alloc (.cells #[.bool false] 4) = w1 at hI1 hB1 hs1 ⊢
  refine (next_pre (H.out.below hB1)).mono ?_
  rintro x w2 ⟨rfl, hw2⟩
  rw [HN.out]
  have hB2 := below_then hB1 hB1.size hw2
  obtain ⟨k_, nm_, vn_, a_, ⟨c2, c3, c4, c5⟩, hf⟩ := (H.out.below hB2).cells
  have f2 := hf 2
  have f3 := hf 3
  have f4 := hf 4
  have f5 := hf 5
  have hI2 := Lib.hid (hI1.step (.of_below hw2))
  have hini := RS.init H.out hB2 (Nat.le_trans hs1 hw2.size) n.f3
  have HS2 := Lib.hid hini.1
  have HF2 := Lib.hid hini.2
  clear hini hf hI1 hB1 hs1 hw2 hB2
  go_wp2_with fail
  generalize (((w2.setCell ⟨R, 2, none⟩ (.int .i64 0)).setCell ⟨R, 3, none⟩ (.string ⟨#[]⟩)).setCell ⟨R, 4, none⟩ (.slice none 0 0)).setCell ⟨R, 5, none⟩ (.int .i64 n.f3) = w3 at HS2 HF2 ⊢
  have HI3 := Lib.hid (hI2.out.step (HF2.out _))
  clear c2 c3 c4 c5 f2 f3 f4 f5 hI2 HF2 H
  refine (commands_any w3).mono ?_
  rintro x w4 ⟨⟨rfl, hM4⟩, hb4⟩
  have HI4 := Lib.hid (HI3.out.step (.of_below hb4))
  have HS4 := Lib.hid (HS2.out.below hb4)
  have HM4 := Lib.hid hM4
  clear hM4 hb4 HI3 HS2
  generalize w3.heap.size = mb at HM4 ⊢
  go_wp2_with fail
  refine (next_rs HS4.out).mono ?_
  rintro x w5 ⟨rfl, hb5⟩
  rw [HN.out]
  have HI5 := Lib.hid (HI4.out.step (.of_below hb5))
  have HS5 := Lib.hid (HS4.out.below hb5)
  have HM5 := Lib.hid (HM4.out.same (hb5.block _ HM4.out.lt))
  clear hb5 HI4 HS4 HM4
  go_wp2_with fail
  refine (next_rs HS5.out).mono ?_
  rintro x w6 ⟨rfl, hb6⟩
  rw [HN.out]
  have HI6 := Lib.hid (HI5.out.step (.of_below hb6))
  have HS6 := Lib.hid (HS5.out.below hb6)
  have hM6 := HM5.out.same (hb6.block _ HM5.out.lt)
  have hlk := hM6.look (P := Tryd.prog) (t := 95) Tryd.underlying95 Tryd.underlying9 (.agg #[.int .i64 0, .nilFunc]) (zeroForm w6) n.f1
  clear hb6 HI5 HS5 HM5 hM6 hatB
  rcases lookC (w.heap.size + 2) R e (.agg #[.int .i64 0, .nilFunc]) n.f1 with ⟨hf, hl⟩ | ⟨k, its, v, hf, hl, F, caps, rfl, hent, hcon⟩
  · rw [hl] at hlk
    have hr : r = .error (n.f3, l) := by rw [← HR.out]; unfold tailR; rw [HN.out, hf]
    have HR1 := Lib.hid hr
    clear hr hf hl HR
    go_wp2_with fail
    refine (need_rs_no (HS6.out.alloc _)).mono ?_
    rintro x w7 ⟨rfl, hS7, hF7⟩
    rw [HN.out]
    exact fin_panic (HI6.out.step (((Fr.refl _ _ _).alloc _).trans (hF7 _))) ⟨_, hS7⟩ HR1.out rfl rfl
  · rw [hl] at hlk
    have hne : n.f1 ≠ ⟨#[]⟩ := by intro e0; rw [e0] at hf; simp [formC] at hf
    have hnn := HN.out
    obtain ⟨t, l', rfl⟩ := nextT_cons (l := l) (e := e) (by rw [hnn]; exact hne)
    have htn : t = n := hnn
    subst htn
    have hr : r = runIt e (its ++ [.W semiT]) l' { (cmd0 t.f3) with f0 := k } := by rw [← HR.out]; unfold tailR; rw [HN.out, hf]; rfl
    have HR1 := Lib.hid hr
    have HC := Lib.hid hcon
    clear hr hf hl HR hne hnn hcon
    unfold formV at hlk
    go_wp2_with fail
    have hbx := box2 w6 (.int .i64 k) (.func (.func F) #[] caps) 101
    have hIb := HI6.out.step ((Fr.refl _ _ _).alloc (.cells #[.int .i64 k, .func (.func F) #[] caps] 101))
    have hsz : R < w6.heap.size := by have h1 := HS6.out.lt; have h2 := HS6.out.le; omega
    refine (need_rs_ok (HS6.out.alloc _)).mono ?_
    rintro x w7 ⟨rfl, hS7, hF7⟩
    have hbx7 := (hF7 0).kept hbx (by omega) (.inl (by decide))
    have HI7 := Lib.hid (hIb.step (hF7 _))
    obtain ⟨A_, cap_, vn7, ⟨_, _, c2, _, _, _⟩, hf7⟩ := hS7.cells
    have f2 := hf7 2
    have q0 : w7.cell? ⟨w6.heap.size, 0, none⟩ = some (.int .i64 k) := by rw [blk_cell hbx7]; rfl
    have q1 : w7.cell? ⟨w6.heap.size, 1, none⟩ = some (.func (.func F) #[] caps) := by rw [blk_cell hbx7]; rfl
    have hne7 : ¬ R = w6.heap.size := by omega
    have HS7 := Lib.hid hS7
    clear hbx hbx7 hIb hF7 hf7 hS7 HI6 HS6 hlk
    go_wp2_with fail
    have hI7s := HI7.out.step ((Fr.refl R _ w7).set 2 (.int .i64 k))
    refine (HC.out _ l' _ (HS7.out.set_kind k) (by simp [cmd0]) trivial).mono ?_
    intro x w8 hP
    cases hst : runIt e its l' { cmd0 t.f3 with f0 := k } with
    | error y =>
      obtain ⟨rfl, hF, hS⟩ := hP.err_ hst
      exact fin_panic (hI7s.step hF) hS (HR1.out.trans (runIt_app_err hst)) rfl rfl
    | ok y =>
      obtain ⟨l2, d2⟩ := y
      obtain ⟨rfl, hF, hS⟩ := hP.ok_ hst
      have HI8 := Lib.hid (hI7s.step hF)
      have HS8 := Lib.hid hS
      have HR2 := Lib.hid (HR1.out.trans (runIt_app_ok hst))
      clear hP hst hF hS hI7s HI7 HS7 HR1 HC q0 q1 c2 f2 hne7 hent
      go_wp2_with fail
      refine (word_rs semiT (by decide) HS8.out).mono ?_
      intro x w9 hP
      cases hst : stepIt e (.W semiT) l2 d2 with
      | error y =>
        obtain ⟨rfl, hF, hS⟩ := hP.err_ hst
        exact fin_panic (HI8.out.step hF) hS (HR2.out.trans (runIt_cons_err hst)) rfl rfl
      | ok y =>
        obtain ⟨l3, d3⟩ := y
        obtain ⟨rfl, hF, hS⟩ := hP.ok_ hst
        have hI9 := HI8.out.step hF
        obtain ⟨x0, hx0⟩ := hI9.b0
        obtain ⟨y0, hy0⟩ := hI9.b1
        have g0 : w9.cell? ⟨w.heap.size, 0, none⟩ = some (.int .i64 x0) := by rw [blk_cell hx0]; rfl
        have g1 : w9.cell? ⟨w.heap.size + 1, 0, none⟩ = some (.bool y0) := by rw [blk_cell hy0]; rfl
        have z0 := blk_frozen hx0 0
        have z1 := blk_frozen hy0 0
        have HI9 := Lib.hid hI9
        have HS9 := Lib.hid hS
        have HR3 := Lib.hid (HR2.out.trans (runIt_cons_ok hst))
        clear hP hst hF hS HI8 HS8 HR2 hI9 hx0 hy0
        go_wp2
        exact fin_ret HI9.out HS9.out HR3.out rfl rfl
theorem EvBoxes.step {w W : World} {R n b0 b1 b2 b3 : Nat} (h : EvBoxes w n b0 b1 b2 b3) (hR : R < n) (hf : ∀ d, Fr R d w W) : EvBoxes W n b0 b1 b2 b3 :=
  ⟨h.1, (hf (b0 + 1)).kept h.2.1 (by have := h.1; omega) (.inr (Nat.lt_succ_self _)), (hf (b1 + 1)).kept h.2.2.1 (by have := h.1; omega) (.inr (Nat.lt_succ_self _)), (hf (b2 + 1)).kept h.2.2.2.1 (by have := h.1; omega) (.inr (Nat.lt_succ_self _)), (hf (b3 + 1)).kept h.2.2.2.2 (by have := h.1; omega) (.inr (Nat.lt_succ_self _))⟩
set_option maxHeartbeats 16000000 in
set_option maxRecDepth 100000 in
theorem command_A {w : World} {R : Nat} {l : List Tok} {e : Int} (h : PreR w R l e) (hat : (nextT l e).f1 = atT) :
    Calls Tryd.prog 43 #[.pointer (some ⟨R, 0, none⟩)] w (PostC R e w (cmdR e l)) := by
  have hmf : ∀ (fn : Fn) (first cap : Array Value) (w : World), (Instr.makeFunc fn first cap).run Tryd.prog w = .ok (.func fn first cap) w := fun _ _ _ _ => rfl
  have hsn : ∀ (a : Addr) (m : Mode) (w : World), (store a .nilFunc m).run Tryd.prog w = stored Tryd.prog w a .nilFunc m := fun a m w => run_store Tryd.prog w a _ m rfl
  have hsf : ∀ (a : Addr) (m : Mode) (w : World) (F : Nat) (caps : Array Value), (store a (.func (.func F) #[] caps) m).run Tryd.prog w = stored Tryd.prog w a (.func (.func F) #[] caps) m := fun a m w F caps => run_store Tryd.prog w a _ m rfl
  have hf1 := fieldT1
  have hf3 := fieldT3
  have hlen : (⟨#[97, 116]⟩ : ByteArray).toList = [97, 116] := by rw [ByteArray.toList_eq]
  have hatB : ((nextT l e).f1.toList == [97, 116]) = true := by
    rw [← hlen, eq_toList]; exact decide_eq_true hat
  have hw1 : stepIt e (.W atT) l (cmd0 (nextT l e).f3) = .ok (l.tail, cmd0 (nextT l e).f3) := if_pos hat
  obtain ⟨n, hn⟩ : ∃ n, nextT l e = n := ⟨_, rfl⟩
  have HN := Lib.hid hn
  generalize hr : cmdR e l = r
  have hr' : r = match runIt e (nums_ 1) l.tail (cmd0 (nextT l e).f3) with | .error x => .error x | .ok (l1, c1) => tailR e formE l1 c1 := by
    rw [← hr]; unfold cmdR; rw [if_pos hat, runIt_cons_ok hw1] <;> rfl
  rw [hn] at hr' hatB hw1
  have HW := Lib.hid hw1
  have HR := Lib.hid hr'
  have H := Lib.hid h
  have hRw := blk_lt h.choose_spec.choose_spec.choose_spec.choose_spec.choose_spec.choose_spec.1
  clear h hlen hr hr' hw1 hat hn
  go_enter_defers Tryd.func43, Tryd.ntmps43
  go_wp2_with fail
  have hI1 : CI w R ((w.alloc (.cells #[.int .i64 0] 3)).alloc (.cells #[.bool false] 4)) := ⟨((Fr.refl _ _ _).alloc _).alloc _, ⟨0, blk_alloc (blk_new _ _) _⟩, ⟨false, by have := blk_new (w.alloc (.cells #[.int .i64 0] 3)) (.cells #[.bool false] 4); rwa [World.size_alloc] at this⟩, hRw⟩
  have hB1 : Below w.heap.size w ((w.alloc (.cells #[.int .i64 0] 3)).alloc (.cells #[.bool false] 4)) := below_alloc (below_alloc (Below.refl _ _) _) _
  have hs1 : w.heap.size + 2 ≤ ((w.alloc (.cells #[.int .i64 0] 3)).alloc (.cells #[.bool false] 4)).heap.size := by simp
  generalize (w.alloc (.cells #[.int .i64 0] 3)).alloc (.cells #[.bool false] 4) = w1 at hI1 hB1 hs1 ⊢
  refine (next_pre (H.out.below hB1)).mono ?_
  rintro x w2 ⟨rfl, hw2⟩
  rw [HN.out]
  have hB2 := below_then hB1 hB1.size hw2
  obtain ⟨k_, nm_, vn_, a_, ⟨c2, c3, c4, c5⟩, hf⟩ := (H.out.below hB2).cells
  have f2 := hf 2
  have f3 := hf 3
  have f4 := hf 4
  have f5 := hf 5
  have hI2 := Lib.hid (hI1.step (.of_below hw2))
  have hini := RS.init H.out hB2 (Nat.le_trans hs1 hw2.size) n.f3
  have HS2 := Lib.hid hini.1
  have HF2 := Lib.hid hini.2
  clear hini hf hI1 hB1 hs1 hw2 hB2
  go_wp2_with fail
  generalize (((w2.setCell ⟨R, 2, none⟩ (.int .i64 0)).setCell ⟨R, 3, none⟩ (.string ⟨#[]⟩)).setCell ⟨R, 4, none⟩ (.slice none 0 0)).setCell ⟨R, 5, none⟩ (.int .i64 n.f3) = w3 at HS2 HF2 ⊢
  have HI3 := Lib.hid (hI2.out.step (HF2.out _))
  clear c2 c3 c4 c5 f2 f3 f4 f5 hI2 HF2 H
  refine (commands_any w3).mono ?_
  rintro x w4 ⟨⟨rfl, hM4⟩, hb4⟩
  have HI4 := Lib.hid (HI3.out.step (.of_below hb4))
  have HS4 := Lib.hid (HS2.out.below hb4)
  have HM4 := Lib.hid hM4
  clear hM4 hb4 HI3 HS2
  generalize w3.heap.size = mb at HM4 ⊢
  go_wp2_with fail
  refine (next_rs HS4.out).mono ?_
  rintro x w5 ⟨rfl, hb5⟩
  rw [HN.out]
  have HI5 := Lib.hid (HI4.out.step (.of_below hb5))
  have HS5 := Lib.hid (HS4.out.below hb5)
  have HM5 := Lib.hid (HM4.out.same (hb5.block _ HM4.out.lt))
  clear hb5 HI4 HS4 HM4
  go_wp2_with fail
  refine (word_rs atT (by decide) HS5.out).mono ?_
  intro x w5a hP
  obtain ⟨rfl, hF, hS⟩ := hP.ok_ HW.out
  have HI5a := Lib.hid (HI5.out.step hF)
  have HS5a := Lib.hid hS
  clear hP hF hS HW HI5 HS5 HM5
  go_wp2_with fail
  refine (numbers_rs 1 (by simp [cmd0]) HS5a.out).mono ?_
  intro x w5b hP
  cases hst : runIt e (nums_ 1) l.tail (cmd0 n.f3) with
  | error y =>
    obtain ⟨rfl, hF, hS⟩ := hP.err_ hst
    exact fin_panic (HI5a.out.step hF) hS (by rw [HR.out, hst]) rfl rfl
  | ok y =>
  obtain ⟨la, ca⟩ := y
  obtain ⟨rfl, hF, hS⟩ := hP.ok_ hst
  have hca : ca.f2.length + 8 ≤ 1000 := by have := runIt_len hst; simp [cmd0, addN] at this; omega
  have HI5b := Lib.hid (HI5a.out.step hF)
  have HS5b := Lib.hid hS
  have hra : r = tailR e formE la ca := by rw [HR.out, hst]
  have HRa := Lib.hid hra
  clear hP hst hF hS HR hra HI5a HS5a
  go_wp2_with fail
  refine (events_any w5b).mono ?_
  rintro x w5c ⟨mb2, b0, b1, b2, b3, ⟨rfl, hM, hX⟩, hb5c⟩
  have HI5c := Lib.hid (HI5b.out.step (.of_below hb5c))
  have HS5c := Lib.hid (HS5b.out.below hb5c)
  have HM5c := Lib.hid hM
  have HX5c := Lib.hid hX
  have hR5 : R < w5b.heap.size := by have h1 := HS5b.out.lt; have h2 := HS5b.out.le; omega
  clear hM hX hb5c HI5b HS5b
  obtain ⟨m, hm⟩ : ∃ m, nextT la e = m := ⟨_, rfl⟩
  have HN2 := Lib.hid hm
  clear hm
  go_wp2_with fail
  refine (next_rs HS5c.out).mono ?_
  rintro x w6 ⟨rfl, hb6⟩
  rw [HN2.out]
  have HI6 := Lib.hid (HI5c.out.step (.of_below hb6))
  have HS6 := Lib.hid (HS5c.out.below hb6)
  have HX6 := Lib.hid (HX5c.out.step hR5 (fun d => .of_below hb6))
  have hM6 := HM5c.out.same (hb6.block _ HM5c.out.lt)
  have hlk := hM6.look (P := Tryd.prog) (t := 95) Tryd.underlying95 Tryd.underlying9 (.agg #[.int .i64 0, .nilFunc]) (zeroForm w6) m.f1
  clear hb6 HI5c HS5c HM5c HX5c hM6 hatB
  rcases lookE (w.heap.size + 2) R hR5 b0 b1 b2 b3 e (.agg #[.int .i64 0, .nilFunc]) m.f1 with ⟨hf, hl⟩ | ⟨k, its, v, hf, hl, F, caps, rfl, hent, hcon⟩
  · rw [hl] at hlk
    have hr : r = .error (m.f3, la) := by rw [HRa.out]; unfold tailR; rw [HN2.out, hf]
    have HR1 := Lib.hid hr
    clear hr hf hl HRa
    go_wp2_with fail
    refine (need_rs_no (HS6.out.alloc _)).mono ?_
    rintro x w7 ⟨rfl, hS7, hF7⟩
    rw [HN2.out]
    exact fin_panic (HI6.out.step (((Fr.refl _ _ _).alloc _).trans (hF7 _))) ⟨_, hS7⟩ HR1.out rfl rfl
  · rw [hl] at hlk
    have hne : m.f1 ≠ ⟨#[]⟩ := by intro e0; rw [e0] at hf; simp [formE] at hf
    have hnn := HN2.out
    obtain ⟨t, l', rfl⟩ := nextT_cons (l := la) (e := e) (by rw [hnn]; exact hne)
    have htn : t = m := hnn
    subst htn
    have hr : r = runIt e (its ++ [.W semiT]) l' { ca with f0 := k } := by rw [HRa.out]; unfold tailR; rw [HN2.out, hf]; rfl
    have HR1 := Lib.hid hr
    have HC := Lib.hid hcon
    clear hr hf hl HRa hne hnn hcon
    unfold formV at hlk
    go_wp2_with fail
    have hbx := box2 w6 (.int .i64 k) (.func (.func F) #[] caps) 101
    have hIb := HI6.out.step ((Fr.refl _ _ _).alloc (.cells #[.int .i64 k, .func (.func F) #[] caps] 101))
    have hsz : R < w6.heap.size := by have h1 := HS6.out.lt; have h2 := HS6.out.le; omega
    refine (need_rs_ok (HS6.out.alloc _)).mono ?_
    rintro x w7 ⟨rfl, hS7, hF7⟩
    have hbx7 := (hF7 0).kept hbx (by omega) (.inl (by decide))
    have HI7 := Lib.hid (hIb.step (hF7 _))
    obtain ⟨A_, cap_, vn7, ⟨_, _, c2, _, _, _⟩, hf7⟩ := hS7.cells
    have f2 := hf7 2
    have q0 : w7.cell? ⟨w6.heap.size, 0, none⟩ = some (.int .i64 k) := by rw [blk_cell hbx7]; rfl
    have q1 : w7.cell? ⟨w6.heap.size, 1, none⟩ = some (.func (.func F) #[] caps) := by rw [blk_cell hbx7]; rfl
    have hne7 : ¬ R = w6.heap.size := by omega
    have HS7 := Lib.hid hS7
    have HF7 := Lib.hid hF7
    clear hbx hbx7 hIb hF7 hf7 hS7 HI6 HS6 hlk
    go_wp2_with fail
    have hI7s := HI7.out.step ((Fr.refl R _ w7).set 2 (.int .i64 k))
    refine (HC.out _ l' _ (HS7.out.set_kind k) hca ((HX6.out.step hR5 (fun d => ((Fr.refl _ _ _).alloc (.cells #[.int .i64 k, .func (.func F) #[] caps] 101)).trans (HF7.out d))).step hR5 (fun d => (Fr.refl R d w7).set 2 (.int .i64 k)))).mono ?_
    intro x w8 hP
    cases hst : runIt e its l' { ca with f0 := k } with
    | error y =>
      obtain ⟨rfl, hF, hS⟩ := hP.err_ hst
      exact fin_panic (hI7s.step hF) hS (HR1.out.trans (runIt_app_err hst)) rfl rfl
    | ok y =>
      obtain ⟨l2, d2⟩ := y
      obtain ⟨rfl, hF, hS⟩ := hP.ok_ hst
      have HI8 := Lib.hid (hI7s.step hF)
      have HS8 := Lib.hid hS
      have HR2 := Lib.hid (HR1.out.trans (runIt_app_ok hst))
      clear hP hst hF hS hI7s HI7 HS7 HR1 HC q0 q1 c2 f2 hne7 hent
      go_wp2_with fail
      refine (word_rs semiT (by decide) HS8.out).mono ?_
      intro x w9 hP
      cases hst : stepIt e (.W semiT) l2 d2 with
      | error y =>
        obtain ⟨rfl, hF, hS⟩ := hP.err_ hst
        exact fin_panic (HI8.out.step hF) hS (HR2.out.trans (runIt_cons_err hst)) rfl rfl
      | ok y =>
        obtain ⟨l3, d3⟩ := y
        obtain ⟨rfl, hF, hS⟩ := hP.ok_ hst
        have hI9 := HI8.out.step hF
        obtain ⟨x0, hx0⟩ := hI9.b0
        obtain ⟨y0, hy0⟩ := hI9.b1
        have g0 : w9.cell? ⟨w.heap.size, 0, none⟩ = some (.int .i64 x0) := by rw [blk_cell hx0]; rfl
        have g1 : w9.cell? ⟨w.heap.size + 1, 0, none⟩ = some (.bool y0) := by rw [blk_cell hy0]; rfl
        have z0 := blk_frozen hx0 0
        have z1 := blk_frozen hy0 0
        have HI9 := Lib.hid hI9
        have HS9 := Lib.hid hS
        have HR3 := Lib.hid (HR2.out.trans (runIt_cons_ok hst))
        clear hP hst hF hS HI8 HS8 HR2 hI9 hx0 hy0
        go_wp2
        exact fin_ret HI9.out HS9.out HR3.out rfl rfl
/-- 'command', whatever the tokens. -/
theorem command_any {w : World} {R : Nat} {l : List Tok} {e : Int} (h : PreR w R l e) :
    Calls Tryd.prog 43 #[.pointer (some ⟨R, 0, none⟩)] w (PostC R e w (cmdR e l)) := by
  by_cases hat : (nextT l e).f1 = atT
  · exact command_A h hat
  · have : cmdR e l = tailR e formC l (cmd0 (nextT l e).f3) := if_neg hat
    rw [this]; exact command_B h hat
end Go.Proofs.YtdedlchpjboceaaDoor.Px
end

section
namespace Go.Proofs.YtdedlchpjboceaaDoor.Px
open Go.RowKit Go.Shelf Go.Proofs.YtdedlchpjboceaaDoor.Lx Go.Proofs.YtdedlchpjboceaaDoorW.PrintWords Go.Proofs.YtdedlchpjboceaaDoorW.PrintLast Go.Proofs.YtdedlchpjboceaaDoorW.PrintMore
attribute [local go_sem] Oper.semAt_some
def semiB (t : Tok) : Bool := decide (t.f1 = semiT)
theorem semi_list : semiT.toList = [59] := by rw [ByteArray.toList_eq]; rfl
set_option maxHeartbeats 4000000 in
set_option maxRecDepth 100000 in
theorem parse1_any (t : Tok) (w : World) : Calls Tryd.prog 45 #[.agg #[.int .i64 t.f0, .string t.f1, .int .i64 t.f2, .int .i64 t.f3]] w fun x w' => x = .returned (.bool (semiB t)) ∧ Below w.heap.size w w' := by
  obtain ⟨b, hb⟩ : ∃ b, semiB t = b := ⟨_, rfl⟩
  have hb2 : (t.f1.toList == [59]) = b := by rw [← hb, ← semi_list, eq_toList]; rfl
  rw [hb]
  clear hb
  go_enter Tryd.func45, Tryd.ntmps45
  go_wp2
  go_ret
  exact ⟨rfl, below_alloc (Below.refl _ _) _⟩
/-- Where the first semicolon stands; -1 where none is. -/
def idxT : Nat → List Tok → Int
  | _, [] => -1
  | k, x :: l => if semiB x = true then (k : Int) else idxT (k + 1) l
theorem idxT_drop {l : List Tok} {k : Nat} (h : k < l.length) : idxT k (l.drop k) = if semiB (rd_K l (k : Int)) = true then (k : Int) else idxT (k + 1) (l.drop (k + 1)) := by
  rw [List.drop_eq_getElem_cons h]
  have : rd_K l (k : Int) = l[k] := by unfold rd_K; rw [Int.toNat_natCast, List.getD_eq_getElem?_getD, List.getElem?_eq_getElem h]; rfl
  rw [this]; rfl
set_option maxHeartbeats 8000000 in
set_option maxRecDepth 100000 in
theorem indexTok_any (A : Option Addr) (c : Nat) (l : List Tok) (w : World) (hC : Kd.C kT w A l.length l) (hl : l.length ≤ 140737488355328) :
    Calls Tryd.prog 44 #[.slice A l.length c, .func (.func 45) #[] #[]] w fun e w' => e = .returned (.int .i64 (idxT 0 l)) ∧ Below w.heap.size w w' := by
  have eg : ∀ args w, (callFunc 45 args).run Tryd.prog w = .ok (.enter 45 args) w := enters_of Tryd.func45 (by kernel_rfl) rfl
  have hu := Tryd.underlying45
  have HC := Aside0.mk hC
  clear hC
  go_enter Tryd.func44, Tryd.ntmps44
  go_wp2
  go_loopg [8] l.length (fun g v w' => ∃ k : Nat, k + g = l.length ∧ v = .int .i64 k ∧ Hid (idxT k (l.drop k) = idxT 0 l) ∧ Aside0 (Below w.heap.size w w'))
  case atStart => exact ⟨0, by omega, rfl, Lib.hid rfl, ⟨Below.refl _ _⟩⟩
  case round =>
    obtain ⟨k, hk, rfl, hH, HB⟩ := hrel
    by_cases hlt : k < l.length
    · obtain ⟨ad, e, h0, h1, h2, h3⟩ := at_K HC.out (k : Int) (by omega) (by omega)
      cases e
      have hst := idxT_drop hlt
      replace h0 := (HB.out.cell (World.block_lt_of_cell? w _ h0)).trans h0
      replace h1 := (HB.out.cell (World.block_lt_of_cell? w _ h1)).trans h1
      replace h2 := (HB.out.cell (World.block_lt_of_cell? w _ h2)).trans h2
      replace h3 := (HB.out.cell (World.block_lt_of_cell? w _ h3)).trans h3
      rw [Int.toNat_natCast] at h0 h1 h2 h3
      have hv := parse1_any (rd_K l (k : Int))
      cases hb : semiB (rd_K l (k : Int)) with
      | false =>
        rw [if_neg (by rw [hb]; decide)] at hst
        have H2 : Hid (idxT (k + 1) (l.drop (k + 1)) = idxT 0 l) := Lib.hid (by rw [← hst]; exact hH.out)
        rw [hb] at hv
        clear hst hb hH
        go_wp2_with (go_at_call 45; refine (hv _).mono ?_; rintro e w' ⟨rfl, hw⟩)
        go_roundg (l.length - (k + 1))
        case measure => omega
        case rel => exact ⟨k + 1, by omega, by go_num, H2, ⟨below_step HB.out hw⟩⟩
      | true =>
        rw [if_pos hb] at hst
        have H2 : Hid ((k : Int) = idxT 0 l) := Lib.hid (by rw [← hst]; exact hH.out)
        rw [hb] at hv
        clear hst hb hH
        go_wp2_with (go_at_call 45; refine (hv _).mono ?_; rintro e w' ⟨rfl, hw⟩)
        go_ret
        exact ⟨ret_int H2.out, below_step HB.out hw⟩
    · have H2 : Hid ((-1 : Int) = idxT 0 l) := Lib.hid (by rw [← hH.out, List.drop_of_length_le (by omega)]; rfl)
      clear hH
      go_wp2
      all_goals first
        | (exfalso; omega)
        | (go_ret
           exact ⟨ret_int H2.out, HB.out⟩)
end Go.Proofs.YtdedlchpjboceaaDoor.Px
end
