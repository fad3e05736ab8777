/- Texts of proofs: plain words, and walks through the program's functions. -/
import Derived.Test.YtdedlchpjboceaaDoorM5c4508d8
import Derived.WalkLawsBesides
import Derived.Deep.LoopGhost
import Derived.MapKept
import Derived.Maps.Own
import Derived.Defers
import Derived.Recover

section
namespace Go.Proofs.YtdedlchpjboceaaDoor.Px
open Go.RowKit Go.Shelf Go.Proofs.YtdedlchpjboceaaDoor.Lx Go.Proofs.YtdedlchpjboceaaDoorW.PrintWords Go.Proofs.YtdedlchpjboceaaDoorW.PrintLast Go.Proofs.YtdedlchpjboceaaDoorW.PrintMore
attribute [local go_sem] Oper.semAt_some
theorem blk_set {W : World} {R : Nat} {cs : Array Value} {t : TypeId} {f : Nat × Nat} (h : W.heap[R]? = some (.cells cs t f)) (i : Nat) (v : Value) : (W.setCell ⟨R, i, none⟩ v).heap[R]? = some (.cells (cs.setIfInBounds i v) t f) := by
  obtain ⟨hlt, hk⟩ := Array.getElem?_eq_some_iff.1 h
  show (W.heap.modify R _)[R]? = _
  rw [Array.getElem?_eq_getElem (by rw [Array.size_modify]; exact hlt), Array.getElem_modify_self, hk]
  rfl
theorem blk_alloc {W : World} {R : Nat} {o : Obj} (h : W.heap[R]? = some o) (o' : Obj) : (W.alloc o').heap[R]? = some o := (Below.heap_alloc W o' R (blk_lt h)).trans h
theorem blk_frozen {W : World} {R : Nat} {cs : Array Value} {t : TypeId} (h : W.heap[R]? = some (.cells cs t (0, 0))) (i : Nat) : W.frozen? ⟨R, i, none⟩ = false := by
  unfold World.frozen?
  rw [show W.heap[(⟨R, i, none⟩ : Addr).block]? = _ from h]
  simp
/-- The reader's block: the list, the end, the command that is being built. -/
def Rd (W : World) (R : Nat) (vl : Value) (e k : Int) (nm : ByteArray) (vn : Value) (a : Int) : Prop :=
  W.heap[R]? = some (.cells #[vl, .int .i64 e, .int .i64 k, .string nm, vn, .int .i64 a] 64 (0, 0))
/-- What a step of the reader may change: its block; rows of numbers that lie from b on. -/
structure Fr (R b : Nat) (w w' : World) : Prop where
  os : w'.os = w.os
  tape : w'.tape = w.tape
  output : w'.output = w.output
  size : w.heap.size ≤ w'.heap.size
  block : ∀ k, k < w.heap.size → k ≠ R → (k < b ∨ ∀ cs f, w.heap[k]? ≠ some (.cells cs 3 f)) → w'.heap[k]? = w.heap[k]?
theorem Fr.refl (R b : Nat) (w : World) : Fr R b w w := ⟨rfl, rfl, rfl, Nat.le_refl _, fun _ _ _ _ => rfl⟩
theorem Fr.trans {R b : Nat} {w w1 w2 : World} (h : Fr R b w w1) (k : Fr R b w1 w2) : Fr R b w w2 :=
  ⟨k.os.trans h.os, k.tape.trans h.tape, k.output.trans h.output, Nat.le_trans h.size k.size, fun i hi hr hc => (k.block i (Nat.lt_of_lt_of_le hi h.size) hr (by rw [h.block i hi hr hc]; exact hc)).trans (h.block i hi hr hc)⟩
theorem Fr.of_below {R b : Nat} {w w1 : World} (h : Below w.heap.size w w1) : Fr R b w w1 := ⟨h.os, h.tape, h.output, h.size, fun k hk _ _ => h.block k hk⟩
theorem Fr.alloc {R b : Nat} {w W : World} (h : Fr R b w W) (o : Obj) : Fr R b w (W.alloc o) := h.trans (.of_below ((Below.refl _ _).alloc (Nat.le_refl _) o))
theorem Fr.drew {R b : Nat} {w W : World} (h : Fr R b w W) : Fr R b w W.drew := ⟨h.os, h.tape, h.output, h.size, h.block⟩
theorem Fr.set {R b : Nat} {w W : World} (h : Fr R b w W) (i : Nat) (v : Value) : Fr R b w (W.setCell ⟨R, i, none⟩ v) := by
  refine h.trans ⟨rfl, rfl, rfl, ?_, fun k _ hr _ => Below.heap_setCell _ _ _ _ hr⟩
  show _ ≤ (W.heap.modify _ _).size
  rw [Array.size_modify]; exact Nat.le_refl _
/-- A block of the reader's own kind or of another type than int stays. -/
theorem Fr.kept {R b : Nat} {w W : World} (h : Fr R b w W) {k : Nat} {cs : Array Value} {t : TypeId} {f : Nat × Nat} (hk : w.heap[k]? = some (.cells cs t f)) (hr : k ≠ R) (ht : t ≠ 3 ∨ k < b) : W.heap[k]? = some (.cells cs t f) :=
  (h.block k (blk_lt hk) hr (ht.elim (fun ht => .inr (fun cs' f' e => by rw [hk] at e; injection e with e; injection e with _ e; exact ht e)) .inl)).trans hk
/-- A list of tokens reads the same where its own block is the same. -/
theorem C_same {w W : World} {A : Option Addr} {n : Nat} {l : List Tok} (h : Kd.C kT w A n l) (hs : ∀ ad, A = some ad → 0 < n → W.heap[ad.block]? = w.heap[ad.block]?) : Kd.C kT W A n l := by
  obtain ⟨h1, h2, h3⟩ := h
  refine ⟨h1, h2, fun hp => ?_⟩
  obtain ⟨ad, e, hc⟩ := h3 hp
  refine ⟨ad, e, fun j p hj => ?_⟩
  obtain ⟨cs, hl, hK, hcell⟩ := hc j p hj
  refine ⟨cs, hl, hK, fun i u hu => ?_⟩
  have hb : (ad.add (j * kT.sz + i)).block = ad.block := by unfold Addr.add; split <;> rfl
  exact (World.cell?_of_block (w := w) (by rw [hb]; exact hs ad e hp)).trans (hcell i u hu)
/-- The reader R: the tokens that are left, the end, the command; the command's numbers lie from b on. -/
structure RS (b : Nat) (W : World) (R : Nat) (l : List Tok) (e : Int) (c : Cmd) : Prop where
  lt : R < b
  le : b ≤ W.heap.size
  st : ∃ A cap vn, Rd W R (.slice A l.length cap) e c.f0 c.f1 vn c.f3 ∧ l.length ≤ cap ∧ Kd.C kT W A l.length l ∧ (∀ ad, A = some ad → ad.block < b ∧ ad.block ≠ R ∧ ad.block < R) ∧ (Kd.int .i64).R 3 W b (fun _ => True) vn c.f2
theorem RS.ne_row {b : Nat} {W : World} {R : Nat} {vn : Value} {ns : List Int} (hR : R < b) (h : (Kd.int .i64).R 3 W b (fun _ => True) vn ns) : some R ≠ vn.ownBlock := by
  intro e
  have := own_base h.2.choose_spec.1 R e.symm
  omega
/-- The same reader where what it reads is the same. -/
theorem RS.same {b : Nat} {w W : World} {R : Nat} {l : List Tok} {e : Int} {c : Cmd} (h : RS b w R l e c) (hs : w.heap.size ≤ W.heap.size) (hb : ∀ k, k < w.heap.size → W.heap[k]? = w.heap[k]?) : RS b W R l e c := by
  obtain ⟨h1, h2, A, cap, vn, h3, h4, h5, h6, h7⟩ := h
  refine ⟨h1, Nat.le_trans h2 hs, A, cap, vn, (hb R (blk_lt h3)).trans h3, h4, C_same h5 (fun ad e _ => hb _ (Nat.lt_of_lt_of_le (h6 ad e).1 h2)), h6, Kd.R_step h7 (fun k _ hk => hb k hk)⟩
theorem RS.below {b : Nat} {w W : World} {R : Nat} {l : List Tok} {e : Int} {c : Cmd} (h : RS b w R l e c) (hb : Below w.heap.size w W) : RS b W R l e c := h.same hb.size hb.block
theorem RS.alloc {b : Nat} {W : World} {R : Nat} {l : List Tok} {e : Int} {c : Cmd} (h : RS b W R l e c) (o : Obj) : RS b (W.alloc o) R l e c := h.below ((Below.refl _ _).alloc (Nat.le_refl _) o)
/-- A store into the reader's block that leaves the list and the numbers. -/
theorem RS.change {b : Nat} {w W : World} {R : Nat} {l : List Tok} {e : Int} {c c' : Cmd} (h : RS b w R l e c) (hn : c'.f2 = c.f2) (hs : w.heap.size ≤ W.heap.size) (hb : ∀ k, k < w.heap.size → k ≠ R → W.heap[k]? = w.heap[k]?) (hR : ∀ vl vn, Rd w R vl e c.f0 c.f1 vn c.f3 → Rd W R vl e c'.f0 c'.f1 vn c'.f3) : RS b W R l e c' := by
  obtain ⟨h1, h2, A, cap, vn, h3, h4, h5, h6, h7⟩ := h
  exact ⟨h1, Nat.le_trans h2 hs, A, cap, vn, hR _ _ h3, h4, C_same h5 (fun ad e _ => hb _ (Nat.lt_of_lt_of_le (h6 ad e).1 h2) (h6 ad e).2.1), h6, by rw [hn]; exact Kd.R_mono (Kd.R_step (Kd.R_bound h7) (fun k hk hlt => hb k hlt (fun e => by have := hk.2.1; omega))) (fun _ _ => trivial)⟩
theorem size_set (W : World) (a : Addr) (v : Value) : (W.setCell a v).heap.size = W.heap.size := by show (W.heap.modify _ _).size = _; rw [Array.size_modify]
/-- The reader's cells. -/
theorem RS.cells {b : Nat} {w : World} {R : Nat} {l : List Tok} {e : Int} {c : Cmd} (h : RS b w R l e c) : ∃ A cap vn, (w.cell? ⟨R, 0, none⟩ = some (.slice A l.length cap) ∧ w.cell? ⟨R, 1, none⟩ = some (.int .i64 e) ∧ w.cell? ⟨R, 2, none⟩ = some (.int .i64 c.f0) ∧ w.cell? ⟨R, 3, none⟩ = some (.string c.f1) ∧ w.cell? ⟨R, 4, none⟩ = some vn ∧ w.cell? ⟨R, 5, none⟩ = some (.int .i64 c.f3)) ∧ (∀ i, w.frozen? ⟨R, i, none⟩ = false) := by
  obtain ⟨_, _, A, cap, vn, h3, _⟩ := h
  exact ⟨A, cap, vn, ⟨by rw [blk_cell h3]; rfl, by rw [blk_cell h3]; rfl, by rw [blk_cell h3]; rfl, by rw [blk_cell h3]; rfl, by rw [blk_cell h3]; rfl, by rw [blk_cell h3]; rfl⟩, fun i => blk_frozen h3 i⟩
/-- A number more, appended and stored. -/
theorem RS.push {b : Nat} {w W : World} {R : Nat} {l : List Tok} {e : Int} {c : Cmd} (h : RS b w R l e c) {vn v1 : Value} (hv : w.cell? ⟨R, 4, none⟩ = some vn) (hg : w.grownBy W vn.ownBlock) :
    W.cell? ⟨R, 4, none⟩ = some vn ∧ W.frozen? ⟨R, 4, none⟩ = false ∧ R < W.heap.size ∧ Fr R b w (W.setCell ⟨R, 4, none⟩ v1) ∧ ((Kd.int .i64).R 3 w b (fun _ => True) vn c.f2) ∧
    ∀ ns, (Kd.int .i64).R 3 W b (fun _ => True) v1 ns → RS b (W.setCell ⟨R, 4, none⟩ v1) R l e { c with f2 := ns } := by
  obtain ⟨h1, h2, A, cap, vn', h3, h4, h5, h6, h7⟩ := h
  have he : vn' = vn := by rw [blk_cell h3] at hv; exact Option.some.inj hv
  subst he
  have hne := RS.ne_row h1 h7
  have h3' : Rd W R _ _ _ _ _ _ := (hg.block R (blk_lt h3) hne).trans h3
  have hrow : ∀ k, vn'.ownBlock = some k → b ≤ k ∧ ∃ cells, w.heap[k]? = some (.cells cells 3 (0, 0)) := fun k hk => ⟨own_base h7.2.choose_spec.1 k hk, own_typed h7.2.choose_spec.1 k hk⟩
  have hb : ∀ k, k < b → W.heap[k]? = w.heap[k]? := fun k hk => hg.block k (Nat.lt_of_lt_of_le hk h2) (fun e => by have := (hrow k e.symm).1; omega)
  have hs : w.heap.size ≤ W.heap.size := hg.size
  refine ⟨by rw [blk_cell h3']; rfl, blk_frozen h3' 4, blk_lt h3', ?_, h7, fun ns hns => ?_⟩
  · refine Fr.set ⟨hg.os, hg.tape, hg.output, hs, fun k hk hr hc => hg.block k hk (fun e => ?_)⟩ 4 _
    obtain ⟨hb1, cells, hcl⟩ := hrow k e.symm
    rcases hc with hc | hc
    · omega
    · exact hc _ _ hcl
  · refine ⟨h1, by rw [size_set]; exact Nat.le_trans h2 hs, A, cap, v1, (blk_set h3' 4 _).trans rfl, h4, C_same h5 (fun ad e _ => ?_), h6, ?_⟩
    · rw [Below.heap_setCell _ _ _ _ (h6 ad e).2.1]; exact hb _ (h6 ad e).1
    · exact Kd.R_mono (Kd.R_far (p := ⟨R, 4, none⟩) (Kd.R_bound hns) (fun k hk e => by have := hk.2.1; have : k = R := e; omega) v1) (fun _ _ => trivial)
/-- The reader behind a token. -/
theorem RS.tail {b : Nat} {w W : World} {R : Nat} {t : Tok} {l : List Tok} {e : Int} {c : Cmd} {A : Option Addr} {cap : Nat} {vn : Value} (h1 : R < b) (h2 : b ≤ w.heap.size) (h4 : l.length + 1 ≤ cap) (h5 : Kd.C kT w A (l.length + 1) (t :: l)) (h6 : ∀ ad, A = some ad → ad.block < b ∧ ad.block ≠ R ∧ ad.block < R) (h7 : (Kd.int .i64).R 3 w b (fun _ => True) vn c.f2)
    (hs : w.heap.size ≤ W.heap.size) (hb : ∀ k, k < w.heap.size → k ≠ R → W.heap[k]? = w.heap[k]?) {A' : Option Addr} (hA : A' = if cap = 1 then A else A.map (·.add 4)) (hR : Rd W R (.slice A' l.length (cap - 1)) e c.f0 c.f1 vn c.f3) : RS b W R l e c := by
  have h8 : ∀ ad, A' = some ad → ad.block < b ∧ ad.block ≠ R ∧ ad.block < R := by
    intro ad e
    rw [hA] at e
    split at e
    · exact h6 ad e
    · obtain ⟨ad0, e0, rfl⟩ := Option.map_eq_some_iff.1 e
      have hb : (ad0.add 4).block = ad0.block := rfl
      rw [hb]; exact h6 ad0 e0
  have h9 : Kd.C kT w A' l.length l := by
    have := Kd.C_drop (k := kT) (xs := t :: l) (m := 1) (c := cap) h5 (by simp) (by simpa using h4)
    rw [hA]; exact this
  refine ⟨h1, Nat.le_trans h2 hs, A', cap - 1, vn, hR, by omega, C_same h9 (fun ad e _ => hb _ (Nat.lt_of_lt_of_le (h8 ad e).1 h2) (h8 ad e).2.1), h8, Kd.R_mono (Kd.R_step (Kd.R_bound h7) (fun k hk hlt => hb k hlt (fun e => by have := hk.2.1; omega))) (fun _ _ => trivial)⟩
/-- A failure at an offset, as a panic's chain. -/
def failAt (a : Int) : List PanicEntry := [{ v := .iface 93 (.agg #[.int .i64 a]), recovered := false }]
end Go.Proofs.YtdedlchpjboceaaDoor.Px
end

section
namespace Go.Proofs.YtdedlchpjboceaaDoor.Px
open Go.RowKit Go.Shelf Go.Proofs.YtdedlchpjboceaaDoor.Lx Go.Proofs.YtdedlchpjboceaaDoorW.PrintWords Go.Proofs.YtdedlchpjboceaaDoorW.PrintLast Go.Proofs.YtdedlchpjboceaaDoorW.PrintMore
attribute [local go_sem] Oper.semAt_some
/-- What a step of the reader comes to: the tokens that are left and the command; or the offset of an error, and the tokens that are left. -/
abbrev Res := Except (Int × List Tok) (List Tok × Cmd)
/-- What a call of the reader's answers. -/
def PostR (b R : Nat) (e : Int) (w : World) (r : Res) (x : Ending) (w' : World) : Prop :=
  Fr R b w w' ∧ match r with
    | .ok y => x = .returned (.tuple #[]) ∧ RS b w' R y.1 e y.2
    | .error y => x = .panicked (failAt y.1) ∧ ∃ c, RS b w' R y.2 e c
/-- .. where no row of numbers has changed. -/
def PostS (b R : Nat) (e : Int) (w : World) (r : Res) (x : Ending) (w' : World) : Prop :=
  (∀ d, Fr R d w w') ∧ match r with
    | .ok y => x = .returned (.tuple #[]) ∧ RS b w' R y.1 e y.2
    | .error y => x = .panicked (failAt y.1) ∧ ∃ c, RS b w' R y.2 e c
theorem PostS.post {b R : Nat} {e : Int} {w : World} {r : Res} {x : Ending} {w' : World} (h : PostS b R e w r x w') : PostR b R e w r x w' := ⟨h.1 b, h.2⟩
end Go.Proofs.YtdedlchpjboceaaDoor.Px
end

section
namespace Go.Proofs.YtdedlchpjboceaaDoor.Px
open Go.RowKit Go.Shelf Go.Proofs.YtdedlchpjboceaaDoor.Lx Go.Proofs.YtdedlchpjboceaaDoorW.PrintWords Go.Proofs.YtdedlchpjboceaaDoorW.PrintLast Go.Proofs.YtdedlchpjboceaaDoorW.PrintMore
attribute [local go_sem] Oper.semAt_some
section
variable {P : Program} {ops : Array Oper} {Q : Exit → Act → World → Prop}
end
theorem RS.drew {b : Nat} {w : World} {R : Nat} {l : List Tok} {e : Int} {c : Cmd} (h : RS b w R l e c) : RS b w.drew R l e c := h.same (Nat.le_refl _) (fun _ _ => rfl)
end Go.Proofs.YtdedlchpjboceaaDoor.Px
end

section
namespace Go.Proofs.YtdedlchpjboceaaDoor.Px
open Go.RowKit Go.Shelf Go.Proofs.YtdedlchpjboceaaDoor.Lx Go.Proofs.YtdedlchpjboceaaDoorW.PrintWords Go.Proofs.YtdedlchpjboceaaDoorW.PrintLast Go.Proofs.YtdedlchpjboceaaDoorW.PrintMore
attribute [local go_sem] Oper.semAt_some
/-- Block b is a map with these entries. -/
def Mp (W : World) (b : Nat) (kvs : List (ByteArray × Value)) : Prop :=
  ∃ es clock, W.heap[b]? = some (.map es clock) ∧ es.toList.map (fun e => (e.key, e.val)) = kvs.map (fun p => (Value.string p.1, p.2))
theorem Mp.lt {W : World} {b : Nat} {kvs : List (ByteArray × Value)} (h : Mp W b kvs) : b < W.heap.size := by obtain ⟨es, cl, hb, _⟩ := h; exact blk_lt hb
theorem Mp.new (W : World) : Mp (W.alloc (.map #[] 0)) W.heap.size [] := ⟨#[], 0, blk_new _ _, rfl⟩
theorem Mp.same {W W' : World} {b : Nat} {kvs : List (ByteArray × Value)} (h : Mp W b kvs) (hb : W'.heap[b]? = W.heap[b]?) : Mp W' b kvs := by
  obtain ⟨es, cl, h1, h2⟩ := h
  exact ⟨es, cl, hb.trans h1, h2⟩
def bs (l : List UInt8) : ByteArray := ⟨l.toArray⟩
/-- A form as a value. -/
def formV (k : Int) (f : Value) : Value := .agg #[.int .i64 k, f]
def evKvs (b0 b1 b2 b3 : Nat) : List (ByteArray × Value) :=
  [(⟨#[109, 111, 118, 101]⟩, formV 4 (.func (.func 102) #[] #[.pointer (some ⟨b0, 0, none⟩)])), (⟨#[102, 97, 105, 108]⟩, formV 5 (.func (.func 102) #[] #[.pointer (some ⟨b1, 0, none⟩)])), (⟨#[115, 116, 97, 114, 116]⟩, formV 6 (.func (.func 102) #[] #[.pointer (some ⟨b2, 0, none⟩)])), (⟨#[114, 101, 97, 100]⟩, formV 7 (.func (.func 102) #[] #[.pointer (some ⟨b3, 0, none⟩)])),
   (⟨#[106, 97, 109]⟩, formV 8 (.func (.func 103) #[] #[])), (⟨#[114, 101, 112, 108, 97, 121]⟩, formV 9 (.func (.func 104) #[] #[])), (⟨#[112, 114, 111, 103, 114, 97, 109]⟩, formV 10 (.func (.func 105) #[] #[]))]
/-- The numbers' boxes of the four named events. -/
def EvBoxes (w : World) (n b0 b1 b2 b3 : Nat) : Prop :=
  (n ≤ b0 ∧ n ≤ b1 ∧ n ≤ b2 ∧ n ≤ b3) ∧ w.heap[b0]? = some (.cells #[.int .i64 2] 3 (0, 0)) ∧ w.heap[b1]? = some (.cells #[.int .i64 0] 3 (0, 0)) ∧ w.heap[b2]? = some (.cells #[.int .i64 0] 3 (0, 0)) ∧ w.heap[b3]? = some (.cells #[.int .i64 1] 3 (0, 0))
/-- While the map of the events is made. -/
structure EvI (w W : World) (b : Nat) (kvs : List (ByteArray × Value)) (bx : List (Nat × Int)) : Prop where
  below : Below w.heap.size w W
  mp : Mp W b kvs
  le : w.heap.size ≤ b
  box : ∀ p ∈ bx, w.heap.size ≤ p.1 ∧ W.heap[p.1]? = some (.cells #[.int .i64 p.2] 3 (0, 0))
theorem EvI.alloc {w W : World} {b : Nat} {kvs : List (ByteArray × Value)} {bx : List (Nat × Int)} (h : EvI w W b kvs bx) (m : Int) : EvI w (W.alloc (.cells #[.int .i64 m] 3)) b kvs (bx ++ [(W.heap.size, m)]) := by
  refine ⟨h.below.alloc h.below.size _, h.mp.same (Below.heap_alloc _ _ _ h.mp.lt), h.le, fun p hp => ?_⟩
  rcases List.mem_append.1 hp with hp | hp
  · exact ⟨(h.box p hp).1, blk_alloc (h.box p hp).2 _⟩
  · obtain rfl := List.mem_singleton.1 hp
    exact ⟨h.below.size, blk_new _ _⟩
theorem EvI.fin {w W : World} {b : Nat} {kvs : List (ByteArray × Value)} {bx : List (Nat × Int)} (h : EvI w W b kvs bx) (b0 b1 b2 b3 : Nat) (hb : bx = [(b0, 2), (b1, 0), (b2, 0), (b3, 1)]) (hk : kvs = evKvs b0 b1 b2 b3) :
    ∃ b' b0 b1 b2 b3, (Ending.returned (.map (some b)) = .returned (.map (some b')) ∧ Mp W b' (evKvs b0 b1 b2 b3) ∧ EvBoxes W w.heap.size b0 b1 b2 b3) ∧ Below w.heap.size w W := by
  subst hb hk
  have h0 := h.box (b0, 2) (by simp)
  have h1 := h.box (b1, 0) (by simp)
  have h2 := h.box (b2, 0) (by simp)
  have h3 := h.box (b3, 1) (by simp)
  exact ⟨b, b0, b1, b2, b3, ⟨rfl, h.mp, ⟨h0.1, h1.1, h2.1, h3.1⟩, h0.2, h1.2, h2.2, h3.2⟩, h.below⟩
end Go.Proofs.YtdedlchpjboceaaDoor.Px
end

section
namespace Go.Proofs.YtdedlchpjboceaaDoor.Px
open Go.RowKit Go.Shelf Go.Proofs.YtdedlchpjboceaaDoor.Lx Go.Proofs.YtdedlchpjboceaaDoorW.PrintWords Go.Proofs.YtdedlchpjboceaaDoorW.PrintLast Go.Proofs.YtdedlchpjboceaaDoorW.PrintMore
attribute [local go_sem] Oper.semAt_some
/-- The reader before a command. -/
def PreR (W : World) (R : Nat) (l : List Tok) (e : Int) : Prop :=
  ∃ A cap k nm vn a, Rd W R (.slice A l.length cap) e k nm vn a ∧ l.length ≤ cap ∧ Kd.C kT W A l.length l ∧ ∀ ad, A = some ad → ad.block < W.heap.size ∧ ad.block ≠ R ∧ ad.block < R
theorem RS.pre {b : Nat} {W : World} {R : Nat} {l : List Tok} {e : Int} {c : Cmd} (h : RS b W R l e c) : PreR W R l e := by
  obtain ⟨h1, h2, A, cap, vn, h3, h4, h5, h6, h7⟩ := h
  exact ⟨A, cap, _, _, vn, _, h3, h4, h5, fun ad e => ⟨Nat.lt_of_lt_of_le (h6 ad e).1 h2, (h6 ad e).2⟩⟩
theorem PreR.below {W W' : World} {R : Nat} {l : List Tok} {e : Int} (h : PreR W R l e) (hb : Below W.heap.size W W') : PreR W' R l e := by
  obtain ⟨A, cap, k, nm, vn, a, h3, h4, h5, h6⟩ := h
  exact ⟨A, cap, k, nm, vn, a, blk_below h3 hb, h4, Kd.C_below h5 hb, fun ad e => ⟨Nat.lt_of_lt_of_le (h6 ad e).1 hb.size, (h6 ad e).2⟩⟩
/-- The frame's two result boxes, of the reader's step since they were made. -/
structure CI (w : World) (R : Nat) (W : World) : Prop where
  fr : Fr R (w.heap.size + 2) w W
  b0 : ∃ x, W.heap[w.heap.size]? = some (.cells #[.int .i64 x] 3 (0, 0))
  b1 : ∃ y, W.heap[w.heap.size + 1]? = some (.cells #[.bool y] 4 (0, 0))
  lt : R < w.heap.size
theorem CI.step {w W W' : World} {R : Nat} (h : CI w R W) (hf : Fr R (w.heap.size + 2) W W') : CI w R W' := by
  have hr := h.lt
  obtain ⟨x, hx⟩ := h.b0
  obtain ⟨y, hy⟩ := h.b1
  exact ⟨h.fr.trans hf, ⟨x, hf.kept hx (by omega) (.inr (by omega))⟩, ⟨y, hf.kept hy (by omega) (.inr (by omega))⟩, hr⟩
theorem CI.grown {w W : World} {R : Nat} (h : CI w R W) : w.grownBy W (some R) :=
  ⟨h.fr.os, h.fr.tape, h.fr.output, h.fr.size, fun k hk hne => h.fr.block k hk (fun e => hne (by rw [e])) (.inl (by omega))⟩
end Go.Proofs.YtdedlchpjboceaaDoor.Px
end

section
namespace Go.Proofs.YtdedlchpjboceaaDoor.Px
open Go.RowKit Go.Shelf Go.Proofs.YtdedlchpjboceaaDoor.Lx Go.Proofs.YtdedlchpjboceaaDoorW.PrintWords Go.Proofs.YtdedlchpjboceaaDoorW.PrintLast Go.Proofs.YtdedlchpjboceaaDoorW.PrintMore
attribute [local go_sem] Oper.semAt_some
theorem PreR.cells {w : World} {R : Nat} {l : List Tok} {e : Int} (h : PreR w R l e) : ∃ k nm vn a, (w.cell? ⟨R, 2, none⟩ = some (.int .i64 k) ∧ w.cell? ⟨R, 3, none⟩ = some (.string nm) ∧ w.cell? ⟨R, 4, none⟩ = some vn ∧ w.cell? ⟨R, 5, none⟩ = some (.int .i64 a)) ∧ (∀ i, w.frozen? ⟨R, i, none⟩ = false) := by
  obtain ⟨A, cap, k, nm, vn, a', h3, h4, h5, h6⟩ := h
  exact ⟨k, nm, vn, a', ⟨by rw [blk_cell h3]; rfl, by rw [blk_cell h3]; rfl, by rw [blk_cell h3]; rfl, by rw [blk_cell h3]; rfl⟩, fun i => blk_frozen h3 i⟩
theorem EvBoxes.step {w W : World} {R n b0 b1 b2 b3 : Nat} (h : EvBoxes w n b0 b1 b2 b3) (hR : R < n) (hf : ∀ d, Fr R d w W) : EvBoxes W n b0 b1 b2 b3 :=
  ⟨h.1, (hf (b0 + 1)).kept h.2.1 (by have := h.1; omega) (.inr (Nat.lt_succ_self _)), (hf (b1 + 1)).kept h.2.2.1 (by have := h.1; omega) (.inr (Nat.lt_succ_self _)), (hf (b2 + 1)).kept h.2.2.2.1 (by have := h.1; omega) (.inr (Nat.lt_succ_self _)), (hf (b3 + 1)).kept h.2.2.2.2 (by have := h.1; omega) (.inr (Nat.lt_succ_self _))⟩
end Go.Proofs.YtdedlchpjboceaaDoor.Px
end
