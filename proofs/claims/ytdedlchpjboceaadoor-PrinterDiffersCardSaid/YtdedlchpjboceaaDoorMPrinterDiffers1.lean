/- Texts of the proof of the law PrinterDiffers, part 1: plain words, and walks through the program's functions. -/
import Derived.Test.YtdedlchpjboceaaDoorMPrinterDiffers0
import Derived.Laws.Slices
import Derived.WalkSpells
import Derived.Lib.AtoiAll
import Derived.Test.YtdedlchpjboceaaDoorWMore
import Derived.Laws.RangeString
import Derived.IntWalk
import Derived.Deep.LoopGhost
import Derived.Test.YtdedlchpjboceaaDoorWN
import Derived.Maps.AppendAt
import Derived.Test.YtdedlchpjboceaaDoorProg
import Derived.Below
import Derived.Deep.Draws
import Derived.Deep.AppendLies
import Derived.OwnWalk
import Derived.Laws.BytesArg
import Derived.Laws.MakeOwn
import Derived.Laws.OwnMore
import Derived.Deep.OwnRows
import Derived.Tactics
import Derived.Lib.ConvBytes
import Derived.WalkKit
import Derived.KernelRfl
import Derived.RowKit3
import Derived.Deep.QuietTactic
import Derived.BigQuiet
import Derived.WideLaws
import Derived.Deep.DeepCutAuto
import Derived.Deep.CutBlock
import Derived.Deep.RegionHeld3
import Derived.Laws.Rows
import Derived.Lib.AppendStr
import Derived.ArgAppend
import Derived.Laws.IdiomCopy
import Derived.OrdersHeld
import Derived.Laws.BitsLemmas
import Derived.RowKit
import Derived.Test.YtdedlchpjboceaaDoorWWords
import Derived.Test.YtdedlchpjboceaaDoorWLast
import Derived.Test.YtdedlchpjboceaaDoorWTab
import Derived.Test.YtdedlchpjboceaaDoorWFour
import Derived.Test.YtdedlchpjboceaaDoorWQPut
import Derived.Test.YtdedlchpjboceaaDoorWApart
import Derived.Test.YtdedlchpjboceaaDoorWArr
import Derived.Test.YtdedlchpjboceaaDoorWZeros
import Derived.Test.YtdedlchpjboceaaDoorWFoot
import Derived.Test.YtdedlchpjboceaaDoorWKept
import Derived.Test.YtdedlchpjboceaaDoorWShare
import Derived.Test.YtdedlchpjboceaaDoorWFootNe
import Derived.Test.YtdedlchpjboceaaDoorWAt
import Derived.Test.YtdedlchpjboceaaDoorWEqStruct
import Derived.Test.YtdedlchpjboceaaDoorWRepsOne
import Derived.Test.YtdedlchpjboceaaDoorWInv
import Derived.Test.YtdedlchpjboceaaDoorWInvWords
import Derived.Test.YtdedlchpjboceaaDoorWGuard
import Derived.Test.YtdedlchpjboceaaDoorWNEv

section
/-
  The parser's 'command', walked from its beginning to each of its ends.
-/
namespace Go.Proofs.YtdedlchpjboceaaDoor.Px
open Go.RowKit Go.Shelf Go.Proofs.YtdedlchpjboceaaDoor.Lx Go.Proofs.YtdedlchpjboceaaDoorW.PrintWords Go.Proofs.YtdedlchpjboceaaDoorW.PrintLast Go.Proofs.YtdedlchpjboceaaDoorW.PrintMore
attribute [local go_sem] Oper.semAt_some

/-- A new command laid into the reader's block. -/
theorem RS.init {w W : World} {R : Nat} {l : List Tok} {e : Int} (h : PreR w R l e) (hb : Below w.heap.size w W) (hs : w.heap.size + 2 ≤ W.heap.size) (a : Int) :
    RS (w.heap.size + 2) ((((W.setCell ⟨R, 2, none⟩ (.int .i64 0)).setCell ⟨R, 3, none⟩ (.string ⟨#[]⟩)).setCell ⟨R, 4, none⟩ (.slice none 0 0)).setCell ⟨R, 5, none⟩ (.int .i64 a)) R l e (cmd0 a) ∧ (∀ d, Fr R d W ((((W.setCell ⟨R, 2, none⟩ (.int .i64 0)).setCell ⟨R, 3, none⟩ (.string ⟨#[]⟩)).setCell ⟨R, 4, none⟩ (.slice none 0 0)).setCell ⟨R, 5, none⟩ (.int .i64 a))) := by
  obtain ⟨A, cap, k, nm, vn, a', h3, h4, h5, h6⟩ := h
  have hR := blk_lt h3
  have h3' := blk_below h3 hb
  refine ⟨⟨by omega, by rw [size_set, size_set, size_set, size_set]; exact hs, A, cap, .slice none 0 0, ?_, h4, ?_, fun ad e => ⟨by have := (h6 ad e).1; omega, (h6 ad e).2⟩, Kd.R_nil _ _ _ _ _⟩, fun d => ((((Fr.refl R d W).set _ _).set _ _).set _ _).set _ _⟩
  · exact (blk_set (blk_set (blk_set (blk_set h3' 2 _) 3 _) 4 _) 5 _).trans rfl
  · refine C_same h5 (fun ad e _ => ?_)
    have hne : ad.block ≠ R := (h6 ad e).2.1
    rw [Below.heap_setCell _ _ _ _ hne, Below.heap_setCell _ _ _ _ hne, Below.heap_setCell _ _ _ _ hne, Below.heap_setCell _ _ _ _ hne]
    exact hb.block _ (h6 ad e).1
theorem PreR.cells {w : World} {R : Nat} {l : List Tok} {e : Int} (h : PreR w R l e) : ∃ k nm vn a, (w.cell? ⟨R, 2, none⟩ = some (.int .i64 k) ∧ w.cell? ⟨R, 3, none⟩ = some (.string nm) ∧ w.cell? ⟨R, 4, none⟩ = some vn ∧ w.cell? ⟨R, 5, none⟩ = some (.int .i64 a)) ∧ (∀ i, w.frozen? ⟨R, i, none⟩ = false) := by
  obtain ⟨A, cap, k, nm, vn, a', h3, h4, h5, h6⟩ := h
  exact ⟨k, nm, vn, a', ⟨by rw [blk_cell h3]; rfl, by rw [blk_cell h3]; rfl, by rw [blk_cell h3]; rfl, by rw [blk_cell h3]; rfl⟩, fun i => blk_frozen h3 i⟩
/-- A form's value: its function reads its items. -/
def FormV (b R : Nat) (e : Int) (v : Value) (k : Int) (its : List It) (ok : World → Prop) : Prop :=
  ∃ F caps, v = formV k (.func (.func F) #[] caps) ∧ (∀ args W, (callFunc F args).run Tryd.prog W = .ok (.enter F args) W) ∧
    ∀ W l c, RS b W R l e c → c.f2.length + 8 ≤ 1000 → ok W → Calls Tryd.prog F (#[.pointer (some ⟨R, 0, none⟩)] ++ caps) W (PostR b R e W (runIt e its l c))
theorem lookV_hit {kvs : List (ByteArray × Value)} {k s : ByteArray} {v z : Value} (h : s = k) : lookV ((k, v) :: kvs) s z = (v, true) := by subst h; simp [lookV]
theorem lookV_miss {kvs : List (ByteArray × Value)} {k s : ByteArray} {v z : Value} (h : ¬ s = k) : lookV ((k, v) :: kvs) s z = lookV kvs s z := by
  have h' : ¬ k = s := fun e => h e.symm
  simp [lookV, h']
theorem lookC (b R : Nat) (e : Int) (z : Value) (s : ByteArray) : (formC s = none ∧ lookV cmdKvs s z = (z, false)) ∨ ∃ k its v, formC s = some (k, its) ∧ lookV cmdKvs s z = (v, true) ∧ FormV b R e v k its (fun _ => True) := by
  unfold formC cmdKvs
  by_cases h : s = (⟨#[109, 101, 115, 104]⟩ : ByteArray)
  · exact .inr ⟨_, _, _, if_pos h, lookV_hit h, _, _, rfl, enters_of Tryd.func94 (by kernel_rfl) rfl, fun W l c hS hn hok => (mesh_rs (by omega) hS)⟩
  rw [if_neg h, lookV_miss h]
  by_cases h : s = (⟨#[114, 111, 111, 116]⟩ : ByteArray)
  · exact .inr ⟨_, _, _, if_pos h, lookV_hit h, _, _, rfl, enters_of Tryd.func96 (by kernel_rfl) rfl, fun W l c hS hn hok => (root_rs (by omega) hS)⟩
  rw [if_neg h, lookV_miss h]
  by_cases h : s = (⟨#[110, 111, 100, 101]⟩ : ByteArray)
  · exact .inr ⟨_, _, _, if_pos h, lookV_hit h, _, _, rfl, enters_of Tryd.func98 (by kernel_rfl) rfl, fun W l c hS hn hok => (node_rs (by omega) hS)⟩
  rw [if_neg h, lookV_miss h]
  by_cases h : s = (⟨#[114, 117, 110]⟩ : ByteArray)
  · exact .inr ⟨_, _, _, if_pos h, lookV_hit h, _, _, rfl, enters_of Tryd.func100 (by kernel_rfl) rfl, fun W l c hS hn hok => (run_rs (by omega) hS)⟩
  rw [if_neg h, lookV_miss h]
  exact .inl ⟨rfl, rfl⟩
theorem lookE {n : Nat} (b R : Nat) (hR : R < n) (b0 b1 b2 b3 : Nat) (e : Int) (z : Value) (s : ByteArray) : (formE s = none ∧ lookV (evKvs b0 b1 b2 b3) s z = (z, false)) ∨ ∃ k its v, formE s = some (k, its) ∧ lookV (evKvs b0 b1 b2 b3) s z = (v, true) ∧ FormV b R e v k its (fun W => EvBoxes W n b0 b1 b2 b3) := by
  unfold formE evKvs
  by_cases h : s = (⟨#[109, 111, 118, 101]⟩ : ByteArray)
  · exact .inr ⟨_, _, _, if_pos h, lookV_hit h, _, _, rfl, enters_of Tryd.func102 (by kernel_rfl) rfl, fun W l c hS hn hok => (named_rs 2 b0 (by decide) hok.2.1 (by have := hok.1; omega) (by omega) hS)⟩
  rw [if_neg h, lookV_miss h]
  by_cases h : s = (⟨#[102, 97, 105, 108]⟩ : ByteArray)
  · exact .inr ⟨_, _, _, if_pos h, lookV_hit h, _, _, rfl, enters_of Tryd.func102 (by kernel_rfl) rfl, fun W l c hS hn hok => (named_rs 0 b1 (by decide) hok.2.2.1 (by have := hok.1; omega) (by omega) hS)⟩
  rw [if_neg h, lookV_miss h]
  by_cases h : s = (⟨#[115, 116, 97, 114, 116]⟩ : ByteArray)
  · exact .inr ⟨_, _, _, if_pos h, lookV_hit h, _, _, rfl, enters_of Tryd.func102 (by kernel_rfl) rfl, fun W l c hS hn hok => (named_rs 0 b2 (by decide) hok.2.2.2.1 (by have := hok.1; omega) (by omega) hS)⟩
  rw [if_neg h, lookV_miss h]
  by_cases h : s = (⟨#[114, 101, 97, 100]⟩ : ByteArray)
  · exact .inr ⟨_, _, _, if_pos h, lookV_hit h, _, _, rfl, enters_of Tryd.func102 (by kernel_rfl) rfl, fun W l c hS hn hok => (named_rs 1 b3 (by decide) hok.2.2.2.2 (by have := hok.1; omega) (by omega) hS)⟩
  rw [if_neg h, lookV_miss h]
  by_cases h : s = (⟨#[106, 97, 109]⟩ : ByteArray)
  · exact .inr ⟨_, _, _, if_pos h, lookV_hit h, _, _, rfl, enters_of Tryd.func103 (by kernel_rfl) rfl, fun W l c hS hn hok => (jam_rs (by omega) hS)⟩
  rw [if_neg h, lookV_miss h]
  by_cases h : s = (⟨#[114, 101, 112, 108, 97, 121]⟩ : ByteArray)
  · exact .inr ⟨_, _, _, if_pos h, lookV_hit h, _, _, rfl, enters_of Tryd.func104 (by kernel_rfl) rfl, fun W l c hS hn hok => (replay_rs (by omega) hS)⟩
  rw [if_neg h, lookV_miss h]
  by_cases h : s = (⟨#[112, 114, 111, 103, 114, 97, 109]⟩ : ByteArray)
  · exact .inr ⟨_, _, _, if_pos h, lookV_hit h, _, _, rfl, enters_of Tryd.func105 (by kernel_rfl) rfl, fun W l c hS hn hok => (program_rs (by omega) hS)⟩
  rw [if_neg h, lookV_miss h]
  exact .inl ⟨rfl, rfl⟩
theorem zeroForm (W : World) : (zeroValue 101).run Tryd.prog W = .ok (.agg #[.int .i64 0, .nilFunc]) W := by kernel_rfl
theorem box2 (W : World) (u v : Value) (t : TypeId) : (W.alloc (.cells #[u, v] t)).heap[W.heap.size]? = some (.cells #[u, v] t (0, 0)) := blk_new _ _
set_option maxHeartbeats 16000000 in
set_option maxRecDepth 100000 in
theorem command_B {w : World} {R : Nat} {l : List Tok} {e : Int} (h : PreR w R l e) (hat : ¬ (nextT l e).f1 = atT) :
    Calls Tryd.prog 43 #[.pointer (some ⟨R, 0, none⟩)] w (PostC R e w (tailR e formC l (cmd0 (nextT l e).f3))) := by
  have hmf : ∀ (fn : Fn) (first cap : Array Value) (w : World), (Instr.makeFunc fn first cap).run Tryd.prog w = .ok (.func fn first cap) w := fun _ _ _ _ => rfl
  have hsn : ∀ (a : Addr) (m : Mode) (w : World), (store a .nilFunc m).run Tryd.prog w = stored Tryd.prog w a .nilFunc m := fun a m w => run_store Tryd.prog w a _ m rfl
  have hsf : ∀ (a : Addr) (m : Mode) (w : World) (F : Nat) (caps : Array Value), (store a (.func (.func F) #[] caps) m).run Tryd.prog w = stored Tryd.prog w a (.func (.func F) #[] caps) m := fun a m w F caps => run_store Tryd.prog w a _ m rfl
  have hf1 := fieldT1
  have hf3 := fieldT3
  have hlen : (⟨#[97, 116]⟩ : ByteArray).toList = [97, 116] := by rw [ByteArray.toList_eq]
  have hatB : ((nextT l e).f1.toList == [97, 116]) = false := by
    rw [← hlen, eq_toList]; exact decide_eq_false hat
  obtain ⟨n, hn⟩ : ∃ n, nextT l e = n := ⟨_, rfl⟩
  have HN := Lib.hid hn
  generalize hr : tailR e formC l (cmd0 (nextT l e).f3) = r
  rw [hn] at hr hatB
  have HR := Lib.hid hr
  have H := Lib.hid h
  have hRw := blk_lt h.choose_spec.choose_spec.choose_spec.choose_spec.choose_spec.choose_spec.1
  clear h hlen hr hat hn
  go_enter_defers Tryd.func43, Tryd.ntmps43
  go_wp2_with fail
  have hI1 : CI w R ((w.alloc (.cells #[.int .i64 0] 3)).alloc (.cells #[.bool false] 4)) := ⟨((Fr.refl _ _ _).alloc _).alloc _, ⟨0, blk_alloc (blk_new _ _) _⟩, ⟨false, by have := blk_new (w.alloc (.cells #[.int .i64 0] 3)) (.cells #[.bool false] 4); rwa [World.size_alloc] at this⟩, hRw⟩
  have hB1 : Below w.heap.size w ((w.alloc (.cells #[.int .i64 0] 3)).alloc (.cells #[.bool false] 4)) := below_alloc (below_alloc (Below.refl _ _) _) _
  have hs1 : w.heap.size + 2 ≤ ((w.alloc (.cells #[.int .i64 0] 3)).alloc (.cells #[.bool false] 4)).heap.size := by simp
  generalize (w.alloc (.cells #[.int .i64 0] 3)).alloc (.cells #[.bool false] 4) = w1 at hI1 hB1 hs1 ⊢
  refine (next_pre (H.out.below hB1)).mono ?_
  rintro x w2 ⟨rfl, hw2⟩
  rw [HN.out]
  have hB2 := below_then hB1 hB1.size hw2
  obtain ⟨k_, nm_, vn_, a_, ⟨c2, c3, c4, c5⟩, hf⟩ := (H.out.below hB2).cells
  have f2 := hf 2
  have f3 := hf 3
  have f4 := hf 4
  have f5 := hf 5
  have hI2 := Lib.hid (hI1.step (.of_below hw2))
  have hini := RS.init H.out hB2 (Nat.le_trans hs1 hw2.size) n.f3
  have HS2 := Lib.hid hini.1
  have HF2 := Lib.hid hini.2
  clear hini hf hI1 hB1 hs1 hw2 hB2
  go_wp2_with fail
  generalize (((w2.setCell ⟨R, 2, none⟩ (.int .i64 0)).setCell ⟨R, 3, none⟩ (.string ⟨#[]⟩)).setCell ⟨R, 4, none⟩ (.slice none 0 0)).setCell ⟨R, 5, none⟩ (.int .i64 n.f3) = w3 at HS2 HF2 ⊢
  have HI3 := Lib.hid (hI2.out.step (HF2.out _))
  clear c2 c3 c4 c5 f2 f3 f4 f5 hI2 HF2 H
  refine (commands_any w3).mono ?_
  rintro x w4 ⟨⟨rfl, hM4⟩, hb4⟩
  have HI4 := Lib.hid (HI3.out.step (.of_below hb4))
  have HS4 := Lib.hid (HS2.out.below hb4)
  have HM4 := Lib.hid hM4
  clear hM4 hb4 HI3 HS2
  generalize w3.heap.size = mb at HM4 ⊢
  go_wp2_with fail
  refine (next_rs HS4.out).mono ?_
  rintro x w5 ⟨rfl, hb5⟩
  rw [HN.out]
  have HI5 := Lib.hid (HI4.out.step (.of_below hb5))
  have HS5 := Lib.hid (HS4.out.below hb5)
  have HM5 := Lib.hid (HM4.out.same (hb5.block _ HM4.out.lt))
  clear hb5 HI4 HS4 HM4
  go_wp2_with fail
  refine (next_rs HS5.out).mono ?_
  rintro x w6 ⟨rfl, hb6⟩
  rw [HN.out]
  have HI6 := Lib.hid (HI5.out.step (.of_below hb6))
  have HS6 := Lib.hid (HS5.out.below hb6)
  have hM6 := HM5.out.same (hb6.block _ HM5.out.lt)
  have hlk := hM6.look (P := Tryd.prog) (t := 95) Tryd.underlying95 Tryd.underlying9 (.agg #[.int .i64 0, .nilFunc]) (zeroForm w6) n.f1
  clear hb6 HI5 HS5 HM5 hM6 hatB
  rcases lookC (w.heap.size + 2) R e (.agg #[.int .i64 0, .nilFunc]) n.f1 with ⟨hf, hl⟩ | ⟨k, its, v, hf, hl, F, caps, rfl, hent, hcon⟩
  · rw [hl] at hlk
    have hr : r = .error (n.f3, l) := by rw [← HR.out]; unfold tailR; rw [HN.out, hf]
    have HR1 := Lib.hid hr
    clear hr hf hl HR
    go_wp2_with fail
    refine (need_rs_no (HS6.out.alloc _)).mono ?_
    rintro x w7 ⟨rfl, hS7, hF7⟩
    rw [HN.out]
    exact fin_panic (HI6.out.step (((Fr.refl _ _ _).alloc _).trans (hF7 _))) ⟨_, hS7⟩ HR1.out rfl rfl
  · rw [hl] at hlk
    have hne : n.f1 ≠ ⟨#[]⟩ := by intro e0; rw [e0] at hf; simp [formC] at hf
    have hnn := HN.out
    obtain ⟨t, l', rfl⟩ := nextT_cons (l := l) (e := e) (by rw [hnn]; exact hne)
    have htn : t = n := hnn
    subst htn
    have hr : r = runIt e (its ++ [.W semiT]) l' { (cmd0 t.f3) with f0 := k } := by rw [← HR.out]; unfold tailR; rw [HN.out, hf]; rfl
    have HR1 := Lib.hid hr
    have HC := Lib.hid hcon
    clear hr hf hl HR hne hnn hcon
    unfold formV at hlk
    go_wp2_with fail
    have hbx := box2 w6 (.int .i64 k) (.func (.func F) #[] caps) 101
    have hIb := HI6.out.step ((Fr.refl _ _ _).alloc (.cells #[.int .i64 k, .func (.func F) #[] caps] 101))
    have hsz : R < w6.heap.size := by have h1 := HS6.out.lt; have h2 := HS6.out.le; omega
    refine (need_rs_ok (HS6.out.alloc _)).mono ?_
    rintro x w7 ⟨rfl, hS7, hF7⟩
    have hbx7 := (hF7 0).kept hbx (by omega) (.inl (by decide))
    have HI7 := Lib.hid (hIb.step (hF7 _))
    obtain ⟨A_, cap_, vn7, ⟨_, _, c2, _, _, _⟩, hf7⟩ := hS7.cells
    have f2 := hf7 2
    have q0 : w7.cell? ⟨w6.heap.size, 0, none⟩ = some (.int .i64 k) := by rw [blk_cell hbx7]; rfl
    have q1 : w7.cell? ⟨w6.heap.size, 1, none⟩ = some (.func (.func F) #[] caps) := by rw [blk_cell hbx7]; rfl
    have hne7 : ¬ R = w6.heap.size := by omega
    have HS7 := Lib.hid hS7
    clear hbx hbx7 hIb hF7 hf7 hS7 HI6 HS6 hlk
    go_wp2_with fail
    have hI7s := HI7.out.step ((Fr.refl R _ w7).set 2 (.int .i64 k))
    refine (HC.out _ l' _ (HS7.out.set_kind k) (by simp [cmd0]) trivial).mono ?_
    intro x w8 hP
    cases hst : runIt e its l' { cmd0 t.f3 with f0 := k } with
    | error y =>
      obtain ⟨rfl, hF, hS⟩ := hP.err_ hst
      exact fin_panic (hI7s.step hF) hS (HR1.out.trans (runIt_app_err hst)) rfl rfl
    | ok y =>
      obtain ⟨l2, d2⟩ := y
      obtain ⟨rfl, hF, hS⟩ := hP.ok_ hst
      have HI8 := Lib.hid (hI7s.step hF)
      have HS8 := Lib.hid hS
      have HR2 := Lib.hid (HR1.out.trans (runIt_app_ok hst))
      clear hP hst hF hS hI7s HI7 HS7 HR1 HC q0 q1 c2 f2 hne7 hent
      go_wp2_with fail
      refine (word_rs semiT (by decide) HS8.out).mono ?_
      intro x w9 hP
      cases hst : stepIt e (.W semiT) l2 d2 with
      | error y =>
        obtain ⟨rfl, hF, hS⟩ := hP.err_ hst
        exact fin_panic (HI8.out.step hF) hS (HR2.out.trans (runIt_cons_err hst)) rfl rfl
      | ok y =>
        obtain ⟨l3, d3⟩ := y
        obtain ⟨rfl, hF, hS⟩ := hP.ok_ hst
        have hI9 := HI8.out.step hF
        obtain ⟨x0, hx0⟩ := hI9.b0
        obtain ⟨y0, hy0⟩ := hI9.b1
        have g0 : w9.cell? ⟨w.heap.size, 0, none⟩ = some (.int .i64 x0) := by rw [blk_cell hx0]; rfl
        have g1 : w9.cell? ⟨w.heap.size + 1, 0, none⟩ = some (.bool y0) := by rw [blk_cell hy0]; rfl
        have z0 := blk_frozen hx0 0
        have z1 := blk_frozen hy0 0
        have HI9 := Lib.hid hI9
        have HS9 := Lib.hid hS
        have HR3 := Lib.hid (HR2.out.trans (runIt_cons_ok hst))
        clear hP hst hF hS HI8 HS8 HR2 hI9 hx0 hy0
        go_wp2
        exact fin_ret HI9.out HS9.out HR3.out rfl rfl

theorem EvBoxes.step {w W : World} {R n b0 b1 b2 b3 : Nat} (h : EvBoxes w n b0 b1 b2 b3) (hR : R < n) (hf : ∀ d, Fr R d w W) : EvBoxes W n b0 b1 b2 b3 :=
  ⟨h.1, (hf (b0 + 1)).kept h.2.1 (by have := h.1; omega) (.inr (Nat.lt_succ_self _)), (hf (b1 + 1)).kept h.2.2.1 (by have := h.1; omega) (.inr (Nat.lt_succ_self _)), (hf (b2 + 1)).kept h.2.2.2.1 (by have := h.1; omega) (.inr (Nat.lt_succ_self _)), (hf (b3 + 1)).kept h.2.2.2.2 (by have := h.1; omega) (.inr (Nat.lt_succ_self _))⟩
set_option maxHeartbeats 16000000 in
set_option maxRecDepth 100000 in
theorem command_A {w : World} {R : Nat} {l : List Tok} {e : Int} (h : PreR w R l e) (hat : (nextT l e).f1 = atT) :
    Calls Tryd.prog 43 #[.pointer (some ⟨R, 0, none⟩)] w (PostC R e w (cmdR e l)) := by
  have hmf : ∀ (fn : Fn) (first cap : Array Value) (w : World), (Instr.makeFunc fn first cap).run Tryd.prog w = .ok (.func fn first cap) w := fun _ _ _ _ => rfl
  have hsn : ∀ (a : Addr) (m : Mode) (w : World), (store a .nilFunc m).run Tryd.prog w = stored Tryd.prog w a .nilFunc m := fun a m w => run_store Tryd.prog w a _ m rfl
  have hsf : ∀ (a : Addr) (m : Mode) (w : World) (F : Nat) (caps : Array Value), (store a (.func (.func F) #[] caps) m).run Tryd.prog w = stored Tryd.prog w a (.func (.func F) #[] caps) m := fun a m w F caps => run_store Tryd.prog w a _ m rfl
  have hf1 := fieldT1
  have hf3 := fieldT3
  have hlen : (⟨#[97, 116]⟩ : ByteArray).toList = [97, 116] := by rw [ByteArray.toList_eq]
  have hatB : ((nextT l e).f1.toList == [97, 116]) = true := by
    rw [← hlen, eq_toList]; exact decide_eq_true hat
  have hw1 : stepIt e (.W atT) l (cmd0 (nextT l e).f3) = .ok (l.tail, cmd0 (nextT l e).f3) := if_pos hat
  obtain ⟨n, hn⟩ : ∃ n, nextT l e = n := ⟨_, rfl⟩
  have HN := Lib.hid hn
  generalize hr : cmdR e l = r
  have hr' : r = match runIt e (nums_ 1) l.tail (cmd0 (nextT l e).f3) with | .error x => .error x | .ok (l1, c1) => tailR e formE l1 c1 := by
    rw [← hr]; unfold cmdR; rw [if_pos hat, runIt_cons_ok hw1]; rfl
  rw [hn] at hr' hatB hw1
  have HW := Lib.hid hw1
  have HR := Lib.hid hr'
  have H := Lib.hid h
  have hRw := blk_lt h.choose_spec.choose_spec.choose_spec.choose_spec.choose_spec.choose_spec.1
  clear h hlen hr hr' hw1 hat hn
  go_enter_defers Tryd.func43, Tryd.ntmps43
  go_wp2_with fail
  have hI1 : CI w R ((w.alloc (.cells #[.int .i64 0] 3)).alloc (.cells #[.bool false] 4)) := ⟨((Fr.refl _ _ _).alloc _).alloc _, ⟨0, blk_alloc (blk_new _ _) _⟩, ⟨false, by have := blk_new (w.alloc (.cells #[.int .i64 0] 3)) (.cells #[.bool false] 4); rwa [World.size_alloc] at this⟩, hRw⟩
  have hB1 : Below w.heap.size w ((w.alloc (.cells #[.int .i64 0] 3)).alloc (.cells #[.bool false] 4)) := below_alloc (below_alloc (Below.refl _ _) _) _
  have hs1 : w.heap.size + 2 ≤ ((w.alloc (.cells #[.int .i64 0] 3)).alloc (.cells #[.bool false] 4)).heap.size := by simp
  generalize (w.alloc (.cells #[.int .i64 0] 3)).alloc (.cells #[.bool false] 4) = w1 at hI1 hB1 hs1 ⊢
  refine (next_pre (H.out.below hB1)).mono ?_
  rintro x w2 ⟨rfl, hw2⟩
  rw [HN.out]
  have hB2 := below_then hB1 hB1.size hw2
  obtain ⟨k_, nm_, vn_, a_, ⟨c2, c3, c4, c5⟩, hf⟩ := (H.out.below hB2).cells
  have f2 := hf 2
  have f3 := hf 3
  have f4 := hf 4
  have f5 := hf 5
  have hI2 := Lib.hid (hI1.step (.of_below hw2))
  have hini := RS.init H.out hB2 (Nat.le_trans hs1 hw2.size) n.f3
  have HS2 := Lib.hid hini.1
  have HF2 := Lib.hid hini.2
  clear hini hf hI1 hB1 hs1 hw2 hB2
  go_wp2_with fail
  generalize (((w2.setCell ⟨R, 2, none⟩ (.int .i64 0)).setCell ⟨R, 3, none⟩ (.string ⟨#[]⟩)).setCell ⟨R, 4, none⟩ (.slice none 0 0)).setCell ⟨R, 5, none⟩ (.int .i64 n.f3) = w3 at HS2 HF2 ⊢
  have HI3 := Lib.hid (hI2.out.step (HF2.out _))
  clear c2 c3 c4 c5 f2 f3 f4 f5 hI2 HF2 H
  refine (commands_any w3).mono ?_
  rintro x w4 ⟨⟨rfl, hM4⟩, hb4⟩
  have HI4 := Lib.hid (HI3.out.step (.of_below hb4))
  have HS4 := Lib.hid (HS2.out.below hb4)
  have HM4 := Lib.hid hM4
  clear hM4 hb4 HI3 HS2
  generalize w3.heap.size = mb at HM4 ⊢
  go_wp2_with fail
  refine (next_rs HS4.out).mono ?_
  rintro x w5 ⟨rfl, hb5⟩
  rw [HN.out]
  have HI5 := Lib.hid (HI4.out.step (.of_below hb5))
  have HS5 := Lib.hid (HS4.out.below hb5)
  have HM5 := Lib.hid (HM4.out.same (hb5.block _ HM4.out.lt))
  clear hb5 HI4 HS4 HM4
  go_wp2_with fail
  refine (word_rs atT (by decide) HS5.out).mono ?_
  intro x w5a hP
  obtain ⟨rfl, hF, hS⟩ := hP.ok_ HW.out
  have HI5a := Lib.hid (HI5.out.step hF)
  have HS5a := Lib.hid hS
  clear hP hF hS HW HI5 HS5 HM5
  go_wp2_with fail
  refine (numbers_rs 1 (by simp [cmd0]) HS5a.out).mono ?_
  intro x w5b hP
  cases hst : runIt e (nums_ 1) l.tail (cmd0 n.f3) with
  | error y =>
    obtain ⟨rfl, hF, hS⟩ := hP.err_ hst
    exact fin_panic (HI5a.out.step hF) hS (by rw [HR.out, hst]) rfl rfl
  | ok y =>
  obtain ⟨la, ca⟩ := y
  obtain ⟨rfl, hF, hS⟩ := hP.ok_ hst
  have hca : ca.f2.length + 8 ≤ 1000 := by have := runIt_len hst; simp [cmd0, addN] at this; omega
  have HI5b := Lib.hid (HI5a.out.step hF)
  have HS5b := Lib.hid hS
  have hra : r = tailR e formE la ca := by rw [HR.out, hst]
  have HRa := Lib.hid hra
  clear hP hst hF hS HR hra HI5a HS5a
  go_wp2_with fail
  refine (events_any w5b).mono ?_
  rintro x w5c ⟨mb2, b0, b1, b2, b3, ⟨rfl, hM, hX⟩, hb5c⟩
  have HI5c := Lib.hid (HI5b.out.step (.of_below hb5c))
  have HS5c := Lib.hid (HS5b.out.below hb5c)
  have HM5c := Lib.hid hM
  have HX5c := Lib.hid hX
  have hR5 : R < w5b.heap.size := by have h1 := HS5b.out.lt; have h2 := HS5b.out.le; omega
  clear hM hX hb5c HI5b HS5b
  obtain ⟨m, hm⟩ : ∃ m, nextT la e = m := ⟨_, rfl⟩
  have HN2 := Lib.hid hm
  clear hm
  go_wp2_with fail
  refine (next_rs HS5c.out).mono ?_
  rintro x w6 ⟨rfl, hb6⟩
  rw [HN2.out]
  have HI6 := Lib.hid (HI5c.out.step (.of_below hb6))
  have HS6 := Lib.hid (HS5c.out.below hb6)
  have HX6 := Lib.hid (HX5c.out.step hR5 (fun d => .of_below hb6))
  have hM6 := HM5c.out.same (hb6.block _ HM5c.out.lt)
  have hlk := hM6.look (P := Tryd.prog) (t := 95) Tryd.underlying95 Tryd.underlying9 (.agg #[.int .i64 0, .nilFunc]) (zeroForm w6) m.f1
  clear hb6 HI5c HS5c HM5c HX5c hM6 hatB
  rcases lookE (w.heap.size + 2) R hR5 b0 b1 b2 b3 e (.agg #[.int .i64 0, .nilFunc]) m.f1 with ⟨hf, hl⟩ | ⟨k, its, v, hf, hl, F, caps, rfl, hent, hcon⟩
  · rw [hl] at hlk
    have hr : r = .error (m.f3, la) := by rw [HRa.out]; unfold tailR; rw [HN2.out, hf]
    have HR1 := Lib.hid hr
    clear hr hf hl HRa
    go_wp2_with fail
    refine (need_rs_no (HS6.out.alloc _)).mono ?_
    rintro x w7 ⟨rfl, hS7, hF7⟩
    rw [HN2.out]
    exact fin_panic (HI6.out.step (((Fr.refl _ _ _).alloc _).trans (hF7 _))) ⟨_, hS7⟩ HR1.out rfl rfl
  · rw [hl] at hlk
    have hne : m.f1 ≠ ⟨#[]⟩ := by intro e0; rw [e0] at hf; simp [formE] at hf
    have hnn := HN2.out
    obtain ⟨t, l', rfl⟩ := nextT_cons (l := la) (e := e) (by rw [hnn]; exact hne)
    have htn : t = m := hnn
    subst htn
    have hr : r = runIt e (its ++ [.W semiT]) l' { ca with f0 := k } := by rw [HRa.out]; unfold tailR; rw [HN2.out, hf]; rfl
    have HR1 := Lib.hid hr
    have HC := Lib.hid hcon
    clear hr hf hl HRa hne hnn hcon
    unfold formV at hlk
    go_wp2_with fail
    have hbx := box2 w6 (.int .i64 k) (.func (.func F) #[] caps) 101
    have hIb := HI6.out.step ((Fr.refl _ _ _).alloc (.cells #[.int .i64 k, .func (.func F) #[] caps] 101))
    have hsz : R < w6.heap.size := by have h1 := HS6.out.lt; have h2 := HS6.out.le; omega
    refine (need_rs_ok (HS6.out.alloc _)).mono ?_
    rintro x w7 ⟨rfl, hS7, hF7⟩
    have hbx7 := (hF7 0).kept hbx (by omega) (.inl (by decide))
    have HI7 := Lib.hid (hIb.step (hF7 _))
    obtain ⟨A_, cap_, vn7, ⟨_, _, c2, _, _, _⟩, hf7⟩ := hS7.cells
    have f2 := hf7 2
    have q0 : w7.cell? ⟨w6.heap.size, 0, none⟩ = some (.int .i64 k) := by rw [blk_cell hbx7]; rfl
    have q1 : w7.cell? ⟨w6.heap.size, 1, none⟩ = some (.func (.func F) #[] caps) := by rw [blk_cell hbx7]; rfl
    have hne7 : ¬ R = w6.heap.size := by omega
    have HS7 := Lib.hid hS7
    have HF7 := Lib.hid hF7
    clear hbx hbx7 hIb hF7 hf7 hS7 HI6 HS6 hlk
    go_wp2_with fail
    have hI7s := HI7.out.step ((Fr.refl R _ w7).set 2 (.int .i64 k))
    refine (HC.out _ l' _ (HS7.out.set_kind k) hca ((HX6.out.step hR5 (fun d => ((Fr.refl _ _ _).alloc (.cells #[.int .i64 k, .func (.func F) #[] caps] 101)).trans (HF7.out d))).step hR5 (fun d => (Fr.refl R d w7).set 2 (.int .i64 k)))).mono ?_
    intro x w8 hP
    cases hst : runIt e its l' { ca with f0 := k } with
    | error y =>
      obtain ⟨rfl, hF, hS⟩ := hP.err_ hst
      exact fin_panic (hI7s.step hF) hS (HR1.out.trans (runIt_app_err hst)) rfl rfl
    | ok y =>
      obtain ⟨l2, d2⟩ := y
      obtain ⟨rfl, hF, hS⟩ := hP.ok_ hst
      have HI8 := Lib.hid (hI7s.step hF)
      have HS8 := Lib.hid hS
      have HR2 := Lib.hid (HR1.out.trans (runIt_app_ok hst))
      clear hP hst hF hS hI7s HI7 HS7 HR1 HC q0 q1 c2 f2 hne7 hent
      go_wp2_with fail
      refine (word_rs semiT (by decide) HS8.out).mono ?_
      intro x w9 hP
      cases hst : stepIt e (.W semiT) l2 d2 with
      | error y =>
        obtain ⟨rfl, hF, hS⟩ := hP.err_ hst
        exact fin_panic (HI8.out.step hF) hS (HR2.out.trans (runIt_cons_err hst)) rfl rfl
      | ok y =>
        obtain ⟨l3, d3⟩ := y
        obtain ⟨rfl, hF, hS⟩ := hP.ok_ hst
        have hI9 := HI8.out.step hF
        obtain ⟨x0, hx0⟩ := hI9.b0
        obtain ⟨y0, hy0⟩ := hI9.b1
        have g0 : w9.cell? ⟨w.heap.size, 0, none⟩ = some (.int .i64 x0) := by rw [blk_cell hx0]; rfl
        have g1 : w9.cell? ⟨w.heap.size + 1, 0, none⟩ = some (.bool y0) := by rw [blk_cell hy0]; rfl
        have z0 := blk_frozen hx0 0
        have z1 := blk_frozen hy0 0
        have HI9 := Lib.hid hI9
        have HS9 := Lib.hid hS
        have HR3 := Lib.hid (HR2.out.trans (runIt_cons_ok hst))
        clear hP hst hF hS HI8 HS8 HR2 hI9 hx0 hy0
        go_wp2
        exact fin_ret HI9.out HS9.out HR3.out rfl rfl

/-- 'command', whatever the tokens. -/
theorem command_any {w : World} {R : Nat} {l : List Tok} {e : Int} (h : PreR w R l e) :
    Calls Tryd.prog 43 #[.pointer (some ⟨R, 0, none⟩)] w (PostC R e w (cmdR e l)) := by
  by_cases hat : (nextT l e).f1 = atT
  · exact command_A h hat
  · have : cmdR e l = tailR e formC l (cmd0 (nextT l e).f3) := if_neg hat
    rw [this]; exact command_B h hat

end Go.Proofs.YtdedlchpjboceaaDoor.Px
end

section
/-
  The library's search over tokens; the parser's closure that looks for a semicolon, walked.
-/
namespace Go.Proofs.YtdedlchpjboceaaDoor.Px
open Go.RowKit Go.Shelf Go.Proofs.YtdedlchpjboceaaDoor.Lx Go.Proofs.YtdedlchpjboceaaDoorW.PrintWords Go.Proofs.YtdedlchpjboceaaDoorW.PrintLast Go.Proofs.YtdedlchpjboceaaDoorW.PrintMore
attribute [local go_sem] Oper.semAt_some

def semiB (t : Tok) : Bool := decide (t.f1 = semiT)
theorem semi_list : semiT.toList = [59] := by rw [ByteArray.toList_eq]; rfl
set_option maxHeartbeats 4000000 in
set_option maxRecDepth 100000 in
theorem parse1_any (t : Tok) (w : World) : Calls Tryd.prog 45 #[.agg #[.int .i64 t.f0, .string t.f1, .int .i64 t.f2, .int .i64 t.f3]] w fun x w' => x = .returned (.bool (semiB t)) ∧ Below w.heap.size w w' := by
  obtain ⟨b, hb⟩ : ∃ b, semiB t = b := ⟨_, rfl⟩
  have hb2 : (t.f1.toList == [59]) = b := by rw [← hb, ← semi_list, eq_toList]; rfl
  rw [hb]
  clear hb
  go_enter Tryd.func45, Tryd.ntmps45
  go_wp2
  go_ret
  exact ⟨rfl, below_alloc (Below.refl _ _) _⟩
/-- Where the first semicolon stands; -1 where none is. -/
def idxT : Nat → List Tok → Int
  | _, [] => -1
  | k, x :: l => if semiB x = true then (k : Int) else idxT (k + 1) l
theorem idxT_drop {l : List Tok} {k : Nat} (h : k < l.length) : idxT k (l.drop k) = if semiB (rd_K l (k : Int)) = true then (k : Int) else idxT (k + 1) (l.drop (k + 1)) := by
  rw [List.drop_eq_getElem_cons h]
  have : rd_K l (k : Int) = l[k] := by unfold rd_K; rw [Int.toNat_natCast, List.getD_eq_getElem?_getD, List.getElem?_eq_getElem h]; rfl
  rw [this]; rfl
set_option maxHeartbeats 8000000 in
set_option maxRecDepth 100000 in
theorem indexTok_any (A : Option Addr) (c : Nat) (l : List Tok) (w : World) (hC : Kd.C kT w A l.length l) (hl : l.length ≤ 140737488355328) :
    Calls Tryd.prog 44 #[.slice A l.length c, .func (.func 45) #[] #[]] w fun e w' => e = .returned (.int .i64 (idxT 0 l)) ∧ Below w.heap.size w w' := by
  have eg : ∀ args w, (callFunc 45 args).run Tryd.prog w = .ok (.enter 45 args) w := enters_of Tryd.func45 (by kernel_rfl) rfl
  have hu := Tryd.underlying45
  have HC := Aside0.mk hC
  clear hC
  go_enter Tryd.func44, Tryd.ntmps44
  go_wp2
  go_loopg [8] l.length (fun g v w' => ∃ k : Nat, k + g = l.length ∧ v = .int .i64 k ∧ Hid (idxT k (l.drop k) = idxT 0 l) ∧ Aside0 (Below w.heap.size w w'))
  case atStart => exact ⟨0, by omega, rfl, Lib.hid rfl, ⟨Below.refl _ _⟩⟩
  case round =>
    obtain ⟨k, hk, rfl, hH, HB⟩ := hrel
    by_cases hlt : k < l.length
    · obtain ⟨ad, e, h0, h1, h2, h3⟩ := at_K HC.out (k : Int) (by omega) (by omega)
      cases e
      have hst := idxT_drop hlt
      replace h0 := (HB.out.cell (World.block_lt_of_cell? w _ h0)).trans h0
      replace h1 := (HB.out.cell (World.block_lt_of_cell? w _ h1)).trans h1
      replace h2 := (HB.out.cell (World.block_lt_of_cell? w _ h2)).trans h2
      replace h3 := (HB.out.cell (World.block_lt_of_cell? w _ h3)).trans h3
      rw [Int.toNat_natCast] at h0 h1 h2 h3
      have hv := parse1_any (rd_K l (k : Int))
      cases hb : semiB (rd_K l (k : Int)) with
      | false =>
        rw [if_neg (by rw [hb]; decide)] at hst
        have H2 : Hid (idxT (k + 1) (l.drop (k + 1)) = idxT 0 l) := Lib.hid (by rw [← hst]; exact hH.out)
        rw [hb] at hv
        clear hst hb hH
        go_wp2_with (go_at_call 45; refine (hv _).mono ?_; rintro e w' ⟨rfl, hw⟩)
        go_roundg (l.length - (k + 1))
        case measure => omega
        case rel => exact ⟨k + 1, by omega, by go_num, H2, ⟨below_step HB.out hw⟩⟩
      | true =>
        rw [if_pos hb] at hst
        have H2 : Hid ((k : Int) = idxT 0 l) := Lib.hid (by rw [← hst]; exact hH.out)
        rw [hb] at hv
        clear hst hb hH
        go_wp2_with (go_at_call 45; refine (hv _).mono ?_; rintro e w' ⟨rfl, hw⟩)
        go_ret
        exact ⟨ret_int H2.out, below_step HB.out hw⟩
    · have H2 : Hid ((-1 : Int) = idxT 0 l) := Lib.hid (by rw [← hH.out, List.drop_of_length_le (by omega)]; rfl)
      clear hH
      go_wp2
      all_goals first
        | (exfalso; omega)
        | (go_ret
           exact ⟨ret_int H2.out, HB.out⟩)

end Go.Proofs.YtdedlchpjboceaaDoor.Px
end

section
/-
  The lexer's iterator: 'spans(s)' hands a round each span of s, in order, until a round says 'no more'.
-/
namespace Go.Proofs.YtdedlchpjboceaaDoor.Lx
open Go.RowKit Go.Shelf
attribute [local go_sem] Oper.semAt_some

/-- A span as yield is handed it. -/
abbrev encSp (x : Sp) : Array Value := #[.int .i64 x.o, .agg #[.int .i64 x.k, .string ⟨x.t.toArray⟩]]

/-- A span of the script's own. -/
abbrev SpIn (s : ByteArray) := { x : Sp // x ∈ spans s.data.toList 0 }
abbrev vals {s : ByteArray} (xs : List (SpIn s)) : List Sp := xs.map Subtype.val

theorem ext_list (s : ByteArray) (a b : Nat) : s.extract a b = ⟨((s.data.toList.drop a).take (b - a)).toArray⟩ := by
  apply ByteArray.ext
  rw [ByteArray.data_extract]
  apply Array.ext'
  simp [Array.toList_extract, List.extract]

/-- The span at offset k, by its class. -/
theorem spans_at (s : ByteArray) (k : Nat) (h : k < s.size) (m : Nat) (hm : slen (s.data.toList.drop k) = m) :
    spans (s.data.toList.drop k) k = ⟨k, cls s[k], (s.data.toList.drop k).take m⟩ :: spans (s.data.toList.drop (k + m)) (k + m) := by
  subst hm
  rw [drop_at s k h, spans_step, ← drop_at s k h, List.drop_drop]
theorem slen_at (s : ByteArray) (k : Nat) (h : k < s.size) : slen (s.data.toList.drop k) = 1 + ((s.data.toList.drop (k + 1)).takeWhile (cont (cls s[k]))).length := by
  rw [drop_at s k h]; rfl
theorem slen_one (s : ByteArray) (k : Nat) (h : k < s.size) (h2 : cls s[k] ≠ 2) (h3 : cls s[k] ≠ 3) (h4 : cls s[k] ≠ 4) : slen (s.data.toList.drop k) = 1 := by
  rw [slen_at s k h]
  have : cont (cls s[k]) = fun _ => false := funext fun c => cont_other h2 h3 h4 c
  rw [this]
  cases s.data.toList.drop (k + 1) <;> simp [List.takeWhile]
theorem slen_scan (s : ByteArray) (k : Nat) (h : k < s.size) (p : Int → Bool) (hp : cont (cls s[k]) = fun c => p c.toNat) (hs : cont (cls s[k]) s[k] = true) : slen (s.data.toList.drop k) = scan p s k := by
  have e : p (s[k].toNat : Int) = true := by rw [hp] at hs; exact hs
  rw [slen_at s k h, scan_yes h e, hp]
  rfl

/-- What a round must keep: the block that holds the script. -/
def KeepB (Bn : Nat) (W W' : World) : Prop := W.heap.size ≤ W'.heap.size ∧ W'.heap[Bn]? = W.heap[Bn]?
theorem KeepB.trans {Bn : Nat} {A B C : World} (h : KeepB Bn A B) (k : KeepB Bn B C) : KeepB Bn A C := ⟨Nat.le_trans h.1 k.1, k.2.trans h.2⟩
theorem KeepB.put {Bn : Nat} {w : World} (hB : Bn < w.heap.size) (W : World) (l : Nat) (o o' : Obj) (hl : w.heap.size ≤ l) (_ : W.heap[l]? = some o) (_ : o.isCells = false) (_ : o.isWalk = false) : KeepB Bn W (W.putObj l o') :=
  ⟨by simp, World.putObj_heap_other (by omega)⟩
theorem KeepB.cell {Bn : Nat} {W W' : World} (h : KeepB Bn W W') (j : Nat) : W'.cell? ⟨Bn, j, none⟩ = W.cell? ⟨Bn, j, none⟩ := by simp [World.cell?, h.2]

set_option maxRecDepth 100000 in
set_option maxHeartbeats 4000000 in
theorem spans1_in (n : Nat) (hn : 1 ≤ n) (l Bn : Nat) (s : ByteArray) (hs : s.size ≤ 9223372036854775806) (J Jx : List (SpIn s) → World → Prop)
    (hY : ∀ pre x W, J pre W → pre.length < s.size → YieldAt Fence.wide (n - 1) Tryd.prog l (encSp x.1) W fun e W' =>
      (e = .returned (.bool true) ∧ J (pre ++ [x]) W' ∧ KeepB Bn W W') ∨ (e = .returned (.bool false) ∧ Jx (pre ++ [x]) W'))
    (W : World) (hBn : W.cell? ⟨Bn, 0, none⟩ = some (.string s)) (h0 : J [] W) :
    CallsIn Fence.wide n Tryd.prog 73 #[.func (.yield l) #[] #[], .pointer (some ⟨Bn, 0, none⟩)] W fun e W' => (∃ v, e = .returned v) ∧
      ((∃ xs, vals xs = spans s.data.toList 0 ∧ J xs W') ∨ (∃ pre, vals pre <+: spans s.data.toList 0 ∧ Jx pre W')) := by
  refine callsIn_of_wp Tryd.func73 rfl trivial ?_ rfl
  simp only [Tryd.ntmps73, List.size_toArray, List.length_cons, List.length_nil, Nat.reduceAdd, Nat.reduceSub, Array.replicate_succ, Array.replicate_zero, List.push_toArray, List.append_toArray, List.nil_append, List.cons_append]
  gi_wp2
  gi_loopw [3] (fun p wr => ∃ (k : Nat) (pre : List (SpIn s)), p = .int .i64 k ∧ k ≤ s.size ∧ pre.length ≤ k ∧ Hid (vals pre ++ spans (s.data.toList.drop k) k = spans s.data.toList 0) ∧ wr.cell? ⟨Bn, 0, none⟩ = some (.string s) ∧ Hid (J pre wr)) (fun p wr => s.size - (intOf p).toNat)
  case atStart =>
    exact ⟨0, [], rfl, by omega, by simp, Lib.hid (by simp), hBn, Lib.hid h0⟩
  case round =>
    obtain ⟨k, pre, rfl, hk, hpl, hX, hc, hJ⟩ := hrel
    clear hBn h0
    by_cases hlt : k < s.size
    · have hb := s[k].toNat_lt
      rcases cls_cases s[k] with hcl | hcl | hcl | hcl | hcl | hcl
      · -- class 0
        have hm := slen_one s k hlt (by rw [hcl]; decide) (by rw [hcl]; decide) (by rw [hcl]; decide)
        have hle := slen_le (s.data.toList.drop k)
        have hstep := spans_at s k hlt 1 hm
        have hext := ext_list s k (k + 1)
        rw [hcl] at hstep
        have hmem : (⟨k, 0, (s.data.toList.drop k).take 1⟩ : Sp) ∈ spans s.data.toList 0 := by rw [← hX.out, hstep]; simp
        obtain ⟨fn, tmps, assign, body, hy, hR⟩ := hY pre ⟨⟨k, 0, (s.data.toList.drop k).take 1⟩, hmem⟩ wr hJ.out (by omega)
        rw [show k + 1 - k = 1 by omega] at hext
        dsimp only [encSp] at hy
        rw [← hext] at hy
        have H1 := Lib.hid hstep
        have H2 : Hid (clsI (s[k].toNat : Int) = 0) := Lib.hid hcl
        clear hstep hext hm hle hcl
        gi_wp2_with (refine ⟨trivial, ?_⟩; gi_at_call 74; refine (callsIn_wide.2 (of_at H2.out _)).mono ?_; rintro e w' ⟨rfl, rfl⟩)
        refine hR.mono ?_
        rintro e W3 (⟨rfl, hJ3, hk3⟩ | ⟨rfl, hJx3⟩)
        · have hc3 : W3.cell? ⟨Bn, 0, none⟩ = some (.string s) := (hk3.cell 0).trans hc
          gi_wp2
          go_roundw
          case rel => exact ⟨k + 1, pre ++ [⟨⟨k, 0, (s.data.toList.drop k).take 1⟩, hmem⟩], by go_num, by omega, by simp; omega, Lib.hid (by refine Eq.trans ?_ hX.out; rw [H1.out]; simp [vals]), hc3, Lib.hid hJ3⟩
          case measure => simp [intOf]; omega
        · gi_wp2
          refine bodyPost_ret (results_none rfl _ _ _) rfl ?_
          exact ⟨⟨_, rfl⟩, .inr ⟨pre ++ [⟨⟨k, 0, (s.data.toList.drop k).take 1⟩, hmem⟩], ⟨spans (s.data.toList.drop (k + 1)) (k + 1), by refine Eq.trans ?_ hX.out; rw [H1.out]; simp [vals]⟩, hJx3⟩⟩
      · -- class 1
        have hm := slen_one s k hlt (by rw [hcl]; decide) (by rw [hcl]; decide) (by rw [hcl]; decide)
        have hle := slen_le (s.data.toList.drop k)
        have hstep := spans_at s k hlt 1 hm
        have hext := ext_list s k (k + 1)
        rw [hcl] at hstep
        have hmem : (⟨k, 1, (s.data.toList.drop k).take 1⟩ : Sp) ∈ spans s.data.toList 0 := by rw [← hX.out, hstep]; simp
        obtain ⟨fn, tmps, assign, body, hy, hR⟩ := hY pre ⟨⟨k, 1, (s.data.toList.drop k).take 1⟩, hmem⟩ wr hJ.out (by omega)
        rw [show k + 1 - k = 1 by omega] at hext
        dsimp only [encSp] at hy
        rw [← hext] at hy
        have H1 := Lib.hid hstep
        have H2 : Hid (clsI (s[k].toNat : Int) = 1) := Lib.hid hcl
        clear hstep hext hm hle hcl
        gi_wp2_with (refine ⟨trivial, ?_⟩; gi_at_call 74; refine (callsIn_wide.2 (of_at H2.out _)).mono ?_; rintro e w' ⟨rfl, rfl⟩)
        refine hR.mono ?_
        rintro e W3 (⟨rfl, hJ3, hk3⟩ | ⟨rfl, hJx3⟩)
        · have hc3 : W3.cell? ⟨Bn, 0, none⟩ = some (.string s) := (hk3.cell 0).trans hc
          gi_wp2
          go_roundw
          case rel => exact ⟨k + 1, pre ++ [⟨⟨k, 1, (s.data.toList.drop k).take 1⟩, hmem⟩], by go_num, by omega, by simp; omega, Lib.hid (by refine Eq.trans ?_ hX.out; rw [H1.out]; simp [vals]), hc3, Lib.hid hJ3⟩
          case measure => simp [intOf]; omega
        · gi_wp2
          refine bodyPost_ret (results_none rfl _ _ _) rfl ?_
          exact ⟨⟨_, rfl⟩, .inr ⟨pre ++ [⟨⟨k, 1, (s.data.toList.drop k).take 1⟩, hmem⟩], ⟨spans (s.data.toList.drop (k + 1)) (k + 1), by refine Eq.trans ?_ hX.out; rw [H1.out]; simp [vals]⟩, hJx3⟩⟩
      · -- class 2
        obtain ⟨m, hmm⟩ : ∃ m, scan pHash s k = m := ⟨_, rfl⟩
        have hm := slen_scan s k hlt pHash (by rw [hcl]; funext c; exact cont_two c) (cont_self _ (by rw [hcl]; decide))
        rw [hmm] at hm
        have hpos := slen_pos (l := s.data.toList.drop k) (by rw [drop_at s k hlt]; simp)
        have hle := scan_le pHash s k (by omega)
        rw [hmm] at hle
        rw [hm] at hpos
        have hstep := spans_at s k hlt m hm
        have hext := ext_list s k (k + m)
        rw [hcl] at hstep
        have hmem : (⟨k, 2, (s.data.toList.drop k).take m⟩ : Sp) ∈ spans s.data.toList 0 := by rw [← hX.out, hstep]; simp
        obtain ⟨fn, tmps, assign, body, hy, hR⟩ := hY pre ⟨⟨k, 2, (s.data.toList.drop k).take m⟩, hmem⟩ wr hJ.out (by omega)
        rw [show k + m - k = m by omega] at hext
        dsimp only [encSp] at hy
        rw [← hext] at hy
        have H1 := Lib.hid hstep
        have H2 : Hid (clsI (s[k].toNat : Int) = 2) := Lib.hid hcl
        have H3 := Lib.hid hmm
        clear hstep hext hm hcl hmm
        gi_wp2_with (refine ⟨trivial, ?_⟩; first | (gi_at_call 74; refine (callsIn_wide.2 (of_at H2.out _)).mono ?_; rintro e w' ⟨rfl, rfl⟩) | (gi_at_call 75; refine (callsIn_wide.2 (end_pHash s k (by omega) hs _)).mono ?_; rintro e w' ⟨rfl, rfl⟩; rw [H3.out]))
        refine hR.mono ?_
        rintro e W3 (⟨rfl, hJ3, hk3⟩ | ⟨rfl, hJx3⟩)
        · have hc3 : W3.cell? ⟨Bn, 0, none⟩ = some (.string s) := (hk3.cell 0).trans hc
          gi_wp2
          go_roundw
          case rel => exact ⟨k + m, pre ++ [⟨⟨k, 2, (s.data.toList.drop k).take m⟩, hmem⟩], by go_num, by omega, by simp; omega, Lib.hid (by refine Eq.trans ?_ hX.out; rw [H1.out]; simp [vals]), hc3, Lib.hid hJ3⟩
          case measure => simp [intOf]; omega
        · gi_wp2
          refine bodyPost_ret (results_none rfl _ _ _) rfl ?_
          exact ⟨⟨_, rfl⟩, .inr ⟨pre ++ [⟨⟨k, 2, (s.data.toList.drop k).take m⟩, hmem⟩], ⟨spans (s.data.toList.drop (k + m)) (k + m), by refine Eq.trans ?_ hX.out; rw [H1.out]; simp [vals]⟩, hJx3⟩⟩
      · -- class 3
        obtain ⟨m, hmm⟩ : ∃ m, scan pName s k = m := ⟨_, rfl⟩
        have hm := slen_scan s k hlt pName (by rw [hcl]; funext c; exact cont_three c) (cont_self _ (by rw [hcl]; decide))
        rw [hmm] at hm
        have hpos := slen_pos (l := s.data.toList.drop k) (by rw [drop_at s k hlt]; simp)
        have hle := scan_le pName s k (by omega)
        rw [hmm] at hle
        rw [hm] at hpos
        have hstep := spans_at s k hlt m hm
        have hext := ext_list s k (k + m)
        rw [hcl] at hstep
        have hmem : (⟨k, 3, (s.data.toList.drop k).take m⟩ : Sp) ∈ spans s.data.toList 0 := by rw [← hX.out, hstep]; simp
        obtain ⟨fn, tmps, assign, body, hy, hR⟩ := hY pre ⟨⟨k, 3, (s.data.toList.drop k).take m⟩, hmem⟩ wr hJ.out (by omega)
        rw [show k + m - k = m by omega] at hext
        dsimp only [encSp] at hy
        rw [← hext] at hy
        have H1 := Lib.hid hstep
        have H2 : Hid (clsI (s[k].toNat : Int) = 3) := Lib.hid hcl
        have H3 := Lib.hid hmm
        clear hstep hext hm hcl hmm
        gi_wp2_with (refine ⟨trivial, ?_⟩; first | (gi_at_call 74; refine (callsIn_wide.2 (of_at H2.out _)).mono ?_; rintro e w' ⟨rfl, rfl⟩) | (gi_at_call 75; refine (callsIn_wide.2 (end_pName s k (by omega) hs _)).mono ?_; rintro e w' ⟨rfl, rfl⟩; rw [H3.out]))
        refine hR.mono ?_
        rintro e W3 (⟨rfl, hJ3, hk3⟩ | ⟨rfl, hJx3⟩)
        · have hc3 : W3.cell? ⟨Bn, 0, none⟩ = some (.string s) := (hk3.cell 0).trans hc
          gi_wp2
          go_roundw
          case rel => exact ⟨k + m, pre ++ [⟨⟨k, 3, (s.data.toList.drop k).take m⟩, hmem⟩], by go_num, by omega, by simp; omega, Lib.hid (by refine Eq.trans ?_ hX.out; rw [H1.out]; simp [vals]), hc3, Lib.hid hJ3⟩
          case measure => simp [intOf]; omega
        · gi_wp2
          refine bodyPost_ret (results_none rfl _ _ _) rfl ?_
          exact ⟨⟨_, rfl⟩, .inr ⟨pre ++ [⟨⟨k, 3, (s.data.toList.drop k).take m⟩, hmem⟩], ⟨spans (s.data.toList.drop (k + m)) (k + m), by refine Eq.trans ?_ hX.out; rw [H1.out]; simp [vals]⟩, hJx3⟩⟩
      · -- class 4
        obtain ⟨m, hmm⟩ : ∃ m, scan pDigit s k = m := ⟨_, rfl⟩
        have hm := slen_scan s k hlt pDigit (by rw [hcl]; funext c; exact cont_four c) (cont_self _ (by rw [hcl]; decide))
        rw [hmm] at hm
        have hpos := slen_pos (l := s.data.toList.drop k) (by rw [drop_at s k hlt]; simp)
        have hle := scan_le pDigit s k (by omega)
        rw [hmm] at hle
        rw [hm] at hpos
        have hstep := spans_at s k hlt m hm
        have hext := ext_list s k (k + m)
        rw [hcl] at hstep
        have hmem : (⟨k, 4, (s.data.toList.drop k).take m⟩ : Sp) ∈ spans s.data.toList 0 := by rw [← hX.out, hstep]; simp
        obtain ⟨fn, tmps, assign, body, hy, hR⟩ := hY pre ⟨⟨k, 4, (s.data.toList.drop k).take m⟩, hmem⟩ wr hJ.out (by omega)
        rw [show k + m - k = m by omega] at hext
        dsimp only [encSp] at hy
        rw [← hext] at hy
        have H1 := Lib.hid hstep
        have H2 : Hid (clsI (s[k].toNat : Int) = 4) := Lib.hid hcl
        have H3 := Lib.hid hmm
        clear hstep hext hm hcl hmm
        gi_wp2_with (refine ⟨trivial, ?_⟩; first | (gi_at_call 74; refine (callsIn_wide.2 (of_at H2.out _)).mono ?_; rintro e w' ⟨rfl, rfl⟩) | (gi_at_call 75; refine (callsIn_wide.2 (end_pDigit s k (by omega) hs _)).mono ?_; rintro e w' ⟨rfl, rfl⟩; rw [H3.out]))
        refine hR.mono ?_
        rintro e W3 (⟨rfl, hJ3, hk3⟩ | ⟨rfl, hJx3⟩)
        · have hc3 : W3.cell? ⟨Bn, 0, none⟩ = some (.string s) := (hk3.cell 0).trans hc
          gi_wp2
          go_roundw
          case rel => exact ⟨k + m, pre ++ [⟨⟨k, 4, (s.data.toList.drop k).take m⟩, hmem⟩], by go_num, by omega, by simp; omega, Lib.hid (by refine Eq.trans ?_ hX.out; rw [H1.out]; simp [vals]), hc3, Lib.hid hJ3⟩
          case measure => simp [intOf]; omega
        · gi_wp2
          refine bodyPost_ret (results_none rfl _ _ _) rfl ?_
          exact ⟨⟨_, rfl⟩, .inr ⟨pre ++ [⟨⟨k, 4, (s.data.toList.drop k).take m⟩, hmem⟩], ⟨spans (s.data.toList.drop (k + m)) (k + m), by refine Eq.trans ?_ hX.out; rw [H1.out]; simp [vals]⟩, hJx3⟩⟩
      · -- class 5
        have hm := slen_one s k hlt (by rw [hcl]; decide) (by rw [hcl]; decide) (by rw [hcl]; decide)
        have hle := slen_le (s.data.toList.drop k)
        have hstep := spans_at s k hlt 1 hm
        have hext := ext_list s k (k + 1)
        rw [hcl] at hstep
        have hmem : (⟨k, 5, (s.data.toList.drop k).take 1⟩ : Sp) ∈ spans s.data.toList 0 := by rw [← hX.out, hstep]; simp
        obtain ⟨fn, tmps, assign, body, hy, hR⟩ := hY pre ⟨⟨k, 5, (s.data.toList.drop k).take 1⟩, hmem⟩ wr hJ.out (by omega)
        rw [show k + 1 - k = 1 by omega] at hext
        dsimp only [encSp] at hy
        rw [← hext] at hy
        have H1 := Lib.hid hstep
        have H2 : Hid (clsI (s[k].toNat : Int) = 5) := Lib.hid hcl
        clear hstep hext hm hle hcl
        gi_wp2_with (refine ⟨trivial, ?_⟩; gi_at_call 74; refine (callsIn_wide.2 (of_at H2.out _)).mono ?_; rintro e w' ⟨rfl, rfl⟩)
        refine hR.mono ?_
        rintro e W3 (⟨rfl, hJ3, hk3⟩ | ⟨rfl, hJx3⟩)
        · have hc3 : W3.cell? ⟨Bn, 0, none⟩ = some (.string s) := (hk3.cell 0).trans hc
          gi_wp2
          go_roundw
          case rel => exact ⟨k + 1, pre ++ [⟨⟨k, 5, (s.data.toList.drop k).take 1⟩, hmem⟩], by go_num, by omega, by simp; omega, Lib.hid (by refine Eq.trans ?_ hX.out; rw [H1.out]; simp [vals]), hc3, Lib.hid hJ3⟩
          case measure => simp [intOf]; omega
        · gi_wp2
          refine bodyPost_ret (results_none rfl _ _ _) rfl ?_
          exact ⟨⟨_, rfl⟩, .inr ⟨pre ++ [⟨⟨k, 5, (s.data.toList.drop k).take 1⟩, hmem⟩], ⟨spans (s.data.toList.drop (k + 1)) (k + 1), by refine Eq.trans ?_ hX.out; rw [H1.out]; simp [vals]⟩, hJx3⟩⟩
    · gi_wp2
      go_end0
      refine ⟨⟨_, rfl⟩, .inl ⟨pre, ?_, hJ.out⟩⟩
      have := hX.out
      rw [List.drop_eq_nil_of_le (by rw [list_size]; omega), spans_nil, List.append_nil] at this
      exact this

set_option maxHeartbeats 1000000 in
theorem spans_any (s : ByteArray) (w : World) :
    Calls Tryd.prog 46 #[.string s] w fun e w' => e = .returned (.func (.func 73) #[] #[.pointer (some ⟨w.heap.size, 0, none⟩)]) ∧ w' = w.alloc (.cells #[.string s] 9) := by
  go_enter Tryd.func46, Tryd.ntmps46
  go_wp2
  go_ret
  exact ⟨rfl, rfl⟩

theorem spans_stops (n : Nat) (hn : 1 ≤ n) (Bn : Nat) (s : ByteArray) (hs : s.size ≤ 9223372036854775806) (w : World) (hB : Bn < w.heap.size) (hc : w.cell? ⟨Bn, 0, none⟩ = some (.string s)) :
    SeqStopsK Fence.wide n Tryd.prog 73 #[.pointer (some ⟨Bn, 0, none⟩)] (fun x : SpIn s => encSp x.1) (KeepB Bn) (fun xs => vals xs = spans s.data.toList 0) (fun pre => vals pre <+: spans s.data.toList 0) s.size w := fun l J Jx W hW _ _ hY h0 =>
  spans1_in n hn l Bn s hs J Jx hY W ((hW.cell (p := ⟨Bn, 0, none⟩) hB).trans hc) h0

end Go.Proofs.YtdedlchpjboceaaDoor.Lx
end

section
/-
  Plain words: what strconv.Atoi says of digits.
-/
namespace Go.Proofs.YtdedlchpjboceaaDoor.Lx

def digitB (c : UInt8) : Prop := 48 ≤ c.toNat ∧ c.toNat ≤ 57

theorem fold_ge (l : List UInt8) : ∀ a : Nat, a ≤ l.foldl (fun a c => 10 * a + (c.toNat - 48)) a := by
  induction l with
  | nil => intro a; exact Nat.le_refl _
  | cons c l ih => intro a; rw [List.foldl_cons]; have := ih (10 * a + (c.toNat - 48)); omega

theorem parseUint10_digits (l : List UInt8) : ∀ a : Nat, (∀ c ∈ l, digitB c) →
    (Lib.parseUint10 a l = .ok (l.foldl (fun a c => 10 * a + (c.toNat - 48)) a)) ∨ (Lib.parseUint10 a l = .range ∧ 18446744073709551616 ≤ l.foldl (fun a c => 10 * a + (c.toNat - 48)) a) := by
  induction l with
  | nil => intro a _; exact .inl rfl
  | cons c l ih =>
    intro a h
    have hc := h c List.mem_cons_self
    unfold digitB at hc
    rw [List.foldl_cons]
    simp only [Lib.parseUint10]
    rw [if_pos hc]
    have hg := fold_ge l (10 * a + (c.toNat - 48))
    by_cases h1 : 1844674407370955162 ≤ a
    · rw [if_pos h1]; exact .inr ⟨rfl, by omega⟩
    · rw [if_neg h1]
      by_cases h2 : 18446744073709551616 ≤ a * 10 + (c.toNat - 48)
      · rw [if_pos h2]; exact .inr ⟨rfl, by omega⟩
      · rw [if_neg h2, Nat.mul_comm a 10]
        exact ih _ (fun x hx => h x (List.mem_cons_of_mem _ hx))

theorem atoi_digits (l : List UInt8) (h0 : l ≠ []) (h : ∀ c ∈ l, digitB c) :
    (Lib.atoiAll l = .ok (val l : Int)) ∨ (Lib.atoiAll l = .range ∧ 1000000000 < val l) := by
  cases l with
  | nil => exact absurd rfl h0
  | cons c r =>
    have hc := h c List.mem_cons_self
    unfold digitB at hc
    have h1 : ¬ (c.toNat = 43 ∨ c.toNat = 45) := by omega
    have h2 : ¬ c.toNat = 45 := by omega
    unfold Lib.atoiAll
    dsimp only
    rw [if_neg h1]
    unfold Lib.parseMag
    rw [if_neg (by simp)]
    simp only [h2, if_false, false_and, not_false_eq_true, true_and]
    unfold val
    rcases parseUint10_digits (c :: r) 0 h with e | ⟨e, hg⟩
    · rw [e]
      dsimp only
      split
      · right; exact ⟨rfl, by omega⟩
      · left; rfl
    · rw [e]; right; exact ⟨rfl, by omega⟩

theorem mem_tw {p : UInt8 → Bool} (l : List UInt8) : ∀ c ∈ l.takeWhile p, p c = true := by
  induction l with
  | nil => intro c h; simp at h
  | cons a l ih =>
    intro c h
    by_cases ha : p a = true
    · rw [List.takeWhile_cons_of_pos ha] at h
      rcases List.mem_cons.1 h with rfl | h
      · exact ha
      · exact ih c h
    · rw [List.takeWhile_cons_of_neg ha] at h; simp at h
theorem takeWhile_digits (t : List UInt8) : ∀ c ∈ t.takeWhile (cont 4), digitB c := by
  intro c hc
  have := mem_tw _ c hc
  rw [cont_four] at this
  simp only [pDigit, decide_eq_true_eq] at this
  unfold clsI at this
  unfold digitB
  repeat' split at this
  all_goals omega
theorem cls_digit {c : UInt8} (h : cls c = 4) : digitB c := by
  unfold cls clsI at h; unfold digitB; repeat' split at h
  all_goals omega
/-- Every span's text begins with a byte of its class; digits' spans are digits. -/
theorem spans_good (l : List UInt8) (o : Nat) : ∀ x ∈ spans l o, x.t ≠ [] ∧ (x.k = 4 → ∀ c ∈ x.t, digitB c) ∧ 0 ≤ x.k ∧ x.k ≤ 5 ∧ x.t.length ≤ l.length ∧ o ≤ x.o ∧ x.o + x.t.length ≤ o + l.length := by
  induction hn : l.length using Nat.strongRecOn generalizing l o with
  | _ n ih =>
    cases l with
    | nil => simp [spans_nil]
    | cons c t =>
      intro x hx
      rw [spans_cons] at hx
      have h1 := tw_dw (cont (cls c)) t
      simp only [List.length_cons] at hn
      rcases List.mem_cons.1 hx with rfl | hx
      · refine ⟨by simp, fun h4 => ?_, (cls_range c).1, (cls_range c).2, by simp only [List.length_cons]; omega, Nat.le_refl _, by simp only [List.length_cons]; omega⟩
        intro d hd
        rcases List.mem_cons.1 hd with rfl | hd
        · exact cls_digit h4
        · simp only at h4; rw [h4] at hd; exact takeWhile_digits _ d hd
      · obtain ⟨a1, a2, a3, a4, a5, a6, a7⟩ := ih _ (by omega) (t.dropWhile (cont (cls c))) _ rfl x hx
        exact ⟨a1, a2, a3, a4, by omega, by omega, by omega⟩

end Go.Proofs.YtdedlchpjboceaaDoor.Lx
end

section
/-
  The lexer's 'token', walked: the token of a span, or its error.
-/
namespace Go.Proofs.YtdedlchpjboceaaDoor.Lx
open Go.RowKit Go.Shelf Go.Proofs.YtdedlchpjboceaaDoorW.PrintWords
attribute [local go_sem] Oper.semAt_some

/-- The library's variable that the code reads holds an error. -/
def GOK (w : World) : Prop := ∃ tp p, w.cell? ⟨3, 0, none⟩ = some (.iface tp p)
theorem GOK.below {w w' : World} (h : GOK w) (hb : Below w.heap.size w w') : GOK w' := by
  obtain ⟨tp, p, hc⟩ := h
  exact ⟨tp, p, (hb.cell (p := ⟨3, 0, none⟩) (World.block_lt_of_cell? w _ hc)).trans hc⟩

set_option maxRecDepth 100000 in
set_option maxHeartbeats 4000000 in
theorem token_name (t : ByteArray) (w : World) (h : t.size ≤ 12) :
    Calls Tryd.prog 47 #[.agg #[.int .i64 3, .string t]] w fun e w' => e = .returned (.tuple #[.agg #[.int .i64 1, .string t, .int .i64 0, .int .i64 0], .int .i64 0]) ∧ Below w.heap.size w w' := by
  go_enter Tryd.func47, Tryd.ntmps47
  go_wp2
  exact bodyPost_ret (v := .tuple #[.agg #[.int .i64 1, .string t, .int .i64 0, .int .i64 0], .int .i64 0]) (by simp [results, Tryd.results47, go_sem]) rfl ⟨rfl, ((Below.refl _ _).alloc (Nat.le_refl _) _).alloc (by simp) _⟩

set_option maxRecDepth 100000 in
set_option maxHeartbeats 4000000 in
theorem token_long (t : ByteArray) (w : World) (h : 12 < t.size) :
    Calls Tryd.prog 47 #[.agg #[.int .i64 3, .string t]] w fun e w' => e = .returned (.tuple #[.agg #[.int .i64 0, .string ⟨#[]⟩, .int .i64 0, .int .i64 0], .int .i64 3]) ∧ Below w.heap.size w w' := by
  go_enter Tryd.func47, Tryd.ntmps47
  go_wp2
  exact bodyPost_ret (v := .tuple #[.agg #[.int .i64 0, .string ⟨#[]⟩, .int .i64 0, .int .i64 0], .int .i64 3]) (by simp [results, Tryd.results47, go_sem]) rfl ⟨rfl, ((Below.refl _ _).alloc (Nat.le_refl _) _).alloc (by simp) _⟩

set_option maxRecDepth 100000 in
set_option maxHeartbeats 4000000 in
theorem token_punct (t : ByteArray) (w : World) :
    Calls Tryd.prog 47 #[.agg #[.int .i64 5, .string t]] w fun e w' => e = .returned (.tuple #[.agg #[.int .i64 3, .string t, .int .i64 0, .int .i64 0], .int .i64 0]) ∧ Below w.heap.size w w' := by
  go_enter Tryd.func47, Tryd.ntmps47
  go_wp2
  exact bodyPost_ret (v := .tuple #[.agg #[.int .i64 3, .string t, .int .i64 0, .int .i64 0], .int .i64 0]) (by simp [results, Tryd.results47, go_sem]) rfl ⟨rfl, ((Below.refl _ _).alloc (Nat.le_refl _) _).alloc (by simp) _⟩

/-- Atoi as 'token' meets it: its number, its error's value, behind any world. -/
def AtoiIs (t : ByteArray) (w : World) (v : Int) (isErr : Bool) : Prop :=
  ∀ W, Below w.heap.size w W → Calls Tryd.prog 79 #[.string t] W fun e w' => ∃ ev, e = .returned (.tuple #[.int .i64 v, ev]) ∧ (isErr = false → ev = .nilIface) ∧ (isErr = true → ∃ N, ev = .iface 136 (.pointer (some ⟨N, 0, none⟩))) ∧ Below W.heap.size W w'

theorem atoi_is_ok (t : ByteArray) (ht : t.size ≤ 140737488351232) (w : World) (v : Int) (h : Lib.atoiAll t.data.toList = .ok v) : AtoiIs t w v false := by
  intro W _
  refine (Tryd.strconv_Atoi_ok t (by omega) v h W).mono ?_
  rintro e w' ⟨rfl, hw⟩
  refine ⟨_, rfl, fun _ => rfl, (fun h => by cases h), ?_⟩
  rcases hw with rfl | ⟨u, rfl⟩
  · exact Below.refl _ _
  · exact Lib.bytesWorld_below _ _ _

theorem atoi_is_range (t : ByteArray) (ht : t.size ≤ 140737488351232) (w : World) (hG : GOK w) (h : Lib.atoiAll t.data.toList = .range) : AtoiIs t w (Lib.atoiSat t.data.toList) true := by
  intro W hb
  obtain ⟨tp, p, hv⟩ := hG.below hb
  refine (Tryd.strconv_Atoi_range t (by omega) h (.iface tp p) W hv (.inr ⟨tp, p, rfl⟩)).mono ?_
  rintro e w' ⟨N, rfl, _, _, hb'⟩
  exact ⟨_, rfl, (fun h => by cases h), fun _ => ⟨N, rfl⟩, hb'⟩

theorem set4 {w : World} {g : Nat} {T : TypeId} {a b c d : Value} (h : w.heap[g]? = some (.cells #[a, b, c, d] T (0, 0))) (x y z u : Value) :
    ((((w.setCell ⟨g, 0, none⟩ x).setCell ⟨g, 1, none⟩ y).setCell ⟨g, 2, none⟩ z).setCell ⟨g, 3, none⟩ u).heap[g]? = some (.cells #[x, y, z, u] T (0, 0)) :=
  blk_set (blk_set (blk_set (blk_set h 0 x) 1 y) 2 z) 3 u
theorem below4 {w w1 : World} (h : Below w.heap.size w w1) (g : Nat) (hg : w.heap.size ≤ g) (x y z u : Value) :
    Below w.heap.size w ((((w1.setCell ⟨g, 0, none⟩ x).setCell ⟨g, 1, none⟩ y).setCell ⟨g, 2, none⟩ z).setCell ⟨g, 3, none⟩ u) :=
  (((h.setCell (p := ⟨g, 0, none⟩) hg _).setCell (p := ⟨g, 1, none⟩) hg _).setCell (p := ⟨g, 2, none⟩) hg _).setCell (p := ⟨g, 3, none⟩) hg _

/-- The two new blocks of 'token', behind Atoi. -/
theorem after_atoi {w w1 : World} {x : Value} (hb : Below ((w.alloc (.cells #[.int .i64 4, x] 74)).alloc (.cells #[.int .i64 0, .string ⟨#[]⟩, .int .i64 0, .int .i64 0] 45)).heap.size ((w.alloc (.cells #[.int .i64 4, x] 74)).alloc (.cells #[.int .i64 0, .string ⟨#[]⟩, .int .i64 0, .int .i64 0] 45)) w1) :
    w1.heap[w.heap.size]? = some (.cells #[.int .i64 4, x] 74 (0, 0)) ∧ w1.heap[w.heap.size + 1]? = some (.cells #[.int .i64 0, .string ⟨#[]⟩, .int .i64 0, .int .i64 0] 45 (0, 0)) ∧ Below w.heap.size w w1 := by
  refine ⟨blk_below (blk_alloc (blk_new w _) _) hb, blk_below ?_ hb, (((Below.refl _ _).alloc (Nat.le_refl _) _).alloc (by simp) _).trans (hb.mono (by simp; omega))⟩
  have := blk_new (w.alloc (.cells #[.int .i64 4, x] 74)) (.cells #[.int .i64 0, .string ⟨#[]⟩, .int .i64 0, .int .i64 0] 45)
  rwa [World.size_alloc] at this

set_option maxRecDepth 100000 in
set_option maxHeartbeats 4000000 in
theorem token_zero_true (t : ByteArray) (w : World) (v : Int) (hA : AtoiIs t w v true) (h1 : 1 < t.size) (h2 : (t[0].toNat : Int) = 48) :
    Calls Tryd.prog 47 #[.agg #[.int .i64 4, .string t]] w fun e w' => e = .returned (.tuple #[.agg #[.int .i64 0, .string ⟨#[]⟩, .int .i64 0, .int .i64 0], .int .i64 7]) ∧ Below w.heap.size w w' := by
  have H := Lib.hid hA
  clear hA
  go_enter Tryd.func47, Tryd.ntmps47
  go_wp2_with fail
  have hb0 : Below w.heap.size w ((w.alloc (.cells #[.int .i64 4, .string t] 74)).alloc (.cells #[.int .i64 0, .string ⟨#[]⟩, .int .i64 0, .int .i64 0] 45)) := ((Below.refl _ _).alloc (Nat.le_refl _) _).alloc (by simp) _
  refine (H.out _ hb0).mono ?_
  rintro e w1 ⟨ev, rfl, hev1, hev2, hb⟩
  clear hb0
  obtain ⟨N, rfl⟩ := hev2 rfl
  clear hev1 hev2
  obtain ⟨k0, k1, hb1⟩ := after_atoi hb
  clear hb
  have c0 := blk_cell k0 0
  have c1 := blk_cell k0 1
  have z0 := blk_cell k1 0
  have z1 := blk_cell k1 1
  have z2 := blk_cell k1 2
  have z3 := blk_cell k1 3
  have g0 := blk_frozen k1 0
  have g1 := blk_frozen k1 1
  have g2 := blk_frozen k1 2
  have g3 := blk_frozen k1 3
  simp at c0 c1 z0 z1 z2 z3
  have K1 := Lib.hid k1
  have HB := Lib.hid hb1
  clear k0 k1 hb1
  go_wp2
  all_goals first
    | (exfalso; omega)
    | (exact bodyPost_ret (results_ct rfl _ _ (w.heap.size + 1) 45 #[.int .i64 0, .string ⟨#[]⟩, .int .i64 0, .int .i64 0] (0, 0) _ rfl (set4 K1.out _ _ _ _) Tryd.underlying45 rfl (by kernel_rfl)) rfl ⟨rfl, below4 HB.out _ (Nat.le_succ _) _ _ _ _⟩)

set_option maxRecDepth 100000 in
set_option maxHeartbeats 4000000 in
theorem token_zero_false (t : ByteArray) (w : World) (v : Int) (hA : AtoiIs t w v false) (h1 : 1 < t.size) (h2 : (t[0].toNat : Int) = 48) :
    Calls Tryd.prog 47 #[.agg #[.int .i64 4, .string t]] w fun e w' => e = .returned (.tuple #[.agg #[.int .i64 0, .string ⟨#[]⟩, .int .i64 0, .int .i64 0], .int .i64 7]) ∧ Below w.heap.size w w' := by
  have H := Lib.hid hA
  clear hA
  go_enter Tryd.func47, Tryd.ntmps47
  go_wp2_with fail
  have hb0 : Below w.heap.size w ((w.alloc (.cells #[.int .i64 4, .string t] 74)).alloc (.cells #[.int .i64 0, .string ⟨#[]⟩, .int .i64 0, .int .i64 0] 45)) := ((Below.refl _ _).alloc (Nat.le_refl _) _).alloc (by simp) _
  refine (H.out _ hb0).mono ?_
  rintro e w1 ⟨ev, rfl, hev1, hev2, hb⟩
  clear hb0
  obtain rfl := hev1 rfl
  clear hev1 hev2
  obtain ⟨k0, k1, hb1⟩ := after_atoi hb
  clear hb
  have c0 := blk_cell k0 0
  have c1 := blk_cell k0 1
  have z0 := blk_cell k1 0
  have z1 := blk_cell k1 1
  have z2 := blk_cell k1 2
  have z3 := blk_cell k1 3
  have g0 := blk_frozen k1 0
  have g1 := blk_frozen k1 1
  have g2 := blk_frozen k1 2
  have g3 := blk_frozen k1 3
  simp at c0 c1 z0 z1 z2 z3
  have K1 := Lib.hid k1
  have HB := Lib.hid hb1
  clear k0 k1 hb1
  go_wp2
  all_goals first
    | (exfalso; omega)
    | (exact bodyPost_ret (results_ct rfl _ _ (w.heap.size + 1) 45 #[.int .i64 0, .string ⟨#[]⟩, .int .i64 0, .int .i64 0] (0, 0) _ rfl (set4 K1.out _ _ _ _) Tryd.underlying45 rfl (by kernel_rfl)) rfl ⟨rfl, below4 HB.out _ (Nat.le_succ _) _ _ _ _⟩)

set_option maxRecDepth 100000 in
set_option maxHeartbeats 4000000 in
theorem token_num_S (t : ByteArray) (w : World) (v : Int) (hA : AtoiIs t w v false) (h1 : t.size ≤ 1) (h3 : v ≤ 1000000000) :
    Calls Tryd.prog 47 #[.agg #[.int .i64 4, .string t]] w fun e w' => e = .returned (.tuple #[.agg #[.int .i64 2, .string ⟨#[]⟩, .int .i64 v, .int .i64 0], .int .i64 0]) ∧ Below w.heap.size w w' := by
  have H := Lib.hid hA
  clear hA
  go_enter Tryd.func47, Tryd.ntmps47
  go_wp2_with fail
  have hb0 : Below w.heap.size w ((w.alloc (.cells #[.int .i64 4, .string t] 74)).alloc (.cells #[.int .i64 0, .string ⟨#[]⟩, .int .i64 0, .int .i64 0] 45)) := ((Below.refl _ _).alloc (Nat.le_refl _) _).alloc (by simp) _
  refine (H.out _ hb0).mono ?_
  rintro e w1 ⟨ev, rfl, hev1, hev2, hb⟩
  clear hb0
  obtain rfl := hev1 rfl
  clear hev1 hev2
  obtain ⟨k0, k1, hb1⟩ := after_atoi hb
  clear hb
  have c0 := blk_cell k0 0
  have c1 := blk_cell k0 1
  have z0 := blk_cell k1 0
  have z1 := blk_cell k1 1
  have z2 := blk_cell k1 2
  have z3 := blk_cell k1 3
  have g0 := blk_frozen k1 0
  have g1 := blk_frozen k1 1
  have g2 := blk_frozen k1 2
  have g3 := blk_frozen k1 3
  simp at c0 c1 z0 z1 z2 z3
  have K1 := Lib.hid k1
  have HB := Lib.hid hb1
  clear k0 k1 hb1
  go_wp2
  all_goals first
    | (exfalso; omega)
    | (exact bodyPost_ret (results_ct rfl _ _ (w.heap.size + 1) 45 #[.int .i64 2, .string ⟨#[]⟩, .int .i64 v, .int .i64 0] (0, 0) _ rfl (set4 K1.out _ _ _ _) Tryd.underlying45 rfl (by kernel_rfl)) rfl ⟨rfl, below4 HB.out _ (Nat.le_succ _) _ _ _ _⟩)

set_option maxRecDepth 100000 in
set_option maxHeartbeats 4000000 in
theorem token_big_S (t : ByteArray) (w : World) (v : Int) (hA : AtoiIs t w v false) (h1 : t.size ≤ 1) (h3 : 1000000000 < v) :
    Calls Tryd.prog 47 #[.agg #[.int .i64 4, .string t]] w fun e w' => e = .returned (.tuple #[.agg #[.int .i64 0, .string ⟨#[]⟩, .int .i64 0, .int .i64 0], .int .i64 3]) ∧ Below w.heap.size w w' := by
  have H := Lib.hid hA
  clear hA
  go_enter Tryd.func47, Tryd.ntmps47
  go_wp2_with fail
  have hb0 : Below w.heap.size w ((w.alloc (.cells #[.int .i64 4, .string t] 74)).alloc (.cells #[.int .i64 0, .string ⟨#[]⟩, .int .i64 0, .int .i64 0] 45)) := ((Below.refl _ _).alloc (Nat.le_refl _) _).alloc (by simp) _
  refine (H.out _ hb0).mono ?_
  rintro e w1 ⟨ev, rfl, hev1, hev2, hb⟩
  clear hb0
  obtain rfl := hev1 rfl
  clear hev1 hev2
  obtain ⟨k0, k1, hb1⟩ := after_atoi hb
  clear hb
  have c0 := blk_cell k0 0
  have c1 := blk_cell k0 1
  have z0 := blk_cell k1 0
  have z1 := blk_cell k1 1
  have z2 := blk_cell k1 2
  have z3 := blk_cell k1 3
  have g0 := blk_frozen k1 0
  have g1 := blk_frozen k1 1
  have g2 := blk_frozen k1 2
  have g3 := blk_frozen k1 3
  simp at c0 c1 z0 z1 z2 z3
  have K1 := Lib.hid k1
  have HB := Lib.hid hb1
  clear k0 k1 hb1
  go_wp2
  all_goals first
    | (exfalso; omega)
    | (exact bodyPost_ret (results_ct rfl _ _ (w.heap.size + 1) 45 #[.int .i64 0, .string ⟨#[]⟩, .int .i64 0, .int .i64 0] (0, 0) _ rfl (set4 K1.out _ _ _ _) Tryd.underlying45 rfl (by kernel_rfl)) rfl ⟨rfl, below4 HB.out _ (Nat.le_succ _) _ _ _ _⟩)

set_option maxRecDepth 100000 in
set_option maxHeartbeats 4000000 in
theorem token_range_S (t : ByteArray) (w : World) (v : Int) (hA : AtoiIs t w v true) (h1 : t.size ≤ 1) :
    Calls Tryd.prog 47 #[.agg #[.int .i64 4, .string t]] w fun e w' => e = .returned (.tuple #[.agg #[.int .i64 0, .string ⟨#[]⟩, .int .i64 0, .int .i64 0], .int .i64 3]) ∧ Below w.heap.size w w' := by
  have H := Lib.hid hA
  clear hA
  go_enter Tryd.func47, Tryd.ntmps47
  go_wp2_with fail
  have hb0 : Below w.heap.size w ((w.alloc (.cells #[.int .i64 4, .string t] 74)).alloc (.cells #[.int .i64 0, .string ⟨#[]⟩, .int .i64 0, .int .i64 0] 45)) := ((Below.refl _ _).alloc (Nat.le_refl _) _).alloc (by simp) _
  refine (H.out _ hb0).mono ?_
  rintro e w1 ⟨ev, rfl, hev1, hev2, hb⟩
  clear hb0
  obtain ⟨N, rfl⟩ := hev2 rfl
  clear hev1 hev2
  obtain ⟨k0, k1, hb1⟩ := after_atoi hb
  clear hb
  have c0 := blk_cell k0 0
  have c1 := blk_cell k0 1
  have z0 := blk_cell k1 0
  have z1 := blk_cell k1 1
  have z2 := blk_cell k1 2
  have z3 := blk_cell k1 3
  have g0 := blk_frozen k1 0
  have g1 := blk_frozen k1 1
  have g2 := blk_frozen k1 2
  have g3 := blk_frozen k1 3
  simp at c0 c1 z0 z1 z2 z3
  have K1 := Lib.hid k1
  have HB := Lib.hid hb1
  clear k0 k1 hb1
  go_wp2
  all_goals first
    | (exfalso; omega)
    | (exact bodyPost_ret (results_ct rfl _ _ (w.heap.size + 1) 45 #[.int .i64 0, .string ⟨#[]⟩, .int .i64 0, .int .i64 0] (0, 0) _ rfl (set4 K1.out _ _ _ _) Tryd.underlying45 rfl (by kernel_rfl)) rfl ⟨rfl, below4 HB.out _ (Nat.le_succ _) _ _ _ _⟩)

set_option maxRecDepth 100000 in
set_option maxHeartbeats 4000000 in
theorem token_num_D (t : ByteArray) (w : World) (v : Int) (hA : AtoiIs t w v false) (h1 : 1 < t.size) (h2 : ¬ (t[0].toNat : Int) = 48) (h3 : v ≤ 1000000000) :
    Calls Tryd.prog 47 #[.agg #[.int .i64 4, .string t]] w fun e w' => e = .returned (.tuple #[.agg #[.int .i64 2, .string ⟨#[]⟩, .int .i64 v, .int .i64 0], .int .i64 0]) ∧ Below w.heap.size w w' := by
  have H := Lib.hid hA
  clear hA
  go_enter Tryd.func47, Tryd.ntmps47
  go_wp2_with fail
  have hb0 : Below w.heap.size w ((w.alloc (.cells #[.int .i64 4, .string t] 74)).alloc (.cells #[.int .i64 0, .string ⟨#[]⟩, .int .i64 0, .int .i64 0] 45)) := ((Below.refl _ _).alloc (Nat.le_refl _) _).alloc (by simp) _
  refine (H.out _ hb0).mono ?_
  rintro e w1 ⟨ev, rfl, hev1, hev2, hb⟩
  clear hb0
  obtain rfl := hev1 rfl
  clear hev1 hev2
  obtain ⟨k0, k1, hb1⟩ := after_atoi hb
  clear hb
  have c0 := blk_cell k0 0
  have c1 := blk_cell k0 1
  have z0 := blk_cell k1 0
  have z1 := blk_cell k1 1
  have z2 := blk_cell k1 2
  have z3 := blk_cell k1 3
  have g0 := blk_frozen k1 0
  have g1 := blk_frozen k1 1
  have g2 := blk_frozen k1 2
  have g3 := blk_frozen k1 3
  simp at c0 c1 z0 z1 z2 z3
  have K1 := Lib.hid k1
  have HB := Lib.hid hb1
  clear k0 k1 hb1
  go_wp2
  all_goals first
    | (exfalso; omega)
    | (exact bodyPost_ret (results_ct rfl _ _ (w.heap.size + 1) 45 #[.int .i64 2, .string ⟨#[]⟩, .int .i64 v, .int .i64 0] (0, 0) _ rfl (set4 K1.out _ _ _ _) Tryd.underlying45 rfl (by kernel_rfl)) rfl ⟨rfl, below4 HB.out _ (Nat.le_succ _) _ _ _ _⟩)

set_option maxRecDepth 100000 in
set_option maxHeartbeats 4000000 in
theorem token_big_D (t : ByteArray) (w : World) (v : Int) (hA : AtoiIs t w v false) (h1 : 1 < t.size) (h2 : ¬ (t[0].toNat : Int) = 48) (h3 : 1000000000 < v) :
    Calls Tryd.prog 47 #[.agg #[.int .i64 4, .string t]] w fun e w' => e = .returned (.tuple #[.agg #[.int .i64 0, .string ⟨#[]⟩, .int .i64 0, .int .i64 0], .int .i64 3]) ∧ Below w.heap.size w w' := by
  have H := Lib.hid hA
  clear hA
  go_enter Tryd.func47, Tryd.ntmps47
  go_wp2_with fail
  have hb0 : Below w.heap.size w ((w.alloc (.cells #[.int .i64 4, .string t] 74)).alloc (.cells #[.int .i64 0, .string ⟨#[]⟩, .int .i64 0, .int .i64 0] 45)) := ((Below.refl _ _).alloc (Nat.le_refl _) _).alloc (by simp) _
  refine (H.out _ hb0).mono ?_
  rintro e w1 ⟨ev, rfl, hev1, hev2, hb⟩
  clear hb0
  obtain rfl := hev1 rfl
  clear hev1 hev2
  obtain ⟨k0, k1, hb1⟩ := after_atoi hb
  clear hb
  have c0 := blk_cell k0 0
  have c1 := blk_cell k0 1
  have z0 := blk_cell k1 0
  have z1 := blk_cell k1 1
  have z2 := blk_cell k1 2
  have z3 := blk_cell k1 3
  have g0 := blk_frozen k1 0
  have g1 := blk_frozen k1 1
  have g2 := blk_frozen k1 2
  have g3 := blk_frozen k1 3
  simp at c0 c1 z0 z1 z2 z3
  have K1 := Lib.hid k1
  have HB := Lib.hid hb1
  clear k0 k1 hb1
  go_wp2
  all_goals first
    | (exfalso; omega)
    | (exact bodyPost_ret (results_ct rfl _ _ (w.heap.size + 1) 45 #[.int .i64 0, .string ⟨#[]⟩, .int .i64 0, .int .i64 0] (0, 0) _ rfl (set4 K1.out _ _ _ _) Tryd.underlying45 rfl (by kernel_rfl)) rfl ⟨rfl, below4 HB.out _ (Nat.le_succ _) _ _ _ _⟩)

set_option maxRecDepth 100000 in
set_option maxHeartbeats 4000000 in
theorem token_range_D (t : ByteArray) (w : World) (v : Int) (hA : AtoiIs t w v true) (h1 : 1 < t.size) (h2 : ¬ (t[0].toNat : Int) = 48) :
    Calls Tryd.prog 47 #[.agg #[.int .i64 4, .string t]] w fun e w' => e = .returned (.tuple #[.agg #[.int .i64 0, .string ⟨#[]⟩, .int .i64 0, .int .i64 0], .int .i64 3]) ∧ Below w.heap.size w w' := by
  have H := Lib.hid hA
  clear hA
  go_enter Tryd.func47, Tryd.ntmps47
  go_wp2_with fail
  have hb0 : Below w.heap.size w ((w.alloc (.cells #[.int .i64 4, .string t] 74)).alloc (.cells #[.int .i64 0, .string ⟨#[]⟩, .int .i64 0, .int .i64 0] 45)) := ((Below.refl _ _).alloc (Nat.le_refl _) _).alloc (by simp) _
  refine (H.out _ hb0).mono ?_
  rintro e w1 ⟨ev, rfl, hev1, hev2, hb⟩
  clear hb0
  obtain ⟨N, rfl⟩ := hev2 rfl
  clear hev1 hev2
  obtain ⟨k0, k1, hb1⟩ := after_atoi hb
  clear hb
  have c0 := blk_cell k0 0
  have c1 := blk_cell k0 1
  have z0 := blk_cell k1 0
  have z1 := blk_cell k1 1
  have z2 := blk_cell k1 2
  have z3 := blk_cell k1 3
  have g0 := blk_frozen k1 0
  have g1 := blk_frozen k1 1
  have g2 := blk_frozen k1 2
  have g3 := blk_frozen k1 3
  simp at c0 c1 z0 z1 z2 z3
  have K1 := Lib.hid k1
  have HB := Lib.hid hb1
  clear k0 k1 hb1
  go_wp2
  all_goals first
    | (exfalso; omega)
    | (exact bodyPost_ret (results_ct rfl _ _ (w.heap.size + 1) 45 #[.int .i64 0, .string ⟨#[]⟩, .int .i64 0, .int .i64 0] (0, 0) _ rfl (set4 K1.out _ _ _ _) Tryd.underlying45 rfl (by kernel_rfl)) rfl ⟨rfl, below4 HB.out _ (Nat.le_succ _) _ _ _ _⟩)

end Go.Proofs.YtdedlchpjboceaaDoor.Lx
end

section
/-
  The lexer's 'Lex', walked: the tokens of a script, or its first error.
-/
namespace Go.Proofs.YtdedlchpjboceaaDoor.Lx
open Go.RowKit Go.Shelf Go.Proofs.YtdedlchpjboceaaDoorW.PrintWords
attribute [local go_sem] Oper.semAt_some

theorem bytes_list (t : ByteArray) : (⟨t.data.toList.toArray⟩ : ByteArray) = t := rfl
theorem head_get (t : ByteArray) (h : 0 < t.size) : t.data.toList.head? = some t[0] := by
  have := drop_at t 0 h
  rw [List.drop_zero] at this
  rw [this]; rfl
theorem byte_48 {c : UInt8} (h : (c.toNat : Int) = 48) : c = 48 := UInt8.toNat_inj.1 (by change c.toNat = 48; omega)

/-- 'token' at a span that has one. -/
theorem token_ok (k : Int) (t : ByteArray) (o : Nat) (x : Tk) (hk : k = 3 ∨ k = 4 ∨ k = 5) (h0 : 0 < t.size) (hd : k = 4 → ∀ c ∈ t.data.toList, digitB c) (ht : t.size ≤ 140737488351232) (w : World) (_ : GOK w) (h : tokOf k t.data.toList o = .ok x) :
    Calls Tryd.prog 47 #[.agg #[.int .i64 k, .string t]] w fun e w' => e = .returned (.tuple #[.agg #[.int .i64 x.kind, .string ⟨x.t.toArray⟩, .int .i64 x.n, .int .i64 0], .int .i64 0]) ∧ Below w.heap.size w w' := by
  unfold tokOf at h
  rw [list_size] at h
  rcases hk with rfl | rfl | rfl
  · simp only [if_true] at h
    split at h
    · cases h
    · injection h with h; subst h; exact token_name t w (by omega)
  · rw [if_neg (by decide)] at h
    simp only [if_true] at h
    split at h
    · cases h
    · rename_i hz
      split at h
      · cases h
      · rename_i hv
        injection h with h; subst h
        have hne : t.data.toList ≠ [] := by intro e; have := list_size t; rw [e] at this; simp at this; omega
        rcases atoi_digits t.data.toList hne (hd rfl) with e | ⟨_, hg⟩
        · have hA := atoi_is_ok t ht w _ e
          by_cases h1 : t.size ≤ 1
          · exact token_num_S t w _ hA h1 (by dsimp only; omega)
          · refine token_num_D t w _ hA (by omega) (fun e2 => hz ⟨by omega, ?_⟩) (by dsimp only; omega)
            rw [head_get t h0]
            exact congrArg some (byte_48 e2)
        · omega
  · rw [if_neg (by decide), if_neg (by decide)] at h
    injection h with h; subst h; exact token_punct t w

/-- 'token' at a span that has none. -/
theorem token_err (k : Int) (t : ByteArray) (o : Nat) (er : Int) (hk : k = 3 ∨ k = 4 ∨ k = 5) (h0 : 0 < t.size) (hd : k = 4 → ∀ c ∈ t.data.toList, digitB c) (ht : t.size ≤ 140737488351232) (w : World) (hG : GOK w) (h : tokOf k t.data.toList o = .error er) :
    Calls Tryd.prog 47 #[.agg #[.int .i64 k, .string t]] w fun e w' => e = .returned (.tuple #[.agg #[.int .i64 0, .string ⟨#[]⟩, .int .i64 0, .int .i64 0], .int .i64 er]) ∧ Below w.heap.size w w' := by
  unfold tokOf at h
  rw [list_size] at h
  rcases hk with rfl | rfl | rfl
  · simp only [if_true] at h
    split at h
    · injection h with h; subst h; exact token_long t w (by omega)
    · cases h
  · rw [if_neg (by decide)] at h
    simp only [if_true] at h
    have hne : t.data.toList ≠ [] := by intro e; have := list_size t; rw [e] at this; simp at this; omega
    split at h
    · rename_i hz
      injection h with h; subst h
      obtain ⟨h1, h2⟩ := hz
      rw [head_get t h0] at h2
      have h3 : (t[0].toNat : Int) = 48 := by rw [Option.some.inj h2]; rfl
      rcases atoi_digits t.data.toList hne (hd rfl) with e | ⟨e, hg⟩
      · exact token_zero_false t w _ (atoi_is_ok t ht w _ e) h1 h3
      · exact token_zero_true t w _ (atoi_is_range t ht w hG e) h1 h3
    · rename_i hz
      split at h
      · rename_i hv
        injection h with h; subst h
        by_cases h1 : t.size ≤ 1
        · rcases atoi_digits t.data.toList hne (hd rfl) with e | ⟨e, hg⟩
          · exact token_big_S t w _ (atoi_is_ok t ht w _ e) h1 (by omega)
          · exact token_range_S t w _ (atoi_is_range t ht w hG e) h1
        · have h2 : ¬ (t[0].toNat : Int) = 48 := fun e2 => hz ⟨by omega, by rw [head_get t h0]; exact congrArg some (byte_48 e2)⟩
          rcases atoi_digits t.data.toList hne (hd rfl) with e | ⟨e, hg⟩
          · exact token_big_D t w _ (atoi_is_ok t ht w _ e) (by omega) h2 (by omega)
          · exact token_range_D t w _ (atoi_is_range t ht w hG e) (by omega) h2
      · cases h
  · rw [if_neg (by decide), if_neg (by decide)] at h
    cases h

end Go.Proofs.YtdedlchpjboceaaDoor.Lx
end

section
/-
  The lexer's 'Lex', walked: the loop over the spans.
-/
namespace Go.Proofs.YtdedlchpjboceaaDoor.Lx
open Go.RowKit Go.Shelf Go.Proofs.YtdedlchpjboceaaDoorW.PrintWords
attribute [local go_sem] Oper.semAt_some

theorem cells_new (w : World) (cs : List Value) (t : TypeId) : ∀ j u, cs[j]? = some u → (w.alloc (.cells cs.toArray t)).cell? ((⟨w.heap.size, 0, none⟩ : Addr).add j) = some u := by
  intro j u hj
  rw [add_plain, blk_cell (blk_new w _)]
  simpa using hj

/-- The cells of tokens. -/
def tkCell (x : Tk) : List Value := [.int .i64 x.kind, .string ⟨x.t.toArray⟩, .int .i64 x.n, .int .i64 x.o]
def tkCells (ts : List Tk) : List Value := ts.flatMap tkCell
theorem tkCells_snoc (ts : List Tk) (x : Tk) : tkCells (ts ++ [x]) = tkCells ts ++ tkCell x := by simp [tkCells]

/-- Between two rounds: what has come, and what lies where. -/
def LI (w : World) (s : ByteArray) (pre : List (SpIn s)) (W : World) : Prop :=
  (∃ v ts, procF (vals pre) = .ok ts ∧ Boxed W (w.heap.size + 1 + 1 + 1) 29 v ∧ W.ownsRow w.heap.size 45 4 v ts.length (tkCells ts)) ∧
  Boxed W w.heap.size 29 (.slice none 0 0) ∧ Boxed W (w.heap.size + 1) 30 (.int .i64 0) ∧ Boxed W (w.heap.size + 1 + 1) 3 (.int .i64 0) ∧ Below w.heap.size w W ∧ Boxed W (w.heap.size + 1 + 1 + 1 + 1) 9 (.string s)
/-- A round has left. -/
def LX (w : World) (s : ByteArray) (c : Code) (pre : List (SpIn s)) (W : World) : Prop :=
  c = .ret ∧ (∃ er o, procF (vals pre) = .error (er, o) ∧ Boxed W w.heap.size 29 (.slice none 0 0) ∧ Boxed W (w.heap.size + 1) 30 (.int .i64 er) ∧ Boxed W (w.heap.size + 1 + 1) 3 (.int .i64 (o : Nat))) ∧ Below w.heap.size w W

theorem boxed_kept {W W' : World} {row : Option Nat} {B : Nat} {t : TypeId} {v : Value} (h : Boxed W B t v) (hg : W.grownBy W' row) (hr : ∀ r, row = some r → ∃ o : Obj, W.heap[r]? = some o ∧ o.isCells = false) : Boxed W' B t v :=
  h.kept hg (fun e' => by obtain ⟨o, ho, hc⟩ := hr B e'.symm; rw [show W.heap[B]? = _ from h] at ho; cases ho; cases hc)
theorem row_kept {W W' : World} {row : Option Nat} {base : Nat} {e : TypeId} {size k : Nat} {v : Value} {xs : List Value} (h : W.ownsRow base e size v k xs) (hg : W.grownBy W' row) (hr : ∀ r, row = some r → ∃ o : Obj, W.heap[r]? = some o ∧ o.isCells = false) : W'.ownsRow base e size v k xs := by
  refine h.kept hg ?_
  rcases h.2 with ⟨rfl, _⟩ | ⟨g, cap, cur, rfl, _, hgb, _⟩
  · exact .inl rfl
  · refine .inr fun e' => ?_
    obtain ⟨o, ho, hc⟩ := hr g (by simpa [Value.ownBlock] using e'.symm)
    rw [hgb] at ho; cases ho; cases hc

theorem LI_own (w : World) (s : ByteArray) (B : Nat) (hB : w.heap.size ≤ B) : OwnFrom B (LI w s) := by
  rintro pre W W' row ⟨⟨v, ts, h1, h2, h3⟩, h4, h5, h6, h7, h8⟩ hg hr
  have hr' : ∀ r, row = some r → ∃ o : Obj, W.heap[r]? = some o ∧ o.isCells = false := fun r e => (hr r e).2
  exact ⟨⟨v, ts, h1, boxed_kept h2 hg hr', row_kept h3 hg hr'⟩, boxed_kept h4 hg hr', boxed_kept h5 hg hr', boxed_kept h6 hg hr', h7.grown hg h7.size (fun k e => Nat.le_trans hB (hr k e).1), boxed_kept h8 hg hr'⟩
theorem LX_own (w : World) (s : ByteArray) (c : Code) (B : Nat) (hB : w.heap.size ≤ B) : OwnFrom B (LX w s c) := by
  rintro pre W W' row ⟨hc, ⟨er, o, h1, h2, h3, h4⟩, h7⟩ hg hr
  have hr' : ∀ r, row = some r → ∃ o : Obj, W.heap[r]? = some o ∧ o.isCells = false := fun r e => (hr r e).2
  exact ⟨hc, ⟨er, o, h1, boxed_kept h2 hg hr', boxed_kept h3 hg hr', boxed_kept h4 hg hr'⟩, h7.grown hg h7.size (fun k e => Nat.le_trans hB (hr k e).1)⟩

/-- The three results stored: a round has left. -/
theorem LX_mk {w W : World} {s : ByteArray} {pre : List (SpIn s)} {er : Int} {o : Nat} (h : procF (vals pre) = .error (er, o)) {v4 v5 v6 : Value}
    (h4 : Boxed W w.heap.size 29 v4) (h5 : Boxed W (w.heap.size + 1) 30 v5) (h6 : Boxed W (w.heap.size + 1 + 1) 3 v6) (h7 : Below w.heap.size w W) :
    LX w s .ret pre (((W.setCell ⟨w.heap.size, 0, none⟩ (.slice none 0 0)).setCell ⟨w.heap.size + 1, 0, none⟩ (.int .i64 er)).setCell ⟨w.heap.size + 1 + 1, 0, none⟩ (.int .i64 (o : Nat))) := by
  refine ⟨rfl, ⟨er, o, h, ?_, ?_, ?_⟩, ?_⟩
  · exact ((h4.set _).other (by omega) _).other (by omega) _
  · exact ((h5.other (by omega) _).set _).other (by omega) _
  · exact (((h6.other (by omega) _).other (by omega) _)).set _
  · exact ((h7.setCell (p := ⟨_, 0, none⟩) (Nat.le_refl _) _).setCell (p := ⟨_, 0, none⟩) (by show w.heap.size ≤ w.heap.size + 1; omega) _).setCell (p := ⟨_, 0, none⟩) (by show w.heap.size ≤ w.heap.size + 1 + 1; omega) _
theorem boxed_below {W W' : World} {B : Nat} {t : TypeId} {v : Value} (h : Boxed W B t v) (hb : Below W.heap.size W W') : Boxed W' B t v := blk_below h hb
theorem row_below {W W' : World} {base : Nat} {e : TypeId} {size k : Nat} {v : Value} {xs : List Value} (h : W.ownsRow base e size v k xs) (hb : Below W.heap.size W W') : W'.ownsRow base e size v k xs := pw_own_below h hb
theorem tokOf_err {k : Int} {t : List UInt8} {o : Nat} {er : Int} (h : tokOf k t o = .error er) : 0 < er := by
  unfold tokOf at h
  repeat' split at h
  all_goals first | (injection h with h; subst h; decide) | cases h
theorem tokOf_o {k : Int} {t : List UInt8} {o : Nat} {x : Tk} (h : tokOf k t o = .ok x) : x.o = o := by
  unfold tokOf at h
  repeat' split at h
  all_goals first | (injection h with h; subst h; rfl) | cases h
theorem Tryd.infoTok : (Tryd.prog.info? 45).map (fun i => (i.zero, i.size, i.bytes)) = some (some (.agg #[.int .i64 0, .string ⟨#[]⟩, .int .i64 0, .int .i64 0]), 4, 40) := by kernel_rfl
theorem keeps_below {W W' : World} (hb : Below W.heap.size W W') : KeepsOthers W W' := ⟨hb.size, fun _ _ hk _ => blk_below hk hb⟩
theorem keeps3 (W : World) (a b c : Addr) (x y z : Value) (B : Nat) : KeepsFrom B W (((W.setCell a x).setCell b y).setCell c z) :=
  (((KeepsOthers.setCell W a x).trans (KeepsOthers.setCell _ b y)).trans (KeepsOthers.setCell _ c z)).from B

/-- The frame of a round behind the assignment to the loop's variables. -/
abbrev LTmps (w : World) (s : ByteArray) (x : Sp) (Bx : Nat) : Array Value :=
  #[.string s, undef, .pointer (some ⟨w.heap.size, 0, none⟩), .pointer (some ⟨w.heap.size + 1, 0, none⟩), .pointer (some ⟨w.heap.size + 1 + 1, 0, none⟩), .pointer (some ⟨w.heap.size + 1 + 1 + 1, 0, none⟩), .int .i64 x.o, .pointer (some ⟨Bx, 0, none⟩), undef, undef, .string s, .int .i64 s.size, .bool (decide (8000 < (s.size : Int))), .string s, .func (.func 73) #[] #[.pointer (some ⟨w.heap.size + 1 + 1 + 1 + 1, 0, none⟩)], .int .i64 x.o, .agg #[.int .i64 x.k, .string ⟨x.t.toArray⟩], undef, undef, undef, undef, undef, undef, undef, undef, undef, undef, undef, undef, undef, undef, undef, undef, undef, undef, undef, undef, undef, undef, undef, undef, undef, undef, undef, undef, undef, undef, undef, undef, undef, undef, undef]
/-- The loop's variable x lies in block Bx. -/
def LA (w : World) (s : ByteArray) (x : SpIn s) (a : Act) (W : World) : Prop :=
  ∃ Bx, w.heap.size + 1 + 1 + 1 + 1 < Bx ∧ W.heap[Bx]? = some (.cells #[.int .i64 x.1.k, .string ⟨x.1.t.toArray⟩] 74 (0, 0)) ∧ a = { tmps := LTmps w s x.1 Bx, defers := [] }
theorem LA_own (w : World) (s : ByteArray) (x : SpIn s) (a : Act) (B : Nat) : OwnFrom B (fun (_ : Unit) W => LA w s x a W) := by
  rintro _ W W' row ⟨Bx, h1, h2, h3⟩ hg hr
  exact ⟨Bx, h1, (hg.block Bx (blk_lt h2) (fun e => by obtain ⟨_, o, ho, hc⟩ := hr Bx e.symm; rw [h2] at ho; cases ho; cases hc)).trans h2, h3⟩

set_option maxRecDepth 100000 in
set_option maxHeartbeats 8000000 in
theorem Lex_main (s : ByteArray) (h : s.size ≤ 8000) (w : World) (hG : GOK w) :
    Calls Tryd.prog 21 #[.string s] w fun e w' => ((∃ v ts, procF (spans s.data.toList 0) = .ok ts ∧ e = .returned (.tuple #[v, .int .i64 0, .int .i64 0]) ∧ w'.ownsRow w.heap.size 45 4 v ts.length (tkCells ts)) ∨
      (∃ er o, procF (spans s.data.toList 0) = .error (er, o) ∧ e = .returned (.tuple #[.slice none 0 0, .int .i64 er, .int .i64 (o : Nat)]))) ∧ Below w.heap.size w w' := by
  have G := Lib.hid hG
  clear hG
  refine (callsIn_wide (n := 5)).1 ?_
  refine callsIn_of_wp_marks Tryd.func21 rfl trivial ?_ rfl
  simp only [Tryd.ntmps21, List.size_toArray, List.length_cons, List.length_nil, Nat.reduceAdd, Nat.reduceSub, Array.replicate_succ, Array.replicate_zero, List.push_toArray, List.append_toArray, List.nil_append, List.cons_append]
  gi_wp2_with (refine ⟨trivial, ?_⟩; gi_at_call 46; refine (callsIn_wide.2 (spans_any _ _)).mono ?_; rintro e w' ⟨rfl, rfl⟩)
  obtain ⟨W0, hW0⟩ : ∃ W0 : World, W0 = (((((w.alloc (.cells #[.slice none 0 0] 29)).alloc (.cells #[.int .i64 0] 30)).alloc (.cells #[.int .i64 0] 3)).alloc (.cells #[.slice none 0 0] 29)).alloc (.cells #[.string s] 9)) := ⟨_, rfl⟩
  rw [← hW0]
  have hsz : W0.heap.size = w.heap.size + 1 + 1 + 1 + 1 + 1 := by rw [hW0]; simp
  have b0 : Boxed W0 w.heap.size 29 (.slice none 0 0) := by rw [hW0]; exact ((((Boxed.new w _ _).alloc _).alloc _).alloc _).alloc _
  have b1 : Boxed W0 (w.heap.size + 1) 30 (.int .i64 0) := by
    rw [hW0]; have := (((Boxed.new (w.alloc (.cells #[.slice none 0 0] 29)) 30 (.int .i64 0)).alloc (.cells #[.int .i64 0] 3)).alloc (.cells #[.slice none 0 0] 29)).alloc (.cells #[.string s] 9); rwa [World.size_alloc] at this
  have b2 : Boxed W0 (w.heap.size + 1 + 1) 3 (.int .i64 0) := by
    rw [hW0]; have := ((Boxed.new ((w.alloc (.cells #[.slice none 0 0] 29)).alloc (.cells #[.int .i64 0] 30)) 3 (.int .i64 0)).alloc (.cells #[.slice none 0 0] 29)).alloc (.cells #[.string s] 9); rwa [World.size_alloc, World.size_alloc] at this
  have b3 : Boxed W0 (w.heap.size + 1 + 1 + 1) 29 (.slice none 0 0) := by
    rw [hW0]; have := (Boxed.new (((w.alloc (.cells #[.slice none 0 0] 29)).alloc (.cells #[.int .i64 0] 30)).alloc (.cells #[.int .i64 0] 3)) 29 (.slice none 0 0)).alloc (.cells #[.string s] 9); rwa [World.size_alloc, World.size_alloc, World.size_alloc] at this
  have b4 : Boxed W0 (w.heap.size + 1 + 1 + 1 + 1) 9 (.string s) := by
    rw [hW0]; have := Boxed.new ((((w.alloc (.cells #[.slice none 0 0] 29)).alloc (.cells #[.int .i64 0] 30)).alloc (.cells #[.int .i64 0] 3)).alloc (.cells #[.slice none 0 0] 29)) 9 (.string s); rwa [World.size_alloc, World.size_alloc, World.size_alloc, World.size_alloc] at this
  have hB : Below w.heap.size w W0 := by
    rw [hW0]; exact (((((Below.refl _ _).alloc (Nat.le_refl _) _).alloc (by simp) _).alloc (by simp; omega) _).alloc (by simp; omega) _).alloc (by simp; omega) _
  clear hW0
  refine wpIn_rangeFunc_ownH rfl (by omega) (gf := 73) (lb := #[.pointer (some ⟨w.heap.size + 1 + 1 + 1 + 1, 0, none⟩)]) rfl trivial (enters_of Tryd.func73 (by kernel_rfl) rfl)
    (spans_stops _ (by omega) (w.heap.size + 1 + 1 + 1 + 1) s (by omega) W0 (by omega) b4.cell) (fun h k => h.trans k) (KeepB.put (by omega)) (Below.refl _ _) (fun _ => rfl)
    (LI w s) (LX w s) (LI_own w s _ (by omega)) (fun c => LX_own w s c _ (by omega)) ⟨⟨_, [], rfl, b3, World.ownsRow_nil _ _ _ _⟩, b0, b1, b2, hB, b4⟩
    (LA w s) (fun x a' => LA_own w s x a' _) ?assign ?body ?done ?stop
  case assign =>
    rintro l pre x W K hI hK
    gi_wp2
    have hI' := LI_own w s (W0.heap.size) (by omega)
    obtain ⟨_, _, _, _, _, h8⟩ := id hI
    exact hK _ _ ((KeepsOthers.alloc _ _).from _) ⟨by simp, Below.heap_alloc _ _ _ h8.lt⟩ (hI'.alloc _ hI) ⟨W.heap.size, h8.lt, blk_new _ _, rfl⟩
  case body =>
    clear b0 b1 b2 b3 b4 hB
    rintro l pre x a' W hl hrec ⟨⟨v, ts, h1, h2, h3⟩, h4, h5, h6, h7, h8⟩ ⟨Bx, hBx, bX, rfl⟩ hlt
    clear hl hrec
    obtain ⟨s1, s2, s3, s4, s5, s6, s7⟩ := spans_good _ _ x.1 x.2
    have HP := Lib.hid (show procF (vals (pre ++ [x])) = pstep (.ok ts) x.1 by rw [← h1, ← procF_snoc]; simp [vals])
    obtain ⟨⟨o, k, t⟩, hm⟩ := x
    dsimp only at s1 s2 s3 s4 s5 s6 s7 bX
    have cx0 := blk_cell bX 0
    have cx1 := blk_cell bX 1
    simp at cx0 cx1
    have BX := Lib.hid bX
    have H1 := Lib.hid h1
    clear bX h1
    have c2 := h2.cell
    have c4 := h4.cell
    have c5 := h5.cell
    have c6 := h6.cell
    have f2 := h2.frozen
    have f4 := h4.frozen
    have f5 := h5.frozen
    have f6 := h6.frozen
    rcases (by omega : k = 0 ∨ k = 1 ∨ k = 2 ∨ (k = 3 ∨ k = 4 ∨ k = 5)) with rfl | rfl | rfl | hk
    · have hp : procF (vals (pre ++ [⟨⟨o, 0, t⟩, hm⟩])) = .error (7, o) := HP.out
      have HP' := Lib.hid hp
      clear hp HP
      gi_wp2
      exact ⟨keeps3 _ _ _ _ _ _ _ _, LX_mk HP'.out h4 h5 h6 h7⟩
    · have hp : procF (vals (pre ++ [⟨⟨o, 1, t⟩, hm⟩])) = .ok ts := HP.out
      have HP' := Lib.hid hp
      clear hp HP
      gi_wp2
      exact ⟨KeepsFrom.refl _ _, ⟨Nat.le_refl _, rfl⟩, ⟨v, ts, HP'.out, h2, h3⟩, h4, h5, h6, h7, h8⟩
    · have hp : procF (vals (pre ++ [⟨⟨o, 2, t⟩, hm⟩])) = .ok ts := HP.out
      have HP' := Lib.hid hp
      clear hp HP
      gi_wp2
      exact ⟨KeepsFrom.refl _ _, ⟨Nat.le_refl _, rfl⟩, ⟨v, ts, HP'.out, h2, h3⟩, h4, h5, h6, h7, h8⟩
    · obtain ⟨A, c, rfl⟩ := own_slice h3
      have hk2 : 2 < k := by omega
      have n0 : (k == 0) = false := by simp; omega
      have n1 : (k == 1) = false := by simp; omega
      have n2 : (k == 2) = false := by simp; omega
      have Hk := Lib.hid hk
      clear hk
      have hts : ts.length ≤ 2000 := (toks_length _ _ H1.out).2
      have hsz0 : (⟨t.toArray⟩ : ByteArray).size = t.length := by simp [ByteArray.size]
      have H0 : Hid (0 < (⟨t.toArray⟩ : ByteArray).size) := Lib.hid (by rw [hsz0]; exact List.length_pos_iff.2 s1)
      have H4 : Hid (k = 4 → ∀ c ∈ (⟨t.toArray⟩ : ByteArray).data.toList, digitB c) := Lib.hid (by simpa using s2)
      have H5 : Hid ((⟨t.toArray⟩ : ByteArray).size ≤ 140737488351232) := Lib.hid (by rw [hsz0]; rw [list_size] at s5; omega)
      clear s1 s2 s3 s4 s5 s6 s7 hsz0
      by_cases hl : ts.length = 2000
      · have hp : procF (vals (pre ++ [⟨⟨o, k, t⟩, hm⟩])) = .error (2, o) := by
          rw [HP.out]; simp only [pstep]; rw [if_neg (by omega), if_neg (by omega), if_pos hl]
        have HP' := Lib.hid hp
        have hlB : ((ts.length : Int) == 2000) = true := by simp; omega
        clear hp HP hl
        gi_wp2
        exact ⟨keeps3 _ _ _ _ _ _ _ _, LX_mk HP'.out h4 h5 h6 h7⟩
      · have hlB : ((ts.length : Int) == 2000) = false := by simp; omega
        cases hT : tokOf k t o with
        | error er =>
          have hp : procF (vals (pre ++ [⟨⟨o, k, t⟩, hm⟩])) = .error (er, o) := by
            rw [HP.out]; simp only [pstep]; rw [if_neg (by omega), if_neg (by omega), if_neg hl, hT]
          have HP' := Lib.hid hp
          have her := tokOf_err hT
          have HT := Lib.hid hT
          clear hp HP hT hl
          gi_wp2_with fail
          refine ⟨trivial, ?_⟩
          refine (CallsIn.inRound l (callsIn_wide.2 (token_err k ⟨t.toArray⟩ o er Hk.out H0.out H4.out H5.out _ (G.out.below h7) HT.out))).mono ?_
          rintro e w1 ⟨rfl, hb⟩
          have j4 := boxed_below h4 hb
          have j5 := boxed_below h5 hb
          have j6 := boxed_below h6 hb
          have i4 := j4.cell
          have i5 := j5.cell
          have i6 := j6.cell
          have e4 := j4.frozen
          have e5 := j5.frozen
          have e6 := j6.frozen
          have hb7 : Below w.heap.size w w1 := h7.trans (hb.mono h7.size)
          have lt4 := j4.lt
          have lt5 := j5.lt
          have lt6 := j6.lt
          have HK := Lib.hid (keeps_below hb)
          clear c2 c4 c5 c6 f2 f4 f5 f6 hb
          gi_wp2
          exact ⟨((HK.out.trans (((KeepsOthers.setCell _ _ _).trans (KeepsOthers.setCell _ _ _)).trans (KeepsOthers.setCell _ _ _))).trans (KeepsOthers.alloc _ _)).from _, (LX_own w s .ret w.heap.size (Nat.le_refl _)).alloc _ (LX_mk HP'.out j4 j5 j6 hb7)⟩
        | ok y =>
          have hp : procF (vals (pre ++ [⟨⟨o, k, t⟩, hm⟩])) = .ok (ts ++ [y]) := by
            rw [HP.out]; simp only [pstep]; rw [if_neg (by omega), if_neg (by omega), if_neg hl, hT]
          have hyo := tokOf_o hT
          have HP' := Lib.hid hp
          have HT := Lib.hid hT
          clear hp HP hT hl
          gi_wp2_with fail
          refine ⟨trivial, ?_⟩
          refine (CallsIn.inRound l (callsIn_wide.2 (token_ok k ⟨t.toArray⟩ o y Hk.out H0.out H4.out H5.out _ (G.out.below h7) HT.out))).mono ?_
          rintro e w1 ⟨rfl, hb⟩
          have j2 := boxed_below h2 hb
          have j3 := row_below h3 hb
          have j4 := boxed_below h4 hb
          have j5 := boxed_below h5 hb
          have j6 := boxed_below h6 hb
          have j8 := boxed_below h8 hb
          have i2 := j2.cell
          have e2 := j2.frozen
          have hb7 : Below w.heap.size w w1 := h7.trans (hb.mono h7.size)
          have lt2 := j2.lt
          have HK := Lib.hid (keeps_below hb)
          have HL := Lib.hid hb.size
          have H8 := Lib.hid h8
          clear c2 c4 c5 c6 f2 f4 f5 f6 hb h2 h3 h4 h5 h6 h8
          obtain ⟨i0, hi, hz0, hz1, hz2⟩ := info_parts Tryd.infoTok
          have J3 := Lib.hid j3
          have Hb7 := Lib.hid hb7
          clear j3 hb7
          gi_wp2_with (gi_at_builtin; (refine wpListIn_append_own _ rfl (.tmp 47) (.tmp 49) 29 rfl w.heap.size 45 i0 (.agg #[.int .i64 0, .string ⟨#[]⟩, .int .i64 0, .int .i64 0]) 4 40 Tryd.underlying29 hi hz0 hz1 hz2 rfl (by decide) _ ts.length (tkCells ts) rfl ((J3.out.alloc _).alloc _) ⟨w1.heap.size + 1, 0, none⟩ 1 1 [.int .i64 y.kind, .string ⟨y.t.toArray⟩, .int .i64 y.n, .int .i64 o] rfl rfl (by have hcn := cells_new (w1.alloc (.cells #[.int .i64 y.kind, .string ⟨y.t.toArray⟩, .int .i64 y.n, .int .i64 o] 45)) [.int .i64 y.kind, .string ⟨y.t.toArray⟩, .int .i64 y.n, .int .i64 o] 45; rw [World.size_alloc] at hcn; exact hcn) (by simp [Value.oneCell']) (by unfold maxLen; omega) (by omega) (by simp; have := HL.out; have := h7.size; omega) ?_); (intro v' w2 hown' hgrow _; obtain ⟨g', cap', rfl⟩ := ownsRow_succ hown'; obtain ⟨hv1, hv2, hr2, hk2, hb2⟩ := (j2.alloc _).appended (by decide) (J3.out.alloc _) (by simp; have := HL.out; have := h7.size; omega) (by omega) hown' hgrow; have i2' := hv1.cell; have e2' := hv1.frozen; have HV := Lib.hid hv2; have HR := Lib.hid hr2; have HK2 := Lib.hid hk2; have HB2 := Lib.hid hb2; have HG := Lib.hid hgrow; clear hv2 hr2 hk2 hb2 hgrow hown' hv1))
          have kept : ∀ {B t : Nat} {u : Value}, Boxed w1 B t u → t ≠ 45 → B ≠ w.heap.size + 1 + 1 + 1 → Boxed (w2.setCell ⟨w.heap.size + 1 + 1 + 1, 0, none⟩ (.slice (some ⟨g', 0, none⟩) (ts.length + 1) cap')) B t u := by
            intro B t u hb ht hne
            have hb' : Boxed ((w1.alloc (.cells #[.int .i64 y.kind, .string ⟨y.t.toArray⟩, .int .i64 y.n, .int .i64 o] 45)).alloc (.cells #[.int .i64 y.kind, .string ⟨y.t.toArray⟩, .int .i64 y.n, .int .i64 o] 45)) B t u := (hb.alloc _).alloc _
            exact (hb'.kept HG.out (hb'.not_row ht ((J3.out.alloc _).alloc _))).other hne _
          have k8 := kept j8 (by decide) (by omega)
          refine ⟨(HK.out.trans ((KeepsOthers.alloc _ _).trans HK2.out)).from _, ⟨?_, ?_⟩, ⟨_, ts ++ [y], HP'.out, HV.out, ?_⟩, kept j4 (by decide) (by omega), kept j5 (by decide) (by omega), kept j6 (by decide) (by omega), (Hb7.out.alloc Hb7.out.size _).trans HB2.out, k8⟩
          · exact (HK.out.trans ((KeepsOthers.alloc _ _).trans HK2.out)).size
          · exact k8.trans H8.out.symm
          · rw [tkCells_snoc, List.length_append]
            unfold tkCell
            rw [hyo]
            exact HR.out
  case done =>
    rintro D xs W hD hxs ⟨⟨v, ts, h1, h2, h3⟩, h4, h5, h6, h7, h8⟩ hK
    rw [hxs] at h1
    obtain ⟨A, c, rfl⟩ := own_slice h3
    have c2 := h2.cell
    have c4 := h4.cell
    have c5 := h5.cell
    have c6 := h6.cell
    have f4 := h4.frozen
    have f5 := h5.frozen
    have f6 := h6.frozen
    have H1 := Lib.hid h1
    have H3 := Lib.hid h3
    clear h1 h3
    gi_wp2
    have hK' := ((((KeepsOthers.setCell W ⟨w.heap.size, 0, none⟩ (.slice A ts.length c)).trans (KeepsOthers.setCell _ ⟨w.heap.size + 1, 0, none⟩ (.int .i64 0))).trans (KeepsOthers.setCell _ ⟨w.heap.size + 1 + 1, 0, none⟩ (.int .i64 0)))).same D _ hK rfl
    refine ⟨by simp, .inl ⟨_, _, rfl, run_takeDeferred hK', ?_⟩⟩
    have hr : ∀ r, some D = some r → ∃ o : Obj, (((W.setCell ⟨w.heap.size, 0, none⟩ (.slice A ts.length c)).setCell ⟨w.heap.size + 1, 0, none⟩ (.int .i64 0)).setCell ⟨w.heap.size + 1 + 1, 0, none⟩ (.int .i64 0)).heap[r]? = some o ∧ o.isCells = false := fun r e => by cases e; exact ⟨_, hK', rfl⟩
    have q4 := boxed_kept (((h4.set (.slice A ts.length c)).other (by omega) (.int .i64 0)).other (B' := w.heap.size + 1 + 1) (by omega) (.int .i64 0)) (grownBy_putObj' _ D (.deferred none)) hr
    have q5 := boxed_kept (((h5.other (B' := w.heap.size) (by omega) (.slice A ts.length c)).set (.int .i64 0)).other (B' := w.heap.size + 1 + 1) (by omega) (.int .i64 0)) (grownBy_putObj' _ D (.deferred none)) hr
    have q6 := boxed_kept (((h6.other (B' := w.heap.size) (by omega) (.slice A ts.length c)).other (B' := w.heap.size + 1) (by omega) (.int .i64 0)).set (.int .i64 0)) (grownBy_putObj' _ D (.deferred none)) hr
    have hB3 : Below w.heap.size w (((W.setCell ⟨w.heap.size, 0, none⟩ (.slice A ts.length c)).setCell ⟨w.heap.size + 1, 0, none⟩ (.int .i64 0)).setCell ⟨w.heap.size + 1 + 1, 0, none⟩ (.int .i64 0)) :=
      ((h7.setCell (p := ⟨_, 0, none⟩) (Nat.le_refl _) _).setCell (p := ⟨_, 0, none⟩) (by show w.heap.size ≤ w.heap.size + 1; omega) _).setCell (p := ⟨_, 0, none⟩) (by show w.heap.size ≤ w.heap.size + 1 + 1; omega) _
    have r4 := q4.cell
    have r5 := q5.cell
    have r6 := q6.cell
    have HB3 := Lib.hid (hB3.trans (belowK_b (w := w) (Nat.le_refl _) _ D _ (.deferred none) (by omega) hK' rfl rfl))
    have HR := Lib.hid (row_kept (((H3.out.kept (grownBy_setCell' W w.heap.size (.slice A ts.length c)) (.inr (h4.not_row (by decide) H3.out).symm)).kept (grownBy_setCell' _ (w.heap.size + 1) (.int .i64 0)) (.inr ((h5.other (B' := w.heap.size) (by omega) (.slice A ts.length c)).not_row (by decide) (H3.out.kept (grownBy_setCell' W w.heap.size (.slice A ts.length c)) (.inr (h4.not_row (by decide) H3.out).symm))).symm)).kept (grownBy_setCell' _ (w.heap.size + 1 + 1) (.int .i64 0)) (.inr (((h6.other (B' := w.heap.size) (by omega) (.slice A ts.length c)).other (B' := w.heap.size + 1) (by omega) (.int .i64 0)).not_row (by decide) ((H3.out.kept (grownBy_setCell' W w.heap.size (.slice A ts.length c)) (.inr (h4.not_row (by decide) H3.out).symm)).kept (grownBy_setCell' _ (w.heap.size + 1) (.int .i64 0)) (.inr ((h5.other (B' := w.heap.size) (by omega) (.slice A ts.length c)).not_row (by decide) (H3.out.kept (grownBy_setCell' W w.heap.size (.slice A ts.length c)) (.inr (h4.not_row (by decide) H3.out).symm))).symm))).symm)) (grownBy_putObj' _ D (.deferred none)) hr)
    refine ⟨.tuple #[.slice A ts.length c, .int .i64 0, .int .i64 0], ?_, .inl ⟨_, ts, H1.out, rfl, HR.out⟩, HB3.out⟩
    simp [results, Tryd.f21, go_sem, r4, r5, r6]
  case stop =>
    rintro D c pre W hD hpre ⟨rfl, ⟨er, o, h1, h4, h5, h6⟩, h7⟩ hK
    have H1 := Lib.hid (procF_prefix hpre h1)
    clear h1 hpre
    gi_wp2
    refine ⟨by simp, .inl ⟨_, _, rfl, run_takeDeferred hK, ?_⟩⟩
    have hr : ∀ r, some D = some r → ∃ o : Obj, W.heap[r]? = some o ∧ o.isCells = false := fun r e => by cases e; exact ⟨_, hK, rfl⟩
    have r4 := (boxed_kept h4 (grownBy_putObj' _ D (.deferred none)) hr).cell
    have r5 := (boxed_kept h5 (grownBy_putObj' _ D (.deferred none)) hr).cell
    have r6 := (boxed_kept h6 (grownBy_putObj' _ D (.deferred none)) hr).cell
    have HB3 := Lib.hid (h7.trans (belowK_b (w := w) (Nat.le_refl _) _ D _ (.deferred none) (by omega) hK rfl rfl))
    refine ⟨.tuple #[.slice none 0 0, .int .i64 er, .int .i64 (o : Nat)], ?_, .inr ⟨er, o, H1.out, rfl⟩, HB3.out⟩
    simp [results, Tryd.f21, go_sem, r4, r5, r6]

set_option maxRecDepth 100000 in
set_option maxHeartbeats 4000000 in
theorem Lex_long (s : ByteArray) (h : 8000 < s.size) (w : World) :
    Calls Tryd.prog 21 #[.string s] w fun e w' => e = .returned (.tuple #[.slice none 0 0, .int .i64 2, .int .i64 0]) ∧ Below w.heap.size w w' := by
  refine (callsIn_wide (n := 5)).1 ?_
  refine callsIn_of_wp_marks Tryd.func21 rfl trivial ?_ rfl
  simp only [Tryd.ntmps21, List.size_toArray, List.length_cons, List.length_nil, Nat.reduceAdd, Nat.reduceSub, Array.replicate_succ, Array.replicate_zero, List.push_toArray, List.append_toArray, List.nil_append, List.cons_append]
  gi_wp2
  refine ⟨.tuple #[.slice none 0 0, .int .i64 2, .int .i64 0], ?_, rfl, ?_⟩
  · simp [results, Tryd.f21, go_sem]
  · exact (((Below.refl _ _).alloc (Nat.le_refl _) _).alloc (by simp) _).alloc (by simp; omega) _

/-- The premise on the world, carried on. -/
theorem GOK.aside {w W : World} (h : Aside0 (GOK w)) (hb : Below w.heap.size w W) : Aside0 (GOK W) := ⟨h.out.below hb⟩

end Go.Proofs.YtdedlchpjboceaaDoor.Lx
end

section
/-
  The parser's 'Parse': what it computes, in plain words; what lies where between two rounds of its loop.
-/
namespace Go.Proofs.YtdedlchpjboceaaDoor.Px
open Go.RowKit Go.Shelf Go.Proofs.YtdedlchpjboceaaDoor.Lx Go.Proofs.YtdedlchpjboceaaDoorW.PrintWords Go.Proofs.YtdedlchpjboceaaDoorW.PrintLast Go.Proofs.YtdedlchpjboceaaDoorW.PrintMore
attribute [local go_sem] Oper.semAt_some

/-- A diagnostic. -/
structure Dg where
  f0 : Int
  f1 : Int
def zD : Dg := ⟨0, 0⟩
def kD : Kd Dg := Kd.iso (Kd.pair (Kd.int .i64) (Kd.int .i64)) (fun x : Dg => (x.f0, x.f1))
theorem kD_mkM (w : World) (base : Nat) (ok : Nat → Prop) (x : Dg) : kD.M w base ok x [.int .i64 x.f0, .int .i64 x.f1] := ⟨[.int .i64 x.f0], [.int .i64 x.f1], rfl, rfl, rfl⟩

/-! ### what it computes -/
theorem stepIt_le {e : Int} {i : It} {l l' : List Tok} {c c' : Cmd} (h : stepIt e i l c = .ok (l', c')) : l'.length ≤ l.length := by
  cases i with
  | W s => simp only [stepIt] at h; split at h <;> simp at h; obtain ⟨rfl, _⟩ := h; simp
  | Nm => simp only [stepIt] at h; split at h <;> simp at h; obtain ⟨rfl, _⟩ := h; simp
  | Num => simp only [stepIt] at h; split at h <;> simp at h; obtain ⟨rfl, _⟩ := h; simp
  | Dr =>
    simp only [stepIt] at h
    split at h
    · by_cases hk : (nextT l.tail e).f0 = 2
      · rw [if_pos hk] at h; simp at h; obtain ⟨rfl, _⟩ := h; simp; omega
      · rw [if_neg hk] at h; simp at h
    · simp at h
theorem stepIt_er {e : Int} {i : It} {l l' : List Tok} {c : Cmd} {a : Int} (h : stepIt e i l c = .error (a, l')) : l'.length ≤ l.length := by
  cases i with
  | W s => simp only [stepIt] at h; split at h <;> simp at h; obtain ⟨_, rfl⟩ := h; simp
  | Nm => simp only [stepIt] at h; split at h <;> simp at h; obtain ⟨_, rfl⟩ := h; simp
  | Num => simp only [stepIt] at h; split at h <;> simp at h; obtain ⟨_, rfl⟩ := h; simp
  | Dr =>
    simp only [stepIt] at h
    split at h
    · by_cases hk : (nextT l.tail e).f0 = 2
      · rw [if_pos hk] at h; simp at h
      · rw [if_neg hk] at h; simp at h; obtain ⟨_, rfl⟩ := h; simp
    · simp at h; obtain ⟨_, rfl⟩ := h; simp
theorem runIt_le {e : Int} : ∀ {is : List It} {l l' : List Tok} {c c' : Cmd}, runIt e is l c = .ok (l', c') → l'.length ≤ l.length
  | [], l, l', c, c', h => by simp [runIt] at h; obtain ⟨rfl, _⟩ := h; exact Nat.le_refl _
  | i :: is, l, l', c, c', h => by
    cases hs : stepIt e i l c with
    | error x => rw [runIt_cons_err hs] at h; cases h
    | ok y =>
      obtain ⟨l1, c1⟩ := y
      rw [runIt_cons_ok hs] at h
      exact Nat.le_trans (runIt_le h) (stepIt_le hs)
theorem runIt_er {e : Int} : ∀ {is : List It} {l l' : List Tok} {c : Cmd} {a : Int}, runIt e is l c = .error (a, l') → l'.length ≤ l.length
  | [], l, l', c, a, h => by simp [runIt] at h
  | i :: is, l, l', c, a, h => by
    cases hs : stepIt e i l c with
    | error x => rw [runIt_cons_err hs] at h; cases h; exact stepIt_er hs
    | ok y =>
      obtain ⟨l1, c1⟩ := y
      rw [runIt_cons_ok hs] at h
      exact Nat.le_trans (runIt_er h) (stepIt_le hs)
theorem tailR_le {e : Int} {fm : ByteArray → Option (Int × List It)} {l l' : List Tok} {c c' : Cmd} (h : tailR e fm l c = .ok (l', c')) : l'.length ≤ l.length - 1 := by
  unfold tailR at h
  split at h
  · cases h
  · have := runIt_le h; simpa using this
theorem tailR_er {e : Int} {fm : ByteArray → Option (Int × List It)} {l l' : List Tok} {c : Cmd} {a : Int} (h : tailR e fm l c = .error (a, l')) : l'.length ≤ l.length := by
  unfold tailR at h
  split at h
  · cases h; exact Nat.le_refl _
  · have := runIt_er h; rw [List.length_tail] at this; omega
theorem cmdR_ok {e : Int} {l l' : List Tok} {c : Cmd} (h : cmdR e l = .ok (l', c)) (hl : l ≠ []) : l'.length < l.length := by
  have hp := List.length_pos_iff.2 hl
  unfold cmdR at h
  split at h
  · cases hs : runIt e (.W atT :: nums_ 1) l (cmd0 (nextT l e).f3) with
    | error x => rw [hs] at h; cases h
    | ok y =>
      rw [hs] at h
      have h1 : y.1.length ≤ l.length := runIt_le (c' := y.2) hs
      have h2 : l'.length ≤ y.1.length - 1 := tailR_le (c := y.2) h
      omega
  · have := tailR_le h; omega
theorem cmdR_er {e : Int} {l l' : List Tok} {a : Int} (h : cmdR e l = .error (a, l')) : l'.length ≤ l.length := by
  unfold cmdR at h
  split at h
  · cases hs : runIt e (.W atT :: nums_ 1) l (cmd0 (nextT l e).f3) with
    | error x => rw [hs] at h; cases h; exact runIt_er hs
    | ok y =>
      rw [hs] at h
      have h1 : y.1.length ≤ l.length := runIt_le (c' := y.2) hs
      have h2 : l'.length ≤ y.1.length := tailR_er (c := y.2) h
      omega
  · exact tailR_er h
theorem idxT_range : ∀ (l : List Tok) (k : Nat), idxT k l = -1 ∨ ∃ m : Nat, idxT k l = ((k + m : Nat) : Int) ∧ m < l.length
  | [], k => .inl rfl
  | x :: l, k => by
    by_cases h : semiB x = true
    · exact .inr ⟨0, by show (if semiB x = true then (k : Int) else idxT (k + 1) l) = _; rw [if_pos h]; rfl, by simp⟩
    · have he : idxT k (x :: l) = idxT (k + 1) l := if_neg h
      rw [he]
      rcases idxT_range l (k + 1) with h1 | ⟨m, h1, h2⟩
      · exact .inl h1
      · exact .inr ⟨m + 1, by rw [h1]; congr 1; omega, by simp; omega⟩
/-- The loop: from the tokens that are left, with what has come. -/
def pLoop (e : Int) : Nat → List Tok → List Cmd → List Dg → List Cmd × List Dg
  | 0, _, o, d => (o, d)
  | n + 1, l, o, d =>
    if l.length = 0 ∨ 20 ≤ d.length then (o, d) else
    match cmdR e l with
    | .ok (l', c) => pLoop e n l' (o ++ [c]) d
    | .error (a, l') => if idxT 0 l' < 0 then (o, d ++ [⟨7, a⟩]) else pLoop e n (l'.drop ((idxT 0 l').toNat + 1)) o (d ++ [⟨7, a⟩])
/-- Behind the loop. -/
def pEnd (o : List Cmd) (d : List Dg) : List Cmd × List Dg :=
  if 0 < d.length then ([], d) else if 300 < o.length then ([], [⟨2, (rd_C o 300).f3⟩]) else (o, [])
def toTk (x : Lx.Tk) : Tok := ⟨x.kind, ⟨x.t.toArray⟩, x.n, x.o⟩
/-- 'Parse'. -/
def parseR (s : ByteArray) : List Cmd × List Dg :=
  match Lx.lex s.data.toList with
  | .error e => ([], [⟨e.1, (e.2 : Nat)⟩])
  | .ok ts => pEnd (pLoop s.size ts.length (ts.map toTk) [] []).1 (pLoop s.size ts.length (ts.map toTk) [] []).2

/-! ### the lexer's contract, once more -/
theorem reps_tk {w : World} {base : Nat} {ok : Nat → Prop} : ∀ ts : List Lx.Tk, Reps (kT.M w base ok) 4 (ts.map toTk) (Lx.tkCells ts)
  | [] => Reps.none _ _
  | x :: ts => Kd.reps_append (ps := [toTk x]) (by have h := Reps.snoc (Reps.none _ 4) (kT_mkM w base ok (toTk x)) rfl; simpa [tkCell, toTk] using h) (reps_tk ts)
def LexPost (s : ByteArray) (w : World) (x : Ending) (w' : World) : Prop :=
  Below w.heap.size w w' ∧ match Lx.lex s.data.toList with
    | .ok ts => ∃ v, x = .returned (.tuple #[v, .int .i64 0, .int .i64 0]) ∧ Kd.R kT 45 w' w.heap.size (fun _ => True) v (ts.map toTk)
    | .error e => x = .returned (.tuple #[.slice none 0 0, .int .i64 e.1, .int .i64 (e.2 : Nat)])
theorem lex_any (s : ByteArray) (w : World) (hG : GOK w) : Calls Tryd.prog 21 #[.string s] w (LexPost s w) := by
  unfold LexPost Lx.lex
  rw [Lx.list_size]
  by_cases hl : 8000 < s.size
  · rw [if_pos hl]
    refine (Lx.Lex_long s hl w).mono ?_
    rintro x w' ⟨rfl, hb⟩
    exact ⟨hb, rfl⟩
  · rw [if_neg hl]
    refine (Lx.Lex_main s (by omega) w hG).mono ?_
    rintro x w' ⟨⟨v, ts, hp, rfl, ho⟩ | ⟨er, o, hp, rfl⟩, hb⟩
    · rw [hp]
      exact ⟨hb, v, rfl, ⟨fun _ _ => trivial, _, by rw [List.length_map]; exact ho, reps_tk ts⟩⟩
    · rw [hp]
      exact ⟨hb, rfl⟩

end Go.Proofs.YtdedlchpjboceaaDoor.Px
end

section
/-
  The parser's 'Parse': what lies where between two rounds of its loop, and how it goes on.
-/
namespace Go.Proofs.YtdedlchpjboceaaDoor.Px
open Go.RowKit Go.Shelf Go.Proofs.YtdedlchpjboceaaDoor.Lx Go.Proofs.YtdedlchpjboceaaDoorW.PrintWords Go.Proofs.YtdedlchpjboceaaDoorW.PrintLast Go.Proofs.YtdedlchpjboceaaDoorW.PrintMore
attribute [local go_sem] Oper.semAt_some

/-- Another row, of another type, has been written. -/
theorem keep_other {α : Type} {d : Kd α} {e : Nat} {W w1 : World} {base : Nat} {v : Value} {xs : List α} (h : d.R e W base (fun _ => True) v xs) {b8 t8 sz n : Nat} {v8 : Value} {xs8 : List Value} (ho : W.ownsRow b8 t8 sz v8 n xs8) (hne : ∀ q, q ∈ e :: d.E → q ≠ t8) (hg : W.grownBy w1 v8.ownBlock) : d.R e w1 base (fun _ => True) v xs := by
  cases hv : v8.ownBlock with
  | none => rw [hv] at hg; exact Kd.R_grown h hg (fun _ _ => by simp)
  | some g =>
    obtain ⟨cells, hc⟩ := own_typed ho g hv
    rw [hv] at hg
    exact Kd.R_mono (Kd.R_grown (Kd.R_types h hc hne) hg (fun k hk e => hk.2 (by injection e))) (fun _ _ => trivial)
/-- The reader stays where a row that lies behind it is written. -/
theorem PreR.grown {W w1 : World} {R : Nat} {l : List Tok} {e : Int} (h : PreR W R l e) {row : Option Nat} (hg : W.grownBy w1 row) (hr : ∀ k, row = some k → R < k) : PreR w1 R l e := by
  obtain ⟨A, cap, k, nm, vn, a, h3, h4, h5, h6⟩ := h
  refine ⟨A, cap, k, nm, vn, a, (hg.block R (blk_lt h3) (fun e => ?_)).trans h3, h4, C_same h5 (fun ad e _ => hg.block _ (h6 ad e).1 (fun e' => ?_)), fun ad e => ⟨Nat.lt_of_lt_of_le (h6 ad e).1 hg.size, (h6 ad e).2⟩⟩
  · have := hr R e.symm; omega
  · have := hr _ e'.symm; have := (h6 ad e).2.2; omega
theorem PreR.lt {W : World} {R : Nat} {l : List Tok} {e : Int} (h : PreR W R l e) : R < W.heap.size := by
  obtain ⟨A, cap, k, nm, vn, a, h3, _⟩ := h; exact blk_lt h3
/-- Between two rounds of Parse's loop. -/
structure PI (w W : World) (R : Nat) (e : Int) (l : List Tok) (v8 v9 : Value) (o : List Cmd) (d : List Dg) : Prop where
  pre : PreR W R l e
  le : w.heap.size ≤ R
  out : Kd.R kC 40 W (R + 1) (fun _ => True) v8 o
  dg : Kd.R kD 54 W (R + 1) (fun _ => True) v9 d
  below : Below w.heap.size w W
theorem PI.alloc {w W : World} {R : Nat} {e : Int} {l : List Tok} {v8 v9 : Value} {o : List Cmd} {d : List Dg} (h : PI w W R e l v8 v9 o d) {W' : World} (hb : Below W.heap.size W W') : PI w W' R e l v8 v9 o d :=
  ⟨h.pre.below hb, h.le, Kd.R_below h.out hb, Kd.R_below h.dg hb, below_then h.below h.below.size hb⟩
/-- Behind a step that changes the reader's block alone. -/
theorem PI.step {w W W' : World} {R : Nat} {e : Int} {l l' : List Tok} {v8 v9 : Value} {o : List Cmd} {d : List Dg} (h : PI w W R e l v8 v9 o d) (hg : W.grownBy W' (some R)) (hp : PreR W' R l' e) : PI w W' R e l' v8 v9 o d := by
  have hok : ∀ k, (R + 1 ≤ k) → some k ≠ some R := fun k hk e => by injection e with e; omega
  refine ⟨hp, h.le, ?_, ?_, h.below.grown hg h.below.size (fun k e => by injection e with e; have := h.le; omega)⟩
  · exact Kd.R_mono (Kd.R_grown (Kd.R_bound h.out) hg (fun k hk => hok k hk.2.1)) (fun _ _ => trivial)
  · exact Kd.R_mono (Kd.R_grown (Kd.R_bound h.dg) hg (fun k hk => hok k hk.2.1)) (fun _ _ => trivial)
theorem PI.rows8 {w W : World} {R : Nat} {e : Int} {l : List Tok} {v8 v9 : Value} {o : List Cmd} {d : List Dg} (h : PI w W R e l v8 v9 o d) : ∃ inner, W.ownsRow (R + 1) 40 4 v8 o.length inner := Kd.R_own h.out
theorem PI.rows9 {w W : World} {R : Nat} {e : Int} {l : List Tok} {v8 v9 : Value} {o : List Cmd} {d : List Dg} (h : PI w W R e l v8 v9 o d) : ∃ inner, W.ownsRow (R + 1) 54 2 v9 d.length inner := Kd.R_own h.dg
theorem PI.app8 {w W w1 : World} {R : Nat} {e : Int} {l : List Tok} {v8 v9 v1 : Value} {o o' : List Cmd} {d : List Dg} (h : PI w W R e l v8 v9 o d) (hg : W.grownBy w1 v8.ownBlock) (hn : Kd.R kC 40 w1 (R + 1) (fun _ => True) v1 o') : PI w w1 R e l v1 v9 o' d := by
  obtain ⟨inner, ho⟩ := h.rows8
  have hr : ∀ k, v8.ownBlock = some k → R < k := fun k hk => by have := own_base ho k hk; omega
  exact ⟨h.pre.grown hg hr, h.le, hn, keep_other h.dg ho (by decide) hg, h.below.grown hg h.below.size (fun k hk => by have := hr k hk; have := h.le; omega)⟩
theorem PI.app9 {w W w1 : World} {R : Nat} {e : Int} {l : List Tok} {v8 v9 v1 : Value} {o : List Cmd} {d d' : List Dg} (h : PI w W R e l v8 v9 o d) (hg : W.grownBy w1 v9.ownBlock) (hn : Kd.R kD 54 w1 (R + 1) (fun _ => True) v1 d') : PI w w1 R e l v8 v1 o d' := by
  obtain ⟨inner, ho⟩ := h.rows9
  have hr : ∀ k, v9.ownBlock = some k → R < k := fun k hk => by have := own_base ho k hk; omega
  exact ⟨h.pre.grown hg hr, h.le, keep_other h.out ho (by decide) hg, hn, h.below.grown hg h.below.size (fun k hk => by have := hr k hk; have := h.le; omega)⟩
/-- What the reader's command reads as, made from R + 1 on; its numbers' row is not the commands' own. -/
theorem PI.newC {w W : World} {R b : Nat} {e : Int} {l : List Tok} {v8 v9 : Value} {o : List Cmd} {d : List Dg} (h : PI w W R e l v8 v9 o d) {c : Cmd} (hS : RS b W R l e c) (hb : R + 1 ≤ b) : ∃ A cap vn, (W.cell? ⟨R, 0, none⟩ = some (.slice A l.length cap) ∧ W.cell? ⟨R, 1, none⟩ = some (.int .i64 e) ∧ W.cell? ⟨R, 2, none⟩ = some (.int .i64 c.f0) ∧ W.cell? ⟨R, 3, none⟩ = some (.string c.f1) ∧ W.cell? ⟨R, 4, none⟩ = some vn ∧ W.cell? ⟨R, 5, none⟩ = some (.int .i64 c.f3)) ∧
    kC.M W (R + 1) (fun k => True ∧ some k ≠ v8.ownBlock) c [.int .i64 c.f0, .string c.f1, vn, .int .i64 c.f3] := by
  obtain ⟨h1, h2, A, cap, vn, h3, h4, h5, h6, h7⟩ := hS
  refine ⟨A, cap, vn, ⟨by rw [blk_cell h3]; rfl, by rw [blk_cell h3]; rfl, by rw [blk_cell h3]; rfl, by rw [blk_cell h3]; rfl, by rw [blk_cell h3]; rfl, by rw [blk_cell h3]; rfl⟩, kC_mkM _ _ _ _ ?_⟩
  obtain ⟨inner, ho⟩ := h.rows8
  have h7' := Kd.R_lower h7 hb
  cases hv : v8.ownBlock with
  | none => exact Kd.R_mono h7' (fun k _ => ⟨trivial, by simp⟩)
  | some g =>
    obtain ⟨cells, hc⟩ := own_typed ho g hv
    exact Kd.R_mono (Kd.R_types h7' hc (by decide)) (fun k hk => ⟨trivial, fun e => hk.2 (by injection e)⟩)
/-- The reader behind a cut of its list. -/
theorem PreR.cut {W : World} {R : Nat} {l : List Tok} {e : Int} {A : Option Addr} {cap : Nat} (h : PreR W R l e) (hc : W.cell? ⟨R, 0, none⟩ = some (.slice A l.length cap)) (m : Nat) (hm : m ≤ l.length) (A' : Option Addr) (hA : A' = if cap = m then A else A.map (·.add (m * 4))) :
    PreR (W.setCell ⟨R, 0, none⟩ (.slice A' (l.length - m) (cap - m))) R (l.drop m) e ∧ W.grownBy (W.setCell ⟨R, 0, none⟩ (.slice A' (l.length - m) (cap - m))) (some R) := by
  obtain ⟨A0, cap0, k, nm, vn, a, h3, h4, h5, h6⟩ := h
  have he : A0 = A ∧ cap0 = cap := by rw [blk_cell h3] at hc; injection hc with hc; injection hc with h1 _ h2; exact ⟨h1, h2⟩
  obtain ⟨rfl, rfl⟩ := he
  have h8 : ∀ ad, A' = some ad → ad.block < W.heap.size ∧ ad.block ≠ R ∧ ad.block < R := by
    intro ad e
    rw [hA] at e
    split at e
    · exact h6 ad e
    · obtain ⟨ad0, e0, rfl⟩ := Option.map_eq_some_iff.1 e
      have hb : (ad0.add (m * 4)).block = ad0.block := by unfold Addr.add; split <;> rfl
      rw [hb]; exact h6 ad0 e0
  have h9 := Kd.C_drop (k := kT) (m := m) (c := cap0) h5 hm h4
  refine ⟨⟨A', cap0 - m, k, nm, vn, a, ?_, by rw [List.length_drop]; omega, ?_, fun ad e => ⟨by rw [size_set]; exact (h8 ad e).1, (h8 ad e).2⟩⟩, grownBy_setCell' W R _⟩
  · rw [List.length_drop]; exact (blk_set h3 0 _).trans rfl
  · rw [hA]
    refine C_same h9 (fun ad e hp => Below.heap_setCell _ _ _ _ ?_)
    exact (h8 ad (by rw [hA]; exact e)).2.1

end Go.Proofs.YtdedlchpjboceaaDoor.Px
end

section
/-
  The parser's 'Parse', walked.
-/
namespace Go.Proofs.YtdedlchpjboceaaDoor.Px
open Go.RowKit Go.Shelf Go.Proofs.YtdedlchpjboceaaDoor.Lx Go.Proofs.YtdedlchpjboceaaDoorW.PrintWords Go.Proofs.YtdedlchpjboceaaDoorW.PrintLast Go.Proofs.YtdedlchpjboceaaDoorW.PrintMore
attribute [local go_sem] Oper.semAt_some

theorem PI.start {w w1 : World} {v : Value} {ts : List Tok} (hb : Below w.heap.size w w1) (hT : Kd.R kT 45 w1 w.heap.size (fun _ => True) v ts) (e : Int) :
    ∃ A c, v = .slice A ts.length c ∧ PI w (w1.alloc (.cells #[.slice A ts.length c, .int .i64 e, .int .i64 0, .string ⟨#[]⟩, .slice none 0 0, .int .i64 0] 64)) w1.heap.size e ts (.slice none 0 0) (.slice none 0 0) [] [] := by
  obtain ⟨A, c, rfl, hl, hC⟩ := Kd.R_reads hT
  obtain ⟨inner, ho⟩ := Kd.R_own hT
  have hba := (Below.refl w1.heap.size w1).alloc (Nat.le_refl _) (.cells #[.slice A ts.length c, .int .i64 e, .int .i64 0, .string ⟨#[]⟩, .slice none 0 0, .int .i64 0] 64)
  refine ⟨A, c, rfl, ⟨A, c, 0, ⟨#[]⟩, .slice none 0 0, 0, blk_new _ _, hl, Kd.C_below hC hba, fun ad hA => ?_⟩, hb.size, Kd.R_nil _ _ _ _ _, Kd.R_nil _ _ _ _ _, below_alloc hb _⟩
  have := own_lt ho ad.block (by rw [hA]; rfl)
  exact ⟨by rw [World.size_alloc]; omega, by omega, by omega⟩
theorem infoCmd : (Tryd.prog.info? 40).map (fun i => (i.zero, i.size, i.bytes)) = some (some (.agg #[.int .i64 0, .string ⟨#[]⟩, .slice none 0 0, .int .i64 0]), 4, 56) := by kernel_rfl
theorem infoDiag : (Tryd.prog.info? 54).map (fun i => (i.zero, i.size, i.bytes)) = some (some (.agg #[.int .i64 0, .int .i64 0]), 2, 16) := by kernel_rfl
/-- What Parse answers: two rows of its own. -/
def ParsePost (w : World) (r : List Cmd × List Dg) (x : Ending) (w' : World) : Prop :=
  Below w.heap.size w w' ∧ ∃ v0 v1, x = .returned (.tuple #[v0, v1]) ∧ Kd.R kC 40 w' w.heap.size (fun _ => True) v0 r.1 ∧ Kd.R kD 54 w' w.heap.size (fun _ => True) v1 r.2
/-- A row of one diagnostic, new. -/
theorem one_diag (W : World) (base : Nat) (hb : base ≤ W.heap.size) (a b : Int) : Kd.R kD 54 (W.alloc (.cells #[.int .i64 a, .int .i64 b] 54)) base (fun _ => True) (.slice (some ⟨W.heap.size, 0, none⟩) 1 1) [⟨a, b⟩] := by
  refine ⟨fun _ _ => trivial, [.int .i64 a, .int .i64 b], ⟨rfl, .inr ⟨W.heap.size, 1, #[.int .i64 a, .int .i64 b], rfl, hb, blk_new _ _, Nat.le_refl _, by decide, rfl, rfl⟩⟩, ?_⟩
  have h := Reps.snoc (Reps.none (kD.M (W.alloc (.cells #[.int .i64 a, .int .i64 b] 54)) base (fun k => True ∧ some k ≠ (Value.slice (some ⟨W.heap.size, 0, none⟩) 1 1).ownBlock)) 2) (kD_mkM _ _ _ (⟨a, b⟩ : Dg)) rfl
  have hsz : kD.sz = 2 := rfl
  rw [hsz]
  simpa using h
theorem procF_err (xs : List Lx.Sp) : ∀ er, Lx.procF xs = .error er → er.1 ≠ 0 := by
  induction hn : xs.length generalizing xs with
  | zero =>
    obtain rfl := List.eq_nil_of_length_eq_zero hn
    intro er h; simp [procF] at h
  | succ n ih =>
    rcases snoc_cases xs with rfl | ⟨pre, x, rfl⟩
    · simp at hn
    · intro er h
      rw [procF_snoc] at h
      simp at hn
      cases hp : procF pre with
      | error e => rw [hp] at h; simp only [pstep] at h; cases h; exact ih pre hn _ hp
      | ok ps =>
        rw [hp] at h; simp only [pstep] at h
        split at h
        · cases h
        · split at h
          · cases h; show (7 : Int) ≠ 0; decide
          · split at h
            · cases h; show (2 : Int) ≠ 0; decide
            · split at h
              · rename_i he; cases h; have := tokOf_err he; show _ ≠ _; omega
              · cases h
theorem lex_err {s : List UInt8} {er : Int × Nat} (h : Lx.lex s = .error er) : er.1 ≠ 0 := by
  unfold Lx.lex at h
  split at h
  · cases h; decide
  · exact procF_err _ er h
theorem pEnd_diags {o : List Cmd} {d : List Dg} (h : 0 < d.length) : pEnd o d = ([], d) := if_pos h
theorem pEnd_many {o : List Cmd} {d : List Dg} (h : d.length = 0) (h2 : 300 < o.length) : pEnd o d = ([], [⟨2, (rd_C o 300).f3⟩]) := by unfold pEnd; rw [if_neg (by omega), if_pos h2]
theorem pEnd_all {o : List Cmd} {d : List Dg} (h : d.length = 0) (h2 : o.length ≤ 300) : pEnd o d = (o, []) := by unfold pEnd; rw [if_neg (by omega), if_neg (by omega)]
theorem PI.fin_diags {w W : World} {R : Nat} {e : Int} {l : List Tok} {v8 v9 : Value} {o : List Cmd} {d : List Dg} (h : PI w W R e l v8 v9 o d) {r : List Cmd × List Dg} (hr : pEnd o d = r) (hd : 0 < d.length) : ParsePost w r (.returned (.tuple #[.slice none 0 0, v9])) W := by
  rw [pEnd_diags hd] at hr
  subst hr
  exact ⟨h.below, _, _, rfl, Kd.R_nil _ _ _ _ _, Kd.R_lower h.dg (by have := h.le; omega)⟩
theorem PI.fin_all {w W : World} {R : Nat} {e : Int} {l : List Tok} {v8 v9 : Value} {o : List Cmd} {d : List Dg} (h : PI w W R e l v8 v9 o d) {r : List Cmd × List Dg} (hr : pEnd o d = r) (hd : d.length = 0) (ho : o.length ≤ 300) : ParsePost w r (.returned (.tuple #[v8, .slice none 0 0])) W := by
  rw [pEnd_all hd ho] at hr
  subst hr
  exact ⟨h.below, _, _, rfl, Kd.R_lower h.out (by have := h.le; omega), Kd.R_nil _ _ _ _ _⟩
theorem PI.fin_many {w W : World} {R : Nat} {e : Int} {l : List Tok} {v8 v9 : Value} {o : List Cmd} {d : List Dg} (h : PI w W R e l v8 v9 o d) {r : List Cmd × List Dg} (hr : pEnd o d = r) (hd : d.length = 0) (ho : 300 < o.length) : ParsePost w r (.returned (.tuple #[.slice none 0 0, .slice (some ⟨W.heap.size, 0, none⟩) 1 1])) (W.alloc (.cells #[.int .i64 2, .int .i64 (rd_C o 300).f3] 54)) := by
  rw [pEnd_many hd ho] at hr
  subst hr
  exact ⟨below_alloc h.below _, _, _, rfl, Kd.R_nil _ _ _ _ _, one_diag W _ h.below.size _ _⟩
theorem pLoop_stop {e : Int} {n : Nat} {l : List Tok} {o : List Cmd} {d : List Dg} (h : l.length = 0 ∨ 20 ≤ d.length) : pLoop e n l o d = (o, d) := by
  cases n with
  | zero => rfl
  | succ n => exact if_pos h
theorem pLoop_ok {e : Int} {n : Nat} {l l' : List Tok} {o : List Cmd} {d : List Dg} {c : Cmd} (h : ¬ (l.length = 0 ∨ 20 ≤ d.length)) (hc : cmdR e l = .ok (l', c)) : pLoop e (n + 1) l o d = pLoop e n l' (o ++ [c]) d := by
  show (if l.length = 0 ∨ 20 ≤ d.length then (o, d) else _) = _
  rw [if_neg h, hc]
theorem pLoop_brk {e a : Int} {n : Nat} {l l' : List Tok} {o : List Cmd} {d : List Dg} (h : ¬ (l.length = 0 ∨ 20 ≤ d.length)) (hc : cmdR e l = .error (a, l')) (hi : idxT 0 l' < 0) : pLoop e (n + 1) l o d = (o, d ++ [⟨7, a⟩]) := by
  show (if l.length = 0 ∨ 20 ≤ d.length then (o, d) else _) = _
  rw [if_neg h, hc]
  exact if_pos hi
theorem pLoop_go {e a : Int} {n m : Nat} {l l' : List Tok} {o : List Cmd} {d : List Dg} (h : ¬ (l.length = 0 ∨ 20 ≤ d.length)) (hc : cmdR e l = .error (a, l')) (hi : idxT 0 l' = (m : Nat)) : pLoop e (n + 1) l o d = pLoop e n (l'.drop (m + 1)) o (d ++ [⟨7, a⟩]) := by
  show (if l.length = 0 ∨ 20 ≤ d.length then (o, d) else _) = _
  rw [if_neg h, hc]
  show (if idxT 0 l' < 0 then _ else _) = _
  rw [hi, if_neg (by omega), Int.toNat_natCast]
set_option maxHeartbeats 16000000 in
set_option maxRecDepth 100000 in
theorem parse_any (s : ByteArray) (w : World) (hG : GOK w) : Calls Tryd.prog 20 #[.string s] w (ParsePost w (parseR s)) := by
  have hL := lex_any s w hG
  unfold LexPost at hL
  generalize hr : parseR s = r
  unfold parseR at hr
  cases hx : Lx.lex s.data.toList with
  | error er =>
    rw [hx] at hr hL
    have HR := Lib.hid hr
    have hne : (er.1 != 0) = true := by simpa using lex_err hx
    clear hr hx
    go_enter Tryd.func20, Tryd.ntmps20
    go_wp2_with (go_at_call 21; refine hL.mono ?_; rintro x w1 ⟨hb, rfl⟩)
    go_ret2
    have hr1 := HR.out
    subst hr1
    exact ⟨below_alloc hb _, _, _, rfl, Kd.R_nil _ _ _ _ _, one_diag w1 _ hb.size _ _⟩
  | ok ts =>
    rw [hx] at hr hL
    have HR := Lib.hid hr
    have hts : ts.length ≤ 2000 := by
      unfold Lx.lex at hx
      split at hx
      · cases hx
      · exact (toks_length _ _ hx).2
    clear hr hx
    go_enter Tryd.func20, Tryd.ntmps20
    go_wp2_with fail
    refine hL.mono ?_
    rintro x w1 ⟨hb, v, rfl, hT⟩
    obtain ⟨A, c, rfl, hI⟩ := PI.start hb hT (s.size : Int)
    have hlm : (List.map toTk ts).length = ts.length := by simp
    rw [hlm] at hI
    have HI := Lib.hid hI
    clear hI hT hb hL hlm
    go_wp2_with fail
    generalize (w1.alloc (.cells #[.slice A ts.length c, .int .i64 (s.size : Int), .int .i64 0, .string ⟨#[]⟩, .slice none 0 0, .int .i64 0] 64)) = W0 at HI ⊢
    generalize w1.heap.size = R at HI ⊢
    generalize (s.size : Int) = e at HI HR ⊢
    go_loopg [8, 9] ts.length (fun g v8 v9 W => ∃ (l : List Tok) (o : List Cmd) (d : List Dg) (A8 A9 : Option Addr) (c8 c9 : Nat), v8 = .slice A8 o.length c8 ∧ v9 = .slice A9 d.length c9 ∧ l.length ≤ g ∧ o.length + l.length ≤ 2000 ∧ d.length ≤ 20 ∧ Hid (pEnd (pLoop e g l o d).1 (pLoop e g l o d).2 = r) ∧ Hid (PI w W R e l (.slice A8 o.length c8) (.slice A9 d.length c9) o d))
    case atStart => exact ⟨ts.map toTk, [], [], none, none, 0, 0, rfl, rfl, by simp, by simpa using hts, by simp, HR, HI⟩
    case round =>
      obtain ⟨l, o, d, A8, A9, c8, c9, rfl, rfl, hl, ho, hd, hR, HP⟩ := hrel
      obtain ⟨A0, cap, k_, nm_, vn_, a_, h3, h4, h5, h6⟩ := HP.out.pre
      have q0 : wr.cell? ⟨R, 0, none⟩ = some (.slice A0 l.length cap) := by rw [blk_cell h3]; rfl
      clear h3 h4 h5 h6
      by_cases h0 : l.length = 0 ∨ 20 ≤ d.length
      · have hr1 := hR.out
        rw [pLoop_stop h0] at hr1
        have HR1 := Lib.hid hr1
        clear hR hr1
        by_cases hd0 : 0 < d.length
        · rcases h0 with h0 | h0
          all_goals
            go_wp2_with fail
            all_goals
              go_ret2
              exact HP.out.fin_diags HR1.out hd0
        · have h0' : l.length = 0 := by omega
          have hd1 : d.length = 0 := by omega
          clear h0
          by_cases ho3 : o.length ≤ 300
          · go_wp2_with fail
            go_ret2
            exact HP.out.fin_all HR1.out hd1 ho3
          · obtain ⟨A8', c8', he8, hl8, hC8⟩ := Kd.R_reads HP.out.out
            injection he8 with he8 _ _
            subst he8
            obtain ⟨ad, A2, c2, had, _, _, _, z3', _⟩ := at_C hC8 300 (by decide) (by omega)
            subst had
            have z3 : wr.cell? ⟨ad.block, ad.off + 1200 + 3, none⟩ = some (.int .i64 (rd_C o 300).f3) := z3'
            have ho4 : (300 : Int) < (o.length : Int) := by omega
            clear hC8 z3' hl8
            go_wp2
            refine start_ (n := 8) (S := fun W => W.cell? ⟨ad.block, ad.off + 1200 + 3, none⟩ = some (.int .i64 (rd_C o 300).f3)) (ds := []) #[false, false, false, false, false, false, false, false] (by kernel_rfl) rfl rfl (z3) (fun hHeld => ?_)
            have HPd := Lib.hid (HP.out.alloc (pw_below_drewN (Below.refl _ _) 1))
            have hdr : wr.drewN 1 = wr.drew := rfl
            rw [hdr] at HPd
            clear hdr
            generalize wr.drew = wd at HPd hHeld ⊢
            refine pure_ (i := 0) (N := some 85) (v := ?_) (a' := ?_) #[true, false, false, false, false, false, false, false] rfl rfl (by kernel_rfl) (fun _ _ _ h => h) (Or.inl ⟨by rfl, ?_⟩) ?_ ?_
            rotate_left
            · intro w'
              go_simp
              with_reducible rfl
            rotate_left
            · simp only [Act.put, List.setIfInBounds_toArray, List.set_cons_zero, List.set_cons_succ]
              rfl
            refine pure_ (i := 1) (N := some 86) (v := ?_) (a' := ?_) #[true, true, false, false, false, false, false, false] rfl rfl (by kernel_rfl) (fun _ _ _ h => h) (Or.inl ⟨by rfl, ?_⟩) ?_ ?_
            rotate_left
            · intro w'
              go_simp
              with_reducible rfl
            rotate_left
            · simp only [Act.put, List.setIfInBounds_toArray, List.set_cons_zero, List.set_cons_succ]
              rfl
            refine pure_ (i := 2) (N := some 87) (v := ?_) (a' := ?_) #[true, true, true, false, false, false, false, false] rfl rfl (by kernel_rfl) (fun _ _ _ h => h) (Or.inl ⟨by rfl, ?_⟩) ?_ ?_
            rotate_left
            · intro w'
              go_simp
              with_reducible rfl
            rotate_left
            · simp only [Act.put, List.setIfInBounds_toArray, List.set_cons_zero, List.set_cons_succ]
              rfl
            refine take_ (i := 3) (N := some 88) (v := ?_) (a' := ?_) #[true, true, true, true, false, false, false, false] rfl rfl (by kernel_rfl) (fun _ _ _ h => h) (Or.inl ⟨by rfl, ?_⟩) hHeld ?_ ?_
            rotate_left
            · intro w' hSw
              (try dsimp only at hSw)
              go_simp
              with_reducible rfl
            rotate_left
            · simp only [Act.put, List.setIfInBounds_toArray, List.set_cons_zero, List.set_cons_succ]
              rfl
            refine pure_ (i := 4) (N := some 89) (v := ?_) (a' := ?_) #[true, true, true, true, true, false, false, false] rfl rfl (by kernel_rfl) (fun _ _ _ h => h) (Or.inl ⟨by rfl, ?_⟩) ?_ ?_
            rotate_left
            · intro w'
              go_simp
              with_reducible rfl
            rotate_left
            · simp only [Act.put, List.setIfInBounds_toArray, List.set_cons_zero, List.set_cons_succ]
              rfl
            refine pure_ (i := 6) (N := some 2) (v := ?_) (a' := ?_) #[true, true, true, true, true, false, true, false] rfl rfl (by kernel_rfl) (fun _ _ _ h => h) (Or.inl ⟨by rfl, ?_⟩) ?_ ?_
            rotate_left
            · intro w'
              go_simp
              with_reducible rfl
            rotate_left
            · simp only [Act.put, List.setIfInBounds_toArray, List.set_cons_zero, List.set_cons_succ]
              rfl
            refine one_ (i := 5) (N := some 90) #[true, true, true, true, true, true, true, false] rfl rfl (by kernel_rfl) (by decide) (fun K hK => ?_)
            refine value_ (w1 := ?_) (v := ?_) (by rfl) rfl ?_ ?_
            rotate_left 2
            · go_simp
              constructor
              · rfl
              · rfl
            refine hK.out _ _ ((World.cell?_alloc_lt _ _ _ (World.block_lt_of_cell? _ _ hHeld)).trans hHeld) (fun _ => ?_)
            clear hK K
            refine norm_ (a' := ?_) ?_ ?_
            rotate_left
            · show Act.put _ (some 90) _ = _
              simp only [Act.put, List.setIfInBounds_toArray, List.set_cons_zero, List.set_cons_succ]
              rfl
            refine pure_ (i := 7) (N := some 3) (v := ?_) (a' := ?_) #[true, true, true, true, true, true, true, true] rfl rfl (by kernel_rfl) (fun _ _ _ h => h) (Or.inl ⟨by rfl, ?_⟩) ?_ ?_
            rotate_left
            · intro w'
              go_simp
              with_reducible rfl
            rotate_left
            · simp only [Act.put, List.setIfInBounds_toArray, List.set_cons_zero, List.set_cons_succ]
              rfl
            refine done_ (by kernel_rfl) ?_
            clear hHeld
            go_wp2
            go_ret2
            exact HPd.out.fin_many HR1.out hd1 (by omega)
      · have h1 : 0 < l.length := by omega
        have h2 : d.length < 20 := by omega
        have hl0 : l ≠ [] := List.length_pos_iff.1 h1
        obtain ⟨g, rfl⟩ : ∃ g, gk = g + 1 := ⟨gk - 1, by omega⟩
        have hC := command_any HP.out.pre
        have hRl := HP.out.pre.lt
        cases hc : cmdR e l with
        | ok y =>
          obtain ⟨l', cc⟩ := y
          rw [hc] at hC
          have hr1 := hR.out
          rw [pLoop_ok h0 hc] at hr1
          have hlt := cmdR_ok hc hl0
          have HR1 := Lib.hid hr1
          have HC := Lib.hid hC
          clear hR hr1 hc hC h0 hl0
          go_wp2_with fail
          refine HC.out.mono ?_
          rintro x w2 ⟨hg, rfl, hS⟩
          have hI2 := HP.out.step hg hS.pre
          obtain ⟨A1, cap1, vn, ⟨_, _, c2, c3, c4, c5⟩, hM⟩ := hI2.newC hS (by omega)
          have HI2 := Lib.hid hI2
          have HM := Lib.hid hM
          clear hg hS hI2 hM HP HC q0
          go_wp2_with (at_builtin; (refine Kd.R_append kC (w0 := w2) (R + 1) rfl (.tmp 47) (.tmp 52) 25 40 (.agg #[.int .i64 0, .string ⟨#[]⟩, .slice none 0 0, .int .i64 0]) 56 rfl Tryd.underlying25 infoCmd rfl (by decide) (by decide) (.slice A8 o.length c8) o cc [.int .i64 cc.f0, .string cc.f1, vn, .int .i64 cc.f3] (fun _ => True) (fun k => True ∧ some k ≠ (Value.slice A8 o.length c8).ownBlock) rfl rfl HM.out (fun _ h => h) (fun _ _ => trivial) HI2.out.out (Below.refl _ _) HI2.out.pre.lt (by omega) ?_); (intro v1 w3 HO3 _ hg3 _; obtain ⟨A9', c9', hv1⟩ := Kd.R_slice HO3; rw [List.length_append, List.length_singleton] at hv1; subst hv1))
          have HP3 := Lib.hid (HI2.out.app8 hg3 HO3)
          have hlen : (o ++ [cc]).length = o.length + 1 := by simp
          have HLEN := Lib.hid hlen
          clear hlen HO3 hg3 HI2 HM
          go_roundg g
          case measure => omega
          case rel => exact ⟨l', o ++ [cc], d, A9', A9, c9', c9, by rw [HLEN.out], rfl, by omega, by rw [HLEN.out]; omega, hd, HR1, by rw [HLEN.out]; exact HP3⟩
        | error y =>
          obtain ⟨a, l'⟩ := y
          rw [hc] at hC
          have hle := cmdR_er hc
          have HC := Lib.hid hC
          have HCC := Lib.hid hc
          have H0 := Lib.hid h0
          clear hC hc h0 hl0
          go_wp2_with fail
          refine HC.out.mono ?_
          rintro x w2 ⟨hg, rfl, cc, hS⟩
          have HI2 := Lib.hid (HP.out.step hg hS.pre)
          clear hg hS HP HC q0
          go_wp2_with (at_builtin; go_loud (refine Kd.R_append kD (w0 := w2) (R + 1) rfl (.tmp 54) (.tmp 57) 26 54 (.agg #[.int .i64 0, .int .i64 0]) 16 rfl Tryd.underlying26 infoDiag rfl (by decide) (by decide) (.slice A9 d.length c9) d (⟨7, a⟩ : Dg) [.int .i64 7, .int .i64 a] (fun _ => True) (fun _ => False) rfl rfl (kD_mkM _ _ _ _) (fun _ h => h.elim) (fun _ _ => trivial) HI2.out.dg (Below.refl _ _) HI2.out.pre.lt (by omega) ?_; intro v1 w3 HO3 _ hg3 _; obtain ⟨A9', c9', hv1⟩ := Kd.R_slice HO3; rw [List.length_append, List.length_singleton] at hv1; subst hv1; have HI3 := Lib.hid (HI2.out.app9 hg3 HO3); obtain ⟨A1, cap1, k1_, nm1_, vn1_, a1_, h3, h4, h5, h6⟩ := HI3.out.pre; have q0 : w3.cell? ⟨R, 0, none⟩ = some (.slice A1 l'.length cap1) := (blk_cell h3 0).trans rfl; have q1 := blk_frozen h3 0; have hIx := indexTok_any A1 cap1 l' w3 h5 (by omega); clear HO3 hg3 h3 h5 h6))
          rcases idxT_range l' 0 with hi | ⟨m, hi, hm⟩
          · rw [hi] at hIx
            have hr1 := hR.out
            rw [pLoop_brk H0.out HCC.out (by rw [hi]; decide)] at hr1
            have HR1 := Lib.hid hr1
            have hdl : 0 < (d ++ [(⟨7, a⟩ : Dg)]).length := by simp
            have HDL := Lib.hid hdl
            clear hR hr1 hi HCC H0 hdl
            go_wp2_with (go_at_call 44; refine hIx.mono ?_; rintro x w4 ⟨rfl, hb4⟩)
            go_ret2
            exact (HI3.out.alloc hb4).fin_diags HR1.out HDL.out
          · rw [Nat.zero_add] at hi
            rw [hi] at hIx
            have hr1 := hR.out
            rw [pLoop_go H0.out HCC.out hi] at hr1
            have HR1 := Lib.hid hr1
            clear hR hr1 hi HCC H0
            go_wp2_with fail
            refine hIx.mono ?_
            rintro x w4 ⟨rfl, hb4⟩
            have HI4 := Lib.hid (HI3.out.alloc hb4)
            have hcell : w4.cell? ⟨R, 0, none⟩ = some (.slice A1 l'.length cap1) := (hb4.cell (p := ⟨R, 0, none⟩) (World.block_lt_of_cell? _ _ q0)).trans q0
            have hfz : w4.frozen? ⟨R, 0, none⟩ = false := (hb4.frozen (p := ⟨R, 0, none⟩) (World.block_lt_of_cell? _ _ q0)).trans q1
            have hm1 : ((m : Int) + 1) ≤ l'.length := by omega
            have hm2 : m ≤ 2000 := by omega
            clear q0 q1 hb4 HI3 hIx
            go_wp2
            all_goals
              have hcut := HI4.out.pre.cut hcell (m + 1) (by omega) _ rfl
              have hI5 := HI4.out.step hcut.2 hcut.1
              first | rw [if_pos (by assumption : cap1 = m + 1), show cap1 - (m + 1) = 0 from by omega] at hI5 | rw [if_neg (by assumption : ¬cap1 = m + 1)] at hI5
              have HI5 := Lib.hid hI5
              have HDL := Lib.hid (show (d ++ [(⟨7, a⟩ : Dg)]).length = d.length + 1 by simp)
              have HDR := Lib.hid (show (l'.drop (m + 1)).length = l'.length - (m + 1) from List.length_drop)
              clear hcut hI5 HI4
              go_roundg g
              case measure => omega
              case rel => exact ⟨l'.drop (m + 1), o, d ++ [⟨7, a⟩], A8, A9', c8, c9', rfl, by rw [HDL.out], by rw [HDR.out]; omega, by rw [HDR.out]; omega, by rw [HDL.out]; omega, HR1, by rw [HDL.out]; exact HI5⟩

end Go.Proofs.YtdedlchpjboceaaDoor.Px
end

section
/-
  strings.Builder's methods at a builder that is the first field of the printer's struct 'text': the block bears that struct's type.
-/
namespace Go.Proofs.YtdedlchpjboceaaDoor.Tx
open Go.RowKit Go.Shelf Go.Proofs.YtdedlchpjboceaaDoor.Lx Go.Proofs.YtdedlchpjboceaaDoor.Px Go.Proofs.YtdedlchpjboceaaDoorW.PrintWords Go.Proofs.YtdedlchpjboceaaDoorW.PrintLast Go.Proofs.YtdedlchpjboceaaDoorW.PrintMore
attribute [local go_sem] Oper.semAt_some

/-- A text at block b holds these bytes; what it has made lies from B on. -/
abbrev TxtAt (B b : Nat) (p : Value) (bs : List Value) (w : World) : Prop := Lib.BuilderAtF 81 5 B b p bs w
abbrev Txt (B b : Nat) (bs : List Value) (w : World) : Prop := Lib.IsBuilderF 81 5 B b bs w
theorem liesText : liesAt Tryd.prog Tryd.prog.depth 81 (2 / Tryd.prog.cellsOf 81) 0 79 1 = true := by kernel_rfl
set_option maxHeartbeats 1000000 in
set_option maxRecDepth 100000 in
theorem check_fresh (b : Nat) (w : World) (h0 : w.cell? ⟨b, 0, none⟩ = some (.pointer none)) (hsh : w.shape? b = some (81, 2)) (hfz : w.frozen? ⟨b, 0, none⟩ = false) :
    Calls Tryd.prog 108 #[.pointer (some ⟨b, 0, none⟩)] w fun e w' => e = .returned (.tuple #[]) ∧ w' = w.setCell ⟨b, 0, none⟩ (.pointer (some ⟨b, 0, none⟩)) := by
  obtain ⟨j, hj, hjs⟩ := Option.map_eq_some_iff.1 Tryd.Builder_Extra_166.sizeBuilder
  have t0 := Tryd.underlying79
  have hto : (convert 77 139 (.pointer (some ⟨b, 0, none⟩))).run Tryd.prog w = .ok (.pointer (some ⟨b, 0, none⟩)) w := Lib.run_to_unsafe w ⟨b, 0, none⟩ Tryd.underlying77 Tryd.underlying139 hj (by rw [hjs]; decide) hsh (Nat.zero_lt_succ 1)
  have hfr : (convert 139 77 (.pointer (some ⟨b, 0, none⟩))).run Tryd.prog w = .ok (.pointer (some ⟨b, 0, none⟩)) w := Lib.run_from_unsafe w ⟨b, 0, none⟩ Tryd.underlying139 Tryd.underlying77 hj hsh liesText
  clear hsh
  go_enter Tryd.func108, Tryd.ntmps108
  go_wp2
  rw [run_callFunc_extern Tryd.func122 (by kernel_rfl) (by kernel_rfl) (by kernel_rfl) (e := Extern.AbiNoEscape.same) (by kernel_rfl)]
  rw [Lib.run_noEscape]
  simp only [Result.andThen]
  rw [Oper.upon_value]
  go_wp2
  go_end0
  exact ⟨rfl, rfl⟩
theorem check_any (B b : Nat) (bs : List Value) (w : World) (h : Txt B b bs w) :
    Calls Tryd.prog 108 #[.pointer (some ⟨b, 0, none⟩)] w fun e w' => e = .returned (.tuple #[]) ∧ (TxtAt B b (.pointer (some ⟨b, 0, none⟩)) bs w' ∧ Below B w w' ∧ Lib.OthersKept 5 (some b) w w') := by
  rcases h with h | h
  · refine (check_fresh b w h.cell0 h.shape h.frozen0).mono ?_
    rintro e w' ⟨rfl, rfl⟩
    exact ⟨rfl, h.used _, (Below.refl B w).setCell (p := ⟨b, 0, none⟩) h.1 _, (Lib.OthersKept.refl _ _ w).setCell ⟨b, 0, none⟩ rfl _⟩
  · refine (Any.Builder_copyCheck_used { Tryd.lays166 with } Tryd.Builder_Extra_166.toX72 b w h.cell0).mono ?_
    rintro e w' ⟨rfl, rfl⟩
    exact ⟨rfl, h, Below.refl B _, Lib.OthersKept.refl _ _ _⟩
set_option maxHeartbeats 2000000 in
set_option maxRecDepth 100000 in
theorem writeString_any (B b : Nat) (bs : List Value) (s : ByteArray) (w : World) (h : Txt B b bs w) (hlen : bs.length + s.size ≤ 1000000) (hBw : B ≤ w.heap.size) :
    Calls Tryd.prog 80 #[.pointer (some ⟨b, 0, none⟩), .string s] w fun e w' => e = .returned (.tuple #[.int .i64 s.size, .nilIface]) ∧ (TxtAt B b (.pointer (some ⟨b, 0, none⟩)) (bs ++ Lib.strCells s) w' ∧ Below B w w' ∧ Lib.OthersKept 5 (some b) w w') := by
  obtain ⟨i0, hi, hz0, hz1, hz2⟩ := info_parts Tryd.Builder_Extra_166.infoByte
  have t0 := Tryd.underlying79
  have hck := check_any B b bs w h
  clear h
  go_enter Tryd.func80, Tryd.ntmps80
  go_wp2_with fail
  refine hck.mono ?_
  rintro e w1 ⟨rfl, h1, hb1, hk1⟩
  obtain ⟨hB, v, hbk, hown, hne⟩ := h1
  have c0 : w1.cell? ⟨b, 0, none⟩ = some (.pointer (some ⟨b, 0, none⟩)) := by rw [Lib.cell_of_heap hbk]; rfl
  have c1 : w1.cell? ⟨b, 1, none⟩ = some v := by rw [Lib.cell_of_heap hbk]; rfl
  go_wp2_with (at_builtin; refine Lib.wpList_append_own_stringF _ rfl _ _ 58 9 rfl B 5 i0 Tryd.underlying58 Tryd.underlying9 hi hz0 hz1 hz2 _ _ _ rfl hown s rfl ?c3 ?c4 ?c5 ?_)
  case c3 => unfold maxLen; omega
  case c4 => omega
  case c5 => have := hb1.size; omega
  intro v' w2 hown' hgrow _
  have hlt : b < w1.heap.size := blk_lt hbk
  have hb2 : w2.heap[b]? = some (.cells #[.pointer (some ⟨b, 0, none⟩), v] 81 (0, 0)) := by
    rw [hgrow.block b hlt (fun e => hne e.symm)]
    exact hbk
  have d0 : w2.cell? ⟨b, 0, none⟩ = some (.pointer (some ⟨b, 0, none⟩)) := by rw [Lib.cell_of_heap hb2]; rfl
  have d1 : w2.cell? ⟨b, 1, none⟩ = some v := by rw [Lib.cell_of_heap hb2]; rfl
  have f1 : w2.frozen? ⟨b, 1, none⟩ = false := Lib.frozen_of_heap hb2 1
  obtain ⟨ao, n', cap, rfl⟩ : ∃ ao n' cap, v' = .slice ao n' cap := by
    rcases hown'.2 with ⟨hv, _⟩ | ⟨g, cap, cur, fz, hv, _⟩
    · exact ⟨_, _, _, hv⟩
    · exact ⟨_, _, _, hv⟩
  go_wp2
  go_ret2
  refine ⟨rfl, ?_, ?_, (hk1.grown hgrow (Lib.ownsRowF_kind hown)).setCell ⟨b, 1, none⟩ rfl _⟩
  · exact Lib.BuilderAtF.put (T := 81) (e := 5) hB hb2 (bs' := bs ++ Lib.strCells s) (by simpa [Lib.strCells_length] using hown') (by decide)
  · exact (hb1.grown hgrow (by have := hb1.size; omega) (fun k hk => (hown.lt k hk).1)).setCell (p := ⟨b, 1, none⟩) hB _
set_option maxHeartbeats 2000000 in
set_option maxRecDepth 100000 in
theorem writeRune_any (B b : Nat) (bs : List Value) (r : Int) (h0 : 0 ≤ r) (h1 : r ≤ 127) (w : World) (h : Txt B b bs w) (hlen : bs.length + 4 ≤ 1000000) (hBw : B ≤ w.heap.size) :
    Calls Tryd.prog 81 #[.pointer (some ⟨b, 0, none⟩), .int .i32 r] w fun e w' => (∃ u, e = .returned u) ∧ (TxtAt B b (.pointer (some ⟨b, 0, none⟩)) (bs ++ Lib.runeCells r) w' ∧ Below B w w' ∧ Lib.OthersKept 5 (some b) w w') := by
  have t0 := Tryd.underlying79
  have hck := check_any B b bs w h
  have hk4 := Lib.runeCells_le r
  clear h
  go_enter Tryd.func81, Tryd.ntmps81
  go_wp2_with fail
  refine hck.mono ?_
  rintro e w1 ⟨rfl, h1, hb1, hk1⟩
  obtain ⟨hB, v, hbk, hown, hne⟩ := h1
  obtain ⟨ao, cap, rfl⟩ : ∃ ao cap, v = .slice ao bs.length cap := by
    rcases hown.2 with ⟨hv, h0⟩ | ⟨g, cap, cur, fz, hv, _⟩
    · exact ⟨none, 0, by rw [hv, h0]⟩
    · exact ⟨_, _, hv⟩
  have c0 : w1.cell? ⟨b, 0, none⟩ = some (.pointer (some ⟨b, 0, none⟩)) := by rw [Lib.cell_of_heap hbk]; rfl
  have c1 : w1.cell? ⟨b, 1, none⟩ = some (.slice ao bs.length cap) := by rw [Lib.cell_of_heap hbk]; rfl
  go_wp2_with fail
  refine (Any.utf8_AppendRune_own { Tryd.lays168 with } Tryd.Builder_Extra_168 B _ bs.length bs r (by omega) (by omega) _ hown (by omega) (by have := hb1.size; omega)).mono ?_
  rintro e w2 ⟨v', rfl, hown', o, hgrow⟩
  have hlt : b < w1.heap.size := blk_lt hbk
  have hb2 : w2.heap[b]? = some (.cells #[.pointer (some ⟨b, 0, none⟩), .slice ao bs.length cap] 81 (0, 0)) := by
    rw [hgrow.block b (by simp; omega) (fun e => hne e.symm), Lib.alloc_old w1 _ b hlt]
    exact hbk
  have d0 : w2.cell? ⟨b, 0, none⟩ = some (.pointer (some ⟨b, 0, none⟩)) := by rw [Lib.cell_of_heap hb2]; rfl
  have d1 : w2.cell? ⟨b, 1, none⟩ = some (.slice ao bs.length cap) := by rw [Lib.cell_of_heap hb2]; rfl
  have f1 : w2.frozen? ⟨b, 1, none⟩ = false := Lib.frozen_of_heap hb2 1
  obtain ⟨g, cap', rfl⟩ : ∃ g cap', v' = .slice (some ⟨g, 0, none⟩) (bs.length + (Lib.runeCells r).length) cap' := by
    rcases hown'.2 with ⟨_, h0⟩ | ⟨g, cap', cur, fz, hv, _⟩
    · omega
    · exact ⟨g, cap', hv⟩
  go_wp2
  go_ret2
  refine ⟨⟨_, rfl⟩, ?_, ?_, ((hk1.alloc _).grown hgrow (Lib.ownsRowF_kind (hown.alloc _))).setCell ⟨b, 1, none⟩ rfl _⟩
  · exact Lib.BuilderAtF.put (T := 81) (e := 5) hB hb2 (bs' := bs ++ Lib.runeCells r) (by rw [List.length_append]; exact hown') (by decide)
  · exact ((hb1.alloc (by have := hb1.size; omega) _).grown hgrow (by have := hb1.size; simp; omega) (fun k hk => (hown.lt k hk).1)).setCell (p := ⟨b, 1, none⟩) hB _

set_option maxHeartbeats 2000000 in
set_option maxRecDepth 100000 in
theorem string_nil (B b : Nat) (p : Value) (w : World) (hbk : w.heap[b]? = some (.cells #[p, .slice none 0 0] 81 (0, 0))) :
    Calls Tryd.prog 50 #[.pointer (some ⟨b, 0, none⟩)] w fun e w' => e = .returned (.string ⟨#[]⟩) ∧ Below B w w' ∧ w'.heap[b]? = some (.cells #[p, .slice none 0 0] 81 (0, 0)) := by
  have mixed := Tryd.lays169.mixed
  have hUS : ∀ (W : World) (q : Option Addr), (Builtin.unsafeString_ #[115, 3] 9 #[.pointer q, .int .i64 0]).run Tryd.prog W = .ok (.string ByteArray.empty) W := Any.unsafeString_none Tryd.lays169 Tryd.Builder_Extra_169
  have c1 : w.drew.cell? ⟨b, 1, none⟩ = some (.slice none 0 0) := by
    have : w.drew.heap[b]? = some (.cells #[p, .slice none 0 0] 81 (0, 0)) := hbk
    rw [Lib.cell_of_heap this]; rfl
  have hSD : (Builtin.unsafeSliceData_ #[58] 115 #[.slice none 0 0]).run Tryd.prog w.drew = .ok (.pointer none) w.drew := rfl
  have t0 := Tryd.underlying79
  have hb : w.drew.heap[b]? = some (.cells #[p, .slice none 0 0] 81 (0, 0)) := hbk
  have HB := Lib.hid hb
  clear hbk hb
  go_enter Tryd.func50, Tryd.ntmps50
  go_wp2
  go_region_o
  all_goals (go_wp2; go_ret; exact ⟨rfl, Below.drew (Below.refl B w), HB.out⟩)
set_option maxHeartbeats 2000000 in
set_option maxRecDepth 100000 in
theorem string_some (B b : Nat) (l : List UInt8) (w : World) (h : Txt B b (Lib.byteCells l) w) (h0 : l ≠ []) :
    Calls Tryd.prog 50 #[.pointer (some ⟨b, 0, none⟩)] w fun e w' => e = .returned (.string ⟨l.toArray⟩) ∧ (Txt B b (Lib.byteCells l) w' ∧ Below B w w' ∧ Lib.OthersKept 5 (some b) w w') := by
  obtain ⟨p, hp, hAt⟩ : ∃ p, (p = .pointer none ∨ p = .pointer (some ⟨b, 0, none⟩)) ∧ TxtAt B b p (Lib.byteCells l) w := by
    rcases h with h | h
    · exact ⟨_, .inl rfl, h⟩
    · exact ⟨_, .inr rfl, h⟩
  obtain ⟨hB, v, hbk, hown, hne⟩ := hAt
  have hl0 : l.length ≠ 0 := by simpa using h0
  rw [Lib.byteCells_length] at hown
  obtain ⟨g, cap, cur, fz, rfl, hbg, hg, hfz, hnc, hcm, hcs, htake⟩ : ∃ g cap cur fz, v = .slice (some ⟨g, 0, none⟩) l.length cap ∧ B ≤ g ∧ w.heap[g]? = some (.cells cur 5 fz) ∧ fz.2 ≤ l.length * 1 ∧ l.length ≤ cap ∧ cap ≤ maxLen ∧ cur.size = cap * 1 ∧ cur.toList.take (l.length * 1) = Lib.byteCells l := by
    rcases hown.2 with ⟨_, hz⟩ | ⟨g, cap, cur, fz, hv, r⟩
    · exact absurd hz hl0
    · exact ⟨g, cap, cur, fz, hv, r⟩
  have c1 : w.drew.cell? ⟨b, 1, none⟩ = some (.slice (some ⟨g, 0, none⟩) l.length cap) := by
    have : w.drew.heap[b]? = some (.cells #[p, .slice (some ⟨g, 0, none⟩) l.length cap] 81 (0, 0)) := hbk
    rw [Lib.cell_of_heap this]; rfl
  have hSD : (Builtin.unsafeSliceData_ #[58] 115 #[.slice (some ⟨g, 0, none⟩) l.length cap]).run Tryd.prog w.drew = .ok (.pointer (some ⟨g, 0, none⟩)) w.drew :=
    Lib.run_unsafeSliceData_row _ _ _ _ _ _ (by omega)
  have hUS : (Builtin.unsafeString_ #[115, 3] 9 #[.pointer (some ⟨g, 0, none⟩), .int .i64 l.length]).run Tryd.prog w.drew = .ok (.string ⟨l.toArray⟩) (w.drew.freeze ⟨g, 0, none⟩ l.length) := by
    refine Lib.run_unsafeString_row w.drew 115 3 9 5 Tryd.underlying115 Tryd.Builder_Extra_169.cellsByte g cur.size (by have hg' : w.drew.heap[g]? = some (.cells cur 5 fz) := hg; simp [World.shape?, hg']) l h0 (by omega) (by unfold maxLen at hcm; omega) ?_
    intro j x hx
    exact hown.cells (g := g) rfl j (.int .u8 x.toNat) (by simp [Lib.byteCells, hx])
  have hkeep : Txt B b (Lib.byteCells l) (w.drew.freeze ⟨g, 0, none⟩ l.length) := by
    have hA : TxtAt B b p (Lib.byteCells l) w.drew := ⟨hB, _, hbk, by rw [Lib.byteCells_length]; exact hown, hne⟩
    have hF := hA.froze (g := g) (cap := cap) (by rw [Lib.byteCells_length]; exact c1)
    rw [Lib.byteCells_length] at hF
    rcases hp with rfl | rfl
    · exact .inl hF
    · exact .inr hF
  have mixed := Tryd.lays169.mixed
  have t0 := Tryd.underlying79
  have HX := Lib.hid (And.intro hkeep (And.intro hbg hg))
  clear hkeep hg hown hbk
  go_enter Tryd.func50, Tryd.ntmps50
  go_wp2
  go_region_o
  all_goals (go_wp2; go_ret; exact ⟨rfl, HX.out.1, Lib.below_freeze (Below.drew (Below.refl B w)) (p := ⟨g, 0, none⟩) HX.out.2.1 _, ((Lib.OthersKept.refl _ _ w).drew).freeze ⟨g, 0, none⟩ _ ⟨cur, fz, HX.out.2.2⟩⟩)

end Go.Proofs.YtdedlchpjboceaaDoor.Tx
end

section
/-
  The printer's 'command', walked: a form's text, with the name and the numbers of a command.
-/
namespace Go.Proofs.YtdedlchpjboceaaDoor.Tx
open Go.RowKit Go.Shelf Go.Proofs.YtdedlchpjboceaaDoor.Lx Go.Proofs.YtdedlchpjboceaaDoor.Px Go.Proofs.YtdedlchpjboceaaDoorW.PrintWords Go.Proofs.YtdedlchpjboceaaDoorW.PrintLast Go.Proofs.YtdedlchpjboceaaDoorW.PrintMore
attribute [local go_sem] Oper.semAt_some

/-! ### what it writes -/
def absI (n : Int) : Int := max n (-n)
theorem absI_le {n : Int} (h1 : -1000000000 ≤ n) (h2 : n ≤ 1000000000) : 0 ≤ absI n ∧ absI n ≤ 1000000000 := by unfold absI; omega
def fastW : List UInt8 := [102, 97, 115, 116, 32]
def slowW : List UInt8 := [115, 108, 111, 119, 32]
/-- A form with its name and its numbers laid in; none where numbers lack. -/
def rend : List UInt8 → List UInt8 → List Int → Option (List UInt8)
  | [], _, _ => some []
  | c :: t, nm, ns =>
    if c = 78 then (rend t nm ns).map (fun x => nm ++ x)
    else if c = 37 then (if ns = [] then none else (rend t nm ns.tail).map (fun x => (if ns.headD 0 < 0 then slowW else fastW) ++ (Lib.itoa (absI (ns.headD 0)) ++ x)))
    else if c = 35 then (if ns = [] then none else (rend t nm ns.tail).map (fun x => Lib.itoa (absI (ns.headD 0)) ++ x))
    else (rend t nm ns).map (fun x => c :: x)
theorem rend_name {t nm r : List UInt8} {ns : List Int} (h : rend (78 :: t) nm ns = some r) : ∃ r', rend t nm ns = some r' ∧ r = nm ++ r' := by
  have h' : (rend t nm ns).map (fun x => nm ++ x) = some r := h
  obtain ⟨r', h1, h2⟩ := Option.map_eq_some_iff.1 h'
  exact ⟨r', h1, h2.symm⟩
theorem rend_drift {t nm r : List UInt8} {ns : List Int} (h : rend (37 :: t) nm ns = some r) : ∃ n ns' r', ns = n :: ns' ∧ rend t nm ns' = some r' ∧ r = (if n < 0 then slowW else fastW) ++ (Lib.itoa (absI n) ++ r') := by
  have h' : (if ns = [] then none else (rend t nm ns.tail).map (fun x => (if ns.headD 0 < 0 then slowW else fastW) ++ (Lib.itoa (absI (ns.headD 0)) ++ x))) = some r := h
  cases ns with
  | nil => cases h'
  | cons n ns' =>
    rw [if_neg (by simp)] at h'
    obtain ⟨r', h1, h2⟩ := Option.map_eq_some_iff.1 h'
    exact ⟨n, ns', r', rfl, h1, h2.symm⟩
theorem rend_num {t nm r : List UInt8} {ns : List Int} (h : rend (35 :: t) nm ns = some r) : ∃ n ns' r', ns = n :: ns' ∧ rend t nm ns' = some r' ∧ r = Lib.itoa (absI n) ++ r' := by
  have h' : (if ns = [] then none else (rend t nm ns.tail).map (fun x => Lib.itoa (absI (ns.headD 0)) ++ x)) = some r := h
  cases ns with
  | nil => cases h'
  | cons n ns' =>
    rw [if_neg (by simp)] at h'
    obtain ⟨r', h1, h2⟩ := Option.map_eq_some_iff.1 h'
    exact ⟨n, ns', r', rfl, h1, h2.symm⟩
theorem rend_char {c : UInt8} {t nm r : List UInt8} {ns : List Int} (h1 : c ≠ 78) (h2 : c ≠ 37) (h3 : c ≠ 35) (h : rend (c :: t) nm ns = some r) : ∃ r', rend t nm ns = some r' ∧ r = c :: r' := by
  have h' : (rend t nm ns).map (fun x => c :: x) = some r := by rw [← h]; show _ = (if c = 78 then _ else if c = 37 then _ else if c = 35 then _ else _); rw [if_neg h1, if_neg h2, if_neg h3]
  obtain ⟨r', h1, h2⟩ := Option.map_eq_some_iff.1 h'
  exact ⟨r', h1, h2.symm⟩

/-! ### what stays -/
/-- Itoa's table, whatever lies from B on. -/
def TabsOK (B : Nat) (w : World) : Prop := ∀ w', Below B w w' → Lib.TabIs Tryd.prog w' "internal/strconv.uint64pow10" .u64 Lib.pow10Tab
theorem Txt.len {B b : Nat} {cur : List UInt8} {W : World} (h : Txt B b (Lib.byteCells cur) W) : b < W.heap.size ∧ B ≤ b := by
  rcases h with h | h <;> exact ⟨h.lt, h.1⟩
theorem TxtAt.kept {B b it pos : Nat} {p : Value} {bs : List Value} {W W' : World} {s : ByteArray} (h : TxtAt B b p bs W) (hi : W.heap[it]? = some (.stringIter s pos)) (hg : W.grownBy W' (some it)) : TxtAt B b p bs W' := by
  obtain ⟨hB, v, hb, hown, hne⟩ := h
  refine ⟨hB, v, (hg.block b (blk_lt hb) (fun e => ?_)).trans hb, hown.kept hg ?_, hne⟩
  · have e' : b = it := by injection e
    rw [e', hi] at hb; cases hb
  · rcases hown.2 with ⟨rfl, _⟩ | ⟨g, cap, cur, fz, rfl, _, hgb, _⟩
    · exact .inl rfl
    · refine .inr (fun e => ?_)
      have e' : g = it := by simpa [Value.ownBlock] using e
      rw [e', hi] at hgb; cases hgb
theorem Txt.kept {B b it pos : Nat} {bs : List Value} {W W' : World} {s : ByteArray} (h : Txt B b bs W) (hi : W.heap[it]? = some (.stringIter s pos)) (hg : W.grownBy W' (some it)) : Txt B b bs W' :=
  h.elim (fun h => .inl (TxtAt.kept h hi hg)) (fun h => .inr (TxtAt.kept h hi hg))
theorem TxtAt.below {B b : Nat} {p : Value} {bs : List Value} {W W' : World} (h : TxtAt B b p bs W) (hb : Below W.heap.size W W') : TxtAt B b p bs W' := by
  obtain ⟨hB, v, hbk, hown, hne⟩ := h
  exact ⟨hB, v, blk_below hbk hb, hown.kept (grown_of_below hb none) (by cases v.ownBlock <;> simp), hne⟩
theorem Txt.below {B b : Nat} {bs : List Value} {W W' : World} (h : Txt B b bs W) (hb : Below W.heap.size W W') : Txt B b bs W' :=
  h.elim (fun h => .inl (TxtAt.below h hb)) (fun h => .inr (TxtAt.below h hb))
/-- Between two rounds: the text so far, the command's box. -/
structure CX (B b tb : Nat) (nm : ByteArray) (w0 : World) (cur : List UInt8) (W : World) : Prop where
  txt : Txt B b (Lib.byteCells cur) W
  box : ∃ k vn a, W.heap[tb]? = some (.cells #[.int .i64 k, .string nm, vn, .int .i64 a] 40 (0, 0))
  below : Below B w0 W
  le : B ≤ w0.heap.size
  ne : tb ≠ b
theorem CX.leW {B b tb : Nat} {nm : ByteArray} {w0 W : World} {cur : List UInt8} (h : CX B b tb nm w0 cur W) : B ≤ W.heap.size := Nat.le_trans h.le h.below.size
theorem CX.drew {B b tb : Nat} {nm : ByteArray} {w0 W : World} {cur : List UInt8} (h : CX B b tb nm w0 cur W) : CX B b tb nm w0 cur W.drew :=
  ⟨h.txt.below (Below.drew (Below.refl _ _)), h.box, Below.drew h.below, h.le, h.ne⟩
theorem CX.more {B b tb : Nat} {nm : ByteArray} {w0 W W' : World} {cur : List UInt8} (h : CX B b tb nm w0 cur W) (hb : Below W.heap.size W W') : CX B b tb nm w0 cur W' := by
  obtain ⟨k, vn, a, hx⟩ := h.box
  exact ⟨h.txt.below hb, ⟨k, vn, a, blk_below hx hb⟩, h.below.trans (hb.mono h.leW), h.le, h.ne⟩
theorem CX.iter {B b tb it pos : Nat} {nm s : ByteArray} {w0 W W' : World} {cur : List UInt8} (h : CX B b tb nm w0 cur W) (hi : W.heap[it]? = some (.stringIter s pos)) (hg : W.grownBy W' (some it)) (hB : B ≤ it) : CX B b tb nm w0 cur W' := by
  obtain ⟨k, vn, a, hx⟩ := h.box
  refine ⟨h.txt.kept hi hg, ⟨k, vn, a, (hg.block tb (blk_lt hx) (fun e => ?_)).trans hx⟩, h.below.grown hg h.leW (fun k e => by injection e with e; omega), h.le, h.ne⟩
  have e' : tb = it := by injection e
  rw [e', hi] at hx; cases hx
theorem CX.write {B b tb : Nat} {nm : ByteArray} {w0 W W' : World} {cur : List UInt8} {p : Value} {cs : List Value} {l : List UInt8} (h : CX B b tb nm w0 cur W) (ht : TxtAt B b p (Lib.byteCells cur ++ cs) W') (hp : p = .pointer (some ⟨b, 0, none⟩)) (hcs : cs = Lib.byteCells l) (hb : Below B W W') (hk : Lib.OthersKept 5 (some b) W W') : CX B b tb nm w0 (cur ++ l) W' := by
  obtain ⟨k, vn, a, hx⟩ := h.box
  subst hp
  refine ⟨.inr (by rw [Lib.byteCells_append, ← hcs]; exact ht), ⟨k, vn, a, hk tb _ hx (fun e => h.ne (by injection e)) (fun c fz e => by injection e with _ e; revert e; decide)⟩, h.below.trans hb, h.le, h.ne⟩
theorem iter_kept {b it pos : Nat} {s : ByteArray} {W W' : World} (hi : W.heap[it]? = some (.stringIter s pos)) (hk : Lib.OthersKept 5 (some b) W W') (hne : it ≠ b) : W'.heap[it]? = some (.stringIter s pos) := hk it _ hi (fun e => hne (by injection e)) (fun c fz e => by cases e)
/-- A rune more of an ASCII string. -/
theorem next_step {W : World} {it pos : Nat} {s : ByteArray} (hi : W.heap[it]? = some (.stringIter s pos)) (h : pos < s.size) (ha : (s[pos]'h).toNat < 128) (ty : TypeId) :
    ∃ W', (Instr.next (.pointer (some ⟨it, 0, none⟩)) true ty).run Tryd.prog W = .ok (.tuple #[.bool true, .int .i64 pos, .int .i32 (s[pos]'h).toNat]) W' ∧ W'.heap[it]? = some (.stringIter s (pos + 1)) ∧ W.grownBy W' (some it) := by
  have hlt := blk_lt hi
  refine ⟨{ W with heap := W.heap.setIfInBounds it (.stringIter s (pos + 1)) }, ?_, (MapKept.heap_set hi).1, ⟨rfl, rfl, rfl, by simp, fun k _ hne => (MapKept.heap_set hi).2 k (fun e => hne (by rw [e]))⟩⟩
  simp [Instr.next, getObj, setObj, Sem.run, hi, h, decode_ascii s pos h ha, goInt]
theorem next_end {W : World} {it pos : Nat} {s : ByteArray} (hi : W.heap[it]? = some (.stringIter s pos)) (h : ¬ pos < s.size) (ty : TypeId) :
    (Instr.next (.pointer (some ⟨it, 0, none⟩)) true ty).run Tryd.prog W = .ok (.tuple #[.bool false]) W := by
  simp [Instr.next, getObj, Sem.run, hi, h]
/-- The numbers that are left, as they lie in the argument. -/
def NumsAt (B : Nat) (w0 : World) (A : Option Addr) (c : Nat) (ns : List Int) : Prop :=
  (Kd.int .i64).C w0 A ns.length ns ∧ ns.length ≤ c ∧ (∀ ad, A = some ad → ad.block < B) ∧ ∀ n ∈ ns, -1000000000 ≤ n ∧ n ≤ 1000000000
theorem NumsAt.tail {B : Nat} {w0 : World} {A : Option Addr} {c : Nat} {n : Int} {ns : List Int} (h : NumsAt B w0 A c (n :: ns)) : NumsAt B w0 (if c = 1 then A else A.map (·.add 1)) (c - 1) ns := by
  obtain ⟨h1, h2, h3, h4⟩ := h
  simp only [List.length_cons] at h2
  refine ⟨Kd.C_drop (k := Kd.int .i64) (xs := n :: ns) (m := 1) (c := c) h1 (by simp) (by simpa using h2), by omega, fun ad e => ?_, fun m hm => h4 m (List.mem_cons_of_mem _ hm)⟩
  split at e
  · exact h3 ad e
  · obtain ⟨ad0, e0, rfl⟩ := Option.map_eq_some_iff.1 e
    exact h3 ad0 e0
theorem NumsAt.head {B : Nat} {w0 W : World} {A : Option Addr} {c : Nat} {n : Int} {ns : List Int} (h : NumsAt B w0 A c (n :: ns)) (hb : Below B w0 W) : ∃ ad, A = some ad ∧ W.cell? ad = some (.int .i64 n) := by
  obtain ⟨h1, h2, h3, h4⟩ := h
  have hr := (Kd.reads_of_C (enc := Value.int .i64) (d := (0 : Int)) (h1 := fun _ => rfl) h1)
  obtain ⟨ad, e, hc⟩ := hr.2.2 (by simp)
  have h0 := hc 0 (by simp)
  exact ⟨ad, e, (hb.cell (h3 ad e)).trans h0⟩
theorem nDigits_le : ∀ (k n : Nat), n < 10 ^ (k + 1) → Lib.nDigits n ≤ k + 1
  | 0, n, h => by rw [Lib.nDigits_small (by simpa using h)]; exact Nat.le_refl _
  | k + 1, n, h => by
    by_cases hn : n < 10
    · rw [Lib.nDigits_small hn]; omega
    · rw [Lib.nDigits_big hn]
      have := nDigits_le k (n / 10) (by rw [Nat.pow_succ] at h; omega)
      omega
theorem itoa_le {n : Int} (h1 : -1000000000 ≤ n) (h2 : n ≤ 1000000000) : (Lib.itoa (absI n)).length ≤ 10 := by
  have h := absI_le h1 h2
  unfold Lib.itoa
  rw [if_neg (by omega)]
  rw [Lib.decDigits_length]
  exact nDigits_le 9 _ (by omega)
/-- What 'command' leaves: the text, longer by the command's line. -/
def CmdPost (B b : Nat) (cur tot : List UInt8) (w : World) (x : Ending) (w' : World) : Prop :=
  x = .returned (.tuple #[]) ∧ TxtAt B b (.pointer (some ⟨b, 0, none⟩)) (Lib.byteCells (cur ++ (tot ++ [59, 10]))) w' ∧ Below B w w'
set_option maxHeartbeats 16000000 in
set_option maxRecDepth 100000 in
theorem command_any (B b : Nat) (cur tot : List UInt8) (k a : Int) (nm : ByteArray) (A : Option Addr) (c : Nat) (ns : List Int) (w : World) (fm : ByteArray) (hk0 : 0 ≤ k) (hk1 : k < 12) (hfm : w.cell? ⟨0, k.toNat, none⟩ = some (.string fm)) (hasc : ∀ x ∈ fm.data.toList, x.toNat < 128)
    (hB : B ≤ w.heap.size) (hT : Txt B b (Lib.byteCells cur) w) (htab : TabsOK B w) (hN : NumsAt B w A c ns) (hr : rend fm.data.toList nm.data.toList ns = some tot) (hlen : cur.length + tot.length ≤ 900000) :
    Calls Tryd.prog 49 #[.pointer (some ⟨b, 0, none⟩), .agg #[.int .i64 k, .string nm, .slice A ns.length c, .int .i64 a]] w (CmdPost B b cur tot w) := by
  have hu := Tryd.underlying9
  have t0 := Tryd.underlying81
  have b0 : 0 < w.heap.size := World.block_lt_of_cell? w _ hfm
  obtain ⟨hbw, hBb⟩ := hT.len
  have hX : CX B b w.heap.size nm w cur ((w.alloc (.cells #[.int .i64 k, .string nm, .slice A ns.length c, .int .i64 a] 40)).iter fm 0) :=
    ⟨(hT.below (below_alloc (Below.refl _ _) _)).below (below_alloc (Below.refl _ _) _), ⟨_, _, _, Px.blk_alloc (blk_new _ _) _⟩, ((Below.refl B w).alloc hB _).alloc (by simp; omega) _, hB, by omega⟩
  have hI : ((w.alloc (.cells #[.int .i64 k, .string nm, .slice A ns.length c, .int .i64 a] 40)).iter fm 0).heap[w.heap.size + 1]? = some (.stringIter fm 0) := by
    have := World.iter_heap (w.alloc (.cells #[.int .i64 k, .string nm, .slice A ns.length c, .int .i64 a] 40)) fm 0
    rwa [World.size_alloc] at this
  have HX := Lib.hid hX
  have HI := Lib.hid hI
  have HN := Lib.hid hN
  have HR := Lib.hid (show ∃ t, rend (fm.data.toList.drop 0) nm.data.toList ns = some t ∧ cur ++ t = cur ++ tot from ⟨tot, hr, rfl⟩)
  have HA := Lib.hid hasc
  have HTB := Lib.hid htab
  clear hX hI hN hr hasc htab hT
  go_enter Tryd.func49, Tryd.ntmps49
  go_wp2
  generalize (w.alloc (.cells #[.int .i64 k, .string nm, .slice A ns.length c, .int .i64 a] 40)).iter fm 0 = W0 at HX HI ⊢
  obtain ⟨tb, htb⟩ : ∃ tb, w.heap.size = tb := ⟨_, rfl⟩
  obtain ⟨it, hit⟩ : ∃ it, w.heap.size + 1 = it := ⟨_, rfl⟩
  have hitB : B ≤ it := by omega
  have hitb : it ≠ b := by omega
  rw [hit] at HI ⊢
  rw [htb] at HX ⊢
  clear htb hit
  go_loopg [4] fm.size (fun g v4 W => ∃ (pos : Nat) (out t : List UInt8) (A : Option Addr) (c : Nat) (ns : List Int), pos + g = fm.size ∧ v4 = .slice A ns.length c ∧ Hid (rend (fm.data.toList.drop pos) nm.data.toList ns = some t ∧ out ++ t = cur ++ tot) ∧ Hid (CX B b tb nm w out W) ∧ Hid (W.heap[it]? = some (.stringIter fm pos)) ∧ Hid (NumsAt B w A c ns))
  case atStart =>
    obtain ⟨t, h1, h2⟩ := HR.out
    exact ⟨0, cur, t, A, c, ns, by omega, rfl, Lib.hid ⟨h1, h2⟩, HX, HI, HN⟩
  case round =>
    obtain ⟨pos, out, t, A, c, ns, hp, rfl, HRt, HX, HI, HN⟩ := hrel
    by_cases hlt : pos < fm.size
    · obtain ⟨g, rfl⟩ : ∃ g, gk = g + 1 := ⟨gk - 1, by omega⟩
      obtain ⟨ch, hch⟩ : ∃ ch, fm[pos] = ch := ⟨_, rfl⟩
      have hmem : ch ∈ fm.data.toList := by rw [← hch]; exact Array.getElem_mem_toList _
      have hchA := HA.out ch hmem
      obtain ⟨wr', hnx, hit', hg'⟩ := next_step HI.out hlt (by rw [hch]; exact hchA) 0
      rw [hch] at hnx
      have HX' := Lib.hid (HX.out.iter HI.out hg' hitB)
      obtain ⟨hr1, hr2⟩ := HRt.out
      rw [drop_at fm pos hlt, hch] at hr1
      have hol : out.length + t.length ≤ 900000 := by
        have := congrArg List.length hr2
        simp only [List.length_append] at this; omega
      clear hg' hmem HRt HX HI
      have HX := HX'
      clear HX'
      by_cases h78 : ch = 78
      · subst h78
        obtain ⟨r', hr3, hr4⟩ := rend_name hr1
        obtain ⟨k_, vn_, a_, hbx⟩ := HX.out.box
        have x1 : wr'.cell? ⟨tb, 1, none⟩ = some (.string nm) := by rw [blk_cell hbx]; rfl
        have hsz : out.length + nm.size ≤ 900000 := by
          have : nm.size = nm.data.toList.length := rfl
          rw [hr4] at hol; simp only [List.length_append] at hol; omega
        have HR2 := Lib.hid (And.intro hr3 (show (out ++ nm.data.toList) ++ r' = cur ++ tot by rw [← hr2, hr4, List.append_assoc]))
        clear hr1 hr2 hr3 hr4 hbx hol
        go_wp2
        refine start_ (n := 6) (S := fun W => W.cell? ⟨tb, 1, none⟩ = some (.string nm)) (ds := [5]) #[false, false, false, false, false, false] (by kernel_rfl) rfl rfl (x1) (fun hHeld => ?_)
        have HXd := Lib.hid HX.out.drew
        have HId := Lib.hid (show wr'.drew.heap[it]? = some (.stringIter fm (pos + 1)) from hit')
        clear hit' x1
        generalize wr'.drew = wd at HXd HId hHeld ⊢
        refine pure_ (i := 0) (N := some 26) (v := ?_) (a' := ?_) #[true, false, false, false, false, false] rfl rfl (by kernel_rfl) (fun _ _ _ h => h) (Or.inl ⟨by rfl, ?_⟩) ?_ ?_
        rotate_left
        · intro w'
          go_simp
          with_reducible rfl
        rotate_left
        · simp only [Act.put, List.setIfInBounds_toArray, List.set_cons_zero, List.set_cons_succ]
          rfl
        refine pure_ (i := 1) (N := some 27) (v := ?_) (a' := ?_) #[true, true, false, false, false, false] rfl rfl (by kernel_rfl) (fun _ _ _ h => h) (Or.inl ⟨by rfl, ?_⟩) ?_ ?_
        rotate_left
        · intro w'
          go_simp
          with_reducible rfl
        rotate_left
        · simp only [Act.put, List.setIfInBounds_toArray, List.set_cons_zero, List.set_cons_succ]
          rfl
        refine pure_ (i := 2) (N := some 28) (v := ?_) (a' := ?_) #[true, true, true, false, false, false] rfl rfl (by kernel_rfl) (fun _ _ _ h => h) (Or.inl ⟨by rfl, ?_⟩) ?_ ?_
        rotate_left
        · intro w'
          go_simp
          with_reducible rfl
        rotate_left
        · simp only [Act.put, List.setIfInBounds_toArray, List.set_cons_zero, List.set_cons_succ]
          rfl
        refine pure_ (i := 3) (N := some 29) (v := ?_) (a' := ?_) #[true, true, true, true, false, false] rfl rfl (by kernel_rfl) (fun _ _ _ h => h) (Or.inl ⟨by rfl, ?_⟩) ?_ ?_
        rotate_left
        · intro w'
          go_simp
          with_reducible rfl
        rotate_left
        · simp only [Act.put, List.setIfInBounds_toArray, List.set_cons_zero, List.set_cons_succ]
          rfl
        refine take_ (i := 4) (N := some 30) (v := ?_) (a' := ?_) #[true, true, true, true, true, false] rfl rfl (by kernel_rfl) (fun _ _ _ h => h) (Or.inl ⟨by rfl, ?_⟩) hHeld ?_ ?_
        rotate_left
        · intro w' hSw
          (try dsimp only at hSw)
          go_simp
          with_reducible rfl
        rotate_left
        · simp only [Act.put, List.setIfInBounds_toArray, List.set_cons_zero, List.set_cons_succ]
          rfl
        refine last_ (i := 5) (N := some 31) #[true, true, true, true, true, true] rfl rfl (by kernel_rfl) (by decide) (fun K hK => ?_)
        refine goes_ Tryd.func80 (by kernel_rfl) rfl #[.pointer (some ⟨b, 0, none⟩), .string nm] (by rfl) rfl rfl (by (try simp only [List.map_toArray, List.map_cons, List.map_nil]); first | done | rfl) ?_
        refine (writeString_any B b _ nm wd HXd.out.txt (by rw [Lib.byteCells_length]; omega) HXd.out.leW).mono ?_
        rintro x w2 ⟨rfl, hT2, hB2, hk2⟩
        refine ⟨_, rfl, ?_⟩
        refine hK.out _ _ ?_
        clear hK K
        refine norm_ (a' := ?_) ?_ ?_
        rotate_left
        · show Act.put _ (some 31) _ = _
          simp only [Act.put, List.setIfInBounds_toArray, List.set_cons_zero, List.set_cons_succ]
          rfl
        refine done_ (by kernel_rfl) ?_
        have HX2 := Lib.hid (HXd.out.write hT2 rfl (Lib.strCells_eq nm) hB2 hk2)
        have HI2 := Lib.hid (iter_kept HId.out hk2 hitb)
        clear hT2 hB2 hk2 HXd HId hHeld
        go_wp2
        go_roundg g
        case measure => omega
        case rel => exact ⟨pos + 1, out ++ nm.data.toList, r', A, c, ns, by omega, rfl, HR2, HX2, HI2, HN⟩
      · by_cases h37 : ch = 37
        · subst h37
          obtain ⟨n, ns', r', rfl, hr3, hr4⟩ := rend_drift hr1
          obtain ⟨ad, rfl, y0⟩ := HN.out.head HX.out.below
          have hcc := HN.out.2.1
          have hn0 := HN.out.2.2.2 n (by simp)
          obtain ⟨hn1, hn2⟩ := hn0
          by_cases hneg : n < 0
          · rw [if_pos hneg] at hr4
            have HR2 := Lib.hid (And.intro hr3 (show ((out ++ slowW) ++ Lib.itoa (absI n)) ++ r' = cur ++ tot by rw [← hr2, hr4]; simp only [List.append_assoc]))
            have hsw : out.length ≤ 900000 := by omega
            clear hr1 hr2 hr3 hr4 hol
            go_wp2_with fail
            refine (writeString_any B b _ ⟨#[115, 108, 111, 119, 32]⟩ wr' HX.out.txt (by rw [Lib.byteCells_length]; have : (⟨#[115, 108, 111, 119, 32]⟩ : ByteArray).size = 5 := rfl; omega) HX.out.leW).mono ?_
            rintro x w1 ⟨rfl, hT1, hB1, hk1⟩
            have HX1 := Lib.hid (HX.out.write (l := slowW) hT1 rfl rfl hB1 hk1)
            have hit2 := iter_kept hit' hk1 hitb
            have y1 : w1.cell? ad = some (.int .i64 n) := (hB1.cell (HN.out.2.2.1 ad rfl)).trans y0
            have hol2 : (out ++ slowW).length ≤ 900005 := by rw [List.length_append]; have : slowW.length = 5 := rfl; omega
            clear hT1 hB1 hk1 HX hit' y0
            have HX := HX1
            clear HX1
            go_wp2
            have HMX := Lib.hid (show max n (IntKind.i64.wrap (-n)) = absI n by rw [IntWalk.i64_in _ (by omega)]; rfl)
            refine start_ (n := 13) (S := fun W => W.cell? ad = some (.int .i64 n)) (ds := [11, 12]) #[false, false, false, false, false, false, false, false, false, false, false, false, false] (by kernel_rfl) rfl rfl (y1) (fun hHeld => ?_)
            have HXd := Lib.hid HX.out.drew
            have HId := Lib.hid (show w1.drew.heap[it]? = some (.stringIter fm (pos + 1)) from hit2)
            clear hit2 y1
            generalize w1.drew = wd at HXd HId hHeld ⊢
            refine pure_ (i := 0) (N := some 45) (v := ?_) (a' := ?_) #[true, false, false, false, false, false, false, false, false, false, false, false, false] rfl rfl (by kernel_rfl) (fun _ _ _ h => h) (Or.inl ⟨by rfl, ?_⟩) ?_ ?_
            rotate_left
            · intro w'
              go_simp
              with_reducible rfl
            rotate_left
            · simp only [Act.put, List.setIfInBounds_toArray, List.set_cons_zero, List.set_cons_succ]
              rfl
            refine pure_ (i := 1) (N := some 46) (v := ?_) (a' := ?_) #[true, true, false, false, false, false, false, false, false, false, false, false, false] rfl rfl (by kernel_rfl) (fun _ _ _ h => h) (Or.inl ⟨by rfl, ?_⟩) ?_ ?_
            rotate_left
            · intro w'
              go_simp
              with_reducible rfl
            rotate_left
            · simp only [Act.put, List.setIfInBounds_toArray, List.set_cons_zero, List.set_cons_succ]
              rfl
            refine pure_ (i := 2) (N := some 47) (v := ?_) (a' := ?_) #[true, true, true, false, false, false, false, false, false, false, false, false, false] rfl rfl (by kernel_rfl) (fun _ _ _ h => h) (Or.inl ⟨by rfl, ?_⟩) ?_ ?_
            rotate_left
            · intro w'
              go_simp
              with_reducible rfl
            rotate_left
            · simp only [Act.put, List.setIfInBounds_toArray, List.set_cons_zero, List.set_cons_succ]
              rfl
            refine pure_ (i := 3) (N := some 48) (v := ?_) (a' := ?_) #[true, true, true, true, false, false, false, false, false, false, false, false, false] rfl rfl (by kernel_rfl) (fun _ _ _ h => h) (Or.inl ⟨by rfl, ?_⟩) ?_ ?_
            rotate_left
            · intro w'
              go_simp
              with_reducible rfl
            rotate_left
            · simp only [Act.put, List.setIfInBounds_toArray, List.set_cons_zero, List.set_cons_succ]
              rfl
            refine pure_ (i := 4) (N := some 49) (v := ?_) (a' := ?_) #[true, true, true, true, true, false, false, false, false, false, false, false, false] rfl rfl (by kernel_rfl) (fun _ _ _ h => h) (Or.inl ⟨by rfl, ?_⟩) ?_ ?_
            rotate_left
            · intro w'
              go_simp
              with_reducible rfl
            rotate_left
            · simp only [Act.put, List.setIfInBounds_toArray, List.set_cons_zero, List.set_cons_succ]
              rfl
            refine take_ (i := 5) (N := some 50) (v := ?_) (a' := ?_) #[true, true, true, true, true, true, false, false, false, false, false, false, false] rfl rfl (by kernel_rfl) (fun _ _ _ h => h) (Or.inl ⟨by rfl, ?_⟩) hHeld ?_ ?_
            rotate_left
            · intro w' hSw
              (try dsimp only at hSw)
              go_simp
              with_reducible rfl
            rotate_left
            · simp only [Act.put, List.setIfInBounds_toArray, List.set_cons_zero, List.set_cons_succ]
              rfl
            refine pure_ (i := 6) (N := some 51) (v := ?_) (a' := ?_) #[true, true, true, true, true, true, true, false, false, false, false, false, false] rfl rfl (by kernel_rfl) (fun _ _ _ h => h) (Or.inl ⟨by rfl, ?_⟩) ?_ ?_
            rotate_left
            · intro w'
              go_simp
              with_reducible rfl
            rotate_left
            · simp only [Act.put, List.setIfInBounds_toArray, List.set_cons_zero, List.set_cons_succ]
              rfl
            refine pure_ (i := 7) (N := some 52) (v := ?_) (a' := ?_) #[true, true, true, true, true, true, true, true, false, false, false, false, false] rfl rfl (by kernel_rfl) (fun _ _ _ h => h) (Or.inl ⟨by rfl, ?_⟩) ?_ ?_
            rotate_left
            · intro w'
              go_simp
              with_reducible rfl
            rotate_left
            · simp only [Act.put, List.setIfInBounds_toArray, List.set_cons_zero, List.set_cons_succ]
              rfl
            refine take_ (i := 8) (N := some 53) (v := ?_) (a' := ?_) #[true, true, true, true, true, true, true, true, true, false, false, false, false] rfl rfl (by kernel_rfl) (fun _ _ _ h => h) (Or.inl ⟨by rfl, ?_⟩) hHeld ?_ ?_
            rotate_left
            · intro w' hSw
              (try dsimp only at hSw)
              go_simp
              with_reducible rfl
            rotate_left
            · simp only [Act.put, List.setIfInBounds_toArray, List.set_cons_zero, List.set_cons_succ]
              rfl
            refine pure_ (i := 9) (N := some 54) (v := ?_) (a' := ?_) #[true, true, true, true, true, true, true, true, true, true, false, false, false] rfl rfl (by kernel_rfl) (fun _ _ _ h => h) (Or.inl ⟨by rfl, ?_⟩) ?_ ?_
            rotate_left
            · intro w'
              go_simp
              with_reducible rfl
            rotate_left
            · simp only [Act.put, List.setIfInBounds_toArray, List.set_cons_zero, List.set_cons_succ]
              rfl
            refine pure_ (i := 10) (N := some 55) (v := ?_) (a' := ?_) #[true, true, true, true, true, true, true, true, true, true, true, false, false] rfl rfl (by kernel_rfl) (fun _ _ _ h => h) (Or.inl ⟨by rfl, ?_⟩) ?_ ?_
            rotate_left
            · intro w'
              go_simp
              with_reducible rfl
            rotate_left
            · simp only [Act.put, List.setIfInBounds_toArray, List.set_cons_zero, List.set_cons_succ]
              rfl
            refine last_ (i := 11) (N := some 56) #[true, true, true, true, true, true, true, true, true, true, true, true, false] rfl rfl (by kernel_rfl) (by decide) (fun K hK => ?_)
            refine goes_ Tryd.func40 (by kernel_rfl) rfl #[.int .i64 (absI n)] (by rfl) rfl rfl (by (try simp only [List.map_toArray, List.map_cons, List.map_nil]); first | done | rfl | (simp [Act.eval]; exact HMX.out)) ?_
            refine (Tryd.strconv_Itoa (absI n) (by have := absI_le hn1 hn2; omega) (by have := absI_le hn1 hn2; omega) wd (HTB.out wd HXd.out.below)).mono ?_
            rintro x w2 ⟨rfl, kk, os, rfl⟩
            refine ⟨_, rfl, ?_⟩
            have HX3 := Lib.hid (HXd.out.more (Lib.below_grow _ wd (Nat.le_refl _) kk os))
            have HI3 := Lib.hid (blk_below HId.out (Lib.below_grow _ wd (Nat.le_refl _) kk os))
            refine hK.out _ _ ?_
            clear hK K HXd HId hHeld
            generalize Sort.grow (wd.drewN kk) os = w3 at HX3 HI3 ⊢
            refine norm_ (a' := ?_) ?_ ?_
            rotate_left
            · show Act.put _ (some 56) _ = _
              simp only [Act.put, List.setIfInBounds_toArray, List.set_cons_zero, List.set_cons_succ]
              rfl
            refine last_ (i := 12) (N := some 57) #[true, true, true, true, true, true, true, true, true, true, true, true, true] rfl rfl (by kernel_rfl) (by decide) (fun K hK => ?_)
            refine goes_ Tryd.func80 (by kernel_rfl) rfl #[.pointer (some ⟨b, 0, none⟩), .string ⟨(Lib.itoa (absI n)).toArray⟩] (by rfl) rfl rfl (by (try simp only [List.map_toArray, List.map_cons, List.map_nil]); first | done | rfl) ?_
            refine (writeString_any B b _ ⟨(Lib.itoa (absI n)).toArray⟩ w3 HX3.out.txt (by rw [Lib.byteCells_length]; have := itoa_le hn1 hn2; have hz : (⟨(Lib.itoa (absI n)).toArray⟩ : ByteArray).size = (Lib.itoa (absI n)).length := (by simp [ByteArray.size]); omega) HX3.out.leW).mono ?_
            rintro x w4 ⟨rfl, hT4, hB4, hk4⟩
            refine ⟨_, rfl, ?_⟩
            refine hK.out _ _ ?_
            clear hK K
            refine norm_ (a' := ?_) ?_ ?_
            rotate_left
            · show Act.put _ (some 57) _ = _
              simp only [Act.put, List.setIfInBounds_toArray, List.set_cons_zero, List.set_cons_succ]
              rfl
            refine done_ (by kernel_rfl) ?_
            have HX4 := Lib.hid (HX3.out.write hT4 rfl (Lib.strCells_toArray _) hB4 hk4)
            have HI4 := Lib.hid (iter_kept HI3.out hk4 hitb)
            have HN4 := Lib.hid HN.out.tail
            clear hT4 hB4 hk4 HX3 HI3
            go_wp2
            all_goals
              have hN4 := HN4.out
              first | rw [if_pos (by assumption : c = 1), show c - 1 = 0 from by omega] at hN4 | rw [if_neg (by assumption : ¬c = 1)] at hN4
              have HN5 := Lib.hid hN4
              clear hN4
              go_roundg g
              case measure => omega
              case rel => exact ⟨pos + 1, _, r', _, _, ns', by omega, rfl, HR2, HX4, HI4, HN5⟩
          · rw [if_neg hneg] at hr4
            have HR2 := Lib.hid (And.intro hr3 (show ((out ++ fastW) ++ Lib.itoa (absI n)) ++ r' = cur ++ tot by rw [← hr2, hr4]; simp only [List.append_assoc]))
            have hsw : out.length ≤ 900000 := by omega
            clear hr1 hr2 hr3 hr4 hol
            go_wp2_with fail
            refine (writeString_any B b _ ⟨#[102, 97, 115, 116, 32]⟩ wr' HX.out.txt (by rw [Lib.byteCells_length]; have : (⟨#[102, 97, 115, 116, 32]⟩ : ByteArray).size = 5 := rfl; omega) HX.out.leW).mono ?_
            rintro x w1 ⟨rfl, hT1, hB1, hk1⟩
            have HX1 := Lib.hid (HX.out.write (l := fastW) hT1 rfl rfl hB1 hk1)
            have hit2 := iter_kept hit' hk1 hitb
            have y1 : w1.cell? ad = some (.int .i64 n) := (hB1.cell (HN.out.2.2.1 ad rfl)).trans y0
            have hol2 : (out ++ fastW).length ≤ 900005 := by rw [List.length_append]; have : fastW.length = 5 := rfl; omega
            clear hT1 hB1 hk1 HX hit' y0
            have HX := HX1
            clear HX1
            go_wp2
            have HMX := Lib.hid (show max n (IntKind.i64.wrap (-n)) = absI n by rw [IntWalk.i64_in _ (by omega)]; rfl)
            refine start_ (n := 13) (S := fun W => W.cell? ad = some (.int .i64 n)) (ds := [11, 12]) #[false, false, false, false, false, false, false, false, false, false, false, false, false] (by kernel_rfl) rfl rfl (y1) (fun hHeld => ?_)
            have HXd := Lib.hid HX.out.drew
            have HId := Lib.hid (show w1.drew.heap[it]? = some (.stringIter fm (pos + 1)) from hit2)
            clear hit2 y1
            generalize w1.drew = wd at HXd HId hHeld ⊢
            refine pure_ (i := 0) (N := some 45) (v := ?_) (a' := ?_) #[true, false, false, false, false, false, false, false, false, false, false, false, false] rfl rfl (by kernel_rfl) (fun _ _ _ h => h) (Or.inl ⟨by rfl, ?_⟩) ?_ ?_
            rotate_left
            · intro w'
              go_simp
              with_reducible rfl
            rotate_left
            · simp only [Act.put, List.setIfInBounds_toArray, List.set_cons_zero, List.set_cons_succ]
              rfl
            refine pure_ (i := 1) (N := some 46) (v := ?_) (a' := ?_) #[true, true, false, false, false, false, false, false, false, false, false, false, false] rfl rfl (by kernel_rfl) (fun _ _ _ h => h) (Or.inl ⟨by rfl, ?_⟩) ?_ ?_
            rotate_left
            · intro w'
              go_simp
              with_reducible rfl
            rotate_left
            · simp only [Act.put, List.setIfInBounds_toArray, List.set_cons_zero, List.set_cons_succ]
              rfl
            refine pure_ (i := 2) (N := some 47) (v := ?_) (a' := ?_) #[true, true, true, false, false, false, false, false, false, false, false, false, false] rfl rfl (by kernel_rfl) (fun _ _ _ h => h) (Or.inl ⟨by rfl, ?_⟩) ?_ ?_
            rotate_left
            · intro w'
              go_simp
              with_reducible rfl
            rotate_left
            · simp only [Act.put, List.setIfInBounds_toArray, List.set_cons_zero, List.set_cons_succ]
              rfl
            refine pure_ (i := 3) (N := some 48) (v := ?_) (a' := ?_) #[true, true, true, true, false, false, false, false, false, false, false, false, false] rfl rfl (by kernel_rfl) (fun _ _ _ h => h) (Or.inl ⟨by rfl, ?_⟩) ?_ ?_
            rotate_left
            · intro w'
              go_simp
              with_reducible rfl
            rotate_left
            · simp only [Act.put, List.setIfInBounds_toArray, List.set_cons_zero, List.set_cons_succ]
              rfl
            refine pure_ (i := 4) (N := some 49) (v := ?_) (a' := ?_) #[true, true, true, true, true, false, false, false, false, false, false, false, false] rfl rfl (by kernel_rfl) (fun _ _ _ h => h) (Or.inl ⟨by rfl, ?_⟩) ?_ ?_
            rotate_left
            · intro w'
              go_simp
              with_reducible rfl
            rotate_left
            · simp only [Act.put, List.setIfInBounds_toArray, List.set_cons_zero, List.set_cons_succ]
              rfl
            refine take_ (i := 5) (N := some 50) (v := ?_) (a' := ?_) #[true, true, true, true, true, true, false, false, false, false, false, false, false] rfl rfl (by kernel_rfl) (fun _ _ _ h => h) (Or.inl ⟨by rfl, ?_⟩) hHeld ?_ ?_
            rotate_left
            · intro w' hSw
              (try dsimp only at hSw)
              go_simp
              with_reducible rfl
            rotate_left
            · simp only [Act.put, List.setIfInBounds_toArray, List.set_cons_zero, List.set_cons_succ]
              rfl
            refine pure_ (i := 6) (N := some 51) (v := ?_) (a' := ?_) #[true, true, true, true, true, true, true, false, false, false, false, false, false] rfl rfl (by kernel_rfl) (fun _ _ _ h => h) (Or.inl ⟨by rfl, ?_⟩) ?_ ?_
            rotate_left
            · intro w'
              go_simp
              with_reducible rfl
            rotate_left
            · simp only [Act.put, List.setIfInBounds_toArray, List.set_cons_zero, List.set_cons_succ]
              rfl
            refine pure_ (i := 7) (N := some 52) (v := ?_) (a' := ?_) #[true, true, true, true, true, true, true, true, false, false, false, false, false] rfl rfl (by kernel_rfl) (fun _ _ _ h => h) (Or.inl ⟨by rfl, ?_⟩) ?_ ?_
            rotate_left
            · intro w'
              go_simp
              with_reducible rfl
            rotate_left
            · simp only [Act.put, List.setIfInBounds_toArray, List.set_cons_zero, List.set_cons_succ]
              rfl
            refine take_ (i := 8) (N := some 53) (v := ?_) (a' := ?_) #[true, true, true, true, true, true, true, true, true, false, false, false, false] rfl rfl (by kernel_rfl) (fun _ _ _ h => h) (Or.inl ⟨by rfl, ?_⟩) hHeld ?_ ?_
            rotate_left
            · intro w' hSw
              (try dsimp only at hSw)
              go_simp
              with_reducible rfl
            rotate_left
            · simp only [Act.put, List.setIfInBounds_toArray, List.set_cons_zero, List.set_cons_succ]
              rfl
            refine pure_ (i := 9) (N := some 54) (v := ?_) (a' := ?_) #[true, true, true, true, true, true, true, true, true, true, false, false, false] rfl rfl (by kernel_rfl) (fun _ _ _ h => h) (Or.inl ⟨by rfl, ?_⟩) ?_ ?_
            rotate_left
            · intro w'
              go_simp
              with_reducible rfl
            rotate_left
            · simp only [Act.put, List.setIfInBounds_toArray, List.set_cons_zero, List.set_cons_succ]
              rfl
            refine pure_ (i := 10) (N := some 55) (v := ?_) (a' := ?_) #[true, true, true, true, true, true, true, true, true, true, true, false, false] rfl rfl (by kernel_rfl) (fun _ _ _ h => h) (Or.inl ⟨by rfl, ?_⟩) ?_ ?_
            rotate_left
            · intro w'
              go_simp
              with_reducible rfl
            rotate_left
            · simp only [Act.put, List.setIfInBounds_toArray, List.set_cons_zero, List.set_cons_succ]
              rfl
            refine last_ (i := 11) (N := some 56) #[true, true, true, true, true, true, true, true, true, true, true, true, false] rfl rfl (by kernel_rfl) (by decide) (fun K hK => ?_)
            refine goes_ Tryd.func40 (by kernel_rfl) rfl #[.int .i64 (absI n)] (by rfl) rfl rfl (by (try simp only [List.map_toArray, List.map_cons, List.map_nil]); first | done | rfl | (simp [Act.eval]; exact HMX.out)) ?_
            refine (Tryd.strconv_Itoa (absI n) (by have := absI_le hn1 hn2; omega) (by have := absI_le hn1 hn2; omega) wd (HTB.out wd HXd.out.below)).mono ?_
            rintro x w2 ⟨rfl, kk, os, rfl⟩
            refine ⟨_, rfl, ?_⟩
            have HX3 := Lib.hid (HXd.out.more (Lib.below_grow _ wd (Nat.le_refl _) kk os))
            have HI3 := Lib.hid (blk_below HId.out (Lib.below_grow _ wd (Nat.le_refl _) kk os))
            refine hK.out _ _ ?_
            clear hK K HXd HId hHeld
            generalize Sort.grow (wd.drewN kk) os = w3 at HX3 HI3 ⊢
            refine norm_ (a' := ?_) ?_ ?_
            rotate_left
            · show Act.put _ (some 56) _ = _
              simp only [Act.put, List.setIfInBounds_toArray, List.set_cons_zero, List.set_cons_succ]
              rfl
            refine last_ (i := 12) (N := some 57) #[true, true, true, true, true, true, true, true, true, true, true, true, true] rfl rfl (by kernel_rfl) (by decide) (fun K hK => ?_)
            refine goes_ Tryd.func80 (by kernel_rfl) rfl #[.pointer (some ⟨b, 0, none⟩), .string ⟨(Lib.itoa (absI n)).toArray⟩] (by rfl) rfl rfl (by (try simp only [List.map_toArray, List.map_cons, List.map_nil]); first | done | rfl) ?_
            refine (writeString_any B b _ ⟨(Lib.itoa (absI n)).toArray⟩ w3 HX3.out.txt (by rw [Lib.byteCells_length]; have := itoa_le hn1 hn2; have hz : (⟨(Lib.itoa (absI n)).toArray⟩ : ByteArray).size = (Lib.itoa (absI n)).length := (by simp [ByteArray.size]); omega) HX3.out.leW).mono ?_
            rintro x w4 ⟨rfl, hT4, hB4, hk4⟩
            refine ⟨_, rfl, ?_⟩
            refine hK.out _ _ ?_
            clear hK K
            refine norm_ (a' := ?_) ?_ ?_
            rotate_left
            · show Act.put _ (some 57) _ = _
              simp only [Act.put, List.setIfInBounds_toArray, List.set_cons_zero, List.set_cons_succ]
              rfl
            refine done_ (by kernel_rfl) ?_
            have HX4 := Lib.hid (HX3.out.write hT4 rfl (Lib.strCells_toArray _) hB4 hk4)
            have HI4 := Lib.hid (iter_kept HI3.out hk4 hitb)
            have HN4 := Lib.hid HN.out.tail
            clear hT4 hB4 hk4 HX3 HI3
            go_wp2
            all_goals
              have hN4 := HN4.out
              first | rw [if_pos (by assumption : c = 1), show c - 1 = 0 from by omega] at hN4 | rw [if_neg (by assumption : ¬c = 1)] at hN4
              have HN5 := Lib.hid hN4
              clear hN4
              go_roundg g
              case measure => omega
              case rel => exact ⟨pos + 1, _, r', _, _, ns', by omega, rfl, HR2, HX4, HI4, HN5⟩
        · by_cases h35 : ch = 35
          · subst h35
            obtain ⟨n, ns', r', rfl, hr3, hr4⟩ := rend_num hr1
            obtain ⟨ad, rfl, y1⟩ := HN.out.head HX.out.below
            have hcc := HN.out.2.1
            have hn0 := HN.out.2.2.2 n (by simp)
            obtain ⟨hn1, hn2⟩ := hn0
            have HR2 := Lib.hid (And.intro hr3 (show (out ++ Lib.itoa (absI n)) ++ r' = cur ++ tot by rw [← hr2, hr4]; simp only [List.append_assoc]))
            have hol2 : out.length ≤ 900000 := by omega
            have hit2 := hit'
            clear hr1 hr2 hr3 hr4 hol hit'
            go_wp2
            have HMX := Lib.hid (show max n (IntKind.i64.wrap (-n)) = absI n by rw [IntWalk.i64_in _ (by omega)]; rfl)
            refine start_ (n := 13) (S := fun W => W.cell? ad = some (.int .i64 n)) (ds := [11, 12]) #[false, false, false, false, false, false, false, false, false, false, false, false, false] (by kernel_rfl) rfl rfl (y1) (fun hHeld => ?_)
            have HXd := Lib.hid HX.out.drew
            have HId := Lib.hid (show wr'.drew.heap[it]? = some (.stringIter fm (pos + 1)) from hit2)
            clear hit2 y1
            generalize wr'.drew = wd at HXd HId hHeld ⊢
            refine pure_ (i := 0) (N := some 45) (v := ?_) (a' := ?_) #[true, false, false, false, false, false, false, false, false, false, false, false, false] rfl rfl (by kernel_rfl) (fun _ _ _ h => h) (Or.inl ⟨by rfl, ?_⟩) ?_ ?_
            rotate_left
            · intro w'
              go_simp
              with_reducible rfl
            rotate_left
            · simp only [Act.put, List.setIfInBounds_toArray, List.set_cons_zero, List.set_cons_succ]
              rfl
            refine pure_ (i := 1) (N := some 46) (v := ?_) (a' := ?_) #[true, true, false, false, false, false, false, false, false, false, false, false, false] rfl rfl (by kernel_rfl) (fun _ _ _ h => h) (Or.inl ⟨by rfl, ?_⟩) ?_ ?_
            rotate_left
            · intro w'
              go_simp
              with_reducible rfl
            rotate_left
            · simp only [Act.put, List.setIfInBounds_toArray, List.set_cons_zero, List.set_cons_succ]
              rfl
            refine pure_ (i := 2) (N := some 47) (v := ?_) (a' := ?_) #[true, true, true, false, false, false, false, false, false, false, false, false, false] rfl rfl (by kernel_rfl) (fun _ _ _ h => h) (Or.inl ⟨by rfl, ?_⟩) ?_ ?_
            rotate_left
            · intro w'
              go_simp
              with_reducible rfl
            rotate_left
            · simp only [Act.put, List.setIfInBounds_toArray, List.set_cons_zero, List.set_cons_succ]
              rfl
            refine pure_ (i := 3) (N := some 48) (v := ?_) (a' := ?_) #[true, true, true, true, false, false, false, false, false, false, false, false, false] rfl rfl (by kernel_rfl) (fun _ _ _ h => h) (Or.inl ⟨by rfl, ?_⟩) ?_ ?_
            rotate_left
            · intro w'
              go_simp
              with_reducible rfl
            rotate_left
            · simp only [Act.put, List.setIfInBounds_toArray, List.set_cons_zero, List.set_cons_succ]
              rfl
            refine pure_ (i := 4) (N := some 49) (v := ?_) (a' := ?_) #[true, true, true, true, true, false, false, false, false, false, false, false, false] rfl rfl (by kernel_rfl) (fun _ _ _ h => h) (Or.inl ⟨by rfl, ?_⟩) ?_ ?_
            rotate_left
            · intro w'
              go_simp
              with_reducible rfl
            rotate_left
            · simp only [Act.put, List.setIfInBounds_toArray, List.set_cons_zero, List.set_cons_succ]
              rfl
            refine take_ (i := 5) (N := some 50) (v := ?_) (a' := ?_) #[true, true, true, true, true, true, false, false, false, false, false, false, false] rfl rfl (by kernel_rfl) (fun _ _ _ h => h) (Or.inl ⟨by rfl, ?_⟩) hHeld ?_ ?_
            rotate_left
            · intro w' hSw
              (try dsimp only at hSw)
              go_simp
              with_reducible rfl
            rotate_left
            · simp only [Act.put, List.setIfInBounds_toArray, List.set_cons_zero, List.set_cons_succ]
              rfl
            refine pure_ (i := 6) (N := some 51) (v := ?_) (a' := ?_) #[true, true, true, true, true, true, true, false, false, false, false, false, false] rfl rfl (by kernel_rfl) (fun _ _ _ h => h) (Or.inl ⟨by rfl, ?_⟩) ?_ ?_
            rotate_left
            · intro w'
              go_simp
              with_reducible rfl
            rotate_left
            · simp only [Act.put, List.setIfInBounds_toArray, List.set_cons_zero, List.set_cons_succ]
              rfl
            refine pure_ (i := 7) (N := some 52) (v := ?_) (a' := ?_) #[true, true, true, true, true, true, true, true, false, false, false, false, false] rfl rfl (by kernel_rfl) (fun _ _ _ h => h) (Or.inl ⟨by rfl, ?_⟩) ?_ ?_
            rotate_left
            · intro w'
              go_simp
              with_reducible rfl
            rotate_left
            · simp only [Act.put, List.setIfInBounds_toArray, List.set_cons_zero, List.set_cons_succ]
              rfl
            refine take_ (i := 8) (N := some 53) (v := ?_) (a' := ?_) #[true, true, true, true, true, true, true, true, true, false, false, false, false] rfl rfl (by kernel_rfl) (fun _ _ _ h => h) (Or.inl ⟨by rfl, ?_⟩) hHeld ?_ ?_
            rotate_left
            · intro w' hSw
              (try dsimp only at hSw)
              go_simp
              with_reducible rfl
            rotate_left
            · simp only [Act.put, List.setIfInBounds_toArray, List.set_cons_zero, List.set_cons_succ]
              rfl
            refine pure_ (i := 9) (N := some 54) (v := ?_) (a' := ?_) #[true, true, true, true, true, true, true, true, true, true, false, false, false] rfl rfl (by kernel_rfl) (fun _ _ _ h => h) (Or.inl ⟨by rfl, ?_⟩) ?_ ?_
            rotate_left
            · intro w'
              go_simp
              with_reducible rfl
            rotate_left
            · simp only [Act.put, List.setIfInBounds_toArray, List.set_cons_zero, List.set_cons_succ]
              rfl
            refine pure_ (i := 10) (N := some 55) (v := ?_) (a' := ?_) #[true, true, true, true, true, true, true, true, true, true, true, false, false] rfl rfl (by kernel_rfl) (fun _ _ _ h => h) (Or.inl ⟨by rfl, ?_⟩) ?_ ?_
            rotate_left
            · intro w'
              go_simp
              with_reducible rfl
            rotate_left
            · simp only [Act.put, List.setIfInBounds_toArray, List.set_cons_zero, List.set_cons_succ]
              rfl
            refine last_ (i := 11) (N := some 56) #[true, true, true, true, true, true, true, true, true, true, true, true, false] rfl rfl (by kernel_rfl) (by decide) (fun K hK => ?_)
            refine goes_ Tryd.func40 (by kernel_rfl) rfl #[.int .i64 (absI n)] (by rfl) rfl rfl (by (try simp only [List.map_toArray, List.map_cons, List.map_nil]); first | done | rfl | (simp [Act.eval]; exact HMX.out)) ?_
            refine (Tryd.strconv_Itoa (absI n) (by have := absI_le hn1 hn2; omega) (by have := absI_le hn1 hn2; omega) wd (HTB.out wd HXd.out.below)).mono ?_
            rintro x w2 ⟨rfl, kk, os, rfl⟩
            refine ⟨_, rfl, ?_⟩
            have HX3 := Lib.hid (HXd.out.more (Lib.below_grow _ wd (Nat.le_refl _) kk os))
            have HI3 := Lib.hid (blk_below HId.out (Lib.below_grow _ wd (Nat.le_refl _) kk os))
            refine hK.out _ _ ?_
            clear hK K HXd HId hHeld
            generalize Sort.grow (wd.drewN kk) os = w3 at HX3 HI3 ⊢
            refine norm_ (a' := ?_) ?_ ?_
            rotate_left
            · show Act.put _ (some 56) _ = _
              simp only [Act.put, List.setIfInBounds_toArray, List.set_cons_zero, List.set_cons_succ]
              rfl
            refine last_ (i := 12) (N := some 57) #[true, true, true, true, true, true, true, true, true, true, true, true, true] rfl rfl (by kernel_rfl) (by decide) (fun K hK => ?_)
            refine goes_ Tryd.func80 (by kernel_rfl) rfl #[.pointer (some ⟨b, 0, none⟩), .string ⟨(Lib.itoa (absI n)).toArray⟩] (by rfl) rfl rfl (by (try simp only [List.map_toArray, List.map_cons, List.map_nil]); first | done | rfl) ?_
            refine (writeString_any B b _ ⟨(Lib.itoa (absI n)).toArray⟩ w3 HX3.out.txt (by rw [Lib.byteCells_length]; have := itoa_le hn1 hn2; have hz : (⟨(Lib.itoa (absI n)).toArray⟩ : ByteArray).size = (Lib.itoa (absI n)).length := (by simp [ByteArray.size]); omega) HX3.out.leW).mono ?_
            rintro x w4 ⟨rfl, hT4, hB4, hk4⟩
            refine ⟨_, rfl, ?_⟩
            refine hK.out _ _ ?_
            clear hK K
            refine norm_ (a' := ?_) ?_ ?_
            rotate_left
            · show Act.put _ (some 57) _ = _
              simp only [Act.put, List.setIfInBounds_toArray, List.set_cons_zero, List.set_cons_succ]
              rfl
            refine done_ (by kernel_rfl) ?_
            have HX4 := Lib.hid (HX3.out.write hT4 rfl (Lib.strCells_toArray _) hB4 hk4)
            have HI4 := Lib.hid (iter_kept HI3.out hk4 hitb)
            have HN4 := Lib.hid HN.out.tail
            clear hT4 hB4 hk4 HX3 HI3
            go_wp2
            all_goals
              have hN4 := HN4.out
              first | rw [if_pos (by assumption : c = 1), show c - 1 = 0 from by omega] at hN4 | rw [if_neg (by assumption : ¬c = 1)] at hN4
              have HN5 := Lib.hid hN4
              clear hN4
              go_roundg g
              case measure => omega
              case rel => exact ⟨pos + 1, _, r', _, _, ns', by omega, rfl, HR2, HX4, HI4, HN5⟩
          · obtain ⟨r', hr3, hr4⟩ := rend_char h78 h37 h35 hr1
            have e78 : ((ch.toNat : Int) == 78) = false := beq_eq_false_iff_ne.2 (fun h => h78 (UInt8.toNat_inj.1 (by change ch.toNat = 78; omega)))
            have e37 : ((ch.toNat : Int) == 37) = false := beq_eq_false_iff_ne.2 (fun h => h37 (UInt8.toNat_inj.1 (by change ch.toNat = 37; omega)))
            have e35 : ((ch.toNat : Int) == 35) = false := beq_eq_false_iff_ne.2 (fun h => h35 (UInt8.toNat_inj.1 (by change ch.toNat = 35; omega)))
            have HR2 := Lib.hid (And.intro hr3 (show (out ++ [ch]) ++ r' = cur ++ tot by rw [← hr2, hr4, List.append_assoc]; rfl))
            have hrc : Lib.runeCells (ch.toNat : Int) = Lib.byteCells [ch] := by
              unfold Lib.runeCells; rw [Lib.encodeRuneZ_one (by omega) (by omega)]; rfl
            have HRC := Lib.hid hrc
            have hol2 : out.length ≤ 900000 := by omega
            clear hr1 hr2 hr3 hr4 hol hrc h78 h37 h35
            go_wp2_with fail
            refine (writeRune_any B b _ (ch.toNat : Int) (by omega) (by omega) wr' HX.out.txt (by rw [Lib.byteCells_length]; omega) HX.out.leW).mono ?_
            rintro x w1 ⟨⟨u, rfl⟩, hT1, hB1, hk1⟩
            have HX1 := Lib.hid (HX.out.write (l := [ch]) hT1 rfl HRC.out hB1 hk1)
            have HI1 := Lib.hid (iter_kept hit' hk1 hitb)
            clear hT1 hB1 hk1 HX hit'
            go_wp2
            go_roundg g
            case measure => omega
            case rel => exact ⟨pos + 1, out ++ [ch], r', A, c, ns, by omega, rfl, HR2, HX1, HI1, HN⟩
    · have hpe : pos = fm.size := by omega
      obtain ⟨hr1, hr2⟩ := HRt.out
      rw [List.drop_of_length_le (by rw [list_size]; omega)] at hr1
      have ht : t = [] := by have h' : some ([] : List UInt8) = some t := hr1; injection h' with h'; exact h'.symm
      rw [ht, List.append_nil] at hr2
      have hnx := next_end HI.out hlt 0
      have hol2 : out.length ≤ 900000 := by rw [hr2, List.length_append]; exact hlen
      have HR2 := Lib.hid hr2
      clear hr1 hr2 ht HRt HI
      go_wp2_with fail
      refine (writeString_any B b _ ⟨#[59, 10]⟩ wr HX.out.txt (by rw [Lib.byteCells_length]; have : (⟨#[59, 10]⟩ : ByteArray).size = 2 := rfl; omega) HX.out.leW).mono ?_
      rintro x w1 ⟨rfl, hT1, hB1, hk1⟩
      have HT1 := Lib.hid hT1
      have HB1 := Lib.hid (HX.out.below.trans hB1)
      clear hT1 hB1 hk1 HX
      go_wp2
      exact bodyPost_ret (v := .tuple #[]) (by simp [results, Tryd.results49, go_sem]) rfl ⟨rfl, by rw [← List.append_assoc, ← HR2.out, Lib.byteCells_append]; exact HT1.out, HB1.out⟩

end Go.Proofs.YtdedlchpjboceaaDoor.Tx
end

section
/-
  The printer's forms as bytes; a valid command has a line, which is not long.
-/
namespace Go.Proofs.YtdedlchpjboceaaDoor.Tx
open Go.RowKit Go.Proofs.YtdedlchpjboceaaDoor.Lx Go.Proofs.YtdedlchpjboceaaDoor.Px Go.Proofs.YtdedlchpjboceaaDoorW.PrintWords

/-- The forms, by the commands' kinds. -/
def formsL : List (List UInt8) := [
  [],
  [109, 101, 115, 104, 32, 100, 97, 116, 97, 32, 35, 32, 114, 97, 110, 103, 101, 32, 35],
  [114, 111, 111, 116, 32, 78, 32, 97, 116, 32, 35, 32, 35],
  [110, 111, 100, 101, 32, 78, 32, 97, 116, 32, 35, 32, 35, 32, 37, 32, 98, 97, 116, 116, 101, 114, 121, 32, 35],
  [97, 116, 32, 35, 32, 109, 111, 118, 101, 32, 78, 32, 35, 32, 35],
  [97, 116, 32, 35, 32, 102, 97, 105, 108, 32, 78],
  [97, 116, 32, 35, 32, 115, 116, 97, 114, 116, 32, 78],
  [97, 116, 32, 35, 32, 114, 101, 97, 100, 32, 78, 32, 35],
  [97, 116, 32, 35, 32, 106, 97, 109, 32, 35, 32, 35, 32, 114, 97, 100, 105, 117, 115, 32, 35, 32, 99, 104, 97, 110, 110, 101, 108, 32, 35, 32, 102, 111, 114, 32, 35],
  [97, 116, 32, 35, 32, 114, 101, 112, 108, 97, 121, 32, 35, 32, 97, 116, 32, 35, 32, 35],
  [97, 116, 32, 35, 32, 112, 114, 111, 103, 114, 97, 109, 32, 35, 32, 115, 105, 122, 101, 32, 35],
  [114, 117, 110, 32, 35]]
def formB (k : Int) : List UInt8 := formsL.getD k.toNat []
theorem rend_some : ∀ (fm nm : List UInt8) (ns : List Int), (fm.countP (fun c => c = 37 ∨ c = 35)) ≤ ns.length → (∀ n ∈ ns, -1000000000 ≤ n ∧ n ≤ 1000000000) →
    ∃ t, rend fm nm ns = some t ∧ t.length ≤ fm.length * (15 + nm.length)
  | [], nm, ns, _, _ => ⟨[], rfl, by simp⟩
  | c :: fm, nm, ns, h, hb => by
    have hmul : (c :: fm).length * (15 + nm.length) = fm.length * (15 + nm.length) + (15 + nm.length) := by rw [List.length_cons, Nat.succ_mul]
    rw [hmul]
    by_cases h78 : c = 78
    · subst h78
      rw [List.countP_cons_of_neg (by decide)] at h
      obtain ⟨t, h1, h2⟩ := rend_some fm nm ns h hb
      exact ⟨nm ++ t, by show (rend fm nm ns).map _ = _; rw [h1]; rfl, by rw [List.length_append]; omega⟩
    · by_cases h37 : c = 37
      · subst h37
        rw [List.countP_cons_of_pos (by decide)] at h
        cases ns with
        | nil => simp at h
        | cons n ns =>
          obtain ⟨t, h1, h2⟩ := rend_some fm nm ns (by simpa using h) (fun m hm => hb m (List.mem_cons_of_mem _ hm))
          have hi := itoa_le (hb n (by simp)).1 (hb n (by simp)).2
          refine ⟨(if n < 0 then slowW else fastW) ++ (Lib.itoa (absI n) ++ t), ?_, ?_⟩
          · show (if n :: ns = [] then none else (rend fm nm ns).map (fun x => (if n < 0 then slowW else fastW) ++ (Lib.itoa (absI n) ++ x))) = _
            rw [if_neg (by simp), h1]; rfl
          · have : (if n < 0 then slowW else fastW).length = 5 := by split <;> rfl
            rw [List.length_append, List.length_append, this]; omega
      · by_cases h35 : c = 35
        · subst h35
          rw [List.countP_cons_of_pos (by decide)] at h
          cases ns with
          | nil => simp at h
          | cons n ns =>
            obtain ⟨t, h1, h2⟩ := rend_some fm nm ns (by simpa using h) (fun m hm => hb m (List.mem_cons_of_mem _ hm))
            have hi := itoa_le (hb n (by simp)).1 (hb n (by simp)).2
            refine ⟨Lib.itoa (absI n) ++ t, ?_, ?_⟩
            · show (if n :: ns = [] then none else (rend fm nm ns).map (fun x => Lib.itoa (absI n) ++ x)) = _
              rw [if_neg (by simp), h1]; rfl
            · rw [List.length_append]; omega
        · rw [List.countP_cons_of_neg (by simp [h37, h35])] at h
          obtain ⟨t, h1, h2⟩ := rend_some fm nm ns h hb
          refine ⟨c :: t, ?_, by rw [List.length_cons]; omega⟩
          show (if c = 78 then _ else if c = 37 then _ else if c = 35 then _ else _) = _
          rw [if_neg h78, if_neg h37, if_neg h35, h1]; rfl
/-- The line of a command, without its end. -/
def lineT (c : Cmd) : List UInt8 := (rend (formB c.f0) c.f1.data.toList c.f2).getD []
theorem numsB_bd {kd : Int} : ∀ {ns : List Int} {i : Nat}, numsB kd i ns = true → ∀ n ∈ ns, -1000000000 ≤ n ∧ n ≤ 1000000000
  | [], _, _, n, hn => by cases hn
  | m :: ns, i, h, n, hn => by
    have h' : (numB kd i m && numsB kd (i + 1) ns) = true := h
    rw [Bool.and_eq_true] at h'
    rcases List.mem_cons.1 hn with rfl | hn
    · have := h'.1
      unfold numB at this
      rw [decide_eq_true_eq] at this
      omega
    · exact numsB_bd h'.2 n hn
theorem valid_kind {c : Cmd} (h : cB c = true) : 1 ≤ c.f0 ∧ c.f0 ≤ 11 ∧ (c.f2.length : Int) = (shp c.f0).2 ∧ c.f1.data.toList.length ≤ 12 ∧ ∀ n ∈ c.f2, -1000000000 ≤ n ∧ n ≤ 1000000000 := by
  unfold cB cmdB at h
  simp only [Bool.and_eq_true, decide_eq_true_eq] at h
  obtain ⟨⟨⟨h1, h2⟩, h3⟩, h4⟩ := h
  have hk : 1 ≤ c.f0 ∧ c.f0 ≤ 11 := by
    by_cases hk : 1 ≤ c.f0 ∧ c.f0 ≤ 11
    · exact hk
    · have hs : shp c.f0 = (false, -1) := by unfold shp; simp only [show ¬ c.f0 = 1 by omega, show ¬ c.f0 = 2 by omega, show ¬ c.f0 = 3 by omega, show ¬ c.f0 = 4 by omega, show ¬ c.f0 = 5 by omega, show ¬ c.f0 = 6 by omega, show ¬ c.f0 = 7 by omega, show ¬ c.f0 = 8 by omega, show ¬ c.f0 = 9 by omega, show ¬ c.f0 = 10 by omega, show ¬ c.f0 = 11 by omega, if_false, or_self]
      rw [hs] at h1
      simp only at h1
      omega
  refine ⟨hk.1, hk.2, h1, ?_, numsB_bd h4⟩
  rw [Bool.or_eq_true] at h3
  rcases h3 with h3 | h3
  · have hb : (shp c.f0).1 = false := by simpa using h3
    rw [hb] at h2
    have hd : decide (c.f1.data.toList ≠ []) = false := by simpa using h2
    have : c.f1.data.toList = [] := by simpa using hd
    rw [this]; decide
  · unfold nameB at h3
    simp only [Bool.and_eq_true, decide_eq_true_eq] at h3
    exact h3.1.1.2
theorem form_count {k : Int} (h1 : 1 ≤ k) (h2 : k ≤ 11) : (((formB k).countP (fun c => c = 37 ∨ c = 35) : Nat) : Int) = (shp k).2 ∧ (formB k).length ≤ 40 ∧ ∀ x ∈ formB k, x.toNat < 128 := by
  rcases (by omega : k = 1 ∨ k = 2 ∨ k = 3 ∨ k = 4 ∨ k = 5 ∨ k = 6 ∨ k = 7 ∨ k = 8 ∨ k = 9 ∨ k = 10 ∨ k = 11) with rfl | rfl | rfl | rfl | rfl | rfl | rfl | rfl | rfl | rfl | rfl <;> decide
theorem line_valid {c : Cmd} (h : cB c = true) : rend (formB c.f0) c.f1.data.toList c.f2 = some (lineT c) ∧ (lineT c).length ≤ 1080 := by
  obtain ⟨h1, h2, h3, h4, h5⟩ := valid_kind h
  obtain ⟨f1, f2, f3⟩ := form_count h1 h2
  obtain ⟨t, ht, hl⟩ := rend_some (formB c.f0) c.f1.data.toList c.f2 (by omega) h5
  unfold lineT
  rw [ht]
  refine ⟨rfl, ?_⟩
  show t.length ≤ 1080
  have : (formB c.f0).length * (15 + c.f1.data.toList.length) ≤ 40 * 27 := Nat.mul_le_mul f2 (by omega)
  omega
/-- The text of commands: a line each. -/
def printB (l : List Cmd) : List UInt8 := l.flatMap (fun c => lineT c ++ [59, 10])
theorem printB_snoc (l : List Cmd) (c : Cmd) : printB (l ++ [c]) = printB l ++ (lineT c ++ [59, 10]) := by simp [printB]
theorem printB_len : ∀ (l : List Cmd), (∀ c ∈ l, cB c = true) → (printB l).length ≤ l.length * 1082
  | [], _ => by simp [printB]
  | c :: l, h => by
    have h1 := (line_valid (h c (by simp))).2
    have h2 := printB_len l (fun d hd => h d (List.mem_cons_of_mem _ hd))
    have e : printB (c :: l) = (lineT c ++ [59, 10]) ++ printB l := rfl
    rw [e, List.length_append, List.length_append]
    simp only [List.length_cons, List.length_nil]; omega
/-- 'Print': its text and its error. -/
def printR (l : List Cmd) : ByteArray × Int :=
  if validB l = true then (match Lx.lex (printB l) with | .ok _ => (⟨(printB l).toArray⟩, 0) | .error _ => (⟨#[]⟩, 2)) else (⟨#[]⟩, 1)

end Go.Proofs.YtdedlchpjboceaaDoor.Tx
end

section
/-
  The printer's 'Print', walked.
-/
namespace Go.Proofs.YtdedlchpjboceaaDoor.Tx
open Go.RowKit Go.Shelf Go.Proofs.YtdedlchpjboceaaDoor.Lx Go.Proofs.YtdedlchpjboceaaDoor.Px Go.Proofs.YtdedlchpjboceaaDoorW.PrintWords Go.Proofs.YtdedlchpjboceaaDoorW.PrintLast Go.Proofs.YtdedlchpjboceaaDoorW.PrintMore
attribute [local go_sem] Oper.semAt_some

/-- The premises on the world: the error's variable, the forms, Itoa's table. -/
structure GP (w : World) : Prop where
  gok : GOK w
  forms : ∀ k : Int, 0 ≤ k → k < 12 → w.cell? ⟨0, k.toNat, none⟩ = some (.string ⟨(formB k).toArray⟩)
  tab : Lib.TabIs Tryd.prog w "internal/strconv.uint64pow10" .u64 Lib.pow10Tab
theorem GP.below {w w' : World} (h : GP w) (hb : Below w.heap.size w w') : GP w' :=
  ⟨h.gok.below hb, fun k h0 h1 => (hb.cell (p := ⟨0, k.toNat, none⟩) (World.block_lt_of_cell? w _ (h.forms k h0 h1))).trans (h.forms k h0 h1), Lib.tabBelow_of_tabIs h.tab w' hb⟩
theorem GP.tabs {w : World} (h : GP w) : TabsOK w.heap.size w := fun w' hb => Lib.tabBelow_of_tabIs h.tab w' hb
/-- A row of numbers of the argument, with its bounds. -/
theorem nums_at {w W : World} {B : Nat} {A : Option Addr} {c : Nat} {ns : List Int} (hC : (Kd.int .i64).C w A ns.length ns) (hc : ns.length ≤ c) (hB : w.heap.size = B) (hb : Below B w W) (hn : ∀ n ∈ ns, -1000000000 ≤ n ∧ n ≤ 1000000000) (hne : 0 < ns.length) : NumsAt B W A c ns := by
  subst hB
  refine ⟨Kd.C_below hC hb, hc, fun ad e => ?_, hn⟩
  have hr := (Kd.reads_of_C (enc := Value.int .i64) (d := (0 : Int)) (h1 := fun _ => rfl) hC)
  obtain ⟨ad', e', hcell⟩ := hr.2.2 hne
  rw [e'] at e; injection e with e; subst e
  exact World.block_lt_of_cell? w _ (hcell 0 hne)
theorem validB_all {l : List Cmd} (h : validB l = true) : l.length ≤ 300 ∧ ∀ c ∈ l, cB c = true := by
  unfold validB at h
  rw [Bool.and_eq_true, decide_eq_true_eq] at h
  exact ⟨by omega, fun c hc => List.all_eq_true.1 h.2 c hc⟩
/-- What Print answers. -/
def PrintPost (w : World) (r : ByteArray × Int) (x : Ending) (w' : World) : Prop := x = .returned (.tuple #[.string r.1, .int .i64 r.2]) ∧ Below w.heap.size w w'
set_option maxHeartbeats 8000000 in
set_option maxRecDepth 100000 in
theorem print_invalid (A : Option Addr) (c : Nat) (l : List Cmd) (w : World) (hC : Kd.C kC w A l.length l) (hv : validB l = false) :
    Calls Tryd.prog 27 #[.slice A l.length c] w (PrintPost w (printR l)) := by
  have hr : printR l = (⟨#[]⟩, 1) := by unfold printR; rw [hv]; rfl
  rw [hr]
  have hV := valid_any A c l w hC
  rw [hv] at hV
  clear hr hC hv
  go_enter Tryd.func27, Tryd.ntmps27
  go_wp2_with fail
  refine hV.mono ?_
  rintro x w1 ⟨rfl, hb⟩
  go_wp2
  go_ret2
  exact ⟨rfl, hb⟩
set_option maxHeartbeats 8000000 in
set_option maxRecDepth 100000 in
theorem print_nil (A : Option Addr) (c : Nat) (w : World) (hG : GP w) (hC : Kd.C kC w A 0 []) :
    Calls Tryd.prog 27 #[.slice A 0 c] w (PrintPost w (printR [])) := by
  have hlex : Lx.lex (printB []) = .ok [] := by
    have e : printB [] = [] := rfl
    rw [e]; unfold Lx.lex; rw [if_neg (by simp), spans_nil]; rfl
  have hr : printR [] = (⟨#[]⟩, 0) := by
    unfold printR
    rw [if_pos (by rfl), hlex]; rfl
  rw [hr]
  clear hlex
  have hV : Calls Tryd.prog 35 #[.slice A 0 c] w fun e w' => e = .returned (.bool true) ∧ Below w.heap.size w w' := valid_any A c [] w hC
  have HG := Lib.hid hG
  clear hr hC hG
  go_enter Tryd.func27, Tryd.ntmps27
  go_wp2_with fail
  refine hV.mono ?_
  rintro x w1 ⟨rfl, hb⟩
  have hb0 : w.heap.size ≤ w1.heap.size := hb.size
  have HB := Lib.hid (below_alloc hb (.cells #[.pointer none, .slice none 0 0] 81))
  have HK := Lib.hid (blk_new w1 (.cells #[.pointer none, .slice none 0 0] 81))
  have hu := Tryd.underlying81
  clear hb hV
  go_wp2_with fail
  generalize w1.alloc (.cells #[.pointer none, .slice none 0 0] 81) = W0 at HB HK ⊢
  go_loopg [15] 0 (fun g v W => v = .int .i64 0 ∧ W0 = W)
  case atStart => exact ⟨rfl, rfl⟩
  case round =>
    obtain ⟨rfl, rfl⟩ := hrel
    go_wp2_with fail
    refine (string_nil w1.heap.size w1.heap.size _ W0 HK.out).mono ?_
    rintro x w2 ⟨rfl, hb2, hk2⟩
    have HB2 := Lib.hid (HB.out.trans (hb2.mono hb0))
    have HK2 := Lib.hid hk2
    clear hb2 hk2
    go_wp2_with fail
    refine (lex_any _ w2 (HG.out.below HB2.out).gok).mono ?_
    rintro x w3 ⟨hb3, hx⟩
    have hle : Lx.lex (⟨#[]⟩ : ByteArray).data.toList = .ok [] := by
      show Lx.lex [] = _
      unfold Lx.lex; rw [if_neg (by simp), spans_nil]; rfl
    rw [hle] at hx
    obtain ⟨v, rfl, _⟩ := hx
    have HB3 := Lib.hid (below_then HB2.out HB2.out.size hb3)
    have HK3 := Lib.hid (blk_below HK2.out hb3)
    clear hb3 hle
    go_wp2_with fail
    refine (string_nil w1.heap.size w1.heap.size _ w3 HK3.out).mono ?_
    rintro x w4 ⟨rfl, hb4, _⟩
    have HB4 := Lib.hid (HB3.out.trans (hb4.mono hb0))
    clear hb4
    go_wp2
    go_ret2
    exact ⟨rfl, HB4.out⟩
set_option maxHeartbeats 16000000 in
set_option maxRecDepth 100000 in
theorem print_some (A : Option Addr) (c : Nat) (l : List Cmd) (w : World) (hG : GP w) (hC : Kd.C kC w A l.length l) (hv : validB l = true) (hne : l ≠ []) :
    Calls Tryd.prog 27 #[.slice A l.length c] w (PrintPost w (printR l)) := by
  obtain ⟨hl, hval⟩ := validB_all hv
  have hV := valid_any A c l w hC
  rw [hv] at hV
  have hr : printR l = (match Lx.lex (printB l) with | .ok _ => (⟨(printB l).toArray⟩, 0) | .error _ => (⟨#[]⟩, 2)) := if_pos hv
  generalize printR l = r at hr ⊢
  have HR := Lib.hid hr
  have HG := Lib.hid hG
  have HC := Lib.hid hC
  have HVAL := Lib.hid hval
  have hn0 : 0 < l.length := List.length_pos_iff.2 hne
  clear hr hC hG hv hval hne
  obtain ⟨B, hB⟩ : ∃ B, w.heap.size = B := ⟨_, rfl⟩
  have HBw := Lib.hid hB
  go_enter Tryd.func27, Tryd.ntmps27
  go_wp2_with fail
  refine hV.mono ?_
  rintro x w1 ⟨rfl, hb⟩
  rw [hB] at hb
  have hbs := hb.size
  rw [hB] at hbs
  have hb1 := hb.alloc hbs (.cells #[.pointer none, .slice none 0 0] 81)
  have HT := Lib.hid (show Txt B w1.heap.size (Lib.byteCells (printB (l.take 0))) (w1.alloc (.cells #[.pointer none, .slice none 0 0] 81)) from .inl ⟨hbs, _, blk_new _ _, World.ownsRowF_nil _ _ _ _, by simp [Value.ownBlock]⟩)
  have HB := Lib.hid hb1
  have hu := Tryd.underlying81
  have hu2 := Tryd.underlying40
  clear hb hV hb1 hB
  go_wp2_with fail
  generalize w1.alloc (.cells #[.pointer none, .slice none 0 0] 81) = W0 at HB HT ⊢
  obtain ⟨b, hbb⟩ : ∃ b, w1.heap.size = b := ⟨_, rfl⟩
  rw [hbb] at HT hbs ⊢
  clear hbb
  go_loopg [15] l.length (fun g v W => ∃ k : Nat, k + g = l.length ∧ v = .int .i64 k ∧ Hid (Txt B b (Lib.byteCells (printB (l.take k))) W) ∧ Hid (Below B w W))
  case atStart => exact ⟨0, by omega, rfl, HT, HB⟩
  case round =>
    obtain ⟨k, hk, rfl, HT, HB⟩ := hrel
    by_cases hlt : k < l.length
    · obtain ⟨g, rfl⟩ : ∃ g, gk = g + 1 := ⟨gk - 1, by omega⟩
      obtain ⟨ad, A2, c2, e, h0, h1, h2, h3, hl2, hi2⟩ := at_C HC.out (k : Int) (by omega) (by omega)
      cases e
      have hbelow : Below w.heap.size w wr := by rw [HBw.out]; exact HB.out
      replace h0 := (hbelow.cell (World.block_lt_of_cell? w _ h0)).trans h0
      replace h1 := (hbelow.cell (World.block_lt_of_cell? w _ h1)).trans h1
      replace h2 := (hbelow.cell (World.block_lt_of_cell? w _ h2)).trans h2
      replace h3 := (hbelow.cell (World.block_lt_of_cell? w _ h3)).trans h3
      rw [Int.toNat_natCast] at h0 h1 h2 h3
      have hx : rd_C l (k : Int) = l[k] := by unfold rd_C; rw [Int.toNat_natCast, List.getD_eq_getElem?_getD, List.getElem?_eq_getElem hlt]; rfl
      have hvx : cB (rd_C l (k : Int)) = true := by rw [hx]; exact HVAL.out _ (List.getElem_mem hlt)
      have HTK := Lib.hid (show printB (l.take (k + 1)) = printB (l.take k) ++ (lineT (rd_C l (k : Int)) ++ [59, 10]) by rw [List.take_succ_eq_append_getElem hlt, printB_snoc, hx])
      generalize rd_C l (k : Int) = x at h0 h1 h2 h3 hl2 hi2 hvx HTK
      obtain ⟨hk1, hk2, hk3, hk4, hk5⟩ := valid_kind hvx
      obtain ⟨hlr, hll⟩ := line_valid hvx
      have hlen := printB_len (l.take k) (fun d hd => HVAL.out d (List.mem_of_mem_take hd))
      have htk : (l.take k).length ≤ 300 := by rw [List.length_take]; omega
      have hba : Below B w (wr.alloc (.cells #[.int .i64 x.f0, .string x.f1, .slice A2 x.f2.length c2, .int .i64 x.f3] 40)) := HB.out.alloc (by have := HB.out.size; have := HBw.out; omega) _
      have hGP := HG.out.below (by rw [HBw.out]; exact hba)
      have hnz : 0 < x.f2.length := by
        have : (0 : Int) < (shp x.f0).2 := by
          rcases (by omega : x.f0 = 1 ∨ x.f0 = 2 ∨ x.f0 = 3 ∨ x.f0 = 4 ∨ x.f0 = 5 ∨ x.f0 = 6 ∨ x.f0 = 7 ∨ x.f0 = 8 ∨ x.f0 = 9 ∨ x.f0 = 10 ∨ x.f0 = 11) with e | e | e | e | e | e | e | e | e | e | e <;> rw [e] <;> decide
        omega
      have hCm := command_any B b (printB (l.take k)) (lineT x) x.f0 x.f3 x.f1 A2 c2 x.f2 (wr.alloc (.cells #[.int .i64 x.f0, .string x.f1, .slice A2 x.f2.length c2, .int .i64 x.f3] 40)) ⟨(formB x.f0).toArray⟩ (by omega) (by omega) (hGP.forms x.f0 (by omega) (by omega)) (form_count hk1 hk2).2.2
        (by have := hba.size; have := HBw.out; omega) (HT.out.below (below_alloc (Below.refl _ _) _)) (fun w' hw' => HG.out.tabs w' (by rw [HBw.out]; exact hba.trans hw')) (nums_at hi2 hl2 HBw.out hba hk5 hnz) hlr (by omega)
      have HCm := Lib.hid hCm
      have HBA := Lib.hid hba
      clear hi2 hvx hbelow hk1 hk2 hk3 hk4 hk5 hlr hll hlen htk hba hGP hCm hl2 hnz
      go_wp2_with fail
      refine HCm.out.mono ?_
      rintro x w2 ⟨rfl, hT2, hb2⟩
      have HT2 := Lib.hid (show Txt B b (Lib.byteCells (printB (l.take (k + 1)))) w2 by rw [HTK.out]; exact .inr hT2)
      have HB2 := Lib.hid (HBA.out.trans hb2)
      clear hT2 hb2 HCm HBA h0 h1 h2 h3 HT HB
      go_wp2
      go_roundg g
      case measure => omega
      case rel => exact ⟨k + 1, by omega, by go_num, HT2, HB2⟩
    · have hkl : k = l.length := by omega
      have hTl : Txt B b (Lib.byteCells (printB l)) wr := by have := HT.out; rwa [hkl, List.take_length] at this
      have hnl : printB l ≠ [] := by
        cases l with
        | nil => simp at hn0
        | cons x l => show (lineT x ++ [59, 10]) ++ printB l ≠ []; simp
      have HT' := Lib.hid hTl
      have HNL := Lib.hid hnl
      clear HT hTl hnl hkl
      go_wp2_with fail
      refine (string_some B b (printB l) wr HT'.out HNL.out).mono ?_
      rintro x w2 ⟨rfl, hT2, hb2, _⟩
      have HB2 := Lib.hid (HB.out.trans hb2)
      have HT2 := Lib.hid hT2
      clear hT2 hb2 HB HT'
      go_wp2_with fail
      refine (lex_any _ w2 (HG.out.below (by rw [HBw.out]; exact HB2.out)).gok).mono ?_
      rintro x w3 ⟨hb3, hx⟩
      have hB3 : Below B w w3 := HB2.out.trans (hb3.mono (by have := HB2.out.size; have := HBw.out; omega))
      have HB3 := Lib.hid hB3
      have HT3 := Lib.hid (HT2.out.below hb3)
      have hdl : (⟨(printB l).toArray⟩ : ByteArray).data.toList = printB l := by simp
      rw [hdl] at hx
      have hR := HR.out
      clear hb3 hB3 HT2 HB2 hdl
      cases hlx : Lx.lex (printB l) with
      | error er =>
        rw [hlx] at hx hR
        have hr1 : r = (⟨#[]⟩, 2) := hR
        subst hr1
        have hne : (er.1 != 0) = true := by simpa using lex_err hlx
        simp only at hx
        obtain rfl := hx
        clear hR hlx HR
        go_wp2
        go_ret2
        exact ⟨rfl, by rw [HBw.out]; exact HB3.out⟩
      | ok ts =>
        rw [hlx] at hx hR
        have hr1 : r = (⟨(printB l).toArray⟩, 0) := hR
        subst hr1
        obtain ⟨v, rfl, _⟩ := hx
        clear hR hlx HR
        go_wp2_with fail
        refine (string_some B b (printB l) w3 HT3.out HNL.out).mono ?_
        rintro x w4 ⟨rfl, _, hb4, _⟩
        have HB4 := Lib.hid (HB3.out.trans hb4)
        clear hb4
        go_wp2
        go_ret2
        exact ⟨rfl, by rw [HBw.out]; exact HB4.out⟩
/-- 'Print', whatever the commands. -/
theorem print_any (A : Option Addr) (c : Nat) (l : List Cmd) (w : World) (hG : GP w) (hC : Kd.C kC w A l.length l) :
    Calls Tryd.prog 27 #[.slice A l.length c] w (PrintPost w (printR l)) := by
  cases hv : validB l with
  | false => exact print_invalid A c l w hC hv
  | true =>
    by_cases hne : l = []
    · subst hne; exact print_nil A c w hG hC
    · exact print_some A c l w hG hC hv hne

end Go.Proofs.YtdedlchpjboceaaDoor.Tx
end

section
/-
  The library's Clone at commands; the parser's 'Strip', walked.
-/
namespace Go.Proofs.YtdedlchpjboceaaDoor.Px
open Go.RowKit Go.Shelf Go.Proofs.YtdedlchpjboceaaDoor.Lx Go.Proofs.YtdedlchpjboceaaDoorW.PrintWords Go.Proofs.YtdedlchpjboceaaDoorW.PrintLast Go.Proofs.YtdedlchpjboceaaDoorW.PrintMore
attribute [local go_sem] Oper.semAt_some

set_option maxHeartbeats 4000000 in
set_option maxRecDepth 100000 in
theorem clone_nil (n c : Nat) (w : World) : Calls Tryd.prog 48 #[.slice none n c] w fun x w' => x = .returned (.slice none 0 0) ∧ w = w' := by
  have hq : ∀ W, (binOp .eql 25 (.slice none n c) (.slice none 0 0)).run Tryd.prog W = .ok (.bool true) W := fun W => by kernel_rfl
  go_enter Tryd.func48, Tryd.ntmps48
  go_wp2
  go_ret
  exact ⟨rfl, rfl⟩
set_option maxHeartbeats 4000000 in
set_option maxRecDepth 100000 in
theorem clone_some (ad : Addr) (c : Nat) (l : List Cmd) (w : World) (hC : Kd.C kC w (some ad) l.length l) (hl : l.length ≤ 1000000) :
    Calls Tryd.prog 48 #[.slice (some ad) l.length c] w fun x w' => ∃ v inner, (x = .returned v ∧ w'.ownsRow w.heap.size 40 4 v l.length inner ∧ Reps (kC.K w) 4 l inner) ∧ Below w.heap.size w w' := by
  have hq : ∀ W, (binOp .eql 25 (.slice (some ad) l.length c) (.slice none 0 0)).run Tryd.prog W = .ok (.bool false) W := fun W => by kernel_rfl
  go_enter Tryd.func48, Tryd.ntmps48
  obtain ⟨inner, hR, hcell⟩ := ReadsRow.inner_ (R := kC.K w) (size := 4) hC
  obtain ⟨i0, hi, hz0, hz1, hz2⟩ := info_parts infoCmd
  have hown : (w.alloc (.cells #[] 40)).ownsRow w.heap.size 40 4 (.slice (some ⟨w.heap.size, 0, none⟩) 0 0) 0 [] := ⟨rfl, .inr ⟨w.heap.size, 0, #[], rfl, Nat.le_refl _, blk_new _ _, Nat.le_refl _, by decide, rfl, rfl⟩⟩
  have hone : ∀ u ∈ inner, u.oneCell' = true := fun u hu => by
    obtain ⟨k, hk, rfl⟩ := List.getElem_of_mem hu
    have hlen := hR.1
    have hj : k / 4 < l.length := by omega
    have h2 := hR.2 (k / 4) _ (List.getElem?_eq_getElem hj)
    refine kC.K_one h2 _ ?_
    have : inner[k] = ((inner.drop (k / 4 * 4)).take 4)[k % 4]'(by rw [List.length_take, List.length_drop]; omega) := by
      rw [List.getElem_take, List.getElem_drop]; congr 1; omega
    rw [this]; exact List.getElem_mem _
  have HX := Lib.hid (And.intro hR (And.intro hcell (And.intro hown hone)))
  clear hC hR hcell hown hone
  go_wp2_with (at_builtin; (refine wpList_append_own_at _ rfl (.tmp 5) (.tmp 6) 25 rfl w.heap.size 40 i0 (.agg #[.int .i64 0, .string ⟨#[]⟩, .slice none 0 0, .int .i64 0]) 4 56 Tryd.underlying25 hi hz0 hz1 hz2 rfl (by decide) (.slice (some ⟨w.heap.size, 0, none⟩) 0 0) 0 [] rfl HX.out.2.2.1 ad l.length c inner rfl HX.out.1.1 (fun j u hu => (World.cell?_alloc_lt _ _ _ (World.block_lt_of_cell? w _ (HX.out.2.1 j u hu))).trans (HX.out.2.1 j u hu)) HX.out.2.2.2 (by unfold maxLen; omega) (by omega) (by simp) ?_); (intro v1 w1 ho hg _ _))
  go_ret
  refine ⟨v1, inner, ⟨rfl, by rw [← Nat.zero_add l.length]; exact ho, HX.out.1⟩, ?_⟩
  exact (below_alloc (Below.refl _ _) _).grown hg (by simp) (fun k hk => own_base HX.out.2.2.1 k hk)
/-- A command without its offset. -/
def strip0 (c : Cmd) : Cmd := { c with f3 := 0 }
/-- The cells of a row of commands, the first k of which are without their offsets; the numbers are where they were in w. -/
def StripI (w W : World) (g cap : Nat) (l : List Cmd) (k : Nat) : Prop :=
  (∃ cur, W.heap[g]? = some (.cells cur 40 (0, 0)) ∧ cur.size = cap * 4) ∧ ∀ j, (h : j < l.length) → ∃ A2 c2, W.cell? ⟨g, j * 4, none⟩ = some (.int .i64 l[j].f0) ∧ W.cell? ⟨g, j * 4 + 1, none⟩ = some (.string l[j].f1) ∧ W.cell? ⟨g, j * 4 + 2, none⟩ = some (.slice A2 l[j].f2.length c2) ∧
    l[j].f2.length ≤ c2 ∧ (Kd.int .i64).C w A2 l[j].f2.length l[j].f2 ∧ W.cell? ⟨g, j * 4 + 3, none⟩ = some (.int .i64 (if j < k then 0 else l[j].f3))
theorem StripI.start {w W : World} {g cap : Nat} {l : List Cmd} {inner : List Value} {base : Nat} (ho : W.ownsRow base 40 4 (.slice (some ⟨g, 0, none⟩) l.length cap) l.length inner) (hR : Reps (kC.K w) 4 l inner) : StripI w W g cap l 0 := by
  refine ⟨?_, fun j hj => ?_⟩
  · rcases ho.2 with ⟨he, _⟩ | ⟨g', cap', cur, he, _, hh, _, _, hs, _⟩
    · cases he
    · injection he with ha _ hc; injection ha with ha; injection ha with ha; subst ha; subst hc; exact ⟨cur, hh, hs⟩
  have h2 := hR.2 j _ (List.getElem?_eq_getElem hj)
  obtain ⟨A2, c2, he, hl, hC⟩ := kC_open h2
  have hlen := hR.1
  have hx : ∀ i, i < 4 → ∀ u, ([.int .i64 l[j].f0, .string l[j].f1, .slice A2 l[j].f2.length c2, .int .i64 l[j].f3] : List Value)[i]? = some u → W.cell? ⟨g, j * 4 + i, none⟩ = some u := by
    intro i hi u hu
    rw [← he] at hu
    have hu2 : inner[j * 4 + i]? = some u := by rw [List.getElem?_take_of_lt hi, List.getElem?_drop] at hu; exact hu
    have := ho.cells (g := g) rfl (j * 4 + i) u hu2
    rwa [add_plain] at this
  exact ⟨A2, c2, hx 0 (by decide) _ rfl, hx 1 (by decide) _ rfl, hx 2 (by decide) _ rfl, hl, hC, by rw [if_neg (by omega)]; exact hx 3 (by decide) _ rfl⟩
theorem StripI.step {w W : World} {g cap : Nat} {l : List Cmd} {k : Nat} (h : StripI w W g cap l k) : StripI w (W.setCell ⟨g, k * 4 + 3, none⟩ (.int .i64 0)) g cap l (k + 1) := by
  obtain ⟨⟨cur, hb, hs⟩, hc⟩ := h
  refine ⟨⟨_, blk_set hb _ _, by simpa using hs⟩, fun j hj => ?_⟩
  obtain ⟨A2, c2, h0, h1, h2, h3, h4, h5⟩ := hc j hj
  have hne : ∀ i, i ≠ k * 4 + 3 → (⟨g, k * 4 + 3, none⟩ : Addr) ≠ ⟨g, i, none⟩ := fun i hi e => hi (by injection e with _ e; exact e.symm)
  refine ⟨A2, c2, ?_, ?_, ?_, h3, h4, ?_⟩
  · rw [World.cell?_setCell_other _ _ _ _ (hne _ (by omega))]; exact h0
  · rw [World.cell?_setCell_other _ _ _ _ (hne _ (by omega))]; exact h1
  · rw [World.cell?_setCell_other _ _ _ _ (hne _ (by omega))]; exact h2
  · by_cases hjk : j = k
    · subst hjk
      rw [World.cell?_setCell_same _ _ _ h5, if_pos (by omega)]
    · rw [World.cell?_setCell_other _ _ _ _ (hne _ (by omega)), h5]
      by_cases hlt : j < k
      · rw [if_pos hlt, if_pos (by omega)]
      · rw [if_neg hlt, if_neg (by omega)]
theorem cell_heap {w W : World} {p : Addr} (h : W.heap[p.block]? = w.heap[p.block]?) : W.cell? p = w.cell? p := by simp only [World.cell?, h]
theorem C_int_heap {w W : World} {k : IntKind} {A : Option Addr} {n : Nat} {xs : List Int} (h : (Kd.int k).C w A n xs) (hb : ∀ k, k < w.heap.size → W.heap[k]? = w.heap[k]?) : (Kd.int k).C W A n xs := by
  obtain ⟨h1, h2, h3⟩ := h
  refine ⟨h1, h2, fun h0 => ?_⟩
  obtain ⟨ad, e, h4⟩ := h3 h0
  refine ⟨ad, e, fun j p hp => ?_⟩
  obtain ⟨c, h5, h6, h7⟩ := h4 j p hp
  exact ⟨c, h5, h6, fun i u hu => (cell_heap (hb _ (World.block_lt_of_cell? w _ (h7 i u hu)))).trans (h7 i u hu)⟩
theorem StripI.done {w W : World} {g cap : Nat} {l : List Cmd} (h : StripI w W g cap l l.length) (hb : Below w.heap.size w W) (hg : w.heap.size ≤ g) (hlc : l.length ≤ cap) (hcap : cap ≤ maxLen) : Kd.N kC 40 W w.heap.size (fun _ => True) (.slice (some ⟨g, 0, none⟩) l.length cap) (l.map strip0) := by
  obtain ⟨⟨cur, hblk, hs⟩, hc⟩ := h
  have hcell : ∀ i, W.cell? ⟨g, i, none⟩ = cur[i]? := fun i => blk_cell hblk i
  have hlen : (cur.toList.take (l.length * 4)).length = l.length * 4 := by rw [List.length_take, show cur.toList.length = cap * 4 from (Array.length_toList (xs := cur)).trans hs]; exact Nat.min_eq_left (Nat.mul_le_mul_right _ hlc)
  have hrow : ∀ j, (hjl : j < l.length) → ∀ A2 c2, W.cell? ⟨g, j * 4 + 2, none⟩ = some (.slice A2 l[j].f2.length c2) → ((cur.toList.take (l.length * 4)).drop (j * 4)).take 4 = [.int .i64 (strip0 l[j]).f0, .string (strip0 l[j]).f1, .slice A2 (strip0 l[j]).f2.length c2, .int .i64 (strip0 l[j]).f3] := by
    intro j hjl A2 c2 h2
    obtain ⟨_, _, h0, h1, _, _, _, h5⟩ := hc j hjl
    rw [if_pos hjl] at h5
    apply List.ext_getElem?
    intro i
    by_cases hi : i < 4
    · rw [List.getElem?_take_of_lt hi, List.getElem?_drop, List.getElem?_take_of_lt (by omega), Array.getElem?_toList, ← hcell]
      match i, hi with
      | 0, _ => exact h0
      | 1, _ => exact h1
      | 2, _ => exact h2
      | 3, _ => exact h5
    · rw [List.getElem?_eq_none (by rw [List.length_take]; omega), List.getElem?_eq_none (by show 4 ≤ i; omega)]
  have hK : Reps (kC.K W) 4 (l.map strip0) (cur.toList.take (l.length * 4)) := by
    refine ⟨by rw [hlen, List.length_map], fun j p hj => ?_⟩
    have hjl : j < l.length := by
      have := (List.getElem?_eq_some_iff.1 hj).1; rwa [List.length_map] at this
    have hp : p = strip0 l[j] := by
      rw [List.getElem?_map, List.getElem?_eq_getElem hjl] at hj; injection hj with hj; exact hj.symm
    subst hp
    obtain ⟨A2, c2, h0, h1, h2, h3, h4, h5⟩ := hc j hjl
    rw [hrow j hjl A2 c2 h2]
    exact kC_mk W (strip0 l[j]) h3 (Kd.C_below h4 hb)
  refine ⟨fun _ _ => trivial, Kd.chunks 4 (l.map strip0).length (cur.toList.take (l.length * 4)), Kd.chunks_length _ _ _, ⟨fun k hk => hk.symm, cur.toList.take (l.length * 4), ?_, Kd.reps_raw hK (fun x c hp => ⟨kC.K_len hp, kC.K_one hp⟩)⟩, fun j x c hx hcc => ?_⟩
  · rw [Kd.chunks_length, List.length_map]
    exact ⟨hlen, .inr ⟨g, cap, cur, rfl, hg, hblk, hlc, hcap, hs, rfl⟩⟩
  · rw [Kd.chunks_get hcc]
    have hxl : j < l.length := by
      have := (List.getElem?_eq_some_iff.1 hx).1; rwa [List.length_map] at this
    obtain ⟨A2, c2, _, _, h2, h3, h4, _⟩ := hc j hxl
    have hp : x = strip0 l[j] := by
      rw [List.getElem?_map, List.getElem?_eq_getElem hxl] at hx; injection hx with hx; exact hx.symm
    subst hp
    rw [hrow j hxl A2 c2 h2]
    intro W' hW
    refine kC_mk W' (strip0 l[j]) h3 (C_int_heap h4 (fun k hk => ?_))
    rw [hW k ⟨trivial, fun e => ?_⟩ (Nat.lt_of_lt_of_le hk hb.size)]
    · exact hb.block k hk
    · have e' : k = g := by simpa [Value.ownBlock] using e
      omega
theorem C_nilC (W : World) (A : Option Addr) : Kd.C kC W A 0 [] := ⟨rfl, by decide, fun h => absurd h (by decide)⟩
/-- What 'Strip' answers: a row that reads as the commands without their offsets. -/
def StripPost (w : World) (l : List Cmd) (x : Ending) (w' : World) : Prop :=
  Below w.heap.size w w' ∧ ∃ v, x = .returned v ∧ Kd.N kC 40 w' w.heap.size (fun _ => True) v (l.map strip0)
set_option maxHeartbeats 8000000 in
set_option maxRecDepth 100000 in
theorem strip_any (A : Option Addr) (c : Nat) (l : List Cmd) (w : World) (hC : Kd.C kC w A l.length l) (hl : l.length ≤ 1000000) :
    Calls Tryd.prog 23 #[.slice A l.length c] w (StripPost w l) := by
  cases A with
  | none =>
    have h0 : l = [] := by
      cases l with
      | nil => rfl
      | cons x l => obtain ⟨ad, e, _⟩ := hC.2.2 (by simp); cases e
    subst h0
    have hc := clone_nil 0 c
    clear hC hl
    go_enter Tryd.func23, Tryd.ntmps23
    go_wp2_with (go_at_call 48; refine (hc _).mono ?_; rintro x w1 ⟨rfl, rfl⟩)
    go_loopg [9] 0 (fun g v W => v = .int .i64 0 ∧ w = W)
    case atStart => exact ⟨rfl, rfl⟩
    case round =>
      obtain ⟨rfl, rfl⟩ := hrel
      go_wp2
      go_ret
      exact ⟨Below.refl _ _, _, rfl, Kd.N_nil _ _ _ _ _⟩
  | some ad =>
    have hcl := clone_some ad c l w hC hl
    clear hC
    go_enter Tryd.func23, Tryd.ntmps23
    go_wp2_with fail
    refine hcl.mono ?_
    rintro x w1 ⟨v, inner, ⟨rfl, ho, hR⟩, hb⟩
    by_cases hn : l.length = 0
    · have HO0 := ho
      obtain ⟨A', c', rfl⟩ := own_slice ho
      have hl0 : l = [] := List.eq_nil_of_length_eq_zero hn
      subst hl0
      have HB := Lib.hid hb
      have hi0 : inner.length = 0 := by have := ho.1; simpa using this
      have HO := Lib.hid HO0
      clear ho hR hb hcl hn hl HO0
      go_wp2_with fail
      go_loopg [9] 0 (fun g v W => v = .int .i64 0 ∧ w1 = W)
      case atStart => exact ⟨rfl, rfl⟩
      case round =>
        obtain ⟨rfl, rfl⟩ := hrel
        go_wp2
        go_ret
        have hN := Kd.R_N (d := kC) ⟨fun _ _ => trivial, inner, HO.out, ⟨by simpa using hi0, fun j p hj => by simp at hj⟩⟩
        exact ⟨HB.out, _, rfl, hN⟩
    · obtain ⟨g, cap, rfl, hg, _⟩ := ho.form (by omega)
      have hcap : l.length ≤ cap ∧ cap ≤ maxLen := by
        rcases ho.2 with ⟨he, _⟩ | ⟨g', cap', cur, he, _, _, h1, h2, _⟩
        · cases he
        · injection he with _ _ hc; subst hc; exact ⟨h1, h2⟩
      have hI := Lib.hid (StripI.start ho hR)
      have HB := Lib.hid hb
      clear ho hR hb hcl hn
      go_wp2_with fail
      go_loopg [9] l.length (fun gg v W => ∃ k : Nat, k + gg = l.length ∧ v = .int .i64 k ∧ Hid (StripI w W g cap l k) ∧ Hid (Below w.heap.size w W))
      case atStart => exact ⟨0, by omega, rfl, hI, HB⟩
      case round =>
        obtain ⟨k, hk, rfl, HI, HBk⟩ := hrel
        by_cases hlt : k < l.length
        · obtain ⟨gg, rfl⟩ : ∃ gg, gk = gg + 1 := ⟨gk - 1, by omega⟩
          obtain ⟨⟨cur, hblk, _⟩, hcs⟩ := HI.out
          obtain ⟨A2, c2, _, _, _, _, _, h5⟩ := hcs k hlt
          rw [if_neg (by omega)] at h5
          have hf := blk_frozen hblk (k * 4 + 3)
          clear hblk hcs
          go_wp2
          go_roundg gg
          case measure => omega
          case rel => exact ⟨k + 1, by omega, by go_num, Lib.hid HI.out.step, Lib.hid (HBk.out.setCell (p := ⟨g, _, none⟩) hg _)⟩
        · have hkl : k = l.length := by omega
          subst hkl
          go_wp2
          go_ret
          exact ⟨HBk.out, _, rfl, HI.out.done HBk.out hg hcap.1 hcap.2⟩

end Go.Proofs.YtdedlchpjboceaaDoor.Px
end

section
/-
  Structs under two names: what reads as the one reads as the other; the printer's premise, set aside.
-/
namespace Go.Proofs.YtdedlchpjboceaaDoor.Tx
open Go.RowKit Go.Shelf Go.Proofs.YtdedlchpjboceaaDoor.Lx Go.Proofs.YtdedlchpjboceaaDoor.Px Go.Proofs.YtdedlchpjboceaaDoorW.PrintWords Go.Proofs.YtdedlchpjboceaaDoorW.PrintLast Go.Proofs.YtdedlchpjboceaaDoorW.PrintMore

theorem GP.aside {w W : World} (h : Aside0 (GP w)) (hb : Below w.heap.size w W) : Aside0 (GP W) := ⟨h.out.below hb⟩
theorem C_iso2 {α β γ : Type} {d : Kd α} {f : β → α} {g : γ → α} {h : β → γ} (e : ∀ x, g (h x) = f x) {w : World} {A : Option Addr} {n : Nat} {xs : List β} (hc : (Kd.iso d f).C w A n xs) : (Kd.iso d g).C w A n (xs.map h) := by
  obtain ⟨h1, h2, h3⟩ := hc
  refine ⟨by rw [List.length_map]; exact h1, h2, fun h0 => ?_⟩
  obtain ⟨ad, e1, h4⟩ := h3 h0
  refine ⟨ad, e1, fun j p hp => ?_⟩
  rw [List.getElem?_map] at hp
  cases hx : xs[j]? with
  | none => rw [hx] at hp; cases hp
  | some x =>
    rw [hx] at hp
    obtain ⟨c, h5, h6, h7⟩ := h4 j x hx
    refine ⟨c, h5, ?_, h7⟩
    have hp' : h x = p := by simpa using hp
    subst hp'
    show d.K w (g (h x)) c
    rw [e x]; exact h6
theorem R_iso2 {α β γ : Type} {d : Kd α} {f : β → α} {g : γ → α} {h : β → γ} (e : ∀ x, g (h x) = f x) {t : Nat} {w : World} {base : Nat} {ok : Nat → Prop} {v : Value} {xs : List β} (hc : (Kd.iso d f).R t w base ok v xs) : (Kd.iso d g).R t w base ok v (xs.map h) := by
  obtain ⟨h1, inner, h2, h3, h4⟩ := hc
  refine ⟨h1, inner, by rw [List.length_map]; exact h2, by rw [List.length_map]; exact h3, fun j p hp => ?_⟩
  rw [List.getElem?_map] at hp
  cases hx : xs[j]? with
  | none => rw [hx] at hp; cases hp
  | some x =>
    rw [hx] at hp
    have hp' : h x = p := by simpa using hp
    subst hp'
    have h5 := h4 j x hx
    show d.M w base _ (g (h x)) _
    rw [e x]; exact h5
theorem N_iso2 {α β γ : Type} {d : Kd α} {f : β → α} {g : γ → α} {h : β → γ} (e : ∀ x, g (h x) = f x) {t : Nat} {w : World} {base : Nat} {ok : Nat → Prop} {v : Value} {xs : List β} (hc : (Kd.iso d f).N t w base ok v xs) : (Kd.iso d g).N t w base ok v (xs.map h) := by
  obtain ⟨h1, rows, h2, h3, h4⟩ := hc
  refine ⟨h1, rows, by rw [List.length_map]; exact h2, h3, fun j p c hp hcc => ?_⟩
  rw [List.getElem?_map] at hp
  cases hx : xs[j]? with
  | none => rw [hx] at hp; cases hp
  | some x =>
    rw [hx] at hp
    have hp' : h x = p := by simpa using hp
    subst hp'
    intro W' hW
    have h5 := h4 j x c hx hcc W' hW
    show d.K W' (g (h x)) c
    rw [e x]; exact h5

end Go.Proofs.YtdedlchpjboceaaDoor.Tx
end

section
-- Written by a program of this session's, out of the translation; Lean checks it.
namespace Go.Proofs.YtdedlchpjboceaaDoor.PE
open Go.RowKit Go.Proofs.YtdedlchpjboceaaDoorW.PrintWords Go.Proofs.YtdedlchpjboceaaDoorW.PrintLast Go.Proofs.YtdedlchpjboceaaDoorW.PrintMore
attribute [local go_sem] max2_int min2_int max_two min_two max_three min_three max_four min_four   -- for this text's walks alone



def errW : Option Int → Value
  | none => .nilIface
  | some c => .iface 0 (.int .i64 c)
theorem errW_none : errW none = .nilIface := rfl
theorem errW_some (c : Int) : errW (some c) = .iface 0 (.int .i64 c) := rfl

theorem info3 : (Tryd.prog.info? 3).map (fun i => (i.zero, i.size, i.bytes)) = some (some (.int .i64 0), 1, 8) := by kernel_rfl
theorem info5 : (Tryd.prog.info? 5).map (fun i => (i.zero, i.size, i.bytes)) = some (some (.int .u8 0), 1, 1) := by kernel_rfl
theorem info9 : (Tryd.prog.info? 9).map (fun i => (i.zero, i.size, i.bytes)) = some (some (.string ⟨#[]⟩), 1, 16) := by kernel_rfl
theorem info40 : (Tryd.prog.info? 40).map (fun i => (i.zero, i.size, i.bytes)) = some (some (.agg #[(.int .i64 0), (.string ⟨#[]⟩), (.slice none 0 0), (.int .i64 0)]), 4, 56) := by kernel_rfl
theorem info45 : (Tryd.prog.info? 45).map (fun i => (i.zero, i.size, i.bytes)) = some (some (.agg #[(.int .i64 0), (.string ⟨#[]⟩), (.int .i64 0), (.int .i64 0)]), 4, 40) := by kernel_rfl
theorem info54 : (Tryd.prog.info? 54).map (fun i => (i.zero, i.size, i.bytes)) = some (some (.agg #[(.int .i64 0), (.int .i64 0)]), 2, 16) := by kernel_rfl
-- the values' own types
def rd_L2 (xs : List (List Int)) (i : Int) : (List Int) := xs.getD i.toNat ([] : List Int)
theorem at_L2 {w : World} {A : Option Addr} {n : Nat} {xs : List (List Int)} (h : Kd.C (Kd.slice 3 (Kd.int .i64)) w A n xs) (i : Int) (h0 : 0 ≤ i) (h1 : i < n) : ∃ ad A0 c0, A = some ad ∧ w.cell? (ad.add i.toNat) = some (.slice A0 (rd_L2 xs i).length c0) ∧ (rd_L2 xs i).length ≤ c0 ∧ (Kd.int .i64).C w A0 (rd_L2 xs i).length (rd_L2 xs i) := by
  obtain ⟨ad, c, e, _, hK, hc0⟩ := Kd.C_get h ([] : List Int) i h0 h1
  have hc : ∀ j u, c[j]? = some u → w.cell? (ad.add (i.toNat * 1 + j)) = some u := hc0
  obtain ⟨A0, c0, rfl, l0, g0⟩ := hK
  exact ⟨ad, A0, c0, e, by have hq := hc 0 _ rfl; rwa [Nat.mul_one, Nat.add_zero] at hq, l0, g0⟩

/-! #### struct type 40 -/
structure S40 where
  f0 : Int
  f1 : ByteArray
  f2 : (List Int)
  f3 : Int
def z40 : S40 := ⟨(0 : Int), (⟨#[]⟩ : ByteArray), ([] : List Int), (0 : Int)⟩
def k40 : Kd S40 := Kd.iso (Kd.pair (Kd.int .i64) (Kd.pair Kd.string (Kd.pair (Kd.slice 3 (Kd.int .i64)) (Kd.int .i64)))) (fun x : S40 => (x.f0, x.f1, x.f2, x.f3))
theorem k40_open {w : World} {x : S40} {cs : List Value} (h : k40.K w x cs) : ∃ A2 c2, cs = [.int .i64 x.f0, .string x.f1, .slice A2 x.f2.length c2, .int .i64 x.f3] ∧ x.f2.length ≤ c2 ∧ (Kd.int .i64).C w A2 x.f2.length x.f2 := by
  obtain ⟨_, _, rfl, rfl, ⟨_, _, rfl, rfl, ⟨_, _, rfl, ⟨A2, c2, rfl, l2, g2⟩, rfl⟩⟩⟩ := h
  exact ⟨A2, c2, rfl, l2, g2⟩
theorem k40_openM {w : World} {base : Nat} {ok : Nat → Prop} {x : S40} {cs : List Value} (h : k40.M w base ok x cs) : ∃ v2, cs = [.int .i64 x.f0, .string x.f1, v2, .int .i64 x.f3] ∧ (Kd.int .i64).R 3 w base ok v2 x.f2 := by
  obtain ⟨_, _, rfl, rfl, ⟨_, _, rfl, rfl, ⟨_, _, rfl, ⟨v2, rfl, g2⟩, rfl⟩⟩⟩ := h
  exact ⟨v2, rfl, g2⟩
theorem k40_mk (w : World) (x : S40) {A2 : Option Addr} {c2 : Nat} (l2 : x.f2.length ≤ c2) (g2 : (Kd.int .i64).C w A2 x.f2.length x.f2) : k40.K w x [.int .i64 x.f0, .string x.f1, .slice A2 x.f2.length c2, .int .i64 x.f3] := ⟨[.int .i64 x.f0], [.string x.f1, .slice A2 x.f2.length c2, .int .i64 x.f3], rfl, rfl, ⟨[.string x.f1], [.slice A2 x.f2.length c2, .int .i64 x.f3], rfl, rfl, ⟨[.slice A2 x.f2.length c2], [.int .i64 x.f3], rfl, ⟨A2, c2, rfl, l2, g2⟩, rfl⟩⟩⟩
theorem k40_mkM (w : World) (base : Nat) (ok : Nat → Prop) (x : S40) {v2 : Value} (g2 : (Kd.int .i64).R 3 w base ok v2 x.f2) : k40.M w base ok x [.int .i64 x.f0, .string x.f1, v2, .int .i64 x.f3] := ⟨[.int .i64 x.f0], [.string x.f1, v2, .int .i64 x.f3], rfl, rfl, ⟨[.string x.f1], [v2, .int .i64 x.f3], rfl, rfl, ⟨[v2], [.int .i64 x.f3], rfl, ⟨v2, rfl, g2⟩, rfl⟩⟩⟩
theorem k40_openF {W : World} {ok : Nat → Prop} {x : S40} {cs : List Value} (h : Kd.FK k40 W ok x cs) : ∃ A2 c2, cs = [.int .i64 x.f0, .string x.f1, .slice A2 x.f2.length c2, .int .i64 x.f3] ∧ x.f2.length ≤ c2 ∧ Kd.F (Kd.int .i64) W ok A2 x.f2.length x.f2 := by
  obtain ⟨A2, c2, rfl, l2, _⟩ := k40_open (Kd.FK_now h)
  exact ⟨A2, c2, rfl, l2, (fun W' hW => by obtain ⟨A2_, c2_, he, l2_, g2_⟩ := k40_open (h W' hW); injection (Option.some.inj (show some (Value.slice A2 x.f2.length c2) = some (Value.slice A2_ x.f2.length c2_) from congrArg (fun l => l[2]?) he)) with ha_ _ _; rw [ha_]; exact g2_)⟩
theorem k40_mkF (W : World) (ok : Nat → Prop) (x : S40) {A2 : Option Addr} {c2 : Nat} (l2 : x.f2.length ≤ c2) (g2 : Kd.F (Kd.int .i64) W ok A2 x.f2.length x.f2) : Kd.FK k40 W ok x [.int .i64 x.f0, .string x.f1, .slice A2 x.f2.length c2, .int .i64 x.f3] := fun W2 hW => k40_mk W2 x l2 (g2 W2 hW)
def rd_T40 (xs : List S40) (i : Int) : S40 := xs.getD i.toNat z40
theorem at_T40 {w : World} {A : Option Addr} {n : Nat} {xs : List S40} (h : Kd.C k40 w A n xs) (i : Int) (h0 : 0 ≤ i) (h1 : i < n) : ∃ ad A2 c2, A = some ad ∧ w.cell? (ad.add (i.toNat * 4)) = some (.int .i64 (rd_T40 xs i).f0) ∧ w.cell? ⟨(ad.add (i.toNat * 4)).block, (ad.add (i.toNat * 4)).off + 1, none⟩ = some (.string (rd_T40 xs i).f1) ∧ w.cell? ⟨(ad.add (i.toNat * 4)).block, (ad.add (i.toNat * 4)).off + 2, none⟩ = some (.slice A2 (rd_T40 xs i).f2.length c2) ∧ w.cell? ⟨(ad.add (i.toNat * 4)).block, (ad.add (i.toNat * 4)).off + 3, none⟩ = some (.int .i64 (rd_T40 xs i).f3) ∧ (rd_T40 xs i).f2.length ≤ c2 ∧ (Kd.int .i64).C w A2 (rd_T40 xs i).f2.length (rd_T40 xs i).f2 := by
  obtain ⟨ad, c, e, _, hK, hc0⟩ := Kd.C_get h z40 i h0 h1
  have hc : ∀ j u, c[j]? = some u → w.cell? (ad.add (i.toNat * 4 + j)) = some u := hc0
  obtain ⟨A2, c2, rfl, l2, g2⟩ := k40_open hK
  exact ⟨ad, A2, c2, e, hc 0 _ rfl, by rw [← add_field _ _ 1 (by omega)]; exact hc 1 _ rfl, by rw [← add_field _ _ 2 (by omega)]; exact hc 2 _ rfl, by rw [← add_field _ _ 3 (by omega)]; exact hc 3 _ rfl, l2, g2⟩

def rd_L4 (xs : List (List S40)) (i : Int) : (List S40) := xs.getD i.toNat ([] : List S40)
theorem at_L4 {w : World} {A : Option Addr} {n : Nat} {xs : List (List S40)} (h : Kd.C (Kd.slice 40 k40) w A n xs) (i : Int) (h0 : 0 ≤ i) (h1 : i < n) : ∃ ad A0 c0, A = some ad ∧ w.cell? (ad.add i.toNat) = some (.slice A0 (rd_L4 xs i).length c0) ∧ (rd_L4 xs i).length ≤ c0 ∧ k40.C w A0 (rd_L4 xs i).length (rd_L4 xs i) := by
  obtain ⟨ad, c, e, _, hK, hc0⟩ := Kd.C_get h ([] : List S40) i h0 h1
  have hc : ∀ j u, c[j]? = some u → w.cell? (ad.add (i.toNat * 1 + j)) = some u := hc0
  obtain ⟨A0, c0, rfl, l0, g0⟩ := hK
  exact ⟨ad, A0, c0, e, by have hq := hc 0 _ rfl; rwa [Nat.mul_one, Nat.add_zero] at hq, l0, g0⟩

/-! #### struct type 45 -/
structure S45 where
  f0 : Int
  f1 : ByteArray
  f2 : Int
  f3 : Int
def z45 : S45 := ⟨(0 : Int), (⟨#[]⟩ : ByteArray), (0 : Int), (0 : Int)⟩
def k45 : Kd S45 := Kd.iso (Kd.pair (Kd.int .i64) (Kd.pair Kd.string (Kd.pair (Kd.int .i64) (Kd.int .i64)))) (fun x : S45 => (x.f0, x.f1, x.f2, x.f3))
theorem k45_open {w : World} {x : S45} {cs : List Value} (h : k45.K w x cs) : cs = [.int .i64 x.f0, .string x.f1, .int .i64 x.f2, .int .i64 x.f3] := by
  obtain ⟨_, _, rfl, rfl, ⟨_, _, rfl, rfl, ⟨_, _, rfl, rfl, rfl⟩⟩⟩ := h
  exact rfl
theorem k45_openM {w : World} {base : Nat} {ok : Nat → Prop} {x : S45} {cs : List Value} (h : k45.M w base ok x cs) : cs = [.int .i64 x.f0, .string x.f1, .int .i64 x.f2, .int .i64 x.f3] := by
  obtain ⟨_, _, rfl, rfl, ⟨_, _, rfl, rfl, ⟨_, _, rfl, rfl, rfl⟩⟩⟩ := h
  exact rfl
theorem k45_mk (w : World) (x : S45)  : k45.K w x [.int .i64 x.f0, .string x.f1, .int .i64 x.f2, .int .i64 x.f3] := ⟨[.int .i64 x.f0], [.string x.f1, .int .i64 x.f2, .int .i64 x.f3], rfl, rfl, ⟨[.string x.f1], [.int .i64 x.f2, .int .i64 x.f3], rfl, rfl, ⟨[.int .i64 x.f2], [.int .i64 x.f3], rfl, rfl, rfl⟩⟩⟩
theorem k45_mkM (w : World) (base : Nat) (ok : Nat → Prop) (x : S45)  : k45.M w base ok x [.int .i64 x.f0, .string x.f1, .int .i64 x.f2, .int .i64 x.f3] := ⟨[.int .i64 x.f0], [.string x.f1, .int .i64 x.f2, .int .i64 x.f3], rfl, rfl, ⟨[.string x.f1], [.int .i64 x.f2, .int .i64 x.f3], rfl, rfl, ⟨[.int .i64 x.f2], [.int .i64 x.f3], rfl, rfl, rfl⟩⟩⟩
theorem k45_mkF (W : World) (ok : Nat → Prop) (x : S45) : Kd.FK k45 W ok x [.int .i64 x.f0, .string x.f1, .int .i64 x.f2, .int .i64 x.f3] := fun W2 _ => k45_mk W2 x
def rd_T45 (xs : List S45) (i : Int) : S45 := xs.getD i.toNat z45
theorem at_T45 {w : World} {A : Option Addr} {n : Nat} {xs : List S45} (h : Kd.C k45 w A n xs) (i : Int) (h0 : 0 ≤ i) (h1 : i < n) : ∃ ad , A = some ad ∧ w.cell? (ad.add (i.toNat * 4)) = some (.int .i64 (rd_T45 xs i).f0) ∧ w.cell? ⟨(ad.add (i.toNat * 4)).block, (ad.add (i.toNat * 4)).off + 1, none⟩ = some (.string (rd_T45 xs i).f1) ∧ w.cell? ⟨(ad.add (i.toNat * 4)).block, (ad.add (i.toNat * 4)).off + 2, none⟩ = some (.int .i64 (rd_T45 xs i).f2) ∧ w.cell? ⟨(ad.add (i.toNat * 4)).block, (ad.add (i.toNat * 4)).off + 3, none⟩ = some (.int .i64 (rd_T45 xs i).f3) := by
  obtain ⟨ad, c, e, _, hK, hc0⟩ := Kd.C_get h z45 i h0 h1
  have hc : ∀ j u, c[j]? = some u → w.cell? (ad.add (i.toNat * 4 + j)) = some u := hc0
  obtain rfl := k45_open hK
  exact ⟨ad, e, hc 0 _ rfl, by rw [← add_field _ _ 1 (by omega)]; exact hc 1 _ rfl, by rw [← add_field _ _ 2 (by omega)]; exact hc 2 _ rfl, by rw [← add_field _ _ 3 (by omega)]; exact hc 3 _ rfl⟩

/-! #### struct type 54 -/
structure S54 where
  f0 : Int
  f1 : Int
def z54 : S54 := ⟨(0 : Int), (0 : Int)⟩
def k54 : Kd S54 := Kd.iso (Kd.pair (Kd.int .i64) (Kd.int .i64)) (fun x : S54 => (x.f0, x.f1))
theorem k54_open {w : World} {x : S54} {cs : List Value} (h : k54.K w x cs) : cs = [.int .i64 x.f0, .int .i64 x.f1] := by
  obtain ⟨_, _, rfl, rfl, rfl⟩ := h
  exact rfl
theorem k54_openM {w : World} {base : Nat} {ok : Nat → Prop} {x : S54} {cs : List Value} (h : k54.M w base ok x cs) : cs = [.int .i64 x.f0, .int .i64 x.f1] := by
  obtain ⟨_, _, rfl, rfl, rfl⟩ := h
  exact rfl
theorem k54_mk (w : World) (x : S54)  : k54.K w x [.int .i64 x.f0, .int .i64 x.f1] := ⟨[.int .i64 x.f0], [.int .i64 x.f1], rfl, rfl, rfl⟩
theorem k54_mkM (w : World) (base : Nat) (ok : Nat → Prop) (x : S54)  : k54.M w base ok x [.int .i64 x.f0, .int .i64 x.f1] := ⟨[.int .i64 x.f0], [.int .i64 x.f1], rfl, rfl, rfl⟩
theorem k54_mkF (W : World) (ok : Nat → Prop) (x : S54) : Kd.FK k54 W ok x [.int .i64 x.f0, .int .i64 x.f1] := fun W2 _ => k54_mk W2 x
def rd_T54 (xs : List S54) (i : Int) : S54 := xs.getD i.toNat z54
theorem at_T54 {w : World} {A : Option Addr} {n : Nat} {xs : List S54} (h : Kd.C k54 w A n xs) (i : Int) (h0 : 0 ≤ i) (h1 : i < n) : ∃ ad , A = some ad ∧ w.cell? (ad.add (i.toNat * 2)) = some (.int .i64 (rd_T54 xs i).f0) ∧ w.cell? ⟨(ad.add (i.toNat * 2)).block, (ad.add (i.toNat * 2)).off + 1, none⟩ = some (.int .i64 (rd_T54 xs i).f1) := by
  obtain ⟨ad, c, e, _, hK, hc0⟩ := Kd.C_get h z54 i h0 h1
  have hc : ∀ j u, c[j]? = some u → w.cell? (ad.add (i.toNat * 2 + j)) = some u := hc0
  obtain rfl := k54_open hK
  exact ⟨ad, e, hc 0 _ rfl, by rw [← add_field _ _ 1 (by omega)]; exact hc 1 _ rfl⟩

def rd_L7 (xs : List (List S54)) (i : Int) : (List S54) := xs.getD i.toNat ([] : List S54)
theorem at_L7 {w : World} {A : Option Addr} {n : Nat} {xs : List (List S54)} (h : Kd.C (Kd.slice 54 k54) w A n xs) (i : Int) (h0 : 0 ≤ i) (h1 : i < n) : ∃ ad A0 c0, A = some ad ∧ w.cell? (ad.add i.toNat) = some (.slice A0 (rd_L7 xs i).length c0) ∧ (rd_L7 xs i).length ≤ c0 ∧ k54.C w A0 (rd_L7 xs i).length (rd_L7 xs i) := by
  obtain ⟨ad, c, e, _, hK, hc0⟩ := Kd.C_get h ([] : List S54) i h0 h1
  have hc : ∀ j u, c[j]? = some u → w.cell? (ad.add (i.toNat * 1 + j)) = some u := hc0
  obtain ⟨A0, c0, rfl, l0, g0⟩ := hK
  exact ⟨ad, A0, c0, e, by have hq := hc 0 _ rfl; rwa [Nat.mul_one, Nat.add_zero] at hq, l0, g0⟩

def rd_L9 (xs : List (List S45)) (i : Int) : (List S45) := xs.getD i.toNat ([] : List S45)
theorem at_L9 {w : World} {A : Option Addr} {n : Nat} {xs : List (List S45)} (h : Kd.C (Kd.slice 45 k45) w A n xs) (i : Int) (h0 : 0 ≤ i) (h1 : i < n) : ∃ ad A0 c0, A = some ad ∧ w.cell? (ad.add i.toNat) = some (.slice A0 (rd_L9 xs i).length c0) ∧ (rd_L9 xs i).length ≤ c0 ∧ k45.C w A0 (rd_L9 xs i).length (rd_L9 xs i) := by
  obtain ⟨ad, c, e, _, hK, hc0⟩ := Kd.C_get h ([] : List S45) i h0 h1
  have hc : ∀ j u, c[j]? = some u → w.cell? (ad.add (i.toNat * 1 + j)) = some u := hc0
  obtain ⟨A0, c0, rfl, l0, g0⟩ := hK
  exact ⟨ad, A0, c0, e, by have hq := hc 0 _ rfl; rwa [Nat.mul_one, Nat.add_zero] at hq, l0, g0⟩

end Go.Proofs.YtdedlchpjboceaaDoor.PE
end

section
/- The function slotmeshref02_Few: what it computes, and that it computes it. Written by a program of this session's, out of the translation. -/
namespace Go.Proofs.YtdedlchpjboceaaDoor.PE
open Go.RowKit Go.Proofs.YtdedlchpjboceaaDoorW.PrintWords Go.Proofs.YtdedlchpjboceaaDoorW.PrintLast Go.Proofs.YtdedlchpjboceaaDoorW.PrintMore
attribute [local go_sem] max2_int min2_int max_two min_two max_three min_three max_four min_four   -- for this text's walks alone

/-! ### slotmeshref02_Few: function 25 -/
def slotmeshref02_Few.l0 : Nat → List (S40) → Int → Option (Bool)
  | 0, _, _ => none
  | k + 1, x0, x3 => if x3 < (x0.length : Int) then (if 0 ≤ x3 then (if (((rd_T40 x0 x3).f2).length : Int) > 20 then (some false) else (if (((rd_T40 x0 x3).f1).size : Int) > 50 then (some false) else (slotmeshref02_Few.l0 k x0 (wrap64 (x3 + 1))))) else (none)) else (some (decide ((x0.length : Int) ≤ 310)))
def slotmeshref02_Few.f (k : Nat) (l0 : List (S40)) : Option (Bool) := slotmeshref02_Few.l0 k l0 0
theorem slotmeshref02_Few.mono_l : ∀ k, (∀ y0 y1, LeO (slotmeshref02_Few.l0 k y0 y1) (slotmeshref02_Few.l0 (k + 1) y0 y1))
  | 0 => fun _ _ r h => by simp [slotmeshref02_Few.l0] at h
  | k + 1 => by
    have ih0 := slotmeshref02_Few.mono_l k
    · intro y0 y1
      unfold slotmeshref02_Few.l0
      repeat' first
      | (with_reducible exact ih0 _ _)
      | (with_reducible exact LeO.refl _)
      | (with_reducible exact LeO.none _)
      | (with_reducible refine LeO.ite ?_ ?_)
      | (with_reducible refine LeO.bind ?_ (fun _ => ?_))
      | exact ih0 _ _
      | exact LeO.none _
      | refine LeO.ite ?_ ?_
      | refine LeO.bind ?_ (fun _ => ?_)
theorem slotmeshref02_Few.mono : ∀ a0 k, LeO (slotmeshref02_Few.f k a0) (slotmeshref02_Few.f (k + 1) a0) := by
  intro a0 k
  have ih0 := slotmeshref02_Few.mono_l k
  unfold slotmeshref02_Few.f
  repeat' first
      | (with_reducible exact ih0 _ _)
      | (with_reducible exact LeO.refl _)
      | (with_reducible exact LeO.none _)
      | (with_reducible refine LeO.ite ?_ ?_)
      | (with_reducible refine LeO.bind ?_ (fun _ => ?_))
      | exact ih0 _ _
      | exact LeO.none _
      | refine LeO.ite ?_ ?_
      | refine LeO.bind ?_ (fun _ => ?_)
set_option maxHeartbeats 8000000 in
set_option maxRecDepth 100000 in
theorem slotmeshref02_Few.calls (k : Nat) (A0 : Option Addr) (c0 : Nat) (l0 : List (S40)) (r : Bool) (w : World) (hr0 : Kd.C k40 w A0 l0.length l0) (hc0 : l0.length ≤ c0) (h : slotmeshref02_Few.f k l0 = some r) :
    Calls Tryd.prog 25 #[.slice A0 l0.length c0] w fun e w' => e = .returned (.bool r) ∧ Drawn0 w w' := by
  have HR0 := Aside0.mk hr0
  have HC0 := Aside0.mk hc0
  clear hr0 hc0
  have H : (slotmeshref02_Few.l0 k l0 0) = some r := h
  clear h
  have H' := Aside0.mk H
  clear H
  go_enter Tryd.func25, Tryd.ntmps25
  go_wp2
  go_loopg [3] k (fun kq v3 w' => ∃ (x3_1 : Int), v3 = .int .i64 x3_1 ∧ Aside0 (slotmeshref02_Few.l0 kq l0 x3_1 = some r) ∧ Aside0 (kq ≤ k) ∧ Drawn0 w w')
  case atStart => exact ⟨(0), (by first | rfl | (simp; done) | (simp [*]; done)), H', ⟨Nat.le_refl _⟩, by repeat (first | exact Drawn0.refl _ | apply Drawn0.step)⟩
  case round =>
    clear H'
    obtain ⟨x3_1, rfl, HA, HK1, ⟨m1, rfl⟩⟩ := hrel
    cases gk with
    | zero => exact absurd HA.out (by simp [slotmeshref02_Few.l0])
    | succ k1 =>
      have H := HA.out
      clear HA
      simp only [slotmeshref02_Few.l0] at H
      by_cases c2 : x3_1 < (l0.length : Int)
      · rw [if_pos c2] at H
        have c2b0 : decide (x3_1 < (l0.length : Int)) = true := decide_eq_true c2
        clear c2
        by_cases c3 : 0 ≤ x3_1
        · rw [if_pos c3] at H
          have c3b0 : decide (0 ≤ x3_1) = true := decide_eq_true c3
          clear c3
          by_cases c4 : (((rd_T40 l0 x3_1).f2).length : Int) > 20
          · rw [if_pos c4] at H
            have c4b0 : decide (20 < (((rd_T40 l0 x3_1).f2).length : Int)) = true := decide_eq_true c4
            have c4b1 : decide (20 < ((rd_T40 l0 x3_1).f2).length) = true := decide_eq_true (by omega)
            clear c4
            obtain rfl := Option.some.inj H
            have p101 : 0 ≤ (x3_1 : Int) := of_decide_eq_true (by first | (with_reducible assumption) | assumption)
            have q101 : x3_1 < (l0.length : Int) := of_decide_eq_true (by first | (with_reducible assumption) | assumption)
            obtain ⟨ad101, A101_2, c101_2, e101, hx101_0, hx101_1, hx101_2, hx101_3, hl101_2, hi101_2⟩ := at_T40 HR0.out x3_1 p101 q101
            cases e101
            have HR101_2 := Aside0.mk hi101_2
            have HC101_2 := Aside0.mk hl101_2
            clear hi101_2 hl101_2
            replace p101 := eq_true p101
            replace q101 := eq_true q101
            go_wp2
            go_ret
            exact ⟨by first | rfl | (simp; done) | (simp [*]; done), by repeat (first | exact Drawn0.refl _ | apply Drawn0.step)⟩
          · rw [if_neg c4] at H
            have c4b0 : decide (20 < (((rd_T40 l0 x3_1).f2).length : Int)) = false := decide_eq_false c4
            have c4b1 : decide (20 < ((rd_T40 l0 x3_1).f2).length) = false := decide_eq_false (by omega)
            clear c4
            by_cases c5 : (((rd_T40 l0 x3_1).f1).size : Int) > 50
            · rw [if_pos c5] at H
              have c5b0 : decide (50 < (((rd_T40 l0 x3_1).f1).size : Int)) = true := decide_eq_true c5
              have c5b1 : decide (50 < ((rd_T40 l0 x3_1).f1).size) = true := decide_eq_true (by omega)
              clear c5
              obtain rfl := Option.some.inj H
              have p101 : 0 ≤ (x3_1 : Int) := of_decide_eq_true (by first | (with_reducible assumption) | assumption)
              have q101 : x3_1 < (l0.length : Int) := of_decide_eq_true (by first | (with_reducible assumption) | assumption)
              obtain ⟨ad101, A101_2, c101_2, e101, hx101_0, hx101_1, hx101_2, hx101_3, hl101_2, hi101_2⟩ := at_T40 HR0.out x3_1 p101 q101
              cases e101
              have HR101_2 := Aside0.mk hi101_2
              have HC101_2 := Aside0.mk hl101_2
              clear hi101_2 hl101_2
              replace p101 := eq_true p101
              replace q101 := eq_true q101
              have p102 : 0 ≤ (x3_1 : Int) := of_decide_eq_true (by first | (with_reducible assumption) | assumption)
              have q102 : x3_1 < (l0.length : Int) := of_decide_eq_true (by first | (with_reducible assumption) | assumption)
              obtain ⟨ad102, A102_2, c102_2, e102, hx102_0, hx102_1, hx102_2, hx102_3, hl102_2, hi102_2⟩ := at_T40 HR0.out x3_1 p102 q102
              obtain rfl : ad101 = ad102 := (by injection e102)
              have HR102_2 := Aside0.mk hi102_2
              have HC102_2 := Aside0.mk hl102_2
              clear hi102_2 hl102_2
              replace p102 := eq_true p102
              replace q102 := eq_true q102
              have ea_ := Option.some.inj (hx101_2.symm.trans hx102_2)
              injection ea_ with ea_ en_ ec_
              subst ea_
              subst ec_
              clear en_
              go_wp2
              go_ret
              exact ⟨by first | rfl | (simp; done) | (simp [*]; done), by repeat (first | exact Drawn0.refl _ | apply Drawn0.step)⟩
            · rw [if_neg c5] at H
              have c5b0 : decide (50 < (((rd_T40 l0 x3_1).f1).size : Int)) = false := decide_eq_false c5
              have c5b1 : decide (50 < ((rd_T40 l0 x3_1).f1).size) = false := decide_eq_false (by omega)
              clear c5
              have H' := Aside0.mk H
              clear H
              have p101 : 0 ≤ (x3_1 : Int) := of_decide_eq_true (by first | (with_reducible assumption) | assumption)
              have q101 : x3_1 < (l0.length : Int) := of_decide_eq_true (by first | (with_reducible assumption) | assumption)
              obtain ⟨ad101, A101_2, c101_2, e101, hx101_0, hx101_1, hx101_2, hx101_3, hl101_2, hi101_2⟩ := at_T40 HR0.out x3_1 p101 q101
              cases e101
              have HR101_2 := Aside0.mk hi101_2
              have HC101_2 := Aside0.mk hl101_2
              clear hi101_2 hl101_2
              replace p101 := eq_true p101
              replace q101 := eq_true q101
              have p102 : 0 ≤ (x3_1 : Int) := of_decide_eq_true (by first | (with_reducible assumption) | assumption)
              have q102 : x3_1 < (l0.length : Int) := of_decide_eq_true (by first | (with_reducible assumption) | assumption)
              obtain ⟨ad102, A102_2, c102_2, e102, hx102_0, hx102_1, hx102_2, hx102_3, hl102_2, hi102_2⟩ := at_T40 HR0.out x3_1 p102 q102
              obtain rfl : ad101 = ad102 := (by injection e102)
              have HR102_2 := Aside0.mk hi102_2
              have HC102_2 := Aside0.mk hl102_2
              clear hi102_2 hl102_2
              replace p102 := eq_true p102
              replace q102 := eq_true q102
              have ea_ := Option.some.inj (hx101_2.symm.trans hx102_2)
              injection ea_ with ea_ en_ ec_
              subst ea_
              subst ec_
              clear en_
              go_wp2
              go_roundg k1
              case measure => have := HK1.out; omega
              case rel => exact ⟨(wrap64 (x3_1 + 1)), (by first | rfl | (simp; done) | (simp [*]; done)), H', ⟨by have := HK1.out; omega⟩, by repeat (first | exact Drawn0.refl _ | apply Drawn0.step)⟩
        · rw [if_neg c3] at H
          exact absurd H (by simp)
      · rw [if_neg c2] at H
        have c2b0 : decide (x3_1 < (l0.length : Int)) = false := decide_eq_false c2
        clear c2
        obtain rfl := Option.some.inj H
        go_wp2
        go_ret
        exact ⟨by first | rfl | (simp; done) | (simp [*]; done), by repeat (first | exact Drawn0.refl _ | apply Drawn0.step)⟩

end Go.Proofs.YtdedlchpjboceaaDoor.PE
end

section
/- The function printer_Print: what it computes, and that it computes it. Written by a program of this session's, out of the translation. -/
namespace Go.Proofs.YtdedlchpjboceaaDoor.PE
open Go.RowKit Go.Proofs.YtdedlchpjboceaaDoorW.PrintWords Go.Proofs.YtdedlchpjboceaaDoorW.PrintLast Go.Proofs.YtdedlchpjboceaaDoorW.PrintMore
attribute [local go_sem] max2_int min2_int max_two min_two max_three min_three max_four min_four   -- for this text's walks alone

/-! ### printer_Print: function 27 -/
def toCmd (x : S40) : Px.Cmd := ⟨x.f0, x.f1, x.f2, x.f3⟩
/-- What Print answers. -/
def printer_Print.f (l0 : List (S40)) : Option (ByteArray × Int) := some (Tx.printR (l0.map toCmd))
theorem printer_Print.calls (A0 : Option Addr) (c0 : Nat) (l0 : List (S40)) (r1 : ByteArray) (r2 : Int) (w : World) (hG : Aside0 (Tx.GP w)) (hr0 : Kd.C k40 w A0 l0.length l0) (hc0 : l0.length ≤ c0) (h : printer_Print.f l0 = some (r1, r2)) :
    Calls Tryd.prog 27 #[.slice A0 l0.length c0] w fun e w' => e = .returned (.tuple #[.string r1, .int .i64 r2]) ∧ Below w.heap.size w w' := by
  have hC : Kd.C Px.kC w A0 (l0.map toCmd).length (l0.map toCmd) := by rw [List.length_map]; exact Tx.C_iso2 (h := toCmd) (fun _ => rfl) hr0
  have hp := Tx.print_any A0 c0 (l0.map toCmd) w hG.out hC
  rw [List.length_map] at hp
  have h' : Tx.printR (l0.map toCmd) = (r1, r2) := Option.some.inj h
  rw [h'] at hp
  exact hp

end Go.Proofs.YtdedlchpjboceaaDoor.PE
end
