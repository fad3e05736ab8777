/- Texts of the proof of the law PrinterDiffers, part 3: plain words, and walks through the program's functions. -/
import Derived.Test.YtdedlchpjboceaaDoorMPrinterDiffers2
import Derived.Test.YtdedlchpjboceaaDoorMPrinterDiffers0
import Derived.Deep.Slices
import Derived.Deep.Fields
import Derived.ChangeSame
import Derived.ChangeSlices
import Derived.Test.YtdedlchpjboceaaDoorMPrinterDiffers1
import Derived.Test.YtdedlchpjboceaaDoorRows
import Derived.Stop.LaidErr
import Derived.LaidSub
import Derived.MakeChecks
import Derived.Lay
import Derived.Lib.LaidTab

section
/-
  The statements PrinterDiffers and PrinterInverse, in plain words.
-/
namespace Go.Proofs.YtdedlchpjboceaaDoor.Qy
open Go.RowKit Go.Proofs.YtdedlchpjboceaaDoorW.PrintWords Go.Proofs.YtdedlchpjboceaaDoorW.PrintLast Go.Proofs.YtdedlchpjboceaaDoor.Lx Go.Proofs.YtdedlchpjboceaaDoor.Px Go.Proofs.YtdedlchpjboceaaDoor.Tx Go.Proofs.YtdedlchpjboceaaDoor.Qz Go.Proofs.YtdedlchpjboceaaDoor.PE

theorem strip_some (l : List S40) (h : l.length ≤ 1000000) : parser_Strip.f l = some (l.map stripS) := by unfold parser_Strip.f; rw [if_pos h]
theorem stripS_len {l : List S40} (h : ∀ x ∈ l, x.f2.length ≤ 20) : ∀ x ∈ l.map stripS, x.f2.length ≤ 1000000 := by
  intro x hx
  obtain ⟨y, hy, rfl⟩ := List.mem_map.1 hx
  have := h y hy
  show y.f2.length ≤ _
  omega
theorem printR_err {l : List Cmd} (h : (printR l).2 ≠ 0) : (printR l).1 = ⟨#[]⟩ := by
  rcases print_cases l with ⟨_, e⟩ | ⟨_, _, _, e, _⟩ | ⟨_, _, e⟩
  · rw [e]
  · rw [e] at h; exact absurd rfl h
  · rw [e]
theorem empty_list : (⟨#[]⟩ : ByteArray).toList = [] := by rw [ByteArray.toList_eq]
theorem toList_inj {s t : ByteArray} (h : s.toList = t.toList) : s = t := by
  rw [ByteArray.toList_eq, ByteArray.toList_eq] at h
  obtain ⟨⟨l⟩⟩ := s
  obtain ⟨⟨l'⟩⟩ := t
  simp at h
  rw [h]
theorem PrinterDiffers_ev (a b : List S40) (ha : a.length ≤ 9223372036854775807) (hb : b.length ≤ 9223372036854775807) : Ev (fun k => slotmeshlaw03_PrinterDiffers.f k a b) true := by
  unfold slotmeshlaw03_PrinterDiffers.f
  refine evBind head3 (Ev.bind (few_ev a ha) ?_)
  have skip : Ev (fun k => slotmeshlaw03_PrinterDiffers.j0 k a b true true) true :=
    Ev.step (f := _) (fun k => by rw [slotmeshlaw03_PrinterDiffers.j0]) (evPos rfl (Ev.now _))
  by_cases hfa : fewB a = true
  · refine evPos hfa (Ev.bind (few_ev b hb) ?_)
    by_cases hfb : fewB b = true
    · rw [hfb]
      have fa := few_some hfa
      have fb := few_some hfb
      refine Ev.step (f := _) (fun k => by rw [slotmeshlaw03_PrinterDiffers.j0]) (evNeg (by decide) ?_)
      refine evBind (print_f a) (evBind (print_f b) ?_)
      have out : ∀ s t, Ev (fun k => slotmeshlaw03_PrinterDiffers.j1 k a b true s t true) true := fun s t =>
        Ev.step (f := _) (fun k => by rw [slotmeshlaw03_PrinterDiffers.j1]) (evPos rfl (Ev.now _))
      by_cases h1 : (printR (a.map toCmd)).2 = 0
      · refine evPos h1 ?_
        by_cases h2 : (printR (b.map toCmd)).2 = 0
        · rw [h2]
          refine Ev.step (f := _) (fun k => by rw [slotmeshlaw03_PrinterDiffers.j1]) (evNeg (by decide) (evPos rfl ?_))
          refine evBind (strip_some a (by omega)) (evBind (strip_some b (by omega)) (Ev.bind (same_ev _ _ (stripS_len (fun x hx => (fa.2 x hx).1)) (by rw [List.length_map]; omega)) ?_))
          refine evEq (Ev.now _) ?_
          have e1 : printR (a.map toCmd) = ((printR (a.map toCmd)).1, 0) := by rw [← h1]
          have e2 : printR (b.map toCmd) = ((printR (b.map toCmd)).1, 0) := by rw [← h2]
          have key : ((printR (a.map toCmd)).1.toList = (printR (b.map toCmd)).1.toList) ↔ allS (a.map stripS) (b.map stripS) = true := by
            rw [allS_iff]
            constructor
            · intro h
              rw [toList_inj h] at e1
              have := print_inj e1 e2
              rw [← strip_map, ← strip_map] at this
              exact toCmd_inj this
            · intro h
              have : (a.map toCmd).map strip0 = (b.map toCmd).map strip0 := by rw [← strip_map, ← strip_map, h]
              rw [print_congr this]
          by_cases hk : allS (a.map stripS) (b.map stripS) = true
          · rw [hk]; simp [key.2 hk]
          · rw [Bool.not_eq_true] at hk
            have hne : ¬ ((printR (a.map toCmd)).1.toList = (printR (b.map toCmd)).1.toList) := fun e => by rw [key.1 e] at hk; cases hk
            rw [hk]; simp [hne]
        · rw [show ((printR (b.map toCmd)).2 != 0) = true from bne_iff_ne.2 h2]
          exact out _ _
      · exact evNeg h1 (out _ _)
    · rw [Bool.not_eq_true] at hfb
      rw [hfb]; exact skip
  · exact evNeg hfa skip
theorem map_to_of (l : List Cmd) : (l.map ofCmd).map toCmd = l := by
  rw [List.map_map]
  exact List.map_id l
theorem PrinterInverse_ev (a : List S40) (ha : a.length ≤ 9223372036854775807) : Ev (fun k => slotmeshlaw03_PrinterInverse.f k a) true := by
  unfold slotmeshlaw03_PrinterInverse.f
  refine evBind head3 (Ev.bind (few_ev a ha) ?_)
  by_cases hfa : fewB a = true
  · refine evPos hfa ?_
    have fa := few_some hfa
    refine evBind (print_f a) ?_
    by_cases h1 : (printR (a.map toCmd)).2 = 0
    · refine evPos h1 ?_
      have e1 : printR (a.map toCmd) = ((printR (a.map toCmd)).1, 0) := by rw [← h1]
      have hp := (parse_print e1).2.2.2.2.2
      refine evBind (show parser_Parse.f (printR (a.map toCmd)).1 = some ((locs (a.map toCmd) 0).map ofCmd, []) by unfold parser_Parse.f; rw [hp]; rfl) (evPos rfl (evPos rfl ?_))
      have hlen : ((locs (a.map toCmd) 0).map ofCmd).length = a.length := by rw [List.length_map, locs_length, List.length_map]
      have hst : ((locs (a.map toCmd) 0).map ofCmd).map stripS = a.map stripS := by
        apply toCmd_inj
        rw [strip_map, strip_map, map_to_of, locs_strip]
      refine evBind (strip_some _ (Nat.le_trans (Nat.le_of_eq hlen) (by omega))) (evBind (strip_some a (by omega)) ?_)
      rw [hst]
      refine Ev.bind (same_ev _ _ (stripS_len (fun x hx => (fa.2 x hx).1)) (by rw [List.length_map]; omega)) ?_
      rw [(allS_iff _ _).2 rfl]
      exact Ev.now _
    · refine evNeg h1 (evPos rfl ?_)
      rw [printR_err h1, empty_list]
      exact Ev.now _
  · exact evNeg hfa (Ev.now _)

end Go.Proofs.YtdedlchpjboceaaDoor.Qy
end

section
/-
  An argument that is a slice of commands: what it reads.
-/
namespace Go.Proofs.YtdedlchpjboceaaDoor.Qr
open Go.ChangeShapes Go.WideShapes Go.RowKit Go.Deep Go.Proofs.YtdedlchpjboceaaDoor.Px Go.Proofs.YtdedlchpjboceaaDoorW.PrintWords Go.Proofs.YtdedlchpjboceaaDoorW.PrintLast Go.Proofs.YtdedlchpjboceaaDoorW.PrintMore
section
variable {H : Type} {enc : TypeId × Value → H} {w : World} {base : Nat} {held : Bool}
theorem ints_read {fuel : Nat} {v : Value} {x : DataW H × List MemPlace} (h : DataW.trod enc Tryd.prog w base (fun _ => true) held fuel 38 [v] = some x) :
    ∃ a l c, v = .slice a l.length c ∧ l.length ≤ c ∧ (Kd.int .i64).C w a l.length l := by
  rcases open_ints Tryd.underlying38 Tryd.underlying3 (by kernel_rfl) h with ⟨hcs, _⟩ | ⟨a, len, cap, zs, hcs, _, hl, hm, hz, _, hcell, hwf⟩
  · obtain rfl : v = .slice none 0 0 := by simpa using hcs
    exact ⟨none, [], 0, rfl, Nat.le_refl _, Kd.C_nil _ _⟩
  · obtain rfl : v = .slice (some a) len cap := by simpa using hcs
    obtain ⟨l, rfl, hr, _, _, hc⟩ := ReadsInt.ofRowC (w := w) (k := .i64) (a := some a) (len := len) (cap := cap) (zs := zs) (.inr ⟨a, rfl, hl, hm, by simpa using hz, hcell, hwf⟩)
    exact ⟨some a, l, cap, rfl, hc, Kd.C_of_reads (d := (0 : Int)) (h1 := fun _ => rfl) hr⟩
set_option maxRecDepth 100000 in
theorem elem_read {n : Nat} {cs : List Value} {x : DataW H × List MemPlace} (h : DataW.trod enc Tryd.prog w base (fun _ => true) held n 40 cs = some x) : ∃ c : Cmd, kC.K w c cs := by
  obtain ⟨xs, n', _, _, hlen, hxl, hf⟩ := DataW.trod_struct Tryd.underlying40 h
  have hl4 : cs.length = 4 := hlen.trans (by kernel_rfl)
  match cs, hl4 with
  | [v0, v1, v2, v3], _ =>
    match xs, hxl with
    | [y0, y1, y2, y3], _ =>
      have h0 : DataW.trod enc Tryd.prog w base (fun _ => true) held n' 3 [v0] = some y0 := (by simpa [show Tryd.prog.cellsOf 3 = 1 by kernel_rfl] using hf 0 _ rfl)
      have h1 : DataW.trod enc Tryd.prog w base (fun _ => true) held n' 9 [v1] = some y1 := (by simpa [show Tryd.prog.cellsOf 9 = 1 by kernel_rfl] using hf 1 _ rfl)
      have h2 : DataW.trod enc Tryd.prog w base (fun _ => true) held n' 38 [v2] = some y2 := (by simpa [show Tryd.prog.cellsOf 38 = 1 by kernel_rfl] using hf 2 _ rfl)
      have h3 : DataW.trod enc Tryd.prog w base (fun _ => true) held n' 3 [v3] = some y3 := (by simpa [show Tryd.prog.cellsOf 3 = 1 by kernel_rfl] using hf 3 _ rfl)
      obtain ⟨k, e0, _⟩ := DataW.trod_int Tryd.underlying3 h0
      obtain ⟨s, e1, _⟩ := DataW.trod_string Tryd.underlying9 h1
      obtain ⟨a, l, c, rfl, hlc, hC⟩ := ints_read h2
      obtain ⟨q, e3, _⟩ := DataW.trod_int Tryd.underlying3 h3
      obtain rfl : v0 = .int .i64 k := by simpa using e0
      obtain rfl : v1 = .string s := by simpa using e1
      obtain rfl : v3 = .int .i64 q := by simpa using e3
      exact ⟨⟨k, s, l, q⟩, kC_mk w ⟨k, s, l, q⟩ hlc hC⟩
theorem list_of {α : Type} [Inhabited α] {P : Nat → α → Prop} : ∀ n : Nat, (∀ i, i < n → ∃ x, P i x) → ∃ l : List α, l.length = n ∧ ∀ i x, l[i]? = some x → P i x
  | 0, _ => ⟨[], rfl, fun i x h => by simp at h⟩
  | n + 1, h => by
    obtain ⟨l, hl, hp⟩ := list_of n (fun i hi => h i (by omega))
    obtain ⟨x, hx⟩ := h n (by omega)
    refine ⟨l ++ [x], by simp [hl], fun i y hy => ?_⟩
    rcases Nat.lt_or_ge i l.length with hi | hi
    · rw [List.getElem?_append_left hi] at hy; exact hp i y hy
    · have hi' : i = l.length := by
        have := (List.getElem?_eq_some_iff.1 hy).1
        rw [List.length_append, List.length_singleton] at this
        omega
      subst hi'
      have : x = y := by simpa using hy
      subst this
      rw [hl]; exact hx
instance : Inhabited Cmd := ⟨zC⟩

set_option maxRecDepth 100000 in
theorem cmds_read {fuel : Nat} {a : Option Addr} {len cap : Nat} {x : DataW H × List MemPlace} (h : DataW.trod enc Tryd.prog w base (fun _ => true) held fuel 25 [.slice a len cap] = some x) :
    ∃ l : List Cmd, len = l.length ∧ l.length ≤ cap ∧ Kd.C kC w a l.length l := by
  rcases open_slice Tryd.underlying25 h with ⟨hcs, _⟩ | ⟨a', len', cap', m, n, D, Pl, hcs, hb, hl, hm, hmm, hx, hi⟩
  · have hcs' : Value.slice a len cap = .slice none 0 0 := by simpa using hcs
    injection hcs' with e1 e2 e3
    subst e1; subst e2; subst e3
    exact ⟨[], rfl, Nat.le_refl _, Kd.C_nil _ _⟩
  · have hcs' : Value.slice a len cap = .slice (some a') len' cap' := by simpa using hcs
    injection hcs' with e1 e2 e3
    subst e1; subst e2; subst e3
    have hcz : Tryd.prog.cellsOf 40 = 4 := by kernel_rfl
    have hm' : m = cap := by simpa using hmm
    obtain ⟨l, hll, hp⟩ := list_of (P := fun i (c : Cmd) => ∃ cs, cs.length = 4 ∧ kC.K w c cs ∧ ∀ j u, cs[j]? = some u → w.cell? (a'.add (i * 4 + j)) = some u) len (fun i hlt => by
      obtain ⟨cs, hc, ht⟩ := hi i (by omega)
      obtain ⟨c, hk⟩ := elem_read ht
      obtain ⟨_, hcl, hat⟩ := World.cells?_some hc
      rw [hcz] at hcl hat
      refine ⟨c, cs, hcl, hk, fun j u hj => ?_⟩
      have hj4 : j < 4 := by have := (List.getElem?_eq_some_iff.1 hj).1; omega
      rw [← Go.Deep.add_add, hat j hj4, hj])
    subst hll
    refine ⟨l, rfl, hl, rfl, by unfold maxLen at hm; omega, fun _ => ⟨a', rfl, fun j p hj => ?_⟩⟩
    obtain ⟨cs, h1, h2, h3⟩ := hp j p hj
    exact ⟨cs, h1, h2, h3⟩
end
end Go.Proofs.YtdedlchpjboceaaDoor.Qr
end

section
/-
  An argument that is a slice of commands, in the printed texts' own words.
-/
namespace Go.Proofs.YtdedlchpjboceaaDoor.Qr
open Go.ChangeShapes Go.WideShapes Go.RowKit Go.Deep Go.Proofs.YtdedlchpjboceaaDoor.Px Go.Proofs.YtdedlchpjboceaaDoorW.PrintWords Go.Proofs.YtdedlchpjboceaaDoorW.PrintLast Go.Proofs.YtdedlchpjboceaaDoorW.PrintMore Go.Proofs.YtdedlchpjboceaaDoor.PE
theorem cmds_readS {H : Type} {enc : TypeId × Value → H} {w : World} {base : Nat} {held : Bool} {a : Option Addr} {len cap : Nat} {d : DataW H} {p : List MemPlace} (h : DataW.Trod enc Tryd.prog w base (fun _ => true) held 25 (.slice a len cap) d p) :
    ∃ l : List S40, len = l.length ∧ l.length ≤ cap ∧ Kd.C k40 w a l.length l ∧ l.length ≤ 9223372036854775807 := by
  obtain ⟨m, hm⟩ := h
  obtain ⟨l, rfl, h1, h2⟩ := cmds_read (x := (d, p)) (by simpa [Value.cells] using hm)
  have h3 : Kd.C k40 w a l.length (l.map Qy.ofC) := Tx.C_iso2 (h := Qy.ofC) (fun _ => rfl) h2
  refine ⟨l.map Qy.ofC, by rw [List.length_map], by rw [List.length_map]; exact h1, by rw [List.length_map]; exact h3, ?_⟩
  rw [List.length_map]; exact h2.2.1

end Go.Proofs.YtdedlchpjboceaaDoor.Qr
end

section
/-
  What a row's list of laid variables gives: the library's variable ErrRange holds an error.
-/
namespace Go.Proofs.YtdedlchpjboceaaDoor.Lx
open Go.RowKit

theorem gES : Tryd.prog.globalNamed "strconv.ErrRange" = some 3 := by kernel_rfl
theorem gESType : (Tryd.prog.globals[3]?).map (·.type) = some 109 := by kernel_rfl
theorem cellsES : Tryd.prog.cellsOf 158 = 1 := by kernel_rfl
theorem cellsStr : Tryd.prog.cellsOf 9 = 1 := by kernel_rfl
theorem starES : "*" ++ "errors.errorString" = "*errors.errorString" := by decide
theorem rowES (u : TypeId) (h : Tryd.prog.typeName? 3 u = some "*errors.errorString") : u = 156 :=
  typeName_ptr_named (nm := "errors.errorString") (by rw [starES]; kernel_rfl) (by kernel_rfl) (by decide) u (by rw [starES]; exact h)
theorem gok {L : List (String × DataW Unit)} {W : World} (h : laidMetH Tryd.prog L W) (e : L.filter (fun x => x.1 == "strconv.ErrRange") = [("strconv.ErrRange", Rows.laid_strconv_ErrRange)]) : GOK W := by
  have h1 := h.filter (fun x => x.1 == "strconv.ErrRange")
  rw [e, MakeChecks.laidMetH_plain _ _ _ (by kernel_rfl)] at h1
  obtain ⟨a0, s0, hv0, -, -, -⟩ := laid_sentinel (r := []) h1 gES gESType Tryd.underlying109 rowES Tryd.underlying156 Tryd.underlying158 rfl rfl Tryd.underlying9 cellsES cellsStr
  exact ⟨_, _, by have h0 := World.var?_cell gES hv0 0; simpa using h0⟩

end Go.Proofs.YtdedlchpjboceaaDoor.Lx
end

section
/-
  What a row's list of laid variables gives: the library's variable ErrRange holds an error, the printer's forms are the forms, Itoa's table is the table.
-/
namespace Go.Proofs.YtdedlchpjboceaaDoor.Tx
open Go.RowKit Go.Proofs.YtdedlchpjboceaaDoor.Lx

theorem cells_of_strs {H : Type} {enc : TypeId × Value → H} {P : Program} {w : World} {base : Nat} {sp : Nat → Bool} {held : Bool} {fuel : Nat} {t e : TypeId} {n : Nat} {cs : List Value} {zs : List (List UInt8)} {p : List MemPlace}
    (ht : P.underlying t = some (.array n e)) (he : P.underlying e = some .string) (hce : P.cellsOf e = 1) (hct : P.cellsOf t = n)
    (h : DataW.trod enc P w base sp held fuel t cs = some (.agg (zs.map fun z => .lit (.string z)), p)) : zs.length = n ∧ ∀ (i : Nat) (z : List UInt8), zs[i]? = some z → cs[i]? = some (.string ⟨z.toArray⟩) := by
  cases fuel with
  | zero => simp [DataW.trod] at h
  | succ fuel =>
    simp only [DataW.trod, ht, hce, hct, Nat.mul_one] at h
    split at h
    · obtain ⟨xs, hm, hx⟩ := Option.map_eq_some_iff.1 h
      have hxs : xs.map (·.1) = zs.map fun z => (DataW.lit (.string z) : DataW H) := by
        have := congrArg Prod.fst hx
        simpa using this
      have hxl : xs.length = n := by simpa using Lib.mapM_length hm
      have hzl : zs.length = n := by
        have := congrArg List.length hxs
        simp at this
        omega
      refine ⟨hzl, fun i z hz => ?_⟩
      have hi : i < n := by have := (List.getElem?_eq_some_iff.1 hz).1; omega
      obtain ⟨b, hb, hf⟩ := Lib.mapM_at hm i i (by simp [hi])
      obtain ⟨s, hc, rfl, _⟩ := DataW.trod_string he hf
      have h2 : (xs.map (·.1))[i]? = some (DataW.lit (.string s.data.toList) : DataW H) := by simp [hb]
      rw [hxs, List.getElem?_map, hz] at h2
      have hzs : z = s.data.toList := by simpa using h2
      have h1 : cs[i]? = some (.string s) := by
        have := congrArg (·[0]?) hc
        simpa [List.getElem?_take, List.getElem?_drop] using this
      rw [h1, hzs]
    · cases h
theorem Tryd.gForms : Tryd.prog.globalNamed "slotmesh/printer.forms" = some 0 := by kernel_rfl
theorem Tryd.gPow : Tryd.prog.globalNamed "internal/strconv.uint64pow10" = some 1 := by kernel_rfl
theorem Tryd.gFormsType : (Tryd.prog.globals[0]?).map (·.type) = some 113 := by kernel_rfl
theorem Tryd.gPowType : (Tryd.prog.globals[1]?).map (·.type) = some 144 := by kernel_rfl
theorem tab_laid {L : List (String × DataW Unit)} {W : World} (h : laidMetH Tryd.prog L W) (e : L.filter (fun x => x.1 == "internal/strconv.uint64pow10") = [("internal/strconv.uint64pow10", Rows.laid_internal_strconv_uint64pow10)]) :
    Lib.TabIs Tryd.prog W "internal/strconv.uint64pow10" .u64 Lib.pow10Tab := by
  have h1 := h.filter (fun x => x.1 == "internal/strconv.uint64pow10")
  rw [e, MakeChecks.laidMetH_plain _ _ _ (by kernel_rfl)] at h1
  exact Lib.tabIs_of_head (rest := []) Tryd.gPow Tryd.gPowType Tryd.underlying144 Tryd.underlying120 (by kernel_rfl) (by kernel_rfl) h1
theorem forms_laid {L : List (String × DataW Unit)} {W : World} (h : laidMetH Tryd.prog L W) (e : L.filter (fun x => x.1 == "slotmesh/printer.forms") = [("slotmesh/printer.forms", Rows.laid_slotmesh_printer_forms)]) :
    ∀ k : Int, 0 ≤ k → k < 12 → W.cell? ⟨0, k.toNat, none⟩ = some (.string ⟨(formB k).toArray⟩) := by
  have h1 := h.filter (fun x => x.1 == "slotmesh/printer.forms")
  rw [e, MakeChecks.laidMetH_plain _ _ _ (by kernel_rfl)] at h1
  obtain ⟨ps, ⟨g0, t0, cs0, f0, p0, q0, hg0, ht0, hv0, hd0, _, e0⟩, _, hrows⟩ := h1
  obtain rfl := Option.some.inj (Tryd.gForms.symm.trans hg0)
  obtain rfl := Option.some.inj (Tryd.gFormsType.symm.trans ht0)
  obtain ⟨hn, hc⟩ := cells_of_strs (zs := formsL) Tryd.underlying113 Tryd.underlying9 (by kernel_rfl) (by kernel_rfl) hd0
  intro k h0 hk
  have hf : formsL[k.toNat]? = some (formB k) := by
    have hlt : k.toNat < formsL.length := by show k.toNat < 12; omega
    unfold formB
    rw [List.getD_eq_getElem?_getD, List.getElem?_eq_getElem hlt]; rfl
  have h2 := World.var?_cell hg0 hv0 k.toNat
  have h3 := hc k.toNat _ hf
  rw [h2]
  simpa using h3
/-- The printer's premises, out of the list. -/
theorem gp {L : List (String × DataW Unit)} {W : World} (h : laidMetH Tryd.prog L W) (e1 : L.filter (fun x => x.1 == "strconv.ErrRange") = [("strconv.ErrRange", Rows.laid_strconv_ErrRange)])
    (e2 : L.filter (fun x => x.1 == "slotmesh/printer.forms") = [("slotmesh/printer.forms", Rows.laid_slotmesh_printer_forms)])
    (e3 : L.filter (fun x => x.1 == "internal/strconv.uint64pow10") = [("internal/strconv.uint64pow10", Rows.laid_internal_strconv_uint64pow10)]) : GP W :=
  ⟨gok h e1, forms_laid h e2, tab_laid h e3⟩

end Go.Proofs.YtdedlchpjboceaaDoor.Tx
end
