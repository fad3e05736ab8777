/- Texts of proofs: plain words, and walks through the program's functions. -/
import Derived.Test.YtdedlchpjboceaaDoorM136ddb1b
import Derived.Test.YtdedlchpjboceaaDoorM29e64b73
import Derived.Lib.LaidTab

section
namespace Go.Proofs.YtdedlchpjboceaaDoor.Tx
open Go.RowKit Go.Proofs.YtdedlchpjboceaaDoor.Lx
theorem cells_of_strs {H : Type} {enc : TypeId × Value → H} {P : Program} {w : World} {base : Nat} {sp : Nat → Bool} {held : Bool} {fuel : Nat} {t e : TypeId} {n : Nat} {cs : List Value} {zs : List (List UInt8)} {p : List MemPlace}
    (ht : P.underlying t = some (.array n e)) (he : P.underlying e = some .string) (hce : P.cellsOf e = 1) (hct : P.cellsOf t = n)
    (h : DataW.trod enc P w base sp held fuel t cs = some (.agg (zs.map fun z => .lit (.string z)), p)) : zs.length = n ∧ ∀ (i : Nat) (z : List UInt8), zs[i]? = some z → cs[i]? = some (.string ⟨z.toArray⟩) := by
  cases fuel with
  | zero => simp [DataW.trod] at h
  | succ fuel =>
    simp only [DataW.trod, ht, hce, hct, Nat.mul_one] at h
    split at h
    · obtain ⟨xs, hm, hx⟩ := Option.map_eq_some_iff.1 h
      have hxs : xs.map (·.1) = zs.map fun z => (DataW.lit (.string z) : DataW H) := by
        have := congrArg Prod.fst hx
        simpa using this
      have hxl : xs.length = n := by simpa using Lib.mapM_length hm
      have hzl : zs.length = n := by
        have := congrArg List.length hxs
        simp at this
        omega
      refine ⟨hzl, fun i z hz => ?_⟩
      have hi : i < n := by have := (List.getElem?_eq_some_iff.1 hz).1; omega
      obtain ⟨b, hb, hf⟩ := Lib.mapM_at hm i i (by simp [hi])
      obtain ⟨s, hc, rfl, _⟩ := DataW.trod_string he hf
      have h2 : (xs.map (·.1))[i]? = some (DataW.lit (.string s.data.toList) : DataW H) := by simp [hb]
      rw [hxs, List.getElem?_map, hz] at h2
      have hzs : z = s.data.toList := by simpa using h2
      have h1 : cs[i]? = some (.string s) := by
        have := congrArg (·[0]?) hc
        simpa [List.getElem?_take, List.getElem?_drop] using this
      rw [h1, hzs]
    · cases h
theorem Tryd.gForms : Tryd.prog.globalNamed "slotmesh/printer.forms" = some 0 := by kernel_rfl
theorem Tryd.gPow : Tryd.prog.globalNamed "internal/strconv.uint64pow10" = some 1 := by kernel_rfl
theorem Tryd.gFormsType : (Tryd.prog.globals[0]?).map (·.type) = some 113 := by kernel_rfl
theorem Tryd.gPowType : (Tryd.prog.globals[1]?).map (·.type) = some 144 := by kernel_rfl
theorem tab_laid {L : List (String × DataW Unit)} {W : World} (h : laidMetH Tryd.prog L W) (e : L.filter (fun x => x.1 == "internal/strconv.uint64pow10") = [("internal/strconv.uint64pow10", Rows.laid_internal_strconv_uint64pow10)]) :
    Lib.TabIs Tryd.prog W "internal/strconv.uint64pow10" .u64 Lib.pow10Tab := by
  have h1 := h.filter (fun x => x.1 == "internal/strconv.uint64pow10")
  rw [e, MakeChecks.laidMetH_plain _ _ _ (by kernel_rfl)] at h1
  exact Lib.tabIs_of_head (rest := []) Tryd.gPow Tryd.gPowType Tryd.underlying144 Tryd.underlying120 (by kernel_rfl) (by kernel_rfl) h1
theorem forms_laid {L : List (String × DataW Unit)} {W : World} (h : laidMetH Tryd.prog L W) (e : L.filter (fun x => x.1 == "slotmesh/printer.forms") = [("slotmesh/printer.forms", Rows.laid_slotmesh_printer_forms)]) :
    ∀ k : Int, 0 ≤ k → k < 12 → W.cell? ⟨0, k.toNat, none⟩ = some (.string ⟨(formB k).toArray⟩) := by
  have h1 := h.filter (fun x => x.1 == "slotmesh/printer.forms")
  rw [e, MakeChecks.laidMetH_plain _ _ _ (by kernel_rfl)] at h1
  obtain ⟨ps, ⟨g0, t0, cs0, f0, p0, q0, hg0, ht0, hv0, hd0, _, e0⟩, _, hrows⟩ := h1
  obtain rfl := Option.some.inj (Tryd.gForms.symm.trans hg0)
  obtain rfl := Option.some.inj (Tryd.gFormsType.symm.trans ht0)
  obtain ⟨hn, hc⟩ := cells_of_strs (zs := formsL) Tryd.underlying113 Tryd.underlying9 (by kernel_rfl) (by kernel_rfl) hd0
  intro k h0 hk
  have hf : formsL[k.toNat]? = some (formB k) := by
    have hlt : k.toNat < formsL.length := by show k.toNat < 12; omega
    unfold formB
    rw [List.getD_eq_getElem?_getD, List.getElem?_eq_getElem hlt]; rfl
  have h2 := World.var?_cell hg0 hv0 k.toNat
  have h3 := hc k.toNat _ hf
  rw [h2]
  simpa using h3
/-- The printer's premises, out of the list. -/
theorem gp {L : List (String × DataW Unit)} {W : World} (h : laidMetH Tryd.prog L W) (e1 : L.filter (fun x => x.1 == "strconv.ErrRange") = [("strconv.ErrRange", Rows.laid_strconv_ErrRange)])
    (e2 : L.filter (fun x => x.1 == "slotmesh/printer.forms") = [("slotmesh/printer.forms", Rows.laid_slotmesh_printer_forms)])
    (e3 : L.filter (fun x => x.1 == "internal/strconv.uint64pow10") = [("internal/strconv.uint64pow10", Rows.laid_internal_strconv_uint64pow10)]) : GP W :=
  ⟨gok h e1, forms_laid h e2, tab_laid h e3⟩
end Go.Proofs.YtdedlchpjboceaaDoor.Tx
end
