/- Texts of proofs: plain words, and walks through the program's functions. -/
import Derived.Test.YtdedlchpjboceaaDoorM302d3884
import Derived.Test.YtdedlchpjboceaaDoorM798a5ef1

section
/-
  The statements PrinterDiffers and PrinterInverse, in plain words.
-/
namespace Go.Proofs.YtdedlchpjboceaaDoor.Qy
open Go.RowKit Go.Proofs.YtdedlchpjboceaaDoorW.PrintWords Go.Proofs.YtdedlchpjboceaaDoorW.PrintLast Go.Proofs.YtdedlchpjboceaaDoor.Lx Go.Proofs.YtdedlchpjboceaaDoor.Px Go.Proofs.YtdedlchpjboceaaDoor.Tx Go.Proofs.YtdedlchpjboceaaDoor.Qz Go.Proofs.YtdedlchpjboceaaDoor.PE

theorem strip_some (l : List S40) (h : l.length ≤ 1000000) : parser_Strip.f l = some (l.map stripS) := by unfold parser_Strip.f; rw [if_pos h]
theorem stripS_len {l : List S40} (h : ∀ x ∈ l, x.f2.length ≤ 20) : ∀ x ∈ l.map stripS, x.f2.length ≤ 1000000 := by
  intro x hx
  obtain ⟨y, hy, rfl⟩ := List.mem_map.1 hx
  have := h y hy
  show y.f2.length ≤ _
  omega
theorem printR_err {l : List Cmd} (h : (printR l).2 ≠ 0) : (printR l).1 = ⟨#[]⟩ := by
  rcases print_cases l with ⟨_, e⟩ | ⟨_, _, _, e, _⟩ | ⟨_, _, e⟩
  · rw [e]
  · rw [e] at h; exact absurd rfl h
  · rw [e]
theorem empty_list : (⟨#[]⟩ : ByteArray).toList = [] := by rw [ByteArray.toList_eq]
theorem toList_inj {s t : ByteArray} (h : s.toList = t.toList) : s = t := by
  rw [ByteArray.toList_eq, ByteArray.toList_eq] at h
  obtain ⟨⟨l⟩⟩ := s
  obtain ⟨⟨l'⟩⟩ := t
  simp at h
  rw [h]
theorem PrinterDiffers_ev (a b : List S40) (ha : a.length ≤ 9223372036854775807) (hb : b.length ≤ 9223372036854775807) : Ev (fun k => slotmeshlaw03_PrinterDiffers.f k a b) true := by
  unfold slotmeshlaw03_PrinterDiffers.f
  refine evBind head3 (Ev.bind (few_ev a ha) ?_)
  have skip : Ev (fun k => slotmeshlaw03_PrinterDiffers.j0 k a b true true) true :=
    Ev.step (f := _) (fun k => by rw [slotmeshlaw03_PrinterDiffers.j0]) (evPos rfl (Ev.now _))
  by_cases hfa : fewB a = true
  · refine evPos hfa (Ev.bind (few_ev b hb) ?_)
    by_cases hfb : fewB b = true
    · rw [hfb]
      have fa := few_some hfa
      have fb := few_some hfb
      refine Ev.step (f := _) (fun k => by rw [slotmeshlaw03_PrinterDiffers.j0]) (evNeg (by decide) ?_)
      refine evBind (print_f a) (evBind (print_f b) ?_)
      have out : ∀ s t, Ev (fun k => slotmeshlaw03_PrinterDiffers.j1 k a b true s t true) true := fun s t =>
        Ev.step (f := _) (fun k => by rw [slotmeshlaw03_PrinterDiffers.j1]) (evPos rfl (Ev.now _))
      by_cases h1 : (printR (a.map toCmd)).2 = 0
      · refine evPos h1 ?_
        by_cases h2 : (printR (b.map toCmd)).2 = 0
        · rw [h2]
          refine Ev.step (f := _) (fun k => by rw [slotmeshlaw03_PrinterDiffers.j1]) (evNeg (by decide) (evPos rfl ?_))
          refine evBind (strip_some a (by omega)) (evBind (strip_some b (by omega)) (Ev.bind (same_ev _ _ (stripS_len (fun x hx => (fa.2 x hx).1)) (by rw [List.length_map]; omega)) ?_))
          refine evEq (Ev.now _) ?_
          have e1 : printR (a.map toCmd) = ((printR (a.map toCmd)).1, 0) := by rw [← h1]
          have e2 : printR (b.map toCmd) = ((printR (b.map toCmd)).1, 0) := by rw [← h2]
          have key : ((printR (a.map toCmd)).1.toList = (printR (b.map toCmd)).1.toList) ↔ allS (a.map stripS) (b.map stripS) = true := by
            rw [allS_iff]
            constructor
            · intro h
              rw [toList_inj h] at e1
              have := print_inj e1 e2
              rw [← strip_map, ← strip_map] at this
              exact toCmd_inj this
            · intro h
              have : (a.map toCmd).map strip0 = (b.map toCmd).map strip0 := by rw [← strip_map, ← strip_map, h]
              rw [print_congr this]
          by_cases hk : allS (a.map stripS) (b.map stripS) = true
          · rw [hk]; simp [key.2 hk]
          · rw [Bool.not_eq_true] at hk
            have hne : ¬ ((printR (a.map toCmd)).1.toList = (printR (b.map toCmd)).1.toList) := fun e => by rw [key.1 e] at hk; cases hk
            rw [hk]; simp [hne]
        · rw [show ((printR (b.map toCmd)).2 != 0) = true from bne_iff_ne.2 h2]
          exact out _ _
      · exact evNeg h1 (out _ _)
    · rw [Bool.not_eq_true] at hfb
      rw [hfb]; exact skip
  · exact evNeg hfa skip
theorem map_to_of (l : List Cmd) : (l.map ofCmd).map toCmd = l := by
  rw [List.map_map]
  exact List.map_id l
theorem PrinterInverse_ev (a : List S40) (ha : a.length ≤ 9223372036854775807) : Ev (fun k => slotmeshlaw03_PrinterInverse.f k a) true := by
  unfold slotmeshlaw03_PrinterInverse.f
  refine evBind head3 (Ev.bind (few_ev a ha) ?_)
  by_cases hfa : fewB a = true
  · refine evPos hfa ?_
    have fa := few_some hfa
    refine evBind (print_f a) ?_
    by_cases h1 : (printR (a.map toCmd)).2 = 0
    · refine evPos h1 ?_
      have e1 : printR (a.map toCmd) = ((printR (a.map toCmd)).1, 0) := by rw [← h1]
      have hp := (parse_print e1).2.2.2.2.2
      refine evBind (show parser_Parse.f (printR (a.map toCmd)).1 = some ((locs (a.map toCmd) 0).map ofCmd, []) by unfold parser_Parse.f; rw [hp]; rfl) (evPos rfl (evPos rfl ?_))
      have hlen : ((locs (a.map toCmd) 0).map ofCmd).length = a.length := by rw [List.length_map, locs_length, List.length_map]
      have hst : ((locs (a.map toCmd) 0).map ofCmd).map stripS = a.map stripS := by
        apply toCmd_inj
        rw [strip_map, strip_map, map_to_of, locs_strip]
      refine evBind (strip_some _ (Nat.le_trans (Nat.le_of_eq hlen) (by omega))) (evBind (strip_some a (by omega)) ?_)
      rw [hst]
      refine Ev.bind (same_ev _ _ (stripS_len (fun x hx => (fa.2 x hx).1)) (by rw [List.length_map]; omega)) ?_
      rw [(allS_iff _ _).2 rfl]
      exact Ev.now _
    · refine evNeg h1 (evPos rfl ?_)
      rw [printR_err h1, empty_list]
      exact Ev.now _
  · exact evNeg hfa (Ev.now _)

end Go.Proofs.YtdedlchpjboceaaDoor.Qy
end
