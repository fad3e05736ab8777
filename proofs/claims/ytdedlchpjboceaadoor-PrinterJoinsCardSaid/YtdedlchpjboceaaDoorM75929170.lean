/- Texts of proofs: plain words, and walks through the program's functions. -/
import Derived.Test.YtdedlchpjboceaaDoorM7dd29768
import Derived.Test.YtdedlchpjboceaaDoorMfe4173a0

section
namespace Go.Proofs.YtdedlchpjboceaaDoor.Qy
open Go.RowKit Go.Proofs.YtdedlchpjboceaaDoorW.PrintWords Go.Proofs.YtdedlchpjboceaaDoorW.PrintLast Go.Proofs.YtdedlchpjboceaaDoor.Lx Go.Proofs.YtdedlchpjboceaaDoor.Px Go.Proofs.YtdedlchpjboceaaDoor.Tx Go.Proofs.YtdedlchpjboceaaDoor.Qz Go.Proofs.YtdedlchpjboceaaDoor.PE
theorem printB_appO (a b : List Cmd) : printB (a ++ b) = printB a ++ printB b := by unfold printB; rw [List.flatMap_append]
theorem valid_app (a b : List Cmd) : validB (a ++ b) = true ↔ a.length + b.length ≤ 300 ∧ (∀ c ∈ a, cB c = true) ∧ ∀ c ∈ b, cB c = true := by
  constructor
  · intro h
    obtain ⟨h1, h2⟩ := validB_mem h
    rw [List.length_append] at h1
    exact ⟨h1, fun c hc => h2 c (List.mem_append_left _ hc), fun c hc => h2 c (List.mem_append_right _ hc)⟩
  · rintro ⟨h1, h2, h3⟩
    unfold validB
    rw [Bool.and_eq_true, decide_eq_true_eq, List.all_eq_true, List.length_append]
    refine ⟨by omega, fun c hc => ?_⟩
    rcases List.mem_append.1 hc with hc | hc
    · exact h2 c hc
    · exact h3 c hc
theorem valid_of {a : List Cmd} (h1 : a.length ≤ 300) (h2 : ∀ c ∈ a, cB c = true) : validB a = true := by
  unfold validB
  rw [Bool.and_eq_true, decide_eq_true_eq, List.all_eq_true]
  exact ⟨by omega, h2⟩
/-- Where both together have a text, each has one, and it is the one behind the other. -/
theorem join_ok {a b : List Cmd} (h : (printR (a ++ b)).2 = 0) : (printR a).2 = 0 ∧ (printR b).2 = 0 := by
  rcases print_cases (a ++ b) with ⟨_, e⟩ | ⟨hv, h8, h2, _, _⟩ | ⟨_, _, e⟩
  · rw [e] at h; cases h
  · obtain ⟨v1, v2, v3⟩ := (valid_app a b).1 hv
    rw [printB_appO, List.length_append] at h8
    rw [lPs_append, List.length_append] at h2
    have va := valid_of (by omega) v2
    have vb := valid_of (by omega) v3
    constructor
    · rcases print_cases a with ⟨q, _⟩ | ⟨_, _, _, e, _⟩ | ⟨_, q, _⟩
      · rw [va] at q; cases q
      · rw [e]
      · exact absurd ⟨by omega, by omega⟩ q
    · rcases print_cases b with ⟨q, _⟩ | ⟨_, _, _, e, _⟩ | ⟨_, q, _⟩
      · rw [vb] at q; cases q
      · rw [e]
      · exact absurd ⟨by omega, by omega⟩ q
  · rw [e] at h; cases h
theorem print_ok {a : List Cmd} (h : (printR a).2 = 0) : (printR a).1 = ⟨(printB a).toArray⟩ ∧ validB a = true := by
  rcases print_cases a with ⟨_, e⟩ | ⟨hv, _, _, e, _⟩ | ⟨_, _, e⟩
  · rw [e] at h; cases h
  · exact ⟨by rw [e], hv⟩
  · rw [e] at h; cases h
theorem join_bad {a b : List Cmd} (h1 : (printR a).2 = 0) (h2 : (printR b).2 = 0) (h : (printR (a ++ b)).2 = 1) : 300 < a.length + b.length := by
  obtain ⟨_, va⟩ := print_ok h1
  obtain ⟨_, vb⟩ := print_ok h2
  rcases print_cases (a ++ b) with ⟨q, _⟩ | ⟨_, _, _, e, _⟩ | ⟨_, _, e⟩
  · rw [← Bool.not_eq_true, valid_app] at q
    refine Nat.lt_of_not_le (fun hle => q ⟨hle, (validB_mem va).2, (validB_mem vb).2⟩)
  · rw [e] at h; cases h
  · rw [e] at h; cases h
theorem errs (a : List Cmd) : (printR a).2 = 0 ∨ (printR a).2 = 1 ∨ (printR a).2 = 2 := by
  rcases print_cases a with ⟨_, e⟩ | ⟨_, _, _, e, _⟩ | ⟨_, _, e⟩
  · rw [e]; exact .inr (.inl rfl)
  · rw [e]; exact .inl rfl
  · rw [e]; exact .inr (.inr rfl)
theorem PrinterJoins_ev (a b : List S40) (ha : a.length ≤ 9223372036854775807) (hb : b.length ≤ 9223372036854775807) : Ev (fun k => slotmeshlaw03_PrinterJoins.f k a b) true := by
  unfold slotmeshlaw03_PrinterJoins.f
  refine evBind head3 (Ev.bind (few_ev a ha) ?_)
  have skip : Ev (fun k => slotmeshlaw03_PrinterJoins.j0 k a b true true) true :=
    Ev.step (f := _) (fun k => by rw [slotmeshlaw03_PrinterJoins.j0]) (evPos rfl (Ev.now _))
  by_cases hfa : fewB a = true
  · refine evPos hfa (Ev.bind (few_ev b hb) ?_)
    by_cases hfb : fewB b = true
    · rw [hfb]
      have fa := (few_some hfa).1
      have fb := (few_some hfb).1
      refine Ev.step (f := _) (fun k => by rw [slotmeshlaw03_PrinterJoins.j0]) ?_
      refine evNeg (by decide) (evBind (print_f a) (evBind (print_f b) (evBind rfl ?_)))
      refine evPos (by simp; omega) (evBind rfl (evPos (by simp; omega) (evBind (print_f _) ?_)))
      rw [List.nil_append, List.map_append]
      generalize hA : a.map toCmd = A
      generalize hB : b.map toCmd = B
      have lA : a.length = A.length := by rw [← hA, List.length_map]
      have lB : b.length = B.length := by rw [← hB, List.length_map]
      have bad : ((printR A).2 ≠ 0 ∨ (printR B).2 ≠ 0) → ∀ s t u, Ev (fun k => slotmeshlaw03_PrinterJoins.j1 k a b true s t u (printR (A ++ B)).2 true) true := by
        intro h s t u
        refine Ev.step (f := _) (fun k => by rw [slotmeshlaw03_PrinterJoins.j1]) ?_
        refine evPos rfl (evPos rfl (evEq (Ev.now _) ?_))
        rw [bne_iff_ne]
        intro h0
        obtain ⟨h1, h2⟩ := join_ok h0
        rcases h with h | h
        · exact h h1
        · exact h h2
      by_cases h1 : (printR A).2 = 0
      · refine evPos h1 ?_
        by_cases h2 : (printR B).2 = 0
        · rw [h2]
          refine Ev.step (f := _) (fun k => by rw [slotmeshlaw03_PrinterJoins.j1]) ?_
          refine evNeg (by decide) ?_
          by_cases h3 : (printR (A ++ B)).2 = 0
          · refine evPos h3 (evPos rfl ?_)
            obtain ⟨e1, v1⟩ := print_ok h1
            obtain ⟨e2, v2⟩ := print_ok h2
            obtain ⟨e3, _⟩ := print_ok h3
            have z1 := printB_len A (validB_mem v1).2
            have z2 := printB_len B (validB_mem v2).2
            rw [e1, e2, e3]
            have s1 : (⟨(printB A).toArray⟩ : ByteArray).size = (printB A).length := by simp [ByteArray.size]
            have s2 : (⟨(printB B).toArray⟩ : ByteArray).size = (printB B).length := by simp [ByteArray.size]
            refine evPos (by rw [s1, s2]; omega) (evEq (Ev.now _) ?_)
            rw [beq_iff_eq, ByteArray.toList_eq, ByteArray.toList_eq, printB_appO]
            simp [ByteArray.data_append]
          · refine evNeg h3 (evPos rfl ?_)
            rcases errs (A ++ B) with h | h | h
            · exact absurd h h3
            · refine evPos h ?_
              have := join_bad h1 h2 h
              rw [w64 (by omega) (by omega)]
              exact evPos (by omega) (Ev.now _)
            · refine evNeg (by rw [h]; decide) (evEq (Ev.now _) ?_)
              rw [h]; rfl
        · rw [show ((printR B).2 != 0) = true from bne_iff_ne.2 h2]
          exact bad (.inr h2) _ _ _
      · exact evNeg h1 (bad (.inl h1) _ _ _)
    · rw [Bool.not_eq_true] at hfb
      rw [hfb]; exact skip
  · exact evNeg hfa skip
end Go.Proofs.YtdedlchpjboceaaDoor.Qy
end
