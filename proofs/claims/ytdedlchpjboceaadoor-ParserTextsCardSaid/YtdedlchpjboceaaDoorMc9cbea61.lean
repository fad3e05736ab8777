/- Texts of proofs: plain words, and walks through the program's functions. -/
import Derived.Test.YtdedlchpjboceaaDoorM6ce7cd3e
import Derived.Test.YtdedlchpjboceaaDoorM28521413
import Derived.Test.YtdedlchpjboceaaDoorM6aea5cf6

section
namespace Go.Proofs.YtdedlchpjboceaaDoor.Qy
open Go.RowKit Go.Proofs.YtdedlchpjboceaaDoorW.PrintWords Go.Proofs.YtdedlchpjboceaaDoorW.PrintLast Go.Proofs.YtdedlchpjboceaaDoor.Lx Go.Proofs.YtdedlchpjboceaaDoor.Px Go.Proofs.YtdedlchpjboceaaDoor.Tx Go.Proofs.YtdedlchpjboceaaDoor.Qz Go.Proofs.YtdedlchpjboceaaDoor.PE
theorem parseF (s : ByteArray) : parser_Parse.f s = some ((parseR s).1.map ofCmd, (parseR s).2.map ofDg) := rfl
theorem stripF {x : List Cmd} (h : x.length ≤ 1000000) : parser_Strip.f (x.map ofCmd) = some ((x.map strip0).map ofCmd) := by
  unfold parser_Strip.f
  rw [if_pos (by rw [List.length_map]; exact h), List.map_map, List.map_map]
  rfl
theorem ofCmd_inj {a b : List Cmd} (h : a.map ofCmd = b.map ofCmd) : a = b := by
  have := congrArg (List.map (fun x : S40 => (⟨x.f0, x.f1, x.f2, x.f3⟩ : Cmd))) h
  rw [List.map_map, List.map_map] at this
  have e : ∀ l : List Cmd, l.map ((fun x : S40 => (⟨x.f0, x.f1, x.f2, x.f3⟩ : Cmd)) ∘ ofCmd) = l := fun l => List.map_id l
  rwa [e, e] at this
/-- Same on commands with few numbers. -/
theorem sameF {a b : List Cmd} (h : ∀ c ∈ a, c.f2.length ≤ 1000000) (hl : a.length ≤ 1000000) : ∃ r : Bool, Ev (fun k => slotmeshref02_Same.f k (a.map ofCmd) (b.map ofCmd)) r ∧ (r = true ↔ a = b) := by
  refine ⟨allS (a.map ofCmd) (b.map ofCmd), same_ev _ _ ?_ (by rw [List.length_map]; exact hl), ?_⟩
  · intro x hx
    obtain ⟨c, hc, rfl⟩ := List.mem_map.1 hx
    exact h c hc
  · rw [allS_iff]
    exact ⟨ofCmd_inj, fun e => by rw [e]⟩
theorem shp_le {k : Int} (h1 : 1 ≤ k) (h2 : k ≤ 11) : (shp k).2 ≤ 6 := by
  rcases kinds h1 h2 with rfl | rfl | rfl | rfl | rfl | rfl | rfl | rfl | rfl | rfl | rfl <;> decide
theorem cB_few {c : Cmd} (h : cB c = true) : c.f2.length ≤ 1000000 := by
  obtain ⟨h1, h2, h3, _, _⟩ := valid_kind h
  have := shp_le h1 h2
  omega
theorem strip_few {x : List Cmd} (h : ∀ c ∈ x, cB c = true) : ∀ c ∈ x.map strip0, c.f2.length ≤ 1000000 := by
  intro c hc
  obtain ⟨d, hd, rfl⟩ := List.mem_map.1 hc
  exact cB_few (h d hd)
end Go.Proofs.YtdedlchpjboceaaDoor.Qy
end
