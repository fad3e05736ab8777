/-
  The lexer's 'Lex', walked: the tokens of a script, or its first error.
-/
import Derived.Test.YtiidalhcmlhnmaaDoorLxT
namespace Go.Proofs.YtiidalhcmlhnmaaDoor.Lx
open Go.RowKit Go.Shelf Go.Proofs.YtiidalhcmlhnmaaDoorW.PrintWords
attribute [local go_sem] Oper.semAt_some

theorem bytes_list (t : ByteArray) : (⟨t.data.toList.toArray⟩ : ByteArray) = t := rfl
theorem head_get (t : ByteArray) (h : 0 < t.size) : t.data.toList.head? = some t[0] := by
  have := drop_at t 0 h
  rw [List.drop_zero] at this
  rw [this]; rfl
theorem byte_48 {c : UInt8} (h : (c.toNat : Int) = 48) : c = 48 := UInt8.toNat_inj.1 (by change c.toNat = 48; omega)

/-- 'token' at a span that has one. -/
theorem token_ok (k : Int) (t : ByteArray) (o : Nat) (x : Tk) (hk : k = 3 ∨ k = 4 ∨ k = 5) (h0 : 0 < t.size) (hd : k = 4 → ∀ c ∈ t.data.toList, digitB c) (ht : t.size ≤ 140737488351232) (w : World) (_ : GOK w) (h : tokOf k t.data.toList o = .ok x) :
    Calls Tryd.prog 20 #[.agg #[.int .i64 k, .string t]] w fun e w' => e = .returned (.tuple #[.agg #[.int .i64 x.kind, .string ⟨x.t.toArray⟩, .int .i64 x.n, .int .i64 0], .int .i64 0]) ∧ Below w.heap.size w w' := by
  unfold tokOf at h
  rw [list_size] at h
  rcases hk with rfl | rfl | rfl
  · simp only [if_true] at h
    split at h
    · cases h
    · injection h with h; subst h; exact token_name t w (by omega)
  · rw [if_neg (by decide)] at h
    simp only [if_true] at h
    split at h
    · cases h
    · rename_i hz
      split at h
      · cases h
      · rename_i hv
        injection h with h; subst h
        have hne : t.data.toList ≠ [] := by intro e; have := list_size t; rw [e] at this; simp at this; omega
        rcases atoi_digits t.data.toList hne (hd rfl) with e | ⟨_, hg⟩
        · have hA := atoi_is_ok t ht w _ e
          by_cases h1 : t.size ≤ 1
          · exact token_num_S t w _ hA h1 (by dsimp only; omega)
          · refine token_num_D t w _ hA (by omega) (fun e2 => hz ⟨by omega, ?_⟩) (by dsimp only; omega)
            rw [head_get t h0]
            exact congrArg some (byte_48 e2)
        · omega
  · rw [if_neg (by decide), if_neg (by decide)] at h
    injection h with h; subst h; exact token_punct t w

/-- 'token' at a span that has none. -/
theorem token_err (k : Int) (t : ByteArray) (o : Nat) (er : Int) (hk : k = 3 ∨ k = 4 ∨ k = 5) (h0 : 0 < t.size) (hd : k = 4 → ∀ c ∈ t.data.toList, digitB c) (ht : t.size ≤ 140737488351232) (w : World) (hG : GOK w) (h : tokOf k t.data.toList o = .error er) :
    Calls Tryd.prog 20 #[.agg #[.int .i64 k, .string t]] w fun e w' => e = .returned (.tuple #[.agg #[.int .i64 0, .string ⟨#[]⟩, .int .i64 0, .int .i64 0], .int .i64 er]) ∧ Below w.heap.size w w' := by
  unfold tokOf at h
  rw [list_size] at h
  rcases hk with rfl | rfl | rfl
  · simp only [if_true] at h
    split at h
    · injection h with h; subst h; exact token_long t w (by omega)
    · cases h
  · rw [if_neg (by decide)] at h
    simp only [if_true] at h
    have hne : t.data.toList ≠ [] := by intro e; have := list_size t; rw [e] at this; simp at this; omega
    split at h
    · rename_i hz
      injection h with h; subst h
      obtain ⟨h1, h2⟩ := hz
      rw [head_get t h0] at h2
      have h3 : (t[0].toNat : Int) = 48 := by rw [Option.some.inj h2]; rfl
      rcases atoi_digits t.data.toList hne (hd rfl) with e | ⟨e, hg⟩
      · exact token_zero_false t w _ (atoi_is_ok t ht w _ e) h1 h3
      · exact token_zero_true t w _ (atoi_is_range t ht w hG e) h1 h3
    · rename_i hz
      split at h
      · rename_i hv
        injection h with h; subst h
        by_cases h1 : t.size ≤ 1
        · rcases atoi_digits t.data.toList hne (hd rfl) with e | ⟨e, hg⟩
          · exact token_big_S t w _ (atoi_is_ok t ht w _ e) h1 (by omega)
          · exact token_range_S t w _ (atoi_is_range t ht w hG e) h1
        · have h2 : ¬ (t[0].toNat : Int) = 48 := fun e2 => hz ⟨by omega, by rw [head_get t h0]; exact congrArg some (byte_48 e2)⟩
          rcases atoi_digits t.data.toList hne (hd rfl) with e | ⟨e, hg⟩
          · exact token_big_D t w _ (atoi_is_ok t ht w _ e) (by omega) h2 (by omega)
          · exact token_range_D t w _ (atoi_is_range t ht w hG e) (by omega) h2
      · cases h
  · rw [if_neg (by decide), if_neg (by decide)] at h
    cases h

end Go.Proofs.YtiidalhcmlhnmaaDoor.Lx
