/- Texts of proofs: plain words, and walks through the program's functions. -/
import Derived.Test.YtdedlchpjboceaaDoorM85362d44
import Derived.Test.YtdedlchpjboceaaDoorMfa68678c
import Derived.Test.YtdedlchpjboceaaDoorMa30184cd

section
namespace Go.Proofs.YtdedlchpjboceaaDoor.Qz
open Go Go.Proofs.YtdedlchpjboceaaDoor.Lx Go.Proofs.YtdedlchpjboceaaDoor.Px
/-- A token without its offset. -/
def bareT (t : Tok) : Int × ByteArray × Int := (t.f0, t.f1, t.f2)
theorem bare_f {t u : Tok} (h : bareT t = bareT u) : t.f0 = u.f0 ∧ t.f1 = u.f1 ∧ t.f2 = u.f2 := by
  unfold bareT at h
  simpa using h
/-- Tokens as the lexer makes them, as far as it matters here: a number has no text. -/
def TokN (t : Tok) : Prop := t.f0 = 2 → t.f1 = ⟨#[]⟩
def AllN (l : List Tok) : Prop := ∀ t ∈ l, TokN t
def SemiFree (p : List Tok) : Prop := ∀ t ∈ p, semiB t = false
theorem semiFree_nil : SemiFree [] := fun _ h => by cases h
theorem semiFree_one {t : Tok} (h : semiB t = false) : SemiFree [t] := fun u hu => by obtain rfl := List.mem_singleton.1 hu; exact h
theorem SemiFree.append {p q : List Tok} (h : SemiFree p) (k : SemiFree q) : SemiFree (p ++ q) := fun t ht => by
  rcases List.mem_append.1 ht with ht | ht
  · exact h t ht
  · exact k t ht
theorem semi_ne {t : Tok} (h : t.f1 ≠ semiT) : semiB t = false := by unfold semiB; exact decide_eq_false h
theorem empty_ne_semi : (⟨#[]⟩ : ByteArray) ≠ semiT := fun h => by
  have := congrArg (fun s => s.data.toList.length) h
  simp [semiT] at this
theorem AllN.tail {l : List Tok} (h : AllN l) : AllN l.tail := fun t ht => h t (List.mem_of_mem_tail ht)
theorem AllN.right {p l : List Tok} (h : AllN (p ++ l)) : AllN l := fun t ht => h t (List.mem_append_right _ ht)
/-- What a part of the reader does: it takes tokens without semicolons, whatever stands behind; it fails at the token where it fails. -/
def OkSt (P : Int → List Tok → Cmd → Res) : Prop := ∀ e l c l' c', AllN l → P e l c = .ok (l', c') → ∃ p, l = p ++ l' ∧ SemiFree p ∧ ∀ e' m, P e' (p ++ m) c = .ok (m, c')
def ErSt (P : Int → List Tok → Cmd → Res) : Prop := ∀ e l c a l', AllN l → P e l c = .error (a, l') → ∃ p, l = p ++ l' ∧ SemiFree p ∧ a = (nextT l' e).f3 ∧
  ∀ e' m, bareT (nextT m e') = bareT (nextT l' e) → P e' (p ++ m) c = .error ((nextT m e').f3, m)
def plainI : It → Prop
  | .W s => s ≠ semiT ∧ s ≠ ⟨#[]⟩
  | _ => True
theorem name_ne_semi {t : Tok} (h : nameB t.f1.data.toList = true) : t.f1 ≠ semiT := fun e => by
  rw [e] at h
  exact absurd h (by decide)
theorem step_ok {i : It} (hi : plainI i) : OkSt (fun e l c => stepIt e i l c) := by
  intro e l c l' c' hN h
  cases i with
  | W s =>
    simp only [stepIt] at h
    split at h
    · rename_i hs
      obtain ⟨t, tl, rfl⟩ := nextT_cons (l := l) (e := e) (by rw [hs]; exact hi.2)
      injection h with h
      injection h with h1 h2
      subst h1; subst h2
      have hs' : t.f1 = s := hs
      refine ⟨[t], rfl, semiFree_one (semi_ne (by rw [hs']; exact hi.1)), fun e' m => ?_⟩
      simp only [stepIt]
      exact if_pos hs'
    · cases h
  | Nm =>
    simp only [stepIt] at h
    split at h
    · rename_i hs
      obtain ⟨t, tl, rfl⟩ := nextT_kind (l := l) (e := e) (by rw [hs.1]; decide)
      injection h with h
      injection h with h1 h2
      subst h1; subst h2
      refine ⟨[t], rfl, semiFree_one (semi_ne (name_ne_semi hs.2)), fun e' m => ?_⟩
      simp only [stepIt]
      exact if_pos hs
    · cases h
  | Num =>
    simp only [stepIt] at h
    split at h
    · rename_i hs
      obtain ⟨t, tl, rfl⟩ := nextT_kind (l := l) (e := e) (by rw [hs]; decide)
      injection h with h
      injection h with h1 h2
      subst h1; subst h2
      have ht : t.f1 = ⟨#[]⟩ := hN t (by simp) hs
      refine ⟨[t], rfl, semiFree_one (semi_ne (by rw [ht]; exact empty_ne_semi)), fun e' m => ?_⟩
      simp only [stepIt]
      exact if_pos hs
    · cases h
  | Dr =>
    simp only [stepIt] at h
    split at h
    · rename_i hs
      obtain ⟨t, tl, rfl⟩ := nextT_cons (l := l) (e := e) (by rcases hs with hs | hs <;> rw [hs] <;> decide)
      split at h
      · rename_i hk
        have hk' : (nextT tl e).f0 = 2 := hk
        obtain ⟨u, ul, rfl⟩ := nextT_kind (l := tl) (e := e) (by rw [hk']; decide)
        injection h with h
        injection h with h1 h2
        subst h1; subst h2
        have hu : u.f1 = ⟨#[]⟩ := hN u (by simp) hk
        have ht : t.f1 ≠ semiT := by
          have hs' : t.f1 = slowT ∨ t.f1 = fastT := hs
          rcases hs' with hs' | hs' <;> rw [hs'] <;> decide
        refine ⟨[t, u], rfl, SemiFree.append (p := [t]) (semiFree_one (semi_ne ht)) (semiFree_one (semi_ne (by rw [hu]; exact empty_ne_semi))), fun e' m => ?_⟩
        simp only [stepIt]
        exact (if_pos hs).trans (if_pos hk)
      · cases h
    · cases h
theorem step_er {i : It} (hi : plainI i) : ErSt (fun e l c => stepIt e i l c) := by
  intro e l c a l' hN h
  cases i with
  | W s =>
    simp only [stepIt] at h
    split at h
    · cases h
    · rename_i hs
      injection h with h
      injection h with h1 h2
      subst h1; subst h2
      refine ⟨[], rfl, semiFree_nil, rfl, fun e' m hb => ?_⟩
      simp only [stepIt, List.nil_append]
      exact if_neg (by rw [(bare_f hb).2.1]; exact hs)
  | Nm =>
    simp only [stepIt] at h
    split at h
    · cases h
    · rename_i hs
      injection h with h
      injection h with h1 h2
      subst h1; subst h2
      refine ⟨[], rfl, semiFree_nil, rfl, fun e' m hb => ?_⟩
      simp only [stepIt, List.nil_append]
      exact if_neg (by rw [(bare_f hb).1, (bare_f hb).2.1]; exact hs)
  | Num =>
    simp only [stepIt] at h
    split at h
    · cases h
    · rename_i hs
      injection h with h
      injection h with h1 h2
      subst h1; subst h2
      refine ⟨[], rfl, semiFree_nil, rfl, fun e' m hb => ?_⟩
      simp only [stepIt, List.nil_append]
      exact if_neg (by rw [(bare_f hb).1]; exact hs)
  | Dr =>
    simp only [stepIt] at h
    split at h
    · rename_i hs
      obtain ⟨t, tl, rfl⟩ := nextT_cons (l := l) (e := e) (by rcases hs with hs | hs <;> rw [hs] <;> decide)
      split at h
      · cases h
      · rename_i hk
        injection h with h
        injection h with h1 h2
        subst h1; subst h2
        have ht : t.f1 ≠ semiT := by
          have hs' : t.f1 = slowT ∨ t.f1 = fastT := hs
          rcases hs' with hs' | hs' <;> rw [hs'] <;> decide
        refine ⟨[t], rfl, semiFree_one (semi_ne ht), rfl, fun e' m hb => ?_⟩
        simp only [stepIt]
        refine (if_pos hs).trans (if_neg ?_)
        show ¬ (nextT m e').f0 = 2
        rw [(bare_f hb).1]; exact hk
    · rename_i hs
      injection h with h
      injection h with h1 h2
      subst h1; subst h2
      refine ⟨[], rfl, semiFree_nil, rfl, fun e' m hb => ?_⟩
      simp only [stepIt, List.nil_append]
      exact if_neg (by rw [(bare_f hb).2.1]; exact hs)
theorem run_ok : ∀ {is : List It}, (∀ i ∈ is, plainI i) → OkSt (fun e l c => runIt e is l c)
  | [], _ => fun e l c l' c' _ h => by
    injection h with h
    injection h with h1 h2
    subst h1; subst h2
    exact ⟨[], rfl, semiFree_nil, fun _ _ => rfl⟩
  | i :: is, hi => fun e l c l' c' hN h => by
    have h' : runIt e (i :: is) l c = .ok (l', c') := h
    cases hs : stepIt e i l c with
    | error x => rw [runIt_cons_err hs] at h'; cases h'
    | ok y =>
      obtain ⟨l1, c1⟩ := y
      rw [runIt_cons_ok hs] at h'
      obtain ⟨p, rfl, hp, h1⟩ := step_ok (hi i (by simp)) e l c l1 c1 hN hs
      obtain ⟨q, rfl, hq, h2⟩ := run_ok (is := is) (fun j hj => hi j (List.mem_cons_of_mem _ hj)) e l1 c1 l' c' hN.right h'
      refine ⟨p ++ q, by rw [List.append_assoc], hp.append hq, fun e' m => ?_⟩
      show runIt e' (i :: is) (p ++ q ++ m) c = _
      rw [List.append_assoc, runIt_cons_ok (h1 e' (q ++ m))]
      exact h2 e' m
theorem run_er : ∀ {is : List It}, (∀ i ∈ is, plainI i) → ErSt (fun e l c => runIt e is l c)
  | [], _ => fun e l c a l' _ h => by
    have h' : runIt e [] l c = .error (a, l') := h
    cases h'
  | i :: is, hi => fun e l c a l' hN h => by
    have h' : runIt e (i :: is) l c = .error (a, l') := h
    cases hs : stepIt e i l c with
    | error x =>
      rw [runIt_cons_err hs] at h'
      obtain ⟨a1, l1⟩ := x
      injection h' with h'
      injection h' with h1 h2
      subst h1; subst h2
      obtain ⟨p, rfl, hp, ha, h1⟩ := step_er (hi i (by simp)) e l c a1 l1 hN hs
      refine ⟨p, rfl, hp, ha, fun e' m hb => ?_⟩
      exact runIt_cons_err (h1 e' m hb)
    | ok y =>
      obtain ⟨l1, c1⟩ := y
      rw [runIt_cons_ok hs] at h'
      obtain ⟨p, rfl, hp, h1⟩ := step_ok (hi i (by simp)) e l c l1 c1 hN hs
      obtain ⟨q, rfl, hq, ha, h2⟩ := run_er (is := is) (fun j hj => hi j (List.mem_cons_of_mem _ hj)) e l1 c1 a l' hN.right h'
      refine ⟨p ++ q, by rw [List.append_assoc], hp.append hq, ha, fun e' m hb => ?_⟩
      show runIt e' (i :: is) (p ++ q ++ m) c = _
      rw [List.append_assoc, runIt_cons_ok (h1 e' (q ++ m))]
      exact h2 e' m hb
/-- The words with a semicolon behind them. -/
theorem semi_ok {is : List It} (hi : ∀ i ∈ is, plainI i) {e : Int} {l l' : List Tok} {c c' : Cmd} (hN : AllN l) (h : runIt e (is ++ [.W semiT]) l c = .ok (l', c')) :
    ∃ p s, l = p ++ s :: l' ∧ SemiFree p ∧ semiB s = true ∧ ∀ e' m, runIt e' (is ++ [.W semiT]) (p ++ s :: m) c = .ok (m, c') := by
  rw [runIt_append] at h
  cases hr : runIt e is l c with
  | error x => rw [hr] at h; cases h
  | ok y =>
    obtain ⟨l1, c1⟩ := y
    rw [hr] at h
    obtain ⟨p, rfl, hp, h1⟩ := run_ok hi e l c l1 c1 hN hr
    simp only [runIt, stepIt] at h
    by_cases hs : (nextT l1 e).f1 = semiT
    · rw [if_pos hs] at h
      obtain ⟨t, tl, rfl⟩ := nextT_cons (l := l1) (e := e) (by rw [hs]; exact fun q => empty_ne_semi q.symm)
      injection h with h
      injection h with h2 h3
      subst h3
      have h2' : tl = l' := h2
      subst h2'
      have hs' : t.f1 = semiT := hs
      refine ⟨p, t, rfl, hp, by unfold semiB; exact decide_eq_true hs', fun e' m => ?_⟩
      have h1' : runIt e' is (p ++ t :: m) c = .ok (t :: m, c1) := h1 e' (t :: m)
      rw [runIt_append, h1']
      simp only [runIt, stepIt]
      have hn : (nextT (t :: m) e').f1 = semiT := hs'
      rw [if_pos hn]; rfl
    · rw [if_neg hs] at h; cases h
theorem semi_er {is : List It} (hi : ∀ i ∈ is, plainI i) {e a : Int} {l l' : List Tok} {c : Cmd} (hN : AllN l) (h : runIt e (is ++ [.W semiT]) l c = .error (a, l')) :
    ∃ p, l = p ++ l' ∧ SemiFree p ∧ a = (nextT l' e).f3 ∧ ∀ e' m, bareT (nextT m e') = bareT (nextT l' e) → runIt e' (is ++ [.W semiT]) (p ++ m) c = .error ((nextT m e').f3, m) := by
  rw [runIt_append] at h
  cases hr : runIt e is l c with
  | error x =>
    obtain ⟨a1, l1⟩ := x
    rw [hr] at h
    injection h with h
    injection h with h1 h2
    subst h1; subst h2
    obtain ⟨p, rfl, hp, ha, h1⟩ := run_er hi e l c a1 l1 hN hr
    refine ⟨p, rfl, hp, ha, fun e' m hb => ?_⟩
    have h1' : runIt e' is (p ++ m) c = .error ((nextT m e').f3, m) := h1 e' m hb
    rw [runIt_append, h1']
  | ok y =>
    obtain ⟨l1, c1⟩ := y
    rw [hr] at h
    obtain ⟨p, rfl, hp, h1⟩ := run_ok hi e l c l1 c1 hN hr
    simp only [runIt, stepIt] at h
    by_cases hs : (nextT l1 e).f1 = semiT
    · rw [if_pos hs] at h; cases h
    · rw [if_neg hs] at h
      injection h with h
      injection h with h2 h3
      subst h2; subst h3
      refine ⟨p, rfl, hp, rfl, fun e' m hb => ?_⟩
      have h1' : runIt e' is (p ++ m) c = .ok (m, c1) := h1 e' m
      rw [runIt_append, h1']
      simp only [runIt, stepIt]
      rw [if_neg (by rw [(bare_f hb).2.1]; exact hs)]
def plainB : It → Bool
  | .W s => decide (s ≠ semiT) && decide (s ≠ ⟨#[]⟩)
  | _ => true
theorem plain_of {is : List It} (h : is.all plainB = true) : ∀ i ∈ is, plainI i := fun i hi => by
  have := List.all_eq_true.1 h i hi
  cases i with
  | W s =>
    have h' : ¬ s = semiT ∧ ¬ s = ⟨#[]⟩ := by simpa [plainB] using this
    exact h'
  | Nm => trivial
  | Num => trivial
  | Dr => trivial
def FmOk (fm : ByteArray → Option (Int × List It)) : Prop := fm ⟨#[]⟩ = none ∧ fm semiT = none ∧ ∀ s k its, fm s = some (k, its) → ∀ i ∈ its, plainI i
theorem formC_ok : FmOk formC := by
  refine ⟨by decide, by decide, ?_⟩
  intro s k its h
  unfold formC at h
  repeat' split at h
  all_goals first | (cases h; done) | (injection h with h; injection h with h1 h2; subst h2; exact plain_of (by decide))
theorem formE_ok : FmOk formE := by
  refine ⟨by decide, by decide, ?_⟩
  intro s k its h
  unfold formE at h
  repeat' split at h
  all_goals first | (cases h; done) | (injection h with h; injection h with h1 h2; subst h2; exact plain_of (by decide))
theorem tail_ok {fm : ByteArray → Option (Int × List It)} (hf : FmOk fm) {e : Int} {l l' : List Tok} {c c' : Cmd} (hN : AllN l) (h : tailR e fm l c = .ok (l', c')) :
    ∃ p s, l = p ++ s :: l' ∧ SemiFree p ∧ semiB s = true ∧ p ≠ [] ∧ ∀ e' m, tailR e' fm (p ++ s :: m) c = .ok (m, c') := by
  unfold tailR at h
  cases hk : fm (nextT l e).f1 with
  | none => rw [hk] at h; cases h
  | some y =>
    obtain ⟨k, its⟩ := y
    rw [hk] at h
    obtain ⟨t, tl, rfl⟩ := nextT_cons (l := l) (e := e) (fun q => by rw [q, hf.1] at hk; cases hk)
    have hk' : fm t.f1 = some (k, its) := hk
    obtain ⟨p, s, hp, hs, hb, h1⟩ := semi_ok (hf.2.2 _ _ _ hk) hN.tail h
    have hp' : tl = p ++ s :: l' := hp
    subst hp'
    refine ⟨t :: p, s, rfl, ?_, hb, by simp, fun e' m => ?_⟩
    · exact SemiFree.append (p := [t]) (semiFree_one (semi_ne (fun q => by rw [q, hf.2.1] at hk'; cases hk'))) hs
    · unfold tailR
      have hn : (nextT (t :: p ++ s :: m) e').f1 = t.f1 := rfl
      rw [hn, hk']
      exact h1 e' m
theorem tail_er {fm : ByteArray → Option (Int × List It)} (hf : FmOk fm) {e a : Int} {l l' : List Tok} {c : Cmd} (hN : AllN l) (h : tailR e fm l c = .error (a, l')) :
    ∃ p, l = p ++ l' ∧ SemiFree p ∧ a = (nextT l' e).f3 ∧ ∀ e' m, bareT (nextT m e') = bareT (nextT l' e) → tailR e' fm (p ++ m) c = .error ((nextT m e').f3, m) := by
  unfold tailR at h
  cases hk : fm (nextT l e).f1 with
  | none =>
    rw [hk] at h
    injection h with h
    injection h with h1 h2
    subst h1; subst h2
    refine ⟨[], rfl, semiFree_nil, rfl, fun e' m hb => ?_⟩
    unfold tailR
    rw [List.nil_append, (bare_f hb).2.1, hk]
  | some y =>
    obtain ⟨k, its⟩ := y
    rw [hk] at h
    obtain ⟨t, tl, rfl⟩ := nextT_cons (l := l) (e := e) (fun q => by rw [q, hf.1] at hk; cases hk)
    have hk' : fm t.f1 = some (k, its) := hk
    obtain ⟨p, hp, hs, ha, h1⟩ := semi_er (hf.2.2 _ _ _ hk) hN.tail h
    have hp' : tl = p ++ l' := hp
    subst hp'
    refine ⟨t :: p, rfl, ?_, ha, fun e' m hb => ?_⟩
    · exact SemiFree.append (p := [t]) (semiFree_one (semi_ne (fun q => by rw [q, hf.2.1] at hk'; cases hk'))) hs
    · unfold tailR
      have hn : (nextT (t :: p ++ m) e').f1 = t.f1 := rfl
      rw [hn, hk']
      exact h1 e' m hb
theorem runIt_f3 {e : Int} : ∀ {is : List It} {l l' : List Tok} {c c' : Cmd}, runIt e is l c = .ok (l', c') → c'.f3 = c.f3
  | [], l, l', c, c', h => by
    injection h with h; injection h with _ h; subst h; rfl
  | i :: is, l, l', c, c', h => by
    cases hs : stepIt e i l c with
    | error x => rw [runIt_cons_err hs] at h; cases h
    | ok y =>
      obtain ⟨l1, c1⟩ := y
      rw [runIt_cons_ok hs] at h
      rw [runIt_f3 h]
      cases i <;> simp only [stepIt] at hs
      · split at hs
        · injection hs with hs; injection hs with _ hs; subst hs; rfl
        · cases hs
      · split at hs
        · injection hs with hs; injection hs with _ hs; subst hs; rfl
        · cases hs
      · split at hs
        · injection hs with hs; injection hs with _ hs; subst hs; rfl
        · cases hs
      · split at hs
        · split at hs
          · injection hs with hs; injection hs with _ hs; subst hs; rfl
          · cases hs
        · cases hs
theorem tailR_f3 {e : Int} {fm : ByteArray → Option (Int × List It)} {l l' : List Tok} {c c' : Cmd} (h : tailR e fm l c = .ok (l', c')) : c'.f3 = c.f3 := by
  unfold tailR at h
  split at h
  · cases h
  · rw [runIt_f3 h]
theorem stepIt_any {e : Int} {i : It} {l : List Tok} {c : Cmd} (c2 : Cmd) : (∀ x, stepIt e i l c = .error x → stepIt e i l c2 = .error x) ∧ ∀ l1 c1, stepIt e i l c = .ok (l1, c1) → ∃ c3, stepIt e i l c2 = .ok (l1, c3) := by
  cases i with
  | W s =>
    simp only [stepIt]
    split
    · exact ⟨fun x h => (by cases h), fun l1 c1 h => (by injection h with h; injection h with h _; subst h; exact ⟨_, rfl⟩)⟩
    · exact ⟨fun x h => h, fun l1 c1 h => (by cases h)⟩
  | Nm =>
    simp only [stepIt]
    split
    · exact ⟨fun x h => (by cases h), fun l1 c1 h => (by injection h with h; injection h with h _; subst h; exact ⟨_, rfl⟩)⟩
    · exact ⟨fun x h => h, fun l1 c1 h => (by cases h)⟩
  | Num =>
    simp only [stepIt]
    split
    · exact ⟨fun x h => (by cases h), fun l1 c1 h => (by injection h with h; injection h with h _; subst h; exact ⟨_, rfl⟩)⟩
    · exact ⟨fun x h => h, fun l1 c1 h => (by cases h)⟩
  | Dr =>
    simp only [stepIt]
    split
    · split
      · exact ⟨fun x h => (by cases h), fun l1 c1 h => (by injection h with h; injection h with h _; subst h; exact ⟨_, rfl⟩)⟩
      · exact ⟨fun x h => h, fun l1 c1 h => (by cases h)⟩
    · exact ⟨fun x h => h, fun l1 c1 h => (by cases h)⟩
theorem runIt_any {e : Int} : ∀ {is : List It} {l : List Tok} {c : Cmd} {x : Int × List Tok}, runIt e is l c = .error x → ∀ c2, runIt e is l c2 = .error x
  | [], _, _, _, h, _ => by cases h
  | i :: is, l, c, x, h, c2 => by
    cases hs : stepIt e i l c with
    | error y =>
      rw [runIt_cons_err hs] at h
      injection h with h; subst h
      exact runIt_cons_err ((stepIt_any c2).1 _ hs)
    | ok y =>
      obtain ⟨l1, c1⟩ := y
      rw [runIt_cons_ok hs] at h
      obtain ⟨c3, h3⟩ := (stepIt_any c2).2 _ _ hs
      rw [runIt_cons_ok h3]
      exact runIt_any h c3
theorem tailR_any {e : Int} {fm : ByteArray → Option (Int × List It)} {l : List Tok} {c : Cmd} {x : Int × List Tok} (h : tailR e fm l c = .error x) (c2 : Cmd) : tailR e fm l c2 = .error x := by
  unfold tailR at h ⊢
  cases hk : fm (nextT l e).f1 with
  | none => rw [hk] at h; exact h
  | some y =>
    obtain ⟨k, its⟩ := y
    rw [hk] at h
    exact runIt_any h _
theorem atT_ne : atT ≠ semiT ∧ atT ≠ ⟨#[]⟩ := by decide
theorem at_plain : ∀ i ∈ (It.W atT :: nums_ 1), plainI i := plain_of (by decide)
theorem head_cons {p : List Tok} (hp : p ≠ []) (m : List Tok) (e e' : Int) (m' : List Tok) : nextT (p ++ m) e = nextT (p ++ m') e' := by
  cases p with
  | nil => exact absurd rfl hp
  | cons t p => rfl
/-- A command that is read: it takes the tokens up to a semicolon, whatever stands behind. -/
theorem cmd_ok {e : Int} {l l' : List Tok} {c : Cmd} (hN : AllN l) (h : cmdR e l = .ok (l', c)) :
    ∃ p s, l = p ++ s :: l' ∧ SemiFree p ∧ semiB s = true ∧ p ≠ [] ∧ c.f3 = (nextT p 0).f3 ∧ ∀ e' m, cmdR e' (p ++ s :: m) = .ok (m, c) := by
  unfold cmdR at h
  by_cases ha : (nextT l e).f1 = atT
  · rw [if_pos ha] at h
    cases hr : runIt e (.W atT :: nums_ 1) l (cmd0 (nextT l e).f3) with
    | error x => rw [hr] at h; cases h
    | ok y =>
      obtain ⟨l1, c1⟩ := y
      rw [hr] at h
      obtain ⟨p, hl, hp, h1⟩ := run_ok at_plain e l _ l1 c1 hN hr
      subst hl
      obtain ⟨q, s, rfl, hq, hs, hq0, h2⟩ := tail_ok formE_ok hN.right h
      have hp0 : p ≠ [] := fun q0 => by
        subst q0
        have h1' : runIt 0 (.W atT :: nums_ 1) [] (cmd0 (nextT ([] ++ (q ++ s :: l')) e).f3) = .ok ([], c1) := h1 0 []
        have hst : stepIt 0 (.W atT) [] (cmd0 (nextT ([] ++ (q ++ s :: l')) e).f3) = .error (0, []) := by simp only [stepIt]; exact if_neg (by decide)
        rw [runIt_cons_err hst] at h1'
        cases h1'
      refine ⟨p ++ q, s, by rw [List.append_assoc], hp.append hq, hs, by simp [hp0], ?_, fun e' m => ?_⟩
      · rw [tailR_f3 h, runIt_f3 hr]
        show (nextT _ e).f3 = _
        rw [head_cons hp0 _ e 0 q]
      · unfold cmdR
        have hn : nextT (p ++ q ++ s :: m) e' = nextT (p ++ (q ++ s :: l')) e := by rw [List.append_assoc]; exact head_cons hp0 _ _ _ _
        have h1' : runIt e' (.W atT :: nums_ 1) (p ++ (q ++ s :: m)) (cmd0 (nextT (p ++ (q ++ s :: l')) e).f3) = .ok (q ++ s :: m, c1) := h1 e' (q ++ s :: m)
        rw [hn, if_pos ha, List.append_assoc, h1']
        exact h2 e' m
  · rw [if_neg ha] at h
    obtain ⟨p, s, hl, hp, hs, hp0, h1⟩ := tail_ok formC_ok hN h
    subst hl
    refine ⟨p, s, rfl, hp, hs, hp0, ?_, fun e' m => ?_⟩
    · rw [tailR_f3 h]
      show (nextT _ e).f3 = _
      rw [head_cons hp0 _ e 0 [], List.append_nil]
    · unfold cmdR
      have hn : nextT (p ++ s :: m) e' = nextT (p ++ s :: l') e := head_cons hp0 _ _ _ _
      rw [hn, if_neg ha]
      exact h1 e' m
/-- A command that is not: where it fails. -/
theorem cmd_er {e a : Int} {l l' : List Tok} (hN : AllN l) (h : cmdR e l = .error (a, l')) :
    ∃ p, l = p ++ l' ∧ SemiFree p ∧ a = (nextT l' e).f3 ∧ ∀ e' m, bareT (nextT m e') = bareT (nextT l' e) → cmdR e' (p ++ m) = .error ((nextT m e').f3, m) := by
  have key : ∀ (p : List Tok), l = p ++ l' → ∀ e' m, bareT (nextT m e') = bareT (nextT l' e) → (nextT (p ++ m) e').f1 = (nextT l e).f1 ∧ (p ≠ [] → nextT (p ++ m) e' = nextT l e) := by
    intro p hl e' m hb
    subst hl
    cases p with
    | nil => exact ⟨(bare_f hb).2.1, fun h => absurd rfl h⟩
    | cons t p => exact ⟨rfl, fun _ => rfl⟩
  unfold cmdR at h
  by_cases ha : (nextT l e).f1 = atT
  · rw [if_pos ha] at h
    have hfirst : ∀ (c : Cmd) (l1 : List Tok) (x : Int), runIt e (.W atT :: nums_ 1) l c = .error (x, l1) → l ≠ l1 := by
      intro c l1 x hr q
      subst q
      obtain ⟨t, tl, rfl⟩ := nextT_cons (l := l) (e := e) (by rw [ha]; exact atT_ne.2)
      have hs : stepIt e (.W atT) (t :: tl) c = .ok (tl, c) := by simp only [stepIt]; exact if_pos ha
      rw [runIt_cons_ok hs] at hr
      have := runIt_er hr
      simp only [List.length_cons] at this
      omega
    cases hr : runIt e (.W atT :: nums_ 1) l (cmd0 (nextT l e).f3) with
    | error x =>
      obtain ⟨a1, l1⟩ := x
      rw [hr] at h
      injection h with h
      injection h with h1 h2
      subst h1; subst h2
      obtain ⟨p, hl, hp, h3, h4⟩ := run_er at_plain e l _ a1 l1 hN hr
      refine ⟨p, hl, hp, h3, fun e' m hb => ?_⟩
      have hp0 : p ≠ [] := fun q => hfirst _ _ _ hr (by rw [hl, q]; rfl)
      have hk := (key p hl e' m hb).2 hp0
      have h4' : runIt e' (.W atT :: nums_ 1) (p ++ m) (cmd0 (nextT l e).f3) = .error ((nextT m e').f3, m) := h4 e' m hb
      unfold cmdR
      rw [hk, if_pos ha, h4']
    | ok y =>
      obtain ⟨l1, c1⟩ := y
      rw [hr] at h
      obtain ⟨p, hl, hp, h1⟩ := run_ok at_plain e l _ l1 c1 hN hr
      have hN1 : AllN l1 := by rw [hl] at hN; exact hN.right
      obtain ⟨q, hl1, hq, h3, h4⟩ := tail_er formE_ok hN1 h
      have hp0 : p ≠ [] := fun q0 => by
        have hle := runIt_le hr
        rw [hl, q0] at hr
        obtain ⟨t, tl, ht⟩ := nextT_cons (l := l) (e := e) (by rw [ha]; exact atT_ne.2)
        have hl' : l1 = t :: tl := by rw [← ht, hl, q0]; rfl
        rw [hl'] at hr
        have ha' : t.f1 = atT := by rw [ht] at ha; exact ha
        have hs : stepIt e (.W atT) (t :: tl) (cmd0 (nextT l e).f3) = .ok (tl, cmd0 (nextT l e).f3) := by simp only [stepIt]; exact if_pos ha'
        rw [hl, q0, hl'] at hs
        have hr' : runIt e (.W atT :: nums_ 1) (t :: tl) (cmd0 (nextT ([] ++ t :: tl) e).f3) = .ok (t :: tl, c1) := hr
        rw [runIt_cons_ok hs] at hr'
        have := runIt_le hr'
        simp only [List.length_cons] at this
        omega
      refine ⟨p ++ q, by rw [hl, hl1, List.append_assoc], hp.append hq, h3, fun e' m hb => ?_⟩
      have hk := (key (p ++ q) (by rw [hl, hl1, List.append_assoc]) e' m hb).2 (by simp [hp0])
      have h1' : runIt e' (.W atT :: nums_ 1) (p ++ (q ++ m)) (cmd0 (nextT l e).f3) = .ok (q ++ m, c1) := h1 e' (q ++ m)
      unfold cmdR
      rw [hk, if_pos ha, List.append_assoc, h1']
      exact h4 e' m hb
  · rw [if_neg ha] at h
    obtain ⟨p, hl, hp, h3, h4⟩ := tail_er formC_ok hN h
    refine ⟨p, hl, hp, h3, fun e' m hb => ?_⟩
    have hk := key p hl e' m hb
    unfold cmdR
    rw [hk.1, if_neg ha]
    by_cases hp0 : p = []
    · subst hp0
      exact tailR_any (h4 e' m hb) _
    · rw [hk.2 hp0]
      exact h4 e' m hb
theorem idx_free : ∀ {l : List Tok} (k : Nat), SemiFree l → idxT k l = -1
  | [], _, _ => rfl
  | t :: l, k, h => by
    show (if semiB t = true then (k : Int) else idxT (k + 1) l) = -1
    rw [if_neg (by rw [h t (by simp)]; decide)]
    exact idx_free (k + 1) (fun u hu => h u (List.mem_cons_of_mem _ hu))
theorem idx_semi : ∀ {p : List Tok} {s : Tok} {r : List Tok} (k : Nat), SemiFree p → semiB s = true → idxT k (p ++ s :: r) = ((k + p.length : Nat) : Int)
  | [], s, r, k, _, hs => by
    show (if semiB s = true then (k : Int) else idxT (k + 1) r) = _
    rw [if_pos hs]; rfl
  | t :: p, s, r, k, h, hs => by
    show (if semiB t = true then (k : Int) else idxT (k + 1) (p ++ s :: r)) = _
    rw [if_neg (by rw [h t (by simp)]; decide), idx_semi (k + 1) (fun u hu => h u (List.mem_cons_of_mem _ hu)) hs, List.length_cons]
    congr 1; omega
theorem semi_cases : ∀ l : List Tok, SemiFree l ∨ ∃ p s r, l = p ++ s :: r ∧ SemiFree p ∧ semiB s = true
  | [] => .inl semiFree_nil
  | t :: l => by
    by_cases h : semiB t = true
    · exact .inr ⟨[], t, l, rfl, semiFree_nil, h⟩
    · have h' : semiB t = false := by simpa using h
      rcases semi_cases l with hl | ⟨p, s, r, rfl, hp, hs⟩
      · exact .inl (SemiFree.append (p := [t]) (semiFree_one h') hl)
      · exact .inr ⟨t :: p, s, r, rfl, SemiFree.append (p := [t]) (semiFree_one h') hp, hs⟩
theorem semi_unique {p q : List Tok} {s u : Tok} {r v : List Tok} (h : p ++ s :: r = q ++ u :: v) (hp : SemiFree p) (hq : SemiFree q) (hs : semiB s = true) (hu : semiB u = true) : p = q ∧ s = u ∧ r = v := by
  have h1 := idx_semi (r := r) 0 hp hs
  have h2 := idx_semi (r := v) 0 hq hu
  rw [h, h2] at h1
  have hl : p.length = q.length := by omega
  obtain ⟨h3, h4⟩ := List.append_inj h hl
  injection h4 with h4 h5
  exact ⟨h3, h4, h5⟩
/-- One segment, read. -/
inductive Seg : List Tok → Tok → Except Int Cmd → Prop
  | ok {p : List Tok} {s : Tok} {c : Cmd} : p ≠ [] → c.f3 = (nextT p 0).f3 → (∀ e m, cmdR e (p ++ s :: m) = .ok (m, c)) → Seg p s (.ok c)
  | er {q l : List Tok} {t s : Tok} {p : List Tok} : p ++ [s] = q ++ t :: l → (∀ e m, cmdR e (p ++ s :: m) = .error (t.f3, t :: (l ++ m))) → Seg p s (.error t.f3)
theorem seg_any {p : List Tok} {s : Tok} (hN : AllN (p ++ [s])) (hp : SemiFree p) (hs : semiB s = true) : ∃ r, Seg p s r := by
  cases h : cmdR 0 (p ++ [s]) with
  | ok y =>
    obtain ⟨l', c⟩ := y
    obtain ⟨q, u, hl, hq, hu, h0, h3, h4⟩ := cmd_ok hN h
    obtain ⟨rfl, rfl, hr⟩ := semi_unique (r := []) hl hp hq hs hu
    exact ⟨.ok c, .ok h0 h3 h4⟩
  | error y =>
    obtain ⟨a, l'⟩ := y
    obtain ⟨q, hl, hq, ha, h4⟩ := cmd_er hN h
    cases l' with
    | nil =>
      exfalso
      rw [List.append_nil] at hl
      have := hq s (by rw [← hl]; simp)
      rw [hs] at this; cases this
    | cons t l =>
      refine ⟨.error t.f3, .er hl (fun e m => ?_)⟩
      have h5 := h4 e (t :: (l ++ m)) rfl
      rw [show p ++ s :: m = (p ++ [s]) ++ m by simp, hl]
      have h6 : cmdR e (q ++ t :: (l ++ m)) = .error (t.f3, t :: (l ++ m)) := h5
      simpa using h6
theorem pLoop_ok {e : Int} {n : Nat} {p : List Tok} {s : Tok} {c : Cmd} (h : Seg p s (.ok c)) (r : List Tok) (o : List Cmd) (d : List Dg) (hd : d.length < 20) : pLoop e (n + 1) (p ++ s :: r) o d = pLoop e n r (o ++ [c]) d := by
  cases h with
  | ok a b h =>
    conv => lhs; unfold pLoop
    rw [if_neg (by simp; omega), h e r]
theorem pLoop_er {e : Int} {n : Nat} {p : List Tok} {s : Tok} {a : Int} (hp : SemiFree p) (hs : semiB s = true) (h : Seg p s (.error a)) (r : List Tok) (o : List Cmd) (d : List Dg) (hd : d.length < 20) :
    pLoop e (n + 1) (p ++ s :: r) o d = pLoop e n r o (d ++ [⟨7, a⟩]) := by
  cases h with
  | @er q l t _ _ hq h =>
    conv => lhs; unfold pLoop
    rw [if_neg (by simp; omega), h e r]
    -- what is left ends with the semicolon
    obtain ⟨l0, hl0, hf⟩ : ∃ l0, t :: l = l0 ++ [s] ∧ SemiFree l0 := by
      have h1 : (p ++ [s]).getLast? = (q ++ t :: l).getLast? := by rw [hq]
      have h2 : q ++ t :: l = q ++ ((t :: l).dropLast ++ [(t :: l).getLast (by simp)]) := by rw [List.dropLast_concat_getLast]
      have h3 : p ++ [s] = (q ++ (t :: l).dropLast) ++ [(t :: l).getLast (by simp)] := by rw [hq, h2, List.append_assoc]
      obtain ⟨h4, h5⟩ := List.append_inj' h3 rfl
      injection h5 with h5 _
      refine ⟨(t :: l).dropLast, by rw [h5, List.dropLast_concat_getLast], fun u hu => hp u ?_⟩
      rw [h4]; exact List.mem_append_right _ hu
    have h1 : t :: (l ++ r) = l0 ++ s :: r := by
      have : (t :: l) ++ r = (l0 ++ [s]) ++ r := by rw [hl0]
      simpa using this
    show (if idxT 0 (t :: (l ++ r)) < 0 then (o, d ++ [⟨7, t.f3⟩]) else pLoop e n ((t :: (l ++ r)).drop ((idxT 0 (t :: (l ++ r))).toNat + 1)) o (d ++ [⟨7, t.f3⟩])) = _
    rw [h1, idx_semi 0 hf hs, if_neg (by omega)]
    congr 1
    rw [Int.toNat_natCast, Nat.zero_add, show l0.length + 1 = (l0 ++ [s]).length by simp, show l0 ++ s :: r = (l0 ++ [s]) ++ r by simp, List.drop_left]
/-- Tokens without a semicolon: they fail somewhere. -/
theorem pLoop_rest {e : Int} {n : Nat} {l : List Tok} (hN : AllN l) (hl : SemiFree l) (h0 : l ≠ []) (o : List Cmd) (d : List Dg) (hd : d.length < 20) :
    ∃ q l', l = q ++ l' ∧ cmdR e l = .error ((nextT l' e).f3, l') ∧ pLoop e (n + 1) l o d = (o, d ++ [⟨7, (nextT l' e).f3⟩]) := by
  cases h : cmdR e l with
  | ok y =>
    exfalso
    obtain ⟨l', c⟩ := y
    obtain ⟨p, s, hp, _, hs, _⟩ := cmd_ok hN h
    have := hl s (by rw [hp]; simp)
    rw [hs] at this; cases this
  | error y =>
    obtain ⟨a, l'⟩ := y
    obtain ⟨q, hq, _, ha, _⟩ := cmd_er hN h
    subst ha
    refine ⟨q, l', hq, rfl, ?_⟩
    have hl' : SemiFree l' := fun t ht => hl t (by rw [hq]; exact List.mem_append_right _ ht)
    unfold pLoop
    rw [if_neg (by simp [h0]; omega), h]
    show (if idxT 0 l' < 0 then (o, d ++ [⟨7, (nextT l' e).f3⟩]) else _) = _
    rw [idx_free 0 hl', if_pos (by decide)]
theorem pLoop_none {e : Int} {n : Nat} {o : List Cmd} {d : List Dg} : pLoop e n [] o d = (o, d) := by cases n <;> simp [pLoop]
theorem pLoop_full {e : Int} {n : Nat} {l : List Tok} {o : List Cmd} {d : List Dg} (h : 20 ≤ d.length) : pLoop e n l o d = (o, d) := by cases n <;> simp [pLoop, h]
/-- Segments that are all commands. -/
inductive Segs : List Tok → List Cmd → Prop
  | nil : Segs [] []
  | cons {p : List Tok} {s : Tok} {c : Cmd} {l : List Tok} {cs : List Cmd} : SemiFree p → semiB s = true → Seg p s (.ok c) → Segs l cs → Segs (p ++ s :: l) (c :: cs)
theorem segs_append {a b : List Tok} {x y : List Cmd} (h : Segs a x) (k : Segs b y) : Segs (a ++ b) (x ++ y) := by
  induction h with
  | nil => exact k
  | cons h1 h2 h3 _ ih => rw [List.append_assoc, List.cons_append]; exact .cons h1 h2 h3 ih
theorem segs_len {a : List Tok} {x : List Cmd} (h : Segs a x) : x.length ≤ a.length := by
  induction h with
  | nil => exact Nat.le_refl _
  | cons h1 h2 h3 _ ih => simp only [List.length_cons, List.length_append]; omega
/-- Commands, then what stands behind. -/
theorem pLoop_segs {e : Int} {a : List Tok} {x : List Cmd} (h : Segs a x) : ∀ (n : Nat) (r : List Tok) (o : List Cmd) (d : List Dg), d.length < 20 → pLoop e (n + x.length) (a ++ r) o d = pLoop e n r (o ++ x) d := by
  induction h with
  | nil => intro n r o d _; simp
  | cons h1 h2 h3 _ ih =>
    intro n r o d hd
    rw [List.append_assoc, List.cons_append, List.length_cons, ← Nat.add_assoc, pLoop_ok h3 _ _ _ hd, ih n r _ d hd, List.append_assoc]
    rfl
/-- Where no diagnostic comes, all is commands. -/
theorem pLoop_clean {e : Int} : ∀ (n : Nat) {l : List Tok} {o o' : List Cmd}, AllN l → l.length ≤ n → pLoop e n l o [] = (o', []) → ∃ x, o' = o ++ x ∧ Segs l x
  | n, l, o, o', hN, hn, h => by
    by_cases hl : l = []
    · subst hl; rw [pLoop_none] at h; injection h with h _; subst h; exact ⟨[], by simp, .nil⟩
    have hp := List.length_pos_iff.2 hl
    obtain ⟨n, rfl⟩ : ∃ k, n = k + 1 := ⟨n - 1, by omega⟩
    rcases semi_cases l with hf | ⟨p, s, r, rfl, hps, hs⟩
    · obtain ⟨q, l', _, _, h3⟩ := pLoop_rest (n := n) (e := e) hN hf hl o [] (by decide)
      rw [h3] at h; injection h with _ h; simp at h
    · have hN' : AllN (p ++ [s]) := fun t ht => hN t (by simp at ht ⊢; rcases ht with h | h <;> simp [h])
      simp only [List.length_append, List.length_cons] at hn
      obtain ⟨x, hx⟩ := seg_any hN' hps hs
      have hNr : AllN r := fun t ht => hN t (by simp [ht])
      cases x with
      | ok c =>
        rw [pLoop_ok hx _ _ _ (by decide)] at h
        obtain ⟨x, hx1, hx2⟩ := pLoop_clean n hNr (by omega) h
        exact ⟨c :: x, by rw [hx1]; simp, .cons hps hs hx hx2⟩
      | error a =>
        exfalso
        rw [pLoop_er hps hs hx _ _ _ (by decide)] at h
        have hmono : ∀ (n : Nat) (l : List Tok) (o : List Cmd) (d : List Dg), d.length ≤ (pLoop e n l o d).2.length := by
          intro n
          induction n with
          | zero => intro l o d; exact Nat.le_refl _
          | succ n ih =>
            intro l o d
            unfold pLoop
            split
            · exact Nat.le_refl _
            · split
              · exact ih _ _ _
              · split
                · simp
                · refine Nat.le_trans ?_ (ih _ _ _); simp
        have := hmono n r o ([] ++ [⟨7, a⟩])
        rw [h] at this; simp at this
end Go.Proofs.YtdedlchpjboceaaDoor.Qz
end

section
namespace Go.Proofs.YtdedlchpjboceaaDoor.Qz
open Go.RowKit Go.Proofs.YtdedlchpjboceaaDoorW.PrintWords Go.Proofs.YtdedlchpjboceaaDoorW.PrintLast Go.Proofs.YtdedlchpjboceaaDoor.Lx Go.Proofs.YtdedlchpjboceaaDoor.Px Go.Proofs.YtdedlchpjboceaaDoor.Tx
def Sim (l m : List Tok) : Prop := l.map bareT = m.map bareT
def CSim (c d : Cmd) : Prop := c.f0 = d.f0 ∧ c.f1 = d.f1 ∧ c.f2 = d.f2
theorem Sim.tail {l m : List Tok} (h : Sim l m) : Sim l.tail m.tail := by
  unfold Sim at *
  rw [List.map_tail, List.map_tail, h]
theorem Sim.drop {l m : List Tok} (h : Sim l m) (n : Nat) : Sim (l.drop n) (m.drop n) := by
  unfold Sim at *
  rw [List.map_drop, List.map_drop, h]
theorem Sim.next {l m : List Tok} (h : Sim l m) (e e' : Int) : (nextT l e).f0 = (nextT m e').f0 ∧ (nextT l e).f1 = (nextT m e').f1 ∧ (nextT l e).f2 = (nextT m e').f2 := by
  cases l with
  | nil =>
    cases m with
    | nil => exact ⟨rfl, rfl, rfl⟩
    | cons y m => simp [Sim] at h
  | cons x l =>
    cases m with
    | nil => simp [Sim] at h
    | cons y m =>
      have h1 : bareT x = bareT y := by
        have := congrArg List.head? h
        simpa using this
      unfold bareT at h1
      simp only [Prod.mk.injEq] at h1
      exact h1
def RSim : Res → Res → Prop
  | .ok x, .ok y => Sim x.1 y.1 ∧ CSim x.2 y.2
  | .error x, .error y => Sim x.2 y.2
  | .ok _, .error _ => False
  | .error _, .ok _ => False
theorem stepIt_sim (e e' : Int) (i : It) {l m : List Tok} {c d : Cmd} (h : Sim l m) (hc : CSim c d) : RSim (stepIt e i l c) (stepIt e' i m d) := by
  obtain ⟨n0, n1, n2⟩ := h.next e e'
  cases i with
  | W s =>
    simp only [stepIt]
    by_cases hs : (nextT l e).f1 = s
    · rw [if_pos hs, if_pos (n1 ▸ hs)]; exact ⟨h.tail, hc⟩
    · rw [if_neg hs, if_neg (fun q => hs (n1.trans q))]; exact h
  | Nm =>
    simp only [stepIt]
    by_cases hs : (nextT l e).f0 = 1 ∧ nameB (nextT l e).f1.data.toList = true
    · rw [if_pos hs, if_pos (by rw [← n0, ← n1]; exact hs)]; exact ⟨h.tail, hc.1, n1, hc.2.2⟩
    · rw [if_neg hs, if_neg (by rw [← n0, ← n1]; exact hs)]; exact h
  | Num =>
    simp only [stepIt]
    by_cases hs : (nextT l e).f0 = 2
    · rw [if_pos hs, if_pos (by rw [← n0]; exact hs)]; exact ⟨h.tail, hc.1, hc.2.1, by show _ ++ _ = _ ++ _; rw [hc.2.2, n2]⟩
    · rw [if_neg hs, if_neg (by rw [← n0]; exact hs)]; exact h
  | Dr =>
    obtain ⟨t0, t1, t2⟩ := h.tail.next e e'
    simp only [stepIt]
    by_cases hs : (nextT l e).f1 = slowT ∨ (nextT l e).f1 = fastT
    · have hs' : (nextT m e').f1 = slowT ∨ (nextT m e').f1 = fastT := by rw [← n1]; exact hs
      rw [if_pos hs, if_pos hs']
      by_cases hk : (nextT l.tail e).f0 = 2
      · have hk' : (nextT m.tail e').f0 = 2 := by rw [← t0]; exact hk
        rw [if_pos hk, if_pos hk']; exact ⟨h.tail.tail, hc.1, hc.2.1, by show _ ++ _ = _ ++ _; rw [hc.2.2, n1, t2]⟩
      · have hk' : ¬ (nextT m.tail e').f0 = 2 := by rw [← t0]; exact hk
        rw [if_neg hk, if_neg hk']; exact h.tail
    · have hs' : ¬ ((nextT m e').f1 = slowT ∨ (nextT m e').f1 = fastT) := by rw [← n1]; exact hs
      rw [if_neg hs, if_neg hs']; exact h
theorem runIt_sim (e e' : Int) : ∀ (is : List It) {l m : List Tok} {c d : Cmd}, Sim l m → CSim c d → RSim (runIt e is l c) (runIt e' is m d)
  | [], _, _, _, _, h, hc => ⟨h, hc⟩
  | i :: is, l, m, c, d, h, hc => by
    have hs := stepIt_sim e e' i h hc
    simp only [runIt]
    cases h1 : stepIt e i l c with
    | ok x =>
      cases h2 : stepIt e' i m d with
      | ok y =>
        rw [h1, h2] at hs
        obtain ⟨x1, x2⟩ := x
        obtain ⟨y1, y2⟩ := y
        exact runIt_sim e e' is hs.1 hs.2
      | error y => rw [h1, h2] at hs; exact hs.elim
    | error x =>
      cases h2 : stepIt e' i m d with
      | ok y => rw [h1, h2] at hs; exact hs.elim
      | error y => rw [h1, h2] at hs; exact hs
theorem tailR_sim (e e' : Int) (fm : ByteArray → Option (Int × List It)) {l m : List Tok} {c d : Cmd} (h : Sim l m) (hc : CSim c d) : RSim (tailR e fm l c) (tailR e' fm m d) := by
  unfold tailR
  rw [← (h.next e e').2.1]
  cases fm (nextT l e).f1 with
  | none => exact h
  | some p =>
    obtain ⟨k, its⟩ := p
    exact runIt_sim e e' _ h.tail ⟨rfl, hc.2.1, hc.2.2⟩
theorem cmdR_sim (e e' : Int) {l m : List Tok} (h : Sim l m) : RSim (cmdR e l) (cmdR e' m) := by
  unfold cmdR
  rw [← (h.next e e').2.1]
  have hc : CSim (cmd0 (nextT l e).f3) (cmd0 (nextT m e').f3) := ⟨rfl, rfl, rfl⟩
  by_cases ha : (nextT l e).f1 = atT
  · rw [if_pos ha, if_pos ha]
    have hs := runIt_sim e e' (.W atT :: nums_ 1) h hc
    cases h1 : runIt e (.W atT :: nums_ 1) l (cmd0 (nextT l e).f3) with
    | ok x =>
      cases h2 : runIt e' (.W atT :: nums_ 1) m (cmd0 (nextT m e').f3) with
      | ok y =>
        rw [h1, h2] at hs
        obtain ⟨x1, x2⟩ := x
        obtain ⟨y1, y2⟩ := y
        exact tailR_sim e e' formE hs.1 hs.2
      | error y => rw [h1, h2] at hs; exact hs.elim
    | error x =>
      cases h2 : runIt e' (.W atT :: nums_ 1) m (cmd0 (nextT m e').f3) with
      | ok y => rw [h1, h2] at hs; exact hs.elim
      | error y => rw [h1, h2] at hs; exact hs
  · rw [if_neg ha, if_neg ha]
    exact tailR_sim e e' formC h hc
end Go.Proofs.YtdedlchpjboceaaDoor.Qz
end

section
namespace Go.Proofs.YtdedlchpjboceaaDoor.Qz
open Go.RowKit Go.Proofs.YtdedlchpjboceaaDoorW.PrintWords Go.Proofs.YtdedlchpjboceaaDoorW.PrintLast Go.Proofs.YtdedlchpjboceaaDoor.Lx Go.Proofs.YtdedlchpjboceaaDoor.Px Go.Proofs.YtdedlchpjboceaaDoor.Tx Go.Proofs.YtdedlchpjboceaaDoor.Lr
theorem tok_kinds {k : Int} {t : List UInt8} {o : Nat} {x : Tk} (h : tokOf k t o = .ok x) : (x.kind = 1 ∧ k = 3 ∧ x.t = t ∧ x.n = 0 ∧ t.length ≤ 12) ∨
    (x.kind = 2 ∧ k = 4 ∧ x.t = [] ∧ x.n = val t ∧ val t ≤ 1000000000 ∧ ¬ (1 < t.length ∧ t.head? = some 48)) ∨ (x.kind = 3 ∧ k ≠ 3 ∧ k ≠ 4 ∧ x.t = t ∧ x.n = 0) := by
  unfold tokOf at h
  by_cases h3 : k = 3
  · rw [if_pos h3] at h
    split at h
    · cases h
    · injection h with h; subst h
      exact .inl ⟨rfl, h3, rfl, rfl, by omega⟩
  · rw [if_neg h3] at h
    by_cases h4 : k = 4
    · rw [if_pos h4] at h
      split at h
      · cases h
      · rename_i hz
        split at h
        · cases h
        · injection h with h; subst h
          exact .inr (.inl ⟨rfl, h4, rfl, rfl, by omega, hz⟩)
    · rw [if_neg h4] at h
      injection h with h; subst h
      exact .inr (.inr ⟨rfl, h3, h4, rfl, rfl⟩)
theorem spans_form {l : List UInt8} {o : Nat} {x : Sp} (h : x ∈ spans l o) : ∃ p c a b, l = p ++ c :: (a ++ b) ∧ x.o = o + p.length ∧ x.k = cls c ∧ x.t = c :: a ∧ (∀ y ∈ a, cont (cls c) y = true) := by
  obtain ⟨A, B, hA⟩ := List.append_of_mem h
  obtain ⟨p, q, rfl, e1, e2, e3⟩ := spans_split A l o (x :: B) hA
  obtain ⟨ho, c, a, b, rfl, hk, ht, ha, _, _⟩ := spans_first e2
  exact ⟨p, c, a, b, rfl, ho, hk, ht, ha⟩
theorem lex_mem {s : List UInt8} {ts : List Tk} (h : Lx.lex s = .ok ts) {t : Tk} (ht : t ∈ ts) : ∃ p c a b, s = p ++ c :: (a ++ b) ∧ t.o = p.length ∧ (cls c = 3 ∨ cls c = 4 ∨ cls c = 5) ∧ (∀ y ∈ a, cont (cls c) y = true) ∧ tokOf (cls c) (c :: a) p.length = .ok t := by
  obtain ⟨_, e, hg, _, _⟩ := lex_bound h
  rw [e] at ht
  obtain ⟨x, hx, ho, hgap, hT⟩ := toks_mem ht
  obtain ⟨p, c, a, b, hs, hxo, hk, hxt, ha⟩ := spans_form hx
  rw [Nat.zero_add] at hxo
  rw [hk, hxt, hxo] at hT
  refine ⟨p, c, a, b, hs, by rw [ho, hxo], ?_, ha, hT⟩
  have h0 : x.k ≠ 0 := by
    rcases hg x hx with h' | ⟨h', _⟩
    · rw [h'] at hgap; cases hgap
    · exact h'
  have hr := cls_range c
  rw [hk] at h0
  simp only [gapB, decide_eq_false_iff_not] at hgap
  rw [hk] at hgap
  omega
/-- A token as the lexer makes it. -/
def TokG (t : Tk) : Prop := (t.kind = 1 ∧ nameW t.t ∧ t.n = 0) ∨ (t.kind = 2 ∧ t.t = [] ∧ 0 ≤ t.n ∧ t.n ≤ 1000000000) ∨ (t.kind = 3 ∧ t.t = [59] ∧ t.n = 0)
theorem cls_semi {c : UInt8} (h : cls c = 5) : c = 59 := by
  have h2 : ∀ c : Int, clsI c = 5 ↔ c = 59 := fun c => by unfold clsI; repeat' split <;> omega
  have h3 := (h2 _).1 h
  have : c.toNat = 59 := by omega
  exact UInt8.toNat_inj.1 this
theorem lex_tokG {s : List UInt8} {ts : List Tk} (h : Lx.lex s = .ok ts) : ∀ t ∈ ts, TokG t := by
  intro t ht
  obtain ⟨p, c, a, b, hs, ho, hc, ha, hT⟩ := lex_mem h ht
  rcases tok_kinds hT with ⟨h1, h2, h3, h4, h5⟩ | ⟨h1, h2, h3, h4, h5, h6⟩ | ⟨h1, h2, h3, h4, h5⟩
  · refine .inl ⟨h1, ⟨by rw [h3]; exact h5, c, a, h3, h2, fun y hy => ?_⟩, h4⟩
    rw [← h2]; exact ha y hy
  · exact .inr (.inl ⟨h1, h3, by omega, by omega⟩)
  · refine .inr (.inr ⟨h1, ?_, h5⟩)
    have h5 : cls c = 5 := by omega
    rw [h4, cls_semi h5]
    cases a with
    | nil => rfl
    | cons y a =>
      have := ha y (by simp)
      rw [h5, cont_other (by decide) (by decide) (by decide)] at this
      cases this
theorem allN_of {ts : List Tk} (h : ∀ t ∈ ts, TokG t) : AllN (ts.map toTk) := by
  intro t ht hk
  obtain ⟨u, hu, rfl⟩ := List.mem_map.1 ht
  have hk' : u.kind = 2 := hk
  rcases h u hu with ⟨h1, _⟩ | ⟨_, h2, _⟩ | ⟨h1, _⟩
  · omega
  · show (⟨u.t.toArray⟩ : ByteArray) = _; rw [h2]
  · omega
theorem lex_allN {s : List UInt8} {ts : List Tk} (h : Lx.lex s = .ok ts) : AllN (ts.map toTk) := allN_of (lex_tokG h)
theorem spans_sorted (l : List UInt8) : ∀ o, (spans l o).Pairwise (fun x y => x.o < y.o) := by
  induction hn : l.length using Nat.strongRecOn generalizing l with
  | _ n ih =>
    intro o
    cases l with
    | nil => rw [spans_nil]; exact .nil
    | cons c t =>
      have h1 := dw_le (cont (cls c)) t
      simp only [List.length_cons] at hn
      rw [spans_cons]
      refine List.pairwise_cons.2 ⟨fun y hy => ?_, ih _ (by omega) _ rfl _⟩
      have := (spans_good _ _ y hy).2.2.2.2.2.1
      show o < y.o
      omega
theorem toks_sorted {xs : List Sp} (h : xs.Pairwise (fun x y => x.o < y.o)) : (toks xs).Pairwise (fun a b => a.o < b.o) := by
  have ho : ∀ x t, tokB x = some t → t.o = x.o := by
    intro x t ht
    unfold tokB at ht
    split at ht
    · cases ht
    · split at ht
      · rename_i u hu; injection ht with ht; subst ht; exact tokOf_o hu
      · cases ht
  unfold toks
  rw [List.pairwise_filterMap]
  refine h.imp (fun {a b} hab x hx y hy => ?_)
  rw [ho _ _ hx, ho _ _ hy]; exact hab
theorem lex_sorted {s : List UInt8} {ts : List Tk} (h : Lx.lex s = .ok ts) : ts.Pairwise (fun a b => a.o < b.o) := by
  rw [(lex_bound h).2.1]
  exact toks_sorted (spans_sorted s 0)
def shK (d : Int) (t : Tok) : Tok := { t with f3 := t.f3 + d }
def shC (d : Int) (c : Cmd) : Cmd := { c with f3 := c.f3 + d }
theorem toTk_shift (d : Nat) (t : Tk) : toTk (shiftT d t) = shK (d : Int) (toTk t) := by
  unfold shK toTk shiftT
  simp
theorem map_shift (d : Nat) (ts : List Tk) : (ts.map (shiftT d)).map toTk = (ts.map toTk).map (shK (d : Int)) := by
  rw [List.map_map, List.map_map]
  exact List.map_congr_left (fun t _ => toTk_shift d t)
theorem semi_sim {t u : Tok} (h : bareT t = bareT u) : semiB t = semiB u := by unfold semiB; rw [(bare_f h).2.1]
theorem free_sim : ∀ {p q : List Tok}, Sim p q → SemiFree p → SemiFree q
  | [], [], _, _ => semiFree_nil
  | [], _ :: _, h, _ => by simp [Sim] at h
  | _ :: _, [], h, _ => by simp [Sim] at h
  | t :: p, u :: q, h, hp => by
    have h1 : bareT t = bareT u := by have := congrArg List.head? h; simpa using this
    refine SemiFree.append (p := [u]) (semiFree_one ?_) (free_sim (show Sim p q from h.tail) (fun v hv => hp v (List.mem_cons_of_mem _ hv)))
    rw [← semi_sim h1]; exact hp t (by simp)
theorem Sim.append {a b c d : List Tok} (h : Sim a b) (k : Sim c d) : Sim (a ++ c) (b ++ d) := by
  unfold Sim at *
  rw [List.map_append, List.map_append, h, k]
theorem seg_sim {p p' : List Tok} {s s' : Tok} {c : Cmd} (hS : Sim p p') (hb : bareT s = bareT s') (hN : AllN (p' ++ [s'])) (hp : SemiFree p) (hs : semiB s = true) (h : Seg p s (.ok c)) : ∃ c', Seg p' s' (.ok c') ∧ CSim c c' := by
  obtain ⟨r, hr⟩ := seg_any hN (free_sim hS hp) (by rw [← semi_sim hb]; exact hs)
  have h1 := cmdR_sim 0 0 (Sim.append hS (show Sim [s] [s'] by unfold Sim; simp [hb]))
  cases h with
  | ok h0 h3 h4 =>
    rw [h4 0 []] at h1
    cases hr with
    | ok g0 g3 g4 =>
      rw [g4 0 []] at h1
      exact ⟨_, .ok g0 g3 g4, h1.2⟩
    | er g0 g4 =>
      rw [g4 0 []] at h1
      exact h1.elim
theorem sim_sh (d : Int) (l : List Tok) : Sim l (l.map (shK d)) := by
  unfold Sim
  rw [List.map_map]
  exact List.map_congr_left (fun t _ => rfl)
theorem segs_shift (d : Int) {l : List Tok} {x : List Cmd} (h : Segs l x) : AllN l → Segs (l.map (shK d)) (x.map (shC d)) := by
  induction h with
  | nil => intro _; exact .nil
  | @cons p s c l cs h1 h2 h3 _ ih =>
    intro hN
    have hN1 : AllN ((p.map (shK d)) ++ [shK d s]) := by
      intro t ht
      rcases List.mem_append.1 ht with ht | ht
      · obtain ⟨u, hu, rfl⟩ := List.mem_map.1 ht
        exact hN u (by simp [hu])
      · obtain rfl := List.mem_singleton.1 ht
        exact hN s (by simp)
    obtain ⟨c', hc, hC⟩ := seg_sim (sim_sh d p) (show bareT s = bareT (shK d s) from rfl) hN1 h1 h2 h3
    have e : c' = shC d c := by
      cases h3 with
      | ok a0 a3 a4 =>
        cases hc with
        | ok b0 b3 b4 =>
          obtain ⟨f0, f1, f2, f3⟩ := c
          obtain ⟨g0, g1, g2, g3⟩ := c'
          obtain ⟨q0, q1, q2⟩ := hC
          simp only at q0 q1 q2 a3 b3
          subst q0; subst q1; subst q2
          have : g3 = f3 + d := by
            rw [b3, a3]
            cases p with
            | nil => exact absurd rfl a0
            | cons t p => rfl
          rw [this]; rfl
    subst e
    rw [List.map_append, List.map_cons, List.map_cons]
    exact .cons (free_sim (sim_sh d p) h1) h2 hc (ih (fun t ht => hN t (by simp [ht])))
theorem parse_clean {s : ByteArray} {x : List Cmd} (h : parseR s = (x, [])) : ∃ ts, Lx.lex s.data.toList = .ok ts ∧ Segs (ts.map toTk) x ∧ x.length ≤ 300 := by
  unfold parseR at h
  cases hl : Lx.lex s.data.toList with
  | error e => rw [hl] at h; injection h with _ h; cases h
  | ok ts =>
    rw [hl] at h
    simp only at h
    generalize hp : pLoop s.size ts.length (ts.map toTk) [] [] = r at h
    obtain ⟨o, d⟩ := r
    unfold pEnd at h
    simp only at h
    split at h
    · rename_i hd
      injection h with _ h
      rw [h] at hd; simp at hd
    · rename_i hd
      split at h
      · injection h with _ h; cases h
      · rename_i ho
        injection h with h _
        subst h
        have hd0 : d = [] := List.eq_nil_of_length_eq_zero (by omega)
        subst hd0
        obtain ⟨y, hy, hS⟩ := pLoop_clean _ (lex_allN hl) (by rw [List.length_map]; exact Nat.le_refl _) hp
        rw [List.nil_append] at hy
        subst hy
        exact ⟨ts, rfl, hS, by omega⟩
theorem parse_of {s : ByteArray} {ts : List Tk} {x : List Cmd} (hl : Lx.lex s.data.toList = .ok ts) (hS : Segs (ts.map toTk) x) (hx : x.length ≤ 300) : parseR s = (x, []) := by
  unfold parseR
  rw [hl]
  simp only
  have hlen := segs_len hS
  rw [List.length_map] at hlen
  have h1 := pLoop_segs (e := (s.size : Int)) hS (ts.length - x.length) [] [] [] (by decide)
  rw [List.append_nil, pLoop_none, show ts.length - x.length + x.length = ts.length by omega, List.nil_append] at h1
  rw [h1]
  unfold pEnd
  rw [if_neg (by simp), if_neg (by show ¬ 300 < x.length; omega)]
/-- Two scripts, joined by a line feed. -/
theorem parse_join {a b : ByteArray} {x y : List Cmd} {us : List Tk} (h1 : parseR a = (x, [])) (h2 : parseR b = (y, [])) (hl : Lx.lex (a.data.toList ++ 10 :: b.data.toList) = .ok us) (hc : x.length + y.length ≤ 300) :
    ∀ s : ByteArray, s.data.toList = a.data.toList ++ 10 :: b.data.toList → parseR s = (x ++ y.map (shC ((a.size : Int) + 1)), []) := by
  intro s hs
  obtain ⟨ts, l1, s1, _⟩ := parse_clean h1
  obtain ⟨vs, l2, s2, _⟩ := parse_clean h2
  have e := (lex_bound hl).2.1
  rw [join_toks, ← (lex_bound l1).2.1, ← (lex_bound l2).2.1] at e
  rw [← hs] at hl
  refine parse_of hl ?_ (by rw [List.length_append, List.length_map]; exact hc)
  rw [e, List.map_append, map_shift]
  have hd : ((a.data.toList.length + 1 : Nat) : Int) = (a.size : Int) + 1 := by rw [list_size]; omega
  rw [hd]
  exact segs_append s1 (segs_shift _ s2 (lex_allN l2))
/-- Tokens in order, before the end. -/
def Ord (e : Int) (l : List Tok) : Prop := l.Pairwise (fun a b => a.f3 < b.f3) ∧ ∀ t ∈ l, 0 ≤ t.f3 ∧ t.f3 < e
/-- Diagnostics in order, before what is left. -/
def DOrd (e : Int) (d : List Dg) : Prop := d.Pairwise (fun a b => a.f1 < b.f1) ∧ (∀ x ∈ d, 0 ≤ x.f1 ∧ x.f1 ≤ e ∧ x.f0 = 7) ∧ d.length ≤ 20
theorem Ord.right {e : Int} {a b : List Tok} (h : Ord e (a ++ b)) : Ord e b := ⟨(List.pairwise_append.1 h.1).2.1, fun t ht => h.2 t (List.mem_append_right _ ht)⟩
theorem dord_snoc {e a : Int} {d : List Dg} (h : DOrd e d) (hd : d.length < 20) (h0 : 0 ≤ a) (h1 : a ≤ e) (hlt : ∀ x ∈ d, x.f1 < a) : DOrd e (d ++ [⟨7, a⟩]) := by
  refine ⟨?_, ?_, ?_⟩
  · rw [List.pairwise_append]
    exact ⟨h.1, List.pairwise_singleton _ _, fun x hx y hy => by obtain rfl := List.mem_singleton.1 hy; exact hlt x hx⟩
  · intro x hx
    rcases List.mem_append.1 hx with hx | hx
    · exact h.2.1 x hx
    · obtain rfl := List.mem_singleton.1 hx; exact ⟨h0, h1, rfl⟩
  · rw [List.length_append]; simp; omega
theorem pLoop_diags {e : Int} (he : 0 ≤ e) : ∀ (n : Nat) {l : List Tok} {o : List Cmd} {d : List Dg}, AllN l → Ord e l → DOrd e d → (∀ x ∈ d, x.f1 < e ∨ l = []) → (∀ x ∈ d, ∀ t ∈ l, x.f1 < t.f3) → l.length ≤ n → DOrd e (pLoop e n l o d).2
  | n, l, o, d, hN, hO, hD, hE, hlt, hn => by
    by_cases hl : l = []
    · subst hl; rw [pLoop_none]; exact hD
    by_cases hd : 20 ≤ d.length
    · rw [pLoop_full hd]; exact hD
    have hp := List.length_pos_iff.2 hl
    obtain ⟨n, rfl⟩ : ∃ k, n = k + 1 := ⟨n - 1, by omega⟩
    have hE' : ∀ x ∈ d, x.f1 < e := fun x hx => (hE x hx).resolve_right hl
    rcases semi_cases l with hf | ⟨p, s, r, rfl, hps, hs⟩
    · obtain ⟨q, l', hq, _, h3⟩ := pLoop_rest (n := n) (e := e) hN hf hl o d (by omega)
      rw [h3]
      show DOrd e (d ++ [_])
      cases l' with
      | nil => exact dord_snoc hD (by omega) he (Int.le_refl _) hE'
      | cons t l' =>
        have ht : t ∈ l := by rw [hq]; simp
        exact dord_snoc hD (by omega) (hO.2 t ht).1 (Int.le_of_lt (hO.2 t ht).2) (fun x hx => hlt x hx t ht)
    · have hN' : AllN (p ++ [s]) := fun t ht => hN t (by simp at ht ⊢; rcases ht with h | h <;> simp [h])
      simp only [List.length_append, List.length_cons] at hn
      obtain ⟨x, hx⟩ := seg_any hN' hps hs
      have hNr : AllN r := fun t ht => hN t (by simp [ht])
      have hOr : Ord e r := by
        have : p ++ s :: r = (p ++ [s]) ++ r := by simp
        rw [this] at hO; exact hO.right
      cases x with
      | ok c =>
        rw [pLoop_ok hx _ _ _ (by omega)]
        exact pLoop_diags he n hNr hOr hD (fun y hy => .inl (hE' y hy)) (fun y hy t ht => hlt y hy t (by simp [ht])) (by omega)
      | error a =>
        rw [pLoop_er hps hs hx _ _ _ (by omega)]
        obtain ⟨t, ht, rfl, htr⟩ : ∃ t, t ∈ p ++ [s] ∧ a = t.f3 ∧ ∀ u ∈ r, t.f3 < u.f3 := by
          cases hx with
          | @er q l t _ _ hq _ =>
            have hm : t ∈ p ++ [s] := by rw [hq]; simp
            refine ⟨t, hm, rfl, fun u hu => ?_⟩
            have : p ++ s :: r = (p ++ [s]) ++ r := by simp
            rw [this] at hO
            exact (List.pairwise_append.1 hO.1).2.2 t hm u hu
        have hm : t ∈ p ++ s :: r := by simp at ht ⊢; rcases ht with h | h <;> simp [h]
        have hb := hO.2 t hm
        refine pLoop_diags he n hNr hOr (dord_snoc hD (by omega) hb.1 (Int.le_of_lt hb.2) (fun y hy => hlt y hy t hm)) ?_ ?_ (by omega)
        · intro y hy
          rcases List.mem_append.1 hy with hy | hy
          · exact .inl (hE' y hy)
          · obtain rfl := List.mem_singleton.1 hy; exact .inl hb.2
        · intro y hy u hu
          rcases List.mem_append.1 hy with hy | hy
          · exact hlt y hy u (by simp [hu])
          · obtain rfl := List.mem_singleton.1 hy; exact htr u hu
theorem lex_ord {s : ByteArray} {ts : List Tk} (h : Lx.lex s.data.toList = .ok ts) : Ord (s.size : Int) (ts.map toTk) := by
  refine ⟨?_, ?_⟩
  · rw [List.pairwise_map]
    exact (lex_sorted h).imp (fun {a b} hab => by show ((a.o : Nat) : Int) < ((b.o : Nat) : Int); omega)
  · intro t ht
    obtain ⟨u, hu, rfl⟩ := List.mem_map.1 ht
    have := (lex_bound h).2.2.2.1 u hu
    rw [list_size] at this
    show 0 ≤ ((u.o : Nat) : Int) ∧ ((u.o : Nat) : Int) < _
    omega
theorem segs_at {l : List Tok} {x : List Cmd} (h : Segs l x) : ∀ (j : Nat), j < x.length → ∃ t ∈ l, (rd_C x (j : Int)).f3 = t.f3 := by
  induction h with
  | nil => intro j hj; simp at hj
  | @cons p s c l cs h1 h2 h3 _ ih =>
    intro j hj
    cases j with
    | zero =>
      cases h3 with
      | ok a0 a3 _ =>
        cases p with
        | nil => exact absurd rfl a0
        | cons t p => exact ⟨t, by simp, a3⟩
    | succ j =>
      obtain ⟨t, ht, hf⟩ := ih j (by simpa using hj)
      refine ⟨t, by simp [ht], ?_⟩
      rw [← hf]
      unfold rd_C
      rw [Int.toNat_natCast, Int.toNat_natCast]; rfl
/-- Parse's diagnostics: in order, within the script, each an error; no commands with them; at most twenty. -/
theorem parse_diags (s : ByteArray) : (parseR s).2.Pairwise (fun a b => a.f1 < b.f1) ∧ (∀ x ∈ (parseR s).2, 0 ≤ x.f1 ∧ x.f1 ≤ (s.size : Int) ∧ x.f0 ≠ 0) ∧ (parseR s).2.length ≤ 20 ∧ ((parseR s).2 ≠ [] → (parseR s).1 = []) := by
  have one : ∀ (e a : Int), e ≠ 0 → 0 ≤ a → a ≤ (s.size : Int) → ([⟨e, a⟩] : List Dg).Pairwise (fun a b => a.f1 < b.f1) ∧ (∀ x ∈ ([⟨e, a⟩] : List Dg), 0 ≤ x.f1 ∧ x.f1 ≤ (s.size : Int) ∧ x.f0 ≠ 0) ∧ ([⟨e, a⟩] : List Dg).length ≤ 20 ∧ (([⟨e, a⟩] : List Dg) ≠ [] → ([] : List Cmd) = []) := by
    intro e a h0 h1 h2
    exact ⟨List.pairwise_singleton _ _, fun x hx => by obtain rfl := List.mem_singleton.1 hx; exact ⟨h1, h2, h0⟩, by simp, fun _ => rfl⟩
  unfold parseR
  cases hl : Lx.lex s.data.toList with
  | error e =>
    dsimp only
    by_cases h8 : 8000 < s.data.toList.length
    · have : e = (2, 0) := by unfold Lx.lex at hl; rw [if_pos h8] at hl; injection hl with hl; exact hl.symm
      subst this
      exact one 2 ((0 : Nat) : Int) (by decide) (by omega) (by omega)
    · obtain ⟨p, c, a, b, hs, he, _, _, _, _, _, _, _, hp, _⟩ := lex_error_inv (by omega) hl
      have h0 := (err_pos hp).1
      refine one e.1 ((e.2 : Nat) : Int) (by omega) (by omega) ?_
      have : s.size = s.data.toList.length := rfl
      rw [this, hs, List.length_append, he]; omega
  | ok ts =>
    dsimp only
    have hD : DOrd (s.size : Int) (pLoop (s.size : Int) ts.length (ts.map toTk) [] []).2 := by
      refine pLoop_diags (by omega) _ (lex_allN hl) (lex_ord hl) ⟨.nil, fun x hx => (by cases hx), by simp⟩ (fun x hx => by cases hx) (fun x hx => by cases hx) ?_
      rw [List.length_map]; exact Nat.le_refl _
    generalize hp : pLoop (s.size : Int) ts.length (ts.map toTk) [] [] = r at hD
    obtain ⟨o, d⟩ := r
    unfold pEnd
    simp only
    by_cases hd : 0 < d.length
    · rw [if_pos hd]
      exact ⟨hD.1, fun x hx => ⟨(hD.2.1 x hx).1, (hD.2.1 x hx).2.1, by rw [(hD.2.1 x hx).2.2]; decide⟩, hD.2.2, fun _ => rfl⟩
    · rw [if_neg hd]
      by_cases ho : 300 < o.length
      · rw [if_pos ho]
        have hd0 : d = [] := List.eq_nil_of_length_eq_zero (by omega)
        subst hd0
        obtain ⟨x, hx, hS⟩ := pLoop_clean _ (lex_allN hl) (by rw [List.length_map]; exact Nat.le_refl _) hp
        rw [List.nil_append] at hx
        subst hx
        obtain ⟨t, ht, hf⟩ := segs_at hS 300 ho
        have hf' : (rd_C o 300).f3 = t.f3 := hf
        rw [hf']
        have hb := (lex_ord hl).2 t ht
        exact one 2 _ (by decide) hb.1 (Int.le_of_lt hb.2)
      · rw [if_neg ho]
        exact ⟨.nil, fun x hx => (by cases hx), by simp, fun h => absurd rfl h⟩
end Go.Proofs.YtdedlchpjboceaaDoor.Qz
end

section
namespace Go.Proofs.YtdedlchpjboceaaDoor.Qz
open Go.RowKit Go.Proofs.YtdedlchpjboceaaDoorW.PrintWords Go.Proofs.YtdedlchpjboceaaDoorW.PrintLast Go.Proofs.YtdedlchpjboceaaDoor.Lx Go.Proofs.YtdedlchpjboceaaDoor.Px Go.Proofs.YtdedlchpjboceaaDoor.Tx Go.Proofs.YtdedlchpjboceaaDoor.Lr
def numOk (n : Int) : Prop := 0 ≤ n ∧ n ≤ 1000000000
def TokV (t : Tok) : Prop := t.f0 = 2 → numOk t.f2
def AllV (l : List Tok) : Prop := ∀ t ∈ l, TokV t
/-- The numbers that items leave. -/
def numsI : List It → List Int → Prop
  | [], ns => ns = []
  | .W _ :: is, ns => numsI is ns
  | .Nm :: is, ns => numsI is ns
  | .Num :: is, ns => ∃ n r, ns = n :: r ∧ numOk n ∧ numsI is r
  | .Dr :: is, ns => ∃ n r, ns = n :: r ∧ (-1000000000 ≤ n ∧ n ≤ 1000000000) ∧ numsI is r
def hasNm : List It → Bool
  | [] => false
  | .Nm :: _ => true
  | .W _ :: is => hasNm is
  | .Num :: is => hasNm is
  | .Dr :: is => hasNm is
theorem wrap_neg {n : Int} (h : numOk n) : IntKind.i64.wrap (-n) = -n := by
  unfold numOk at h
  simp [IntKind.wrap, IntKind.signed, IntKind.bits]
  omega
theorem AllV.tail {l : List Tok} (h : AllV l) : AllV l.tail := fun t ht => h t (List.mem_of_mem_tail ht)
theorem AllV.next {l : List Tok} (h : AllV l) (e : Int) : TokV (nextT l e) := by
  cases l with
  | nil =>
    intro h0
    have h0' : (0 : Int) = 2 := h0
    exact absurd h0' (by decide)
  | cons t l => exact h t (by simp)
/-- What items leave in the command. -/
def Shape (is : List It) (c c' : Cmd) : Prop :=
  c'.f0 = c.f0 ∧ (∃ ns, c'.f2 = c.f2 ++ ns ∧ numsI is ns) ∧ (hasNm is = true → nameB c'.f1.data.toList = true) ∧ (hasNm is = false → c'.f1 = c.f1)
theorem run_shape {e : Int} : ∀ {is : List It} {l l' : List Tok} {c c' : Cmd}, AllV l → runIt e is l c = .ok (l', c') → Shape is c c' ∧ AllV l'
  | [], l, l', c, c', hV, h => by
    injection h with h; injection h with h1 h2; subst h1; subst h2
    exact ⟨⟨rfl, ⟨[], by simp, rfl⟩, (fun h => by cases h), fun _ => rfl⟩, hV⟩
  | i :: is, l, l', c, c', hV, h => by
    cases hs : stepIt e i l c with
    | error x => rw [runIt_cons_err hs] at h; cases h
    | ok y =>
      obtain ⟨l1, c1⟩ := y
      rw [runIt_cons_ok hs] at h
      cases i with
      | W s =>
        simp only [stepIt] at hs
        split at hs
        · injection hs with hs; injection hs with h1 h2; subst h1; subst h2
          obtain ⟨⟨a1, ⟨ns, a2, a3⟩, a4, a5⟩, a6⟩ := run_shape hV.tail h
          exact ⟨⟨a1, ⟨ns, a2, a3⟩, a4, a5⟩, a6⟩
        · cases hs
      | Nm =>
        simp only [stepIt] at hs
        split at hs
        · rename_i hq
          injection hs with hs; injection hs with h1 h2; subst h1; subst h2
          obtain ⟨⟨a1, ⟨ns, a2, a3⟩, a4, a5⟩, a6⟩ := run_shape hV.tail h
          refine ⟨⟨a1, ⟨ns, a2, a3⟩, fun _ => ?_, fun h => by cases h⟩, a6⟩
          cases hn : hasNm is with
          | true => exact a4 hn
          | false => rw [a5 hn]; exact hq.2
        · cases hs
      | Num =>
        simp only [stepIt] at hs
        split at hs
        · rename_i hq
          injection hs with hs; injection hs with h1 h2; subst h1; subst h2
          obtain ⟨⟨a1, ⟨ns, a2, a3⟩, a4, a5⟩, a6⟩ := run_shape hV.tail h
          refine ⟨⟨a1, ⟨(nextT l e).f2 :: ns, ?_, ⟨_, _, rfl, hV.next e hq, a3⟩⟩, a4, a5⟩, a6⟩
          rw [a2, List.append_assoc]; rfl
        · cases hs
      | Dr =>
        simp only [stepIt] at hs
        split at hs
        · split at hs
          · rename_i hq
            injection hs with hs; injection hs with h1 h2; subst h1; subst h2
            obtain ⟨⟨a1, ⟨ns, a2, a3⟩, a4, a5⟩, a6⟩ := run_shape hV.tail.tail h
            have hn := hV.tail.next e hq
            refine ⟨⟨a1, ⟨_ :: ns, by rw [a2, List.append_assoc]; rfl, ⟨_, _, rfl, ?_, a3⟩⟩, a4, a5⟩, a6⟩
            by_cases hw : (nextT l e).f1 = slowT
            · rw [if_pos hw, wrap_neg hn]; unfold numOk at hn; omega
            · rw [if_neg hw]; unfold numOk at hn; omega
          · cases hs
        · cases hs
/-- The first words of the forms. -/
def firstW (k : Int) : ByteArray := if k = 1 then ⟨#[109, 101, 115, 104]⟩ else if k = 2 then ⟨#[114, 111, 111, 116]⟩ else if k = 3 then ⟨#[110, 111, 100, 101]⟩ else if k = 11 then ⟨#[114, 117, 110]⟩ else atT
theorem name_pos {t : List UInt8} (h : nameB t = true) : t ≠ [] := fun e => by rw [e] at h; exact absurd h (by decide)
theorem semi_numsI : ∀ {is : List It} {ns : List Int}, numsI (is ++ [.W semiT]) ns → numsI is ns
  | [], _, h => h
  | .W _ :: is, _, h => semi_numsI (is := is) h
  | .Nm :: is, _, h => semi_numsI (is := is) h
  | .Num :: is, _, ⟨n, r, e, a, b⟩ => ⟨n, r, e, a, semi_numsI (is := is) b⟩
  | .Dr :: is, _, ⟨n, r, e, a, b⟩ => ⟨n, r, e, a, semi_numsI (is := is) b⟩
theorem semi_hasNm : ∀ {is : List It}, hasNm (is ++ [.W semiT]) = hasNm is
  | [] => rfl
  | .W _ :: is => semi_hasNm (is := is)
  | .Nm :: _ => rfl
  | .Num :: is => semi_hasNm (is := is)
  | .Dr :: is => semi_hasNm (is := is)
theorem cB_named {k : Int} {nm : ByteArray} {ns : List Int} {a : Int} (h1 : (ns.length : Int) = (shp k).2) (h2 : (shp k).1 = true) (h3 : nameB nm.data.toList = true) (h4 : numsB k 0 ns = true) : cB ⟨k, nm, ns, a⟩ = true := by
  unfold cB cmdB
  rw [h2, h3, h4, decide_eq_true h1, decide_eq_true (name_pos h3)]; rfl
theorem cB_bare {k : Int} {nm : ByteArray} {ns : List Int} {a : Int} (h1 : (ns.length : Int) = (shp k).2) (h2 : (shp k).1 = false) (h3 : nm = ⟨#[]⟩) (h4 : numsB k 0 ns = true) : cB ⟨k, nm, ns, a⟩ = true := by
  subst h3
  unfold cB cmdB
  rw [h2, h4, decide_eq_true h1]; rfl
theorem numB_pos {k : Int} {i : Nat} {n : Int} (h : numOk n) : numB k i n = true := by
  unfold numB numOk at *
  rw [decide_eq_true_eq]; omega
theorem numB_dr {n : Int} (h : -1000000000 ≤ n ∧ n ≤ 1000000000) : numB 3 2 n = true := by
  unfold numB
  rw [decide_eq_true_eq]; omega
/-- A command that is read. -/
theorem cmd_valid {e : Int} {l l' : List Tok} {c : Cmd} (hV : AllV l) (h : cmdR e l = .ok (l', c)) : cB c = true ∧ 1 ≤ c.f0 ∧ c.f0 ≤ 11 ∧ (nextT l e).f1 = firstW c.f0 := by
  unfold cmdR at h
  by_cases ha : (nextT l e).f1 = atT
  · rw [if_pos ha] at h
    cases hr : runIt e (.W atT :: nums_ 1) l (cmd0 (nextT l e).f3) with
    | error x => rw [hr] at h; cases h
    | ok y =>
      obtain ⟨l1, c1⟩ := y
      rw [hr] at h
      obtain ⟨⟨a1, ⟨ms, a2, a3⟩, _, a5⟩, a6⟩ := run_shape hV hr
      obtain ⟨n0, r0, rfl, hn0, hr0⟩ := a3
      have hr0' : r0 = [] := hr0
      subst hr0'
      have a5' := a5 rfl
      obtain ⟨b0, b1, b2, b3⟩ := c1
      have a2' : b2 = [n0] := a2
      have a5'' : b1 = ⟨#[]⟩ := a5'
      subst a2'; subst a5''
      clear a1 a2 a5 a5' hr0 hr
      unfold tailR at h
      cases hk : formE (nextT l1 e).f1 with
      | none => simp only [hk] at h; cases h
      | some q =>
        obtain ⟨k, its⟩ := q
        simp only [hk] at h
        obtain ⟨⟨d1, ⟨ns, d2, d3⟩, d4, d5⟩, _⟩ := run_shape a6.tail h
        have d3 := semi_numsI d3
        rw [semi_hasNm] at d4 d5
        obtain ⟨f0, f1, f2, f3⟩ := c
        have d1' : f0 = k := d1
        have d2' : f2 = n0 :: ns := d2
        subst d1'; subst d2'
        have hat : ∀ {k : Int}, 4 ≤ k → k ≤ 10 → (nextT l e).f1 = firstW k := fun {k} h1 h2 => by
          rw [ha]; unfold firstW
          rw [if_neg (by omega), if_neg (by omega), if_neg (by omega), if_neg (by omega)]
        have i0 := fun k => numB_pos (k := k) (i := 0) hn0
        unfold formE at hk
        repeat' split at hk
        all_goals first | (cases hk; done) | (injection hk with hk; injection hk with h1 h2; subst h1; subst h2)
        · simp only [its_named, List.replicate, List.cons_append, List.nil_append, numsI] at d3
          obtain ⟨n1, _, rfl, g1, n2, _, rfl, g2, rfl⟩ := d3
          exact ⟨cB_named rfl rfl (d4 rfl) (by simp [numsB, i0, numB_pos g1, numB_pos g2]), (by dsimp only; decide), (by dsimp only; decide), hat (by dsimp only; decide) (by dsimp only; decide)⟩
        · simp only [its_named, List.replicate, List.cons_append, List.nil_append, numsI] at d3
          subst d3
          exact ⟨cB_named rfl rfl (d4 rfl) (by simp [numsB, i0]), (by dsimp only; decide), (by dsimp only; decide), hat (by dsimp only; decide) (by dsimp only; decide)⟩
        · simp only [its_named, List.replicate, List.cons_append, List.nil_append, numsI] at d3
          subst d3
          exact ⟨cB_named rfl rfl (d4 rfl) (by simp [numsB, i0]), (by dsimp only; decide), (by dsimp only; decide), hat (by dsimp only; decide) (by dsimp only; decide)⟩
        · simp only [its_named, List.replicate, List.cons_append, List.nil_append, numsI] at d3
          obtain ⟨n1, _, rfl, g1, rfl⟩ := d3
          exact ⟨cB_named rfl rfl (d4 rfl) (by simp [numsB, i0, numB_pos g1]), (by dsimp only; decide), (by dsimp only; decide), hat (by dsimp only; decide) (by dsimp only; decide)⟩
        · simp only [its_jam, prs, List.flatMap_cons, List.flatMap_nil, List.replicate, List.cons_append, List.nil_append, List.append_nil, numsI] at d3
          obtain ⟨n1, _, rfl, g1, n2, _, rfl, g2, n3, _, rfl, g3, n4, _, rfl, g4, n5, _, rfl, g5, rfl⟩ := d3
          exact ⟨cB_bare rfl rfl (d5 rfl) (by simp [numsB, i0, numB_pos g1, numB_pos g2, numB_pos g3, numB_pos g4, numB_pos g5]), (by dsimp only; decide), (by dsimp only; decide), hat (by dsimp only; decide) (by dsimp only; decide)⟩
        · simp only [its_replay, List.replicate, List.cons_append, List.nil_append, List.append_nil, numsI] at d3
          obtain ⟨n1, _, rfl, g1, n2, _, rfl, g2, n3, _, rfl, g3, rfl⟩ := d3
          exact ⟨cB_bare rfl rfl (d5 rfl) (by simp [numsB, i0, numB_pos g1, numB_pos g2, numB_pos g3]), (by dsimp only; decide), (by dsimp only; decide), hat (by dsimp only; decide) (by dsimp only; decide)⟩
        · simp only [its_program, prs, List.flatMap_cons, List.flatMap_nil, List.replicate, List.cons_append, List.nil_append, List.append_nil, numsI] at d3
          obtain ⟨n1, _, rfl, g1, n2, _, rfl, g2, rfl⟩ := d3
          exact ⟨cB_bare rfl rfl (d5 rfl) (by simp [numsB, i0, numB_pos g1, numB_pos g2]), (by dsimp only; decide), (by dsimp only; decide), hat (by dsimp only; decide) (by dsimp only; decide)⟩
  · rw [if_neg ha] at h
    unfold tailR at h
    cases hk : formC (nextT l e).f1 with
    | none => simp only [hk] at h; cases h
    | some q =>
      obtain ⟨k, its⟩ := q
      simp only [hk] at h
      obtain ⟨⟨d1, ⟨ns, d2, d3⟩, d4, d5⟩, _⟩ := run_shape hV.tail h
      have d3 := semi_numsI d3
      rw [semi_hasNm] at d4 d5
      obtain ⟨f0, f1, f2, f3⟩ := c
      have d1' : f0 = k := d1
      have d2' : f2 = ns := d2
      subst d1'; subst d2'
      unfold formC at hk
      repeat' split at hk
      all_goals first | (cases hk; done) | (rename_i hw; injection hk with hk; injection hk with h1 h2; subst h1; subst h2)
      · simp only [its_mesh, prs, List.flatMap_cons, List.flatMap_nil, List.cons_append, List.nil_append, List.append_nil, numsI] at d3
        obtain ⟨n1, _, rfl, g1, n2, _, rfl, g2, rfl⟩ := d3
        exact ⟨cB_bare rfl rfl (d5 rfl) (by simp [numsB, numB_pos g1, numB_pos g2]), (by dsimp only; decide), (by dsimp only; decide), hw⟩
      · simp only [its_root, List.replicate, List.cons_append, List.nil_append, List.append_nil, numsI] at d3
        obtain ⟨n1, _, rfl, g1, n2, _, rfl, g2, rfl⟩ := d3
        exact ⟨cB_named rfl rfl (d4 rfl) (by simp [numsB, numB_pos g1, numB_pos g2]), (by dsimp only; decide), (by dsimp only; decide), hw⟩
      · simp only [its_node, prs, List.flatMap_cons, List.flatMap_nil, List.replicate, List.cons_append, List.nil_append, List.append_nil, numsI] at d3
        obtain ⟨n1, _, rfl, g1, n2, _, rfl, g2, n3, _, rfl, g3, n4, _, rfl, g4, rfl⟩ := d3
        exact ⟨cB_named rfl rfl (d4 rfl) (by simp [numsB, numB_pos g1, numB_pos g2, numB_dr g3, numB_pos g4]), (by dsimp only; decide), (by dsimp only; decide), hw⟩
      · simp only [its_run, List.replicate, List.append_nil, numsI] at d3
        obtain ⟨n1, _, rfl, g1, rfl⟩ := d3
        exact ⟨cB_bare rfl rfl (d5 rfl) (by simp [numsB, numB_pos g1]), (by dsimp only; decide), (by dsimp only; decide), hw⟩
theorem lex_allV {s : List UInt8} {ts : List Tk} (h : Lx.lex s = .ok ts) : AllV (ts.map toTk) := by
  intro t ht h2
  obtain ⟨u, hu, rfl⟩ := List.mem_map.1 ht
  have h2' : u.kind = 2 := h2
  rcases lex_tokG h u hu with ⟨h1, _⟩ | ⟨_, _, h3⟩ | ⟨h1, _⟩
  · omega
  · exact h3
  · omega
/-- Commands of segments: valid, each where its first word stands, in order. -/
theorem segs_valid {l : List Tok} {x : List Cmd} (h : Segs l x) : AllV l → (∀ c ∈ x, cB c = true ∧ 1 ≤ c.f0 ∧ c.f0 ≤ 11 ∧ ∃ t ∈ l, c.f3 = t.f3 ∧ t.f1 = firstW c.f0) := by
  induction h with
  | nil => intro _ c hc; cases hc
  | @cons p s c l cs h1 h2 h3 _ ih =>
    intro hV d hd
    rcases List.mem_cons.1 hd with rfl | hd
    · cases h3 with
      | ok a0 a3 a4 =>
        have hV1 : AllV (p ++ s :: []) := fun t ht => hV t (by simp at ht ⊢; rcases ht with h | h <;> simp [h])
        obtain ⟨v1, v2, v3, v4⟩ := cmd_valid hV1 (a4 0 [])
        refine ⟨v1, v2, v3, ?_⟩
        cases p with
        | nil => exact absurd rfl a0
        | cons t p => exact ⟨t, by simp, a3, v4⟩
    · obtain ⟨v1, v2, v3, t, ht, v4⟩ := ih (fun t ht => hV t (by simp [ht])) d hd
      exact ⟨v1, v2, v3, t, by simp [ht], v4⟩
theorem segs_sorted {l : List Tok} {x : List Cmd} (h : Segs l x) : l.Pairwise (fun a b => a.f3 < b.f3) → x.Pairwise (fun a b => a.f3 < b.f3) := by
  induction h with
  | nil => intro _; exact .nil
  | @cons p s c l cs h1 h2 h3 hS ih =>
    intro hP
    obtain ⟨q1, q2, q3⟩ := List.pairwise_append.1 hP
    refine List.pairwise_cons.2 ⟨fun d hd => ?_, ih (List.pairwise_cons.1 q2).2⟩
    obtain ⟨j, hj, rfl⟩ := List.getElem_of_mem hd
    obtain ⟨t, ht, hf⟩ := segs_at hS j hj
    have hd3 : cs[j].f3 = t.f3 := by
      rw [← hf]; unfold rd_C
      rw [Int.toNat_natCast, List.getD_eq_getElem?_getD, List.getElem?_eq_getElem hj]; rfl
    rw [hd3]
    cases h3 with
    | ok a0 a3 _ =>
      cases p with
      | nil => exact absurd rfl a0
      | cons u p => rw [a3]; exact q3 u (by simp) t (by simp [ht])
/-- The text of a token that is no number stands at its offset. -/
theorem lex_text {s : List UInt8} {ts : List Tk} (h : Lx.lex s = .ok ts) {t : Tk} (ht : t ∈ ts) (h2 : t.t ≠ []) : t.o + t.t.length ≤ s.length ∧ (s.drop t.o).take t.t.length = t.t := by
  obtain ⟨p, c, a, b, hs, ho, _, _, hT⟩ := lex_mem h ht
  have e : t.t = c :: a := by
    rcases tok_kinds hT with ⟨_, _, h3, _⟩ | ⟨_, _, h3, _⟩ | ⟨_, _, _, h3, _⟩
    · exact h3
    · exact absurd h3 h2
    · exact h3
  rw [e, ho, hs]
  refine ⟨by simp, ?_⟩
  rw [List.drop_left, show c :: (a ++ b) = (c :: a) ++ b by simp, List.take_left]
end Go.Proofs.YtdedlchpjboceaaDoor.Qz
end

section
namespace Go.Proofs.YtdedlchpjboceaaDoor.Qz
open Go.RowKit Go.Proofs.YtdedlchpjboceaaDoorW.PrintWords Go.Proofs.YtdedlchpjboceaaDoorW.PrintLast Go.Proofs.YtdedlchpjboceaaDoor.Lx Go.Proofs.YtdedlchpjboceaaDoor.Px Go.Proofs.YtdedlchpjboceaaDoor.Tx Go.Proofs.YtdedlchpjboceaaDoor.Lr
theorem digit_back {c : UInt8} (h : digitB c) : UInt8.ofNat (48 + (c.toNat - 48)) = c := by
  unfold digitB at h
  rw [show 48 + (c.toNat - 48) = c.toNat by omega]
  exact UInt8.ofNat_toNat
theorem val_ge {t : List UInt8} (h0 : t ≠ []) (hd : ∀ c ∈ t, digitB c) (hz : t.head? ≠ some 48) : 1 ≤ val t := by
  cases t with
  | nil => exact absurd rfl h0
  | cons c t =>
    have hc := hd c (by simp)
    have hne : c.toNat ≠ 48 := fun e => hz (by rw [show c = 48 from UInt8.toNat_inj.1 e]; rfl)
    unfold val
    rw [List.foldl_cons]
    have := fold_ge t (10 * 0 + (c.toNat - 48))
    unfold digitB at hc
    omega
theorem dec_val (n : Nat) : ∀ t : List UInt8, t.length = n → t ≠ [] → (∀ c ∈ t, digitB c) → ¬ (1 < t.length ∧ t.head? = some 48) → Lib.decDigits (val t) = t := by
  induction n with
  | zero => intro t h h0; exact absurd (List.eq_nil_of_length_eq_zero h) h0
  | succ n ih =>
    intro t hl h0 hd hz
    rcases List.eq_nil_or_concat t with rfl | ⟨l, c, rfl⟩
    · exact absurd rfl h0
    · rw [List.concat_eq_append] at *
      have hc := hd c (by simp)
      rw [val_snoc]
      cases l with
      | nil =>
        have hc' := hc
        unfold digitB at hc'
        rw [show 10 * val [] + (c.toNat - 48) = c.toNat - 48 by simp [val], Lib.decDigits_one (by omega), digit_back hc]; rfl
      | cons b l =>
        have hb : (b :: l).head? ≠ some 48 := fun e => hz ⟨by simp, by simpa using e⟩
        have hdl : ∀ c ∈ b :: l, digitB c := fun x hx => hd x (List.mem_append_left _ hx)
        have hv := val_ge (t := b :: l) (by simp) hdl hb
        have hc' := hc
        unfold digitB at hc'
        rw [Lib.decDigits, dif_neg (by omega)]
        rw [show (10 * val (b :: l) + (c.toNat - 48)) / 10 = val (b :: l) by omega, show (10 * val (b :: l) + (c.toNat - 48)) % 10 = c.toNat - 48 by omega]
        rw [ih (b :: l) (by simp at hl; simpa using hl) (by simp) hdl (fun q => hb q.2), digit_back hc]
/-- A token's text. -/
def textK (t : Tk) : List UInt8 := if t.kind = 2 then Lib.decDigits t.n.toNat else t.t
theorem text_tok {c : UInt8} {a : List UInt8} {o : Nat} {t : Tk} (hd : cls c = 4 → ∀ y ∈ c :: a, digitB y) (h : tokOf (cls c) (c :: a) o = .ok t) : textK t = c :: a := by
  unfold textK
  rcases tok_kinds h with ⟨h1, _, h3, _⟩ | ⟨h1, h2, _, h4, _, h6⟩ | ⟨h1, _, _, h4, _⟩
  · rw [if_neg (by omega), h3]
  · rw [if_pos h1, h4]
    simp only [Int.toNat_natCast]
    exact dec_val _ _ rfl (by simp) (hd h2) h6
  · rw [if_neg (by omega), h4]
/-- A script, cut behind a token. -/
theorem lex_cut {s : List UInt8} {ts : List Tk} (h : Lx.lex s = .ok ts) (k : Nat) (hk : k < ts.length) : ts[k].o + (textK ts[k]).length ≤ s.length ∧ Lx.lex (s.take (ts[k].o + (textK ts[k]).length)) = .ok (ts.take (k + 1)) := by
  obtain ⟨hl, e, hg, _, hc⟩ := lex_bound h
  subst e
  obtain ⟨A, x, B, h1, h2, h3, h4, h5⟩ := toks_split (spans s 0) k hk
  obtain ⟨p, q, rfl, e1, e2, e3⟩ := spans_split A s 0 (x :: B) h1
  rw [Nat.zero_add] at e2
  obtain ⟨ho, c, a, b, rfl, hxk, hxt, ha, hb, hB⟩ := spans_first e2
  have hgx : goodB x := hg x (by rw [h1]; simp)
  rcases hgx with hgx | ⟨h0, t, ht⟩
  · rw [hgx] at h4; cases h4
  rw [toks_cons, toks_tok h4 ht] at h3
  have htk : (toks (spans (p ++ c :: (a ++ b)) 0))[k] = t := by
    have := congrArg List.head? h3
    rw [List.head?_drop] at this
    rw [List.getElem?_eq_getElem hk] at this
    simpa using this.symm
  rw [htk] at h5 ⊢
  rw [hxk, hxt] at ht
  have hdig : cls c = 4 → ∀ y ∈ c :: a, digitB y := fun h4 y hy => by
    have hm : x ∈ spans (p ++ c :: (a ++ b)) 0 := by rw [h1]; simp
    have := (spans_good _ _ x hm).2.1 (by rw [hxk]; exact h4)
    rw [hxt] at this
    exact this y hy
  have htext := text_tok hdig ht
  rw [htext, h5, ho]
  have hlen : p.length + (c :: a).length ≤ (p ++ c :: (a ++ b)).length := by simp only [List.length_append, List.length_cons]; omega
  refine ⟨hlen, ?_⟩
  have htake : (p ++ c :: (a ++ b)).take (p.length + (c :: a).length) = p ++ (c :: a) := by
    rw [show p ++ c :: (a ++ b) = (p ++ (c :: a)) ++ b by simp, ← List.length_append, List.take_left]
  rw [htake]
  have hcut : CutOk (lastK (spans p 0)) (c :: a) := by
    rw [e1]; intro d hd; exact e3 d (by simpa using hd)
  have hsp : spans (p ++ (c :: a)) 0 = A ++ [⟨p.length, cls c, c :: a⟩] := by
    rw [spans_append p (c :: a) 0 hcut, Nat.zero_add, e1, spans_one c a p.length ha]
  have hgap : gapB (⟨p.length, cls c, c :: a⟩ : Sp) = false := by
    rw [← h4]; unfold gapB; rw [hxk]
  have ht' : tokOf (cls c) (c :: a) p.length = .ok t := by rw [← ho]; exact ht
  have htoks : toks (spans (p ++ (c :: a)) 0) = (toks (spans (p ++ c :: (a ++ b)) 0)).take (k + 1) := by
    rw [hsp, toks_append, toks_tok hgap ht', h2, List.take_succ_eq_append_getElem hk, htk]
  rw [← htoks]
  refine lex_ok_of (Nat.le_trans ?_ hl) ?_ ?_
  · rw [List.length_append]; exact hlen
  · intro y hy
    rw [hsp] at hy
    rcases List.mem_append.1 hy with hy | hy
    · exact hg y (by rw [h1]; simp [hy])
    · obtain rfl := List.mem_singleton.1 hy
      exact .inr ⟨by rw [hxk] at h0; exact h0, t, ht'⟩
  · rw [htoks, List.length_take]; omega
theorem segs_cut_semi {l : List Tok} {x : List Cmd} (h : Segs l x) : ∀ (k : Nat) (hk : k < l.length), semiB l[k] = true → ((l.take (k + 1)).filter semiB).length ≤ x.length ∧ Segs (l.take (k + 1)) (x.take ((l.take (k + 1)).filter semiB).length) := by
  induction h with
  | nil => intro k hk; simp at hk
  | @cons p s c l cs h1 h2 h3 hS ih =>
    intro k hk hs
    have hf : p.filter semiB = [] := by rw [List.filter_eq_nil_iff]; intro t ht; rw [h1 t ht]; decide
    by_cases hlt : k < p.length
    · exfalso
      rw [List.getElem_append_left hlt, h1 _ (List.getElem_mem _)] at hs; cases hs
    · by_cases he : k = p.length
      · subst he
        have : (p ++ s :: l).take (p.length + 1) = p ++ [s] := by
          rw [show p ++ s :: l = (p ++ [s]) ++ l by simp, show p.length + 1 = (p ++ [s]).length by simp, List.take_left]
        rw [this, List.filter_append, hf]
        have e1 : ([] ++ [s].filter semiB).length = 1 := by simp [h2]
        rw [e1]
        exact ⟨by simp, .cons h1 h2 h3 .nil⟩
      · obtain ⟨j, rfl⟩ : ∃ j, k = p.length + 1 + j := ⟨k - (p.length + 1), by omega⟩
        have hj : j < l.length := by simp at hk; omega
        have hget : (p ++ s :: l)[p.length + 1 + j] = l[j] := by
          rw [List.getElem_append_right (by omega)]
          simp [show p.length + 1 + j - p.length = j + 1 by omega]
        rw [hget] at hs
        obtain ⟨i1, i2⟩ := ih j hj hs
        have htake : (p ++ s :: l).take (p.length + 1 + j + 1) = p ++ s :: l.take (j + 1) := by
          rw [List.take_append, List.take_of_length_le (by omega), show p.length + 1 + j + 1 - p.length = (j + 1) + 1 by omega, List.take_succ_cons]
        have hlen : ((p ++ s :: l.take (j + 1)).filter semiB).length = ((l.take (j + 1)).filter semiB).length + 1 := by
          rw [List.filter_append, hf, List.filter_cons_of_pos h2]; simp
        rw [htake, hlen, List.take_succ_cons]
        exact ⟨by simp only [List.length_cons]; omega, .cons h1 h2 h3 i2⟩
theorem segs_cut_mid {l : List Tok} {x : List Cmd} (h : Segs l x) : ∀ (k : Nat) (hk : k < l.length), semiB l[k] = false → ∃ l1 p1 p2 s y c, l.take (k + 1) = l1 ++ p1 ∧ Segs l1 y ∧ p1 ≠ [] ∧ SemiFree p1 ∧ Seg (p1 ++ p2) s (.ok c) := by
  induction h with
  | nil => intro k hk; simp at hk
  | @cons p s c l cs h1 h2 h3 hS ih =>
    intro k hk hs
    by_cases hlt : k < p.length
    · refine ⟨[], p.take (k + 1), p.drop (k + 1), s, [], c, ?_, .nil, ?_, ?_, ?_⟩
      · rw [List.take_append_of_le_length (by omega)]; rfl
      · intro e
        have := congrArg List.length e
        rw [List.length_take, List.length_nil] at this; omega
      · exact fun t ht => h1 t (List.mem_of_mem_take ht)
      · rw [List.take_append_drop]; exact h3
    · by_cases he : k = p.length
      · exfalso
        subst he
        rw [List.getElem_append_right (Nat.le_refl _)] at hs
        simp [h2] at hs
      · obtain ⟨j, rfl⟩ : ∃ j, k = p.length + 1 + j := ⟨k - (p.length + 1), by omega⟩
        have hj : j < l.length := by simp at hk; omega
        have hget : (p ++ s :: l)[p.length + 1 + j] = l[j] := by
          rw [List.getElem_append_right (by omega)]
          simp [show p.length + 1 + j - p.length = j + 1 by omega]
        rw [hget] at hs
        obtain ⟨l1, p1, p2, s', y, c', i1, i2, i3, i4, i5⟩ := ih j hj hs
        have htake : (p ++ s :: l).take (p.length + 1 + j + 1) = p ++ s :: l.take (j + 1) := by
          rw [List.take_append, List.take_of_length_le (by omega), show p.length + 1 + j + 1 - p.length = (j + 1) + 1 by omega, List.take_succ_cons]
        refine ⟨p ++ s :: l1, p1, p2, s', c :: y, c', ?_, .cons h1 h2 h3 i2, i3, i4, i5⟩
        rw [htake, i1]; simp
theorem seg_part {e a : Int} {p1 p2 l' : List Tok} {s : Tok} {c : Cmd} (hN : AllN p1) (h : Seg (p1 ++ p2) s (.ok c)) (hr : cmdR e p1 = .error (a, l')) : l' = [] := by
  cases l' with
  | nil => rfl
  | cons t l' =>
    exfalso
    obtain ⟨q, hq, _, _, h4⟩ := cmd_er hN hr
    cases h with
    | ok _ _ hc =>
      have h1 := hc e []
      have h2 := h4 e (t :: l' ++ (p2 ++ [s])) rfl
      rw [show q ++ (t :: l' ++ (p2 ++ [s])) = (p1 ++ p2) ++ s :: [] by rw [hq]; simp] at h2
      rw [h1] at h2; cases h2
/-- A script whose last command is not whole. -/
theorem parse_part {s : ByteArray} {us : List Tk} {l1 p1 p2 : List Tok} {s' : Tok} {y : List Cmd} {c : Cmd} (hl : Lx.lex s.data.toList = .ok us) (he : us.map toTk = l1 ++ p1) (h1 : Segs l1 y) (h2 : p1 ≠ []) (h3 : SemiFree p1) (h4 : Seg (p1 ++ p2) s' (.ok c)) :
    parseR s = ([], [⟨7, (s.size : Int)⟩]) := by
  have hN := lex_allN hl
  rw [he] at hN
  have hN1 : AllN p1 := hN.right
  have hlen : us.length = l1.length + p1.length := by rw [← List.length_map (f := toTk), he, List.length_append]
  have hy := segs_len h1
  have hp := List.length_pos_iff.2 h2
  unfold parseR
  rw [hl]
  dsimp only
  rw [he, show us.length = ((us.length - y.length - 1) + 1) + y.length by omega, pLoop_segs h1 _ _ _ _ (by decide), List.nil_append]
  obtain ⟨q, l', _, hr, hq⟩ := pLoop_rest (e := (s.size : Int)) (n := us.length - y.length - 1) hN1 h3 h2 y [] (by decide)
  rw [hq, seg_part hN1 h4 hr]
  rfl
end Go.Proofs.YtdedlchpjboceaaDoor.Qz
end
