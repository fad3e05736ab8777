/-
  The texts of the tokens are at their offsets, with gaps between them: the pure statement of the law LexerOffsets.
-/
import Derived.Test.YtiidalhcmlhnmaaDoorLxD
namespace Go.Proofs.YtiidalhcmlhnmaaDoor.Pure
open Go.RowKit Go.Proofs.YtiidalhcmlhnmaaDoor.PA Go.Proofs.YtiidalhcmlhnmaaDoorW.PrintWords Go.Proofs.YtiidalhcmlhnmaaDoorW.PrintLast Go.Proofs.YtiidalhcmlhnmaaDoor.Lx Go.Proofs.YtiidalhcmlhnmaaDoor.LR

theorem ext_mid (s : ByteArray) (a : Nat) (p q : List UInt8) (h : s.data.toList.drop a = p ++ q) : (s.extract a (a + p.length)).data.toList = p := by
  rw [ext_list]
  show (s.data.toList.drop a).take (a + p.length - a) = p
  rw [h, Nat.add_sub_cancel_left, List.take_left]
theorem ext_tail (s : ByteArray) (a : Nat) : (s.extract a s.size).data.toList = s.data.toList.drop a := by
  rw [ext_list]
  show (s.data.toList.drop a).take (s.size - a) = _
  exact List.take_of_length_le (by rw [List.length_drop, list_size]; exact Nat.le_refl _)
theorem drop_le (s : ByteArray) (a : Nat) (p q : List UInt8) (h : s.data.toList.drop a = p ++ q) (ha : a ≤ s.size) : a + p.length ≤ s.size ∧ s.data.toList.drop (a + p.length) = q := by
  constructor
  · have := congrArg List.length h
    rw [List.length_drop, list_size, List.length_append] at this
    omega
  · rw [← List.drop_drop, h, List.drop_left]
theorem wsucc {j n : Nat} (h : j < n) (hn : n ≤ 8000) : wrap64 ((j : Int) + 1) = ((j + 1 : Nat) : Int) := by rw [w64 (by omega) (by omega)]; omega
theorem wadd {a b c : Nat} (h : a + b = c) (hn : c ≤ 8000) : wrap64 ((a : Int) + (b : Int)) = (c : Int) := by rw [w64 (by omega) (by omega)]; omega
theorem off_loop (s : ByteArray) (hs : s.size ≤ 8000) (ts : List Tk) (hts : ts.length ≤ 2000) (d : Nat) : ∀ j at_ : Nat, j ≤ ts.length → ts.length - j = d → at_ ≤ s.size →
    (∀ x ∈ spans (s.data.toList.drop at_) at_, goodB x) → toks (spans (s.data.toList.drop at_) at_) = ts.drop j →
    Ev (fun k => slotmeshlaw01_LexerOffsets.l0 k s true (ts.map toTok) (at_ : Int) (j : Int)) true := by
  induction d with
  | zero =>
    intro j at_ hj hd hat hg ht
    have hj' : ts.drop j = [] := List.drop_of_length_le (by omega)
    rw [hj'] at ht
    refine Ev.step (f := _) (fun k => by rw [slotmeshlaw01_LexerOffsets.l0]) ?_
    refine evNeg (by rw [List.length_map]; omega) (evPos (by omega) (evPos (by omega) ?_))
    rw [Int.toNat_natCast]
    refine Ev.bind (gaps_ev (s.extract at_ s.size) (by rw [ByteArray.size_extract]; omega) true at_ (by rw [ext_tail]; exact good_gaps hg ht) (fun h => by cases h)) (evPos rfl (Ev.now _))
  | succ d ih =>
    intro j at_ hj hd hat hg ht
    have hlt : j < ts.length := by omega
    rw [List.drop_eq_getElem_cons hlt] at ht
    obtain ⟨p, x, b, hq, hx0, hgap, hlast, hto, ⟨kk, htok, hdig⟩, hr, hgr⟩ := next_tok hg ht
    obtain ⟨l1, hq2⟩ := drop_le s at_ p (x ++ b) hq hat
    obtain ⟨l2, hq3⟩ := drop_le s (at_ + p.length) x b hq2 l1
    have hxl : 0 < x.length := List.length_pos_iff.2 hx0
    have hE : (s.extract at_ (at_ + p.length)).data.toList = p := ext_mid s at_ p _ hq
    have hX : (s.extract (at_ + p.length) (at_ + p.length + x.length)).data.toList = x := ext_mid s _ x b hq2
    have htext := text_ev htok hx0 hdig (Nat.le_trans (Nat.le_trans (Nat.le_add_left _ _) l2) (Nat.le_trans hs (by decide)))
    have hnext := ih (j + 1) (at_ + p.length + x.length) (by omega) (by omega) l2 (by rw [hq3]; exact hgr) (by rw [hq3]; exact hr)
    generalize hA : at_ + p.length = A at *
    generalize hB : A + x.length = B at *
    have hgev := gaps_ev (s.extract at_ A) (by rw [ByteArray.size_extract]; omega) false at_ (by rw [hE]; exact hgap) (fun _ => by rw [hE]; exact hlast)
    have f3 : (toTok ts[j]).f3 = (A : Int) := by show ((ts[j].o : Nat) : Int) = _; rw [hto]
    have hsz : ((⟨x.toArray⟩ : ByteArray).size : Int) = (x.length : Int) := rfl
    have hw : wrap64 ((A : Int) + (x.length : Int)) = (B : Int) := wadd hB (Nat.le_trans l2 hs)
    have hj1 : wrap64 ((j : Int) + 1) = ((j + 1 : Nat) : Int) := wsucc hlt (Nat.le_trans hts (by decide))
    have b1 : (at_ : Int) ≤ (A : Int) := Int.ofNat_le.2 (hA ▸ Nat.le_add_right _ _)
    have b2 : (A : Int) ≤ (B : Int) := Int.ofNat_le.2 (hB ▸ Nat.le_add_right _ _)
    have b3 : (B : Int) ≤ (s.size : Int) := Int.ofNat_le.2 l2
    have b4 : (A : Int) ≤ (s.size : Int) := Int.ofNat_le.2 l1
    refine Ev.step (f := _) (fun k => by rw [slotmeshlaw01_LexerOffsets.l0]) ?_
    refine evPos (by rw [List.length_map]; exact Int.ofNat_lt.2 hlt) (evPos (Int.natCast_nonneg _) ?_)
    rw [rd_at _ j (by rw [List.length_map]; exact hlt), List.getElem_map]
    refine Ev.bind htext ?_
    rw [f3, hsz, hw, hj1]
    refine evNeg (by rw [ByteArray.toList_eq]; simpa using hx0) (evNeg (Int.not_lt.2 b1) (evNeg (Int.not_lt.2 b3) (evPos (Int.natCast_nonneg _) (evPos b2 (evPos b3 ?_)))))
    rw [Int.toNat_natCast, Int.toNat_natCast, Int.toNat_natCast]
    refine evPos (by rw [ByteArray.toList_eq, ByteArray.toList_eq, hX]) (evPos (Int.natCast_nonneg _) (evPos b1 (evPos b4 ?_)))
    exact Ev.bind hgev (evPos rfl hnext)

theorem LexerOffsets : slotmeshlaw01_LexerOffsets.Pure := by
  intro s hs
  refine Ev.rounds ?_
  unfold slotmeshlaw01_LexerOffsets.f
  refine Ev.bind head_ev ?_
  by_cases h1 : (s.size : Int) > 10000
  · exact evPos h1 (Ev.now _)
  · refine evNeg h1 (evBind (lexer_f s) ?_)
    cases e1 : lex s.data.toList with
    | error e =>
      by_cases h0 : e.1 = 0
      · exfalso
        by_cases hl : s.data.toList.length ≤ 8000
        · obtain ⟨_, _, _, _, _, _, _, _, _, _, _, _, _, hp, _⟩ := lex_error_inv hl e1
          have := (err_pos hp).1
          omega
        · unfold lex at e1
          rw [if_pos (Nat.lt_of_not_le hl)] at e1
          injection e1 with e1; subst e1; cases h0
      · refine evNeg h0 (evPos rfl (evNow rfl))
    | ok ts =>
      refine evPos rfl ?_
      obtain ⟨hl, e, hg, _, hc⟩ := lex_bound e1
      exact off_loop s hl ts hc _ 0 0 (Nat.zero_le _) rfl (Nat.zero_le _) (by rw [List.drop_zero]; exact hg) (by rw [List.drop_zero, List.drop_zero, e])

end Go.Proofs.YtiidalhcmlhnmaaDoor.Pure
