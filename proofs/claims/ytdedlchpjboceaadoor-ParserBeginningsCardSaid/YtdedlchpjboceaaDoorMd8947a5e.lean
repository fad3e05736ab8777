/- Texts of proofs: plain words, and walks through the program's functions. -/
import Derived.DataShut
import Derived.Test.YtdedlchpjboceaaDoorM5ceef278
import Derived.Test.YtdedlchpjboceaaDoorM5717b290
import Derived.Test.YtdedlchpjboceaaDoorM60f89f74
import Derived.Test.YtdedlchpjboceaaDoorMc551c32a

section
namespace Go.Proofs.YtdedlchpjboceaaDoor.Qy
open Go.RowKit Go.Proofs.YtdedlchpjboceaaDoorW.PrintWords Go.Proofs.YtdedlchpjboceaaDoorW.PrintLast Go.Proofs.YtdedlchpjboceaaDoor.Lx Go.Proofs.YtdedlchpjboceaaDoor.Px Go.Proofs.YtdedlchpjboceaaDoor.Tx Go.Proofs.YtdedlchpjboceaaDoor.Qz Go.Proofs.YtdedlchpjboceaaDoor.PE
theorem u16_bdN {a : Int} (h : (Lit.int .u16 a).wf = true) : 0 ≤ a ∧ a ≤ 65535 := by
  have := (Lit.wf_int_iff .u16 a).1 h
  simpa [IntKind.min, IntKind.max, IntKind.signed, IntKind.bits] using this
theorem rd_tokN (l : List Tk) (j : Nat) (h : j < l.length) : rd_T45 (l.map Lr.toTok) (j : Int) = Lr.toTok l[j] := by
  unfold rd_T45
  rw [Int.toNat_natCast, List.getD_eq_getElem?_getD, List.getElem?_eq_getElem (by rw [List.length_map]; exact h), List.getElem_map]; rfl
theorem kind_semi {t : Tk} (h : TokG t) : semiB (toTk t) = decide (t.kind = 3) := by
  unfold semiB
  have hne : ∀ s : List UInt8, s ≠ [59] → (⟨s.toArray⟩ : ByteArray) ≠ semiT := by
    intro s hs e
    have := congrArg (fun b : ByteArray => b.data.toList) e
    simp [semiT] at this
    exact hs this
  rcases h with ⟨h1, ⟨_, c, a, h2, h3, _⟩, _⟩ | ⟨h1, h2, _⟩ | ⟨h1, h2, _⟩
  · rw [decide_eq_false (show ¬ t.kind = 3 by omega)]
    refine decide_eq_false (hne _ ?_)
    rw [h2]
    intro e
    injection e with e _
    rw [e] at h3
    exact absurd h3 (by decide)
  · rw [decide_eq_false (show ¬ t.kind = 3 by omega)]
    exact decide_eq_false (hne _ (by rw [h2]; simp))
  · rw [decide_eq_true h1]
    refine decide_eq_true ?_
    show (⟨t.t.toArray⟩ : ByteArray) = semiT
    rw [h2]; rfl
def cntB : List Tk → Nat
  | [] => 0
  | t :: l => (if t.kind = 3 then 1 else 0) + cntB l
theorem cnt_filter : ∀ {l : List Tk}, (∀ t ∈ l, TokG t) → ((l.map toTk).filter semiB).length = cntB l
  | [], _ => rfl
  | t :: l, h => by
    have ih := cnt_filter (l := l) (fun u hu => h u (List.mem_cons_of_mem _ hu))
    have hk := kind_semi (h t (by simp))
    rw [List.map_cons]
    show _ = (if t.kind = 3 then 1 else 0) + cntB l
    by_cases h3 : t.kind = 3
    · rw [decide_eq_true h3] at hk
      rw [List.filter_cons_of_pos hk, List.length_cons, ih, if_pos h3]; omega
    · rw [decide_eq_false h3] at hk
      rw [List.filter_cons_of_neg (by rw [hk]; decide), ih, if_neg h3]; omega
theorem cnt_take (l : List Tk) (j : Nat) (h : j < l.length) : cntB (l.drop j) = (if l[j].kind = 3 then 1 else 0) + cntB (l.drop (j + 1)) := by
  rw [List.drop_eq_getElem_cons h]; rfl
theorem cnt_le : ∀ l : List Tk, cntB l ≤ l.length
  | [] => Nat.le_refl _
  | t :: l => by
    have := cnt_le l
    show (if t.kind = 3 then 1 else 0) + cntB l ≤ l.length + 1
    split <;> omega
theorem begin_loop (x m : List Cmd) (us : List Tk) (hu : us.length ≤ 2000) (hx : x.length ≤ 300) (hm : m = x.take (cntB us)) (hc : cntB us ≤ x.length) (hv : ∀ c ∈ x, cB c = true) (d : Nat) : ∀ (j n : Nat), j ≤ us.length → us.length - j = d → n + cntB (us.drop j) = cntB us →
    Ev (fun k => slotmeshlaw02_ParserBeginnings.l0 k true (x.map ofCmd) (m.map ofCmd) [] (n : Int) (us.map Lr.toTok) (us.length : Int) (j : Int)) true := by
  induction d with
  | zero =>
    intro j n hj hd hn
    rw [List.drop_of_length_le (by omega)] at hn
    have hn' : n = cntB us := hn
    refine Ev.step (f := _) (fun k => by rw [slotmeshlaw02_ParserBeginnings.l0]) ?_
    refine evNeg (by omega) (evPos rfl (evPos rfl (evPos (by rw [List.length_map]; omega) (evPos (by omega) ?_))))
    rw [Int.toNat_natCast, ← List.map_take, hn', ← hm]
    obtain ⟨r, hr, hk⟩ := sameF (a := m) (b := m) (fun c hcm => by rw [hm] at hcm; exact cB_few (hv c (List.mem_of_mem_take hcm))) (by rw [hm, List.length_take]; omega)
    rw [hk.2 rfl] at hr
    exact Ev.bind hr (Ev.now _)
  | succ d ih =>
    intro j n hj hd hn
    have hlt : j < us.length := by omega
    have hcl := cnt_le us
    rw [cnt_take us j hlt] at hn
    have c1 : (j : Int) < (us.length : Int) := by omega
    have c2 : (0 : Int) ≤ (j : Int) := by omega
    have c3 : (j : Int) < ((us.map Lr.toTok).length : Int) := by rw [List.length_map]; exact c1
    have hw : wrap64 ((j : Int) + 1) = ((j + 1 : Nat) : Int) := by rw [w64 (by omega) (by omega)]; omega
    have hw2 : wrap64 ((n : Int) + 1) = ((n + 1 : Nat) : Int) := by rw [w64 (by omega) (by omega)]; omega
    refine Ev.step (f := _) (fun k => by rw [slotmeshlaw02_ParserBeginnings.l0]) ?_
    refine evPos c1 (evPos c2 (evPos c3 ?_))
    rw [rd_tokN us j hlt, hw, hw2]
    have hk : (Lr.toTok us[j]).f0 = us[j].kind := rfl
    rw [hk]
    by_cases h3 : us[j].kind = 3
    · rw [if_pos h3] at hn
      exact evPos h3 (ih (j + 1) (n + 1) (by omega) (by omega) (by omega))
    · rw [if_neg h3] at hn
      exact evNeg h3 (ih (j + 1) n (by omega) (by omega) (by omega))
theorem begin_j1 (a : ByteArray) (ts : List Tk) (x : List Cmd) (hl : Lx.lex a.data.toList = .ok ts) (hp : parseR a = (x, [])) (k0 : Nat) (hk : k0 < ts.length) (o L : Nat) (K : Int) (ho : ts[k0].o = o) (hK : ts[k0].kind = K) (e1 : o + L ≤ a.size)
    (e2 : Lx.lex (a.data.toList.take (o + L)) = .ok (ts.take (k0 + 1))) : Ev (fun k => slotmeshlaw02_ParserBeginnings.j1 k a true (ts.map Lr.toTok) (x.map ofCmd) (k0 : Int) (L : Int)) true := by
  have h8 : a.size ≤ 8000 := (Lr.lex_bound hl).1
  have h2 : ts.length ≤ 2000 := (Lr.lex_bound hl).2.2.2.2
  have q1 : (0 : Int) ≤ (k0 : Int) := Int.natCast_nonneg _
  have q2 : (k0 : Int) < ((ts.map Lr.toTok).length : Int) := by rw [List.length_map]; exact Int.ofNat_lt.2 hk
  have hw1 : wrap64 ((k0 : Int) + 1) = ((k0 + 1 : Nat) : Int) := by rw [w64 (by omega) (by omega)]; omega
  have hw2 : wrap64 ((o : Int) + (L : Int)) = ((o + L : Nat) : Int) := by rw [w64 (by omega) (by omega)]; omega
  have q4 : ((k0 + 1 : Nat) : Int) ≤ ((ts.map Lr.toTok).length : Int) := by rw [List.length_map]; exact Int.ofNat_le.2 hk
  have q5 : (0 : Int) ≤ ((o + L : Nat) : Int) := Int.natCast_nonneg _
  have q6 : ((o + L : Nat) : Int) ≤ (a.size : Int) := Int.ofNat_le.2 e1
  have htl : (ts.take (k0 + 1)).length ≤ 2000 := by rw [List.length_take]; exact Nat.le_trans (Nat.min_le_right _ _) h2
  have htl2 : (((ts.map Lr.toTok).take (k0 + 1)).length : Int) = (((ts.take (k0 + 1)).length : Nat) : Int) := by rw [← List.map_take, List.length_map]
  have hT := lex_tokG hl
  obtain ⟨_, x3, xv⟩ := parse_valid hp
  obtain ⟨ts', hl', hS, _⟩ := parse_clean hp
  have et : ts' = ts := by rw [hl] at hl'; injection hl' with h; exact h.symm
  subst et
  have g3 : (Lr.toTok ts'[k0]).f3 = (o : Int) := by show ((ts'[k0].o : Nat) : Int) = _; rw [ho]
  have g0 : (Lr.toTok ts'[k0]).f0 = K := hK
  have hsplit := segs_cut_semi hS k0 (by rw [List.length_map]; exact hk)
  have hmid := segs_cut_mid hS k0 (by rw [List.length_map]; exact hk)
  rw [List.getElem_map, kind_semi (hT _ (List.getElem_mem hk)), hK] at hsplit hmid
  have htk : (ts'.map toTk).take (k0 + 1) = (ts'.take (k0 + 1)).map toTk := by rw [List.map_take]
  rw [htk] at hsplit hmid
  have hTt : ∀ t ∈ ts'.take (k0 + 1), TokG t := fun t ht => hT t (List.mem_of_mem_take ht)
  rw [cnt_filter hTt] at hsplit
  refine Ev.step (f := _) (fun k => by rw [slotmeshlaw02_ParserBeginnings.j1]) ?_
  refine evPos q1 ?_
  refine evPos q2 ?_
  rw [rd_tokN ts' k0 hk, g3, g0, hw1, hw2]
  generalize hU : ts'.take (k0 + 1) = U at *
  refine evPos q5 ?_
  refine evPos q6 ?_
  refine evBind (parseF _) ?_
  simp only [Int.toNat_natCast]
  have hex : (a.extract 0 (o + L)).data.toList = a.data.toList.take (o + L) := Lr.extract_list a (o + L)
  generalize a.extract 0 (o + L) = s at hex
  have hls : Lx.lex s.data.toList = .ok U := by rw [hex]; exact e2
  clear hl hp hl' hS hT hTt htk e2 hex g3 g0 hw1 hw2
  by_cases h3 : K = 3
  · obtain ⟨c1, c2⟩ := hsplit (decide_eq_true h3)
    have hps := parse_of hls c2 (by rw [List.length_take]; exact Nat.le_trans (Nat.min_le_right _ _) x3)
    refine evPos h3 ?_
    refine evPos (Int.natCast_nonneg _) ?_
    refine evPos q4 ?_
    refine evBind rfl ?_
    rw [hps, htl2, ← List.map_take, hU]
    exact begin_loop x (x.take (cntB U)) U htl x3 rfl c1 xv _ 0 0 (Nat.zero_le _) rfl (by rw [List.drop_zero, Nat.zero_add])
  · obtain ⟨l1, p1, p2, s', y, c, e3, e4, e5, e6, e7⟩ := hmid (decide_eq_false h3)
    have hps := parse_part hls e3 e4 e5 e6 e7
    refine evNeg h3 (evPos trivial ?_)
    rw [hps]
    exact Ev.bind (diags_self [⟨7, (s.size : Int)⟩] (by simp)) (Ev.now _)
theorem ParserBeginnings_ev (a : ByteArray) (ct : Int) (_ : a.size ≤ 140737488351232) (hw : (Lit.int .u16 ct).wf = true) : Ev (fun k => slotmeshlaw02_ParserBeginnings.f k a ct) true := by
  have hb := u16_bdN hw
  unfold slotmeshlaw02_ParserBeginnings.f
  have skip : ∀ (l : List S45) (x : List S40), Ev (fun k => slotmeshlaw02_ParserBeginnings.j0 k a ct true l x true) true := fun l x =>
    Ev.step (f := _) (fun k => by rw [slotmeshlaw02_ParserBeginnings.j0]) (evPos rfl (Ev.now _))
  refine Ev.bind head2_ev (Ev.bind (Lr.ref_lex a) (evBind (parseF a) ?_))
  cases hl : Lx.lex a.data.toList with
  | error e => exact evNeg (lex_err_ne hl) (skip _ _)
  | ok ts =>
    refine evPos rfl ?_
    by_cases hd : (parseR a).2 = []
    · have hp : parseR a = ((parseR a).1, []) := by rw [← hd]
      rw [hd]
      refine evNeg (by simp) ?_
      have hlen : ((Lr.ans (.ok ts)).1.length : Int) = (ts.length : Int) := by
        show ((ts.map Lr.toTok).length : Int) = _
        rw [List.length_map]
      rw [hlen]
      by_cases h0 : ts.length = 0
      · rw [show ((ts.length : Int) == 0) = true by rw [h0]; rfl]; exact skip _ _
      · rw [show ((ts.length : Int) == 0) = false by rw [beq_eq_false_iff_ne]; omega]
        have h2 : ts.length ≤ 2000 := (Lr.lex_bound hl).2.2.2.2
        have e : Int.tmod (wrap64 ct) (ts.length : Int) = ct % (ts.length : Int) := by rw [w64 (by omega) (by omega), Int.tmod_eq_emod_of_nonneg hb.1]
        have g0 := Int.emod_nonneg ct (show (ts.length : Int) ≠ 0 by omega)
        have g1 := Int.emod_lt_of_pos ct (show (0 : Int) < (ts.length : Int) by omega)
        obtain ⟨i, hi⟩ : ∃ i : Nat, ct % (ts.length : Int) = (i : Int) := ⟨(ct % (ts.length : Int)).toNat, by omega⟩
        have hil : i < ts.length := by omega
        obtain ⟨e1, e2⟩ := lex_cut hl i hil
        have hfin := begin_j1 a ts _ hl hp i hil ts[i].o (textK ts[i]).length ts[i].kind rfl rfl e1 e2
        clear e1 e2
        have hT := lex_tokG hl _ (List.getElem_mem hil)
        refine Ev.step (f := _) (fun k => by rw [slotmeshlaw02_ParserBeginnings.j0]) ?_
        refine evNeg (by decide) ?_
        have hans : (Lr.ans (.ok ts)).1 = ts.map Lr.toTok := rfl
        have hml : ((ts.map Lr.toTok).length : Int) = (ts.length : Int) := by rw [List.length_map]
        rw [hans, hml, e, hi]
        have c0 : ¬ (ts.length : Int) = 0 := by omega
        have c1 : (0 : Int) ≤ (i : Int) := Int.natCast_nonneg _
        have c2 : (i : Int) < (ts.length : Int) := Int.ofNat_lt.2 hil
        refine evNeg c0 (evPos c1 (evPos c2 ?_))
        rw [rd_tokN ts i hil]
        have k0 : (Lr.toTok ts[i]).f0 = ts[i].kind := rfl
        rw [k0]
        by_cases h2k : ts[i].kind = 2
        · refine evPos h2k ?_
          have hn : 0 ≤ ts[i].n ∧ ts[i].n ≤ 1000000000 := by
            rcases hT with ⟨h, _⟩ | ⟨_, _, h, h'⟩ | ⟨h, _⟩
            · omega
            · exact ⟨h, h'⟩
            · omega
          have hit : strconv_Itoa.f (Lr.toTok ts[i]).f2 = some ⟨(Lib.itoa ts[i].n).toArray⟩ := by
            have : (Lr.toTok ts[i]).f2 = ts[i].n := rfl
            rw [this]
            unfold strconv_Itoa.f
            rw [if_pos (by omega)]
          refine evBind hit ?_
          have ht : textK ts[i] = Lib.itoa ts[i].n := by
            unfold textK
            rw [if_pos h2k]
            have := itoa_nat ts[i].n.toNat
            rw [show ((ts[i].n.toNat : Nat) : Int) = ts[i].n by omega] at this
            exact this.symm
          rw [ht] at hfin
          have hz : ((⟨(Lib.itoa ts[i].n).toArray⟩ : ByteArray).size : Int) = (((Lib.itoa ts[i].n).length : Nat) : Int) := by simp [ByteArray.size]
          rw [hz]
          exact hfin
        · refine evNeg h2k ?_
          have ht : textK ts[i] = ts[i].t := by unfold textK; rw [if_neg h2k]
          have hf1 : (Lr.toTok ts[i]).f1 = ⟨ts[i].t.toArray⟩ := rfl
          rw [ht] at hfin
          have hz : ((⟨ts[i].t.toArray⟩ : ByteArray).size : Int) = ((ts[i].t.length : Nat) : Int) := by simp [ByteArray.size]
          rw [hf1, hz]
          exact hfin
    · have hpos : (((parseR a).2.map ofDg).length : Int) > 0 := by
        have := List.length_pos_iff.2 hd
        rw [List.length_map]; omega
      exact evPos hpos (skip _ _)
end Go.Proofs.YtdedlchpjboceaaDoor.Qy
end
