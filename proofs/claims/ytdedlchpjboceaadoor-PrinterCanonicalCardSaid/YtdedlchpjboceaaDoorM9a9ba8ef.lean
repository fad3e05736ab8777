/- Texts of proofs: plain words, and walks through the program's functions. -/
import Derived.DataShut
import Derived.Test.YtdedlchpjboceaaDoorM33a2d938
import Derived.Test.YtdedlchpjboceaaDoorM51483b30
import Derived.Test.YtdedlchpjboceaaDoorMd20fd830
import Derived.Test.YtdedlchpjboceaaDoorM20bdcbe4
import Derived.Test.YtdedlchpjboceaaDoorMa05e79a1
import Derived.Test.YtdedlchpjboceaaDoorM35479347

section
namespace Go.Proofs.YtdedlchpjboceaaDoor.Qy
open Go.RowKit Go.Proofs.YtdedlchpjboceaaDoorW.PrintWords Go.Proofs.YtdedlchpjboceaaDoorW.PrintLast Go.Proofs.YtdedlchpjboceaaDoor.Lx Go.Proofs.YtdedlchpjboceaaDoor.Px Go.Proofs.YtdedlchpjboceaaDoor.Tx Go.Proofs.YtdedlchpjboceaaDoor.Qz Go.Proofs.YtdedlchpjboceaaDoor.PE
theorem u8_bd {a : Int} (h : (Lit.int .u8 a).wf = true) : 0 ≤ a ∧ a ≤ 255 := by
  have := (Lit.wf_int_iff .u8 a).1 h
  simpa [IntKind.min, IntKind.max, IntKind.signed, IntKind.bits] using this
theorem printC (x : List Cmd) : printer_Print.f (x.map ofCmd) = some (printR x) := by
  unfold printer_Print.f
  rw [List.map_map]
  exact congrArg (fun l => some (printR l)) (List.map_id x)
theorem decF_len : ∀ n u : Nat, (decF n u).length ≤ n
  | 0, _ => Nat.le_refl _
  | n + 1, u => by
    unfold decF
    have := decF_len n (u / 10)
    split
    · simp
    · rw [List.length_append]; simpa using this
/-- The text of a token. -/
theorem textT_ev {t : Tk} (h : TokG t) : Ev (fun n => slotmeshref01_Text.f n (Lr.toTok t).f0 (Lr.toTok t).f1 (Lr.toTok t).f2 (Lr.toTok t).f3) ⟨(textK t).toArray⟩ := by
  unfold slotmeshref01_Text.f textK
  rcases h with ⟨h1, h2, h3⟩ | ⟨h1, h2, h3, h4⟩ | ⟨h1, h2, h3⟩
  · rw [if_neg (by omega)]
    exact evNeg (by show ¬ t.kind = 2; omega) (Ev.now _)
  · rw [if_pos h1]
    refine evPos h1 ?_
    obtain ⟨d1, d2, d3, d4⟩ := dec_facts t.n.toNat
    have hv : ((val (Lib.decDigits t.n.toNat) : Nat) : Int) = t.n := by rw [d3]; omega
    have hf : (Lr.toTok t).f2 = t.n := rfl
    rw [hf]
    have hdig := Lr.digits_ev (Lib.decDigits t.n.toNat) d1 d2 ?_ ?_ (by rw [d3]; omega)
    · rw [hv] at hdig
      exact Ev.bind hdig (Ev.now _)
    · rintro ⟨g1, g2⟩
      by_cases hu : 1 ≤ t.n.toNat
      · exact d4 hu g2
      · have : t.n.toNat = 0 := by omega
        rw [this, Lib.decDigits_one (by decide)] at g1
        simp at g1
    · rw [decF_eq 10 t.n.toNat (by omega) (by decide)]
      exact Nat.le_trans (decF_len 10 _) (by decide)
  · rw [if_neg (by omega)]
    exact evNeg (by show ¬ t.kind = 2; omega) (Ev.now _)
def kindsC : List ByteArray := [(⟨#[32]⟩ : ByteArray), (⟨#[10]⟩ : ByteArray), (⟨#[9]⟩ : ByteArray), (⟨#[32, 35, 32, 120, 32, 59, 10]⟩ : ByteArray)]
theorem kindsC_gap : ∀ g ∈ kindsC, GapG g.data.toList := by
  intro g hg
  simp only [kindsC, List.mem_cons, List.mem_nil_iff, or_false] at hg
  rcases hg with rfl | rfl | rfl | rfl <;> exact gapG_of (by decide) (by decide) (by decide)
/-- The gap behind the j-th token. -/
def gapC (gs : List Int) (j : Nat) : ByteArray := if h : j < gs.length then kindsC.getD (Int.tmod (wrap64 gs[j]) 4).toNat ⟨#[32]⟩ else ⟨#[32]⟩
theorem gapC_mem (gs : List Int) (j : Nat) : gapC gs j ∈ kindsC := by
  have h32 : (⟨#[32]⟩ : ByteArray) ∈ kindsC := by unfold kindsC; simp
  unfold gapC
  split
  · rw [List.getD_eq_getElem?_getD]
    cases h : kindsC[(Int.tmod (wrap64 _) 4).toNat]? with
    | none => exact h32
    | some g => exact List.mem_of_getElem? h
  · exact h32
/-- The gaps from the j-th token on. -/
def gapsC (gs : List Int) : Nat → Nat → List (List UInt8)
  | 0, _ => []
  | n + 1, j => (gapC gs j).data.toList :: gapsC gs n (j + 1)
theorem gapsC_gap (gs : List Int) : ∀ (n j : Nat), ∀ g ∈ gapsC gs n j, GapG g
  | 0, _, g, hg => by cases hg
  | n + 1, j, g, hg => by
    rcases List.mem_cons.1 hg with rfl | hg
    · exact kindsC_gap _ (gapC_mem gs j)
    · exact gapsC_gap gs n (j + 1) g hg
theorem text_len {t : Tk} (h : TokG t) : (textK t).length ≤ 12 := by
  unfold textK
  rcases h with ⟨h1, h2, h3⟩ | ⟨h1, h2, h3, h4⟩ | ⟨h1, h2, h3⟩
  · rw [if_neg (by omega)]; exact h2.1
  · rw [if_pos h1, decF_eq 10 t.n.toNat (by omega) (by decide)]
    exact Nat.le_trans (decF_len 10 _) (by decide)
  · rw [if_neg (by omega), h2]; decide
theorem gap_len {g : ByteArray} (h : g ∈ kindsC) : g.size ≤ 7 := by
  simp only [kindsC, List.mem_cons, List.mem_nil_iff, or_false] at h
  rcases h with rfl | rfl | rfl | rfl <;> decide
theorem rdC (gs : List Int) (j : Nat) (h : j < gs.length) (hw : ∀ g ∈ gs, 0 ≤ g ∧ g ≤ 255) : 0 ≤ Int.tmod (wrap64 gs[j]) 4 ∧ Int.tmod (wrap64 gs[j]) 4 < 4 ∧ rdOf ByteArray.empty kindsC (Int.tmod (wrap64 gs[j]) 4) = gapC gs j := by
  have hg := hw gs[j] (List.getElem_mem h)
  have e : Int.tmod (wrap64 gs[j]) 4 = gs[j] % 4 := by rw [w64 (by omega) (by omega), Int.tmod_eq_emod_of_nonneg hg.1]
  have h0 := Int.emod_nonneg gs[j] (show (4 : Int) ≠ 0 by decide)
  have h1 := Int.emod_lt_of_pos gs[j] (show (0 : Int) < 4 by decide)
  refine ⟨by omega, by omega, ?_⟩
  unfold gapC
  rw [dif_pos h, e]
  unfold rdOf
  have : ∀ n : Nat, n < 4 → kindsC.getD n ByteArray.empty = kindsC.getD n ⟨#[32]⟩ := by
    intro n hn
    rcases (by omega : n = 0 ∨ n = 1 ∨ n = 2 ∨ n = 3) with rfl | rfl | rfl | rfl <;> rfl
  exact this _ (by omega)
theorem canon_loop (gs : List Int) (hw : ∀ g ∈ gs, 0 ≤ g ∧ g ≤ 255) (x : List S40) (ts : List Tk) (hT : ∀ t ∈ ts, TokG t) (hl : ts.length ≤ 2000) (R : Bool)
    (hR : ∀ s : ByteArray, s.data.toList = gapped2 ts (gapsC gs ts.length 0) → s.size ≤ 1000000 → Ev (fun k => slotmeshlaw03_PrinterCanonical.l0 k gs true x kindsC s (ts.map Lr.toTok) (ts.length : Int) (ts.length : Int)) R) (d : Nat) :
    ∀ (j : Nat) (s : ByteArray), j ≤ ts.length → ts.length - j = d → s.data.toList ++ gapped2 (ts.drop j) (gapsC gs (ts.length - j) j) = gapped2 ts (gapsC gs ts.length 0) → s.size ≤ j * 19 →
    Ev (fun k => slotmeshlaw03_PrinterCanonical.l0 k gs true x kindsC s (ts.map Lr.toTok) (ts.length : Int) (j : Int)) R := by
  induction d with
  | zero =>
    intro j s hj hd hs hz
    obtain rfl : j = ts.length := by omega
    refine hR s ?_ (by omega)
    rw [List.drop_of_length_le (Nat.le_refl _)] at hs
    rw [← hs]
    show _ = s.data.toList ++ flat []
    simp [flat]
  | succ d ih =>
    intro j s hj hd hs hz
    have hlt : j < ts.length := by omega
    have hml : j < (ts.map Lr.toTok).length := by rw [List.length_map]; exact hlt
    have htG := hT ts[j] (List.getElem_mem hlt)
    have hgm := gapC_mem gs j
    have hgl := gap_len hgm
    have htl := text_len htG
    have hw1 : wrap64 ((j : Int) + 1) = ((j + 1 : Nat) : Int) := by rw [w64 (by omega) (by omega)]; omega
    have hrd : rd_T45 (ts.map Lr.toTok) (j : Int) = Lr.toTok ts[j] := by
      unfold rd_T45
      rw [Int.toNat_natCast, List.getD_eq_getElem?_getD, List.getElem?_eq_getElem hml, List.getElem_map]; rfl
    have htz : (⟨(textK ts[j]).toArray⟩ : ByteArray).size = (textK ts[j]).length := by simp [ByteArray.size]
    have hnext := ih (j + 1) (s ++ ((⟨(textK ts[j]).toArray⟩ : ByteArray) ++ gapC gs j)) (by omega) (by omega) (by
      rw [← hs, List.drop_eq_getElem_cons hlt, show ts.length - j = (ts.length - (j + 1)) + 1 by omega]
      show _ = s.data.toList ++ gapped2 (ts[j] :: ts.drop (j + 1)) ((gapC gs j).data.toList :: gapsC gs (ts.length - (j + 1)) (j + 1))
      rw [gapped2_cons, wdOf_txt htG]
      simp [ByteArray.data_append]) (by rw [ByteArray.size_append, ByteArray.size_append, htz]; omega)
    refine Ev.step (f := _) (fun k => by rw [slotmeshlaw03_PrinterCanonical.l0]) ?_
    refine evPos (by omega) (evPos (by omega) (evPos (by rw [List.length_map]; omega) ?_))
    rw [hrd, hw1]
    by_cases hg : (j : Int) < (gs.length : Int)
    · refine evPos hg (evNeg (by decide) (Ev.bind (textT_ev htG) ?_))
      have hgj : j < gs.length := by omega
      obtain ⟨r1, r2, r3⟩ := rdC gs j hgj hw
      have e4 : ((kindsC.length : Nat) : Int) = 4 := rfl
      rw [rd_int gs j hgj, e4, r3]
      exact evPos r1 (evPos r2 (evPos (by rw [htz]; omega) (evPos (by rw [ByteArray.size_append, htz]; omega) hnext)))
    · refine evNeg hg (Ev.bind (textT_ev htG) ?_)
      have e5 : rdOf ByteArray.empty kindsC 0 = gapC gs j := by unfold gapC; rw [dif_neg (by omega)]; rfl
      rw [e5]
      exact evPos (by decide) (evPos (by rw [htz]; omega) (evPos (by rw [ByteArray.size_append, htz]; omega) hnext))
theorem canon_j2 {x : List Cmd} (hx : validB x = true) : Ev (fun k => slotmeshlaw03_PrinterCanonical.j2 k true (printR x).1 (printR x).2) true := by
  refine Ev.step (f := _) (fun k => by rw [slotmeshlaw03_PrinterCanonical.j2]) ?_
  by_cases h0 : (printR x).2 = 0
  · refine evPos h0 ?_
    have e1 : printR x = ((printR x).1, 0) := by rw [← h0]
    have hp := (parse_print e1).2.2.2.2.2
    have hq : printR (locs x 0) = printR x := print_congr (locs_strip x 0)
    refine evBind (parseF_of hp) (evBind (printC _) (evPos rfl (evPos rfl ?_)))
    rw [hq]
    refine evPos h0 (evEq (Ev.now _) ?_)
    simp
  · refine evNeg h0 (evPos rfl (evEq (Ev.now _) ?_))
    rcases print_cases x with ⟨h, _⟩ | ⟨_, _, _, e, _⟩ | ⟨_, _, e⟩
    · rw [hx] at h; cases h
    · rw [e] at h0; exact absurd rfl h0
    · rw [e]; rfl
theorem PrinterCanonical_ev (a : ByteArray) (gs : List Int) (_ : a.size ≤ 140737488351232) (hw0 : ∀ g ∈ gs, (Lit.int .u8 g).wf = true) (_ : gs.length * 1 ≤ 140737488351232) : Ev (fun k => slotmeshlaw03_PrinterCanonical.f k a gs) true := by
  have hw : ∀ g ∈ gs, 0 ≤ g ∧ g ≤ 255 := fun g hg => u8_bd (hw0 g hg)
  unfold slotmeshlaw03_PrinterCanonical.f
  have skip : ∀ (l : List S45) (x : List S40), Ev (fun k => slotmeshlaw03_PrinterCanonical.j0 k gs true l x true) true := fun l x =>
    Ev.step (f := _) (fun k => by rw [slotmeshlaw03_PrinterCanonical.j0]) (evPos rfl (Ev.now _))
  refine evBind head3 (Ev.bind (Lr.ref_lex a) (evBind (parseF a) ?_))
  cases hl : Lx.lex a.data.toList with
  | error e =>
    refine evNeg ?_ (skip _ _)
    show ¬ e.1 = 0
    intro he
    by_cases h8 : 8000 < a.data.toList.length
    · have : e = (2, 0) := by unfold Lx.lex at hl; rw [if_pos h8] at hl; injection hl with hl; exact hl.symm
      rw [this] at he; cases he
    · obtain ⟨_, _, _, _, _, _, _, _, _, _, _, _, _, hp, _⟩ := Lr.lex_error_inv (by omega) hl
      have := (Lr.err_pos hp).1
      omega
  | ok ts =>
    refine evPos rfl ?_
    by_cases hd : (parseR a).2 = []
    · have hpe : parseR a = ((parseR a).1, []) := by rw [← hd]
      obtain ⟨hv, _, _⟩ := parse_valid hpe
      rw [hd]
      have hb := Lr.lex_bound hl
      have hT := lex_tokG hl
      refine Ev.step (f := _) (fun k => by rw [slotmeshlaw03_PrinterCanonical.j0]) (evNeg (by simp) ?_)
      have hlen : (((Lr.ans (.ok ts)).1.length : Nat) : Int) = (ts.length : Int) := by
        show (((ts.map Lr.toTok).length : Nat) : Int) = _
        rw [List.length_map]
      rw [hlen]
      refine canon_loop gs hw _ ts hT hb.2.2.2.2 true ?_ ts.length 0 ⟨#[]⟩ (Nat.zero_le _) rfl (by rw [List.drop_zero]; rfl) (by decide)
      intro s hs hz
      refine Ev.step (f := _) (fun k => by rw [slotmeshlaw03_PrinterCanonical.l0]) (evNeg (by omega) (evBind (printC _) ?_))
      by_cases h8 : (s.size : Int) ≤ 8000
      · refine evPos h8 ?_
        have hP := gaps_parse hl (gapsC_gap gs ts.length 0) (by rw [← hs]; show s.size ≤ 8000; omega) hs
        have hd2 : (parseR s).2 = [] := by
          have := hP.2
          rw [hd] at this
          simpa using this.symm
        have hq : printR (parseR s).1 = printR (parseR a).1 := print_congr hP.1.symm
        refine evBind (parseF s) (evBind (printC _) ?_)
        rw [hd2, hq]
        exact evNeg (by simp) (evPos rfl (evPos rfl (canon_j2 hv)))
      · exact evNeg h8 (canon_j2 hv)
    · have : decide ((((parseR a).2.map ofDg).length : Int) > 0) = true := by
        have := List.length_pos_iff.2 hd
        rw [decide_eq_true_eq, List.length_map]; omega
      rw [this]; exact skip _ _
end Go.Proofs.YtdedlchpjboceaaDoor.Qy
end
