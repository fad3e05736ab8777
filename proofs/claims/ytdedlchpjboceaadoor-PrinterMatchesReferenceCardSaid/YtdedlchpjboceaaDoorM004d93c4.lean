/- Texts of proofs: plain words, and walks through the program's functions. -/
import Derived.Test.YtdedlchpjboceaaDoorM70826ff6
import Derived.Test.YtdedlchpjboceaaDoorM5f03328b
import Derived.Test.YtdedlchpjboceaaDoorMc7425658

section
namespace Go.Proofs.YtdedlchpjboceaaDoor.Qy
open Go.RowKit Go.Proofs.YtdedlchpjboceaaDoorW.PrintWords Go.Proofs.YtdedlchpjboceaaDoorW.PrintLast Go.Proofs.YtdedlchpjboceaaDoor.Lx Go.Proofs.YtdedlchpjboceaaDoor.Px Go.Proofs.YtdedlchpjboceaaDoor.Tx Go.Proofs.YtdedlchpjboceaaDoor.Qz Go.Proofs.YtdedlchpjboceaaDoor.PE
theorem ba_extM {a b : ByteArray} (h : a.data.toList = b.data.toList) : a = b := by
  obtain ⟨⟨l⟩⟩ := a
  obtain ⟨⟨m⟩⟩ := b
  simp at h
  rw [h]
theorem mk_sizeM (l : List UInt8) : (⟨l.toArray⟩ : ByteArray).size = l.length := by simp [ByteArray.size]
theorem cat_dataM (s t : ByteArray) : (s ++ t).data.toList = s.data.toList ++ t.data.toList := by simp [ByteArray.data_append]
theorem dig_str (d : Nat) (h : d < 10) : strOfNums [(wrap64 (48 + (d : Int))) % 256] = (⟨#[UInt8.ofNat (48 + d)]⟩ : ByteArray) := by
  unfold strOfNums
  have : ((wrap64 (48 + (d : Int))) % 256).toNat = 48 + d := by rw [w64 (by omega) (by omega)]; omega
  simp [this]
theorem decF_lenM : ∀ n u : Nat, (decF n u).length ≤ n
  | 0, _ => Nat.le_refl _
  | n + 1, u => by
    unfold decF
    have := decF_lenM n (u / 10)
    split
    · simp
    · rw [List.length_append]; simpa using this
theorem dec_lenM {u : Nat} (h : u ≤ 1000000000) : (Lib.decDigits u).length ≤ 10 := by
  rw [decF_eq 10 u (by omega) (by decide)]
  exact decF_lenM 10 u
theorem number_ev (u : Nat) : u ≤ 1000000000 → Ev (fun k => slotmeshref03_number.f k (u : Int)) ⟨(Lib.decDigits u).toArray⟩ := by
  induction u using Nat.strongRecOn with
  | _ u ih =>
    intro hu
    refine Ev.step (f := _) (fun k => by rw [slotmeshref03_number.f]) ?_
    by_cases h : u < 10
    · refine evPos (by omega) (evEq (Ev.now _) ?_)
      rw [dig_str u h, Lib.decDigits_one h]
    · refine evNeg (by omega) ?_
      have e1 : wrap64 (Int.tdiv (u : Int) 10) = ((u / 10 : Nat) : Int) := by rw [Int.tdiv_eq_ediv_of_nonneg (by omega), w64 (by omega) (by omega)]; omega
      have e2 : Int.tmod (u : Int) 10 = ((u % 10 : Nat) : Int) := by rw [Int.tmod_eq_emod_of_nonneg (by omega)]; omega
      rw [e1, e2]
      refine Ev.bind (ih (u / 10) (by omega) (by omega)) (evBind rfl ?_)
      have hd := dig_str (u % 10) (by omega)
      have hl := dec_lenM (u := u / 10) (by omega)
      rw [hd]
      refine evPos (by rw [mk_sizeM]; show _ + 1 ≤ _; omega) (evEq (Ev.now _) ?_)
      apply ba_extM
      rw [cat_dataM]
      conv => rhs; rw [Lib.decDigits, dif_neg h]
theorem drift_ev {n : Int} (h : -1000000000 ≤ n ∧ n ≤ 1000000000) : Ev (fun k => slotmeshref03_drift.f k n) ⟨((if n < 0 then slowW else fastW) ++ Lib.decDigits (absI n).toNat).toArray⟩ := by
  unfold slotmeshref03_drift.f
  by_cases hn : n < 0
  · obtain ⟨u, hu⟩ : ∃ u : Nat, -n = (u : Int) := ⟨(-n).toNat, by omega⟩
    have ha : (absI n).toNat = u := by unfold absI; omega
    have hl := dec_lenM (u := u) (by omega)
    refine evPos hn ?_
    rw [w64 (x := -n) (by omega) (by omega), hu, if_pos hn, ha]
    refine Ev.bind (number_ev u (by omega)) (evPos (by rw [mk_sizeM]; omega) (evEq (Ev.now _) ?_))
    apply ba_extM; rw [cat_dataM]; simp [slowW]
  · obtain ⟨u, hu⟩ : ∃ u : Nat, n = (u : Int) := ⟨n.toNat, by omega⟩
    have ha : (absI n).toNat = u := by unfold absI; omega
    have hl := dec_lenM (u := u) (by omega)
    refine evNeg hn ?_
    rw [if_neg hn, ha, hu]
    refine Ev.bind (number_ev u (by omega)) (evPos (by rw [mk_sizeM]; omega) (evEq (Ev.now _) ?_))
    apply ba_extM; rw [cat_dataM]; simp [fastW]
def numA (n : Int) : ByteArray := ⟨(Lib.decDigits (mx 0 n).toNat).toArray⟩
theorem numA_size {n : Int} (h : -1000000000 ≤ n ∧ n ≤ 1000000000) : (numA n).size ≤ 10 := by
  unfold numA
  rw [mk_sizeM]
  refine dec_lenM ?_
  unfold mx; split <;> omega
theorem numA_pos {n : Int} (h : 0 ≤ n) : (numA n).data.toList = Lib.decDigits (absI n).toNat := by
  have : (mx 0 n).toNat = (absI n).toNat := by unfold mx absI; split <;> omega
  unfold numA
  rw [this]
theorem numA_ev {n : Int} (h : -1000000000 ≤ n ∧ n ≤ 1000000000) : Ev (fun k => slotmeshref03_number.f k (mx 0 n)) (numA n) := by
  obtain ⟨u, hu⟩ : ∃ u : Nat, mx 0 n = (u : Int) := ⟨(mx 0 n).toNat, by unfold mx; split <;> omega⟩
  have hb : u ≤ 1000000000 := by unfold mx at hu; split at hu <;> omega
  unfold numA
  rw [hu]
  exact number_ev u hb
theorem line_loop (kd : Int) (nm : ByteArray) (ns : List Int) (a : Int) (hl : ns.length ≤ 1000) (hb : ∀ n ∈ ns, -1000000000 ≤ n ∧ n ≤ 1000000000) (R : ByteArray)
    (hR : Ev (fun k => slotmeshref03_Line.l0 k (ns.map numA) (ns.length : Int) kd nm ns a) R) (d : Nat) : ∀ j : Nat, j ≤ ns.length → ns.length - j = d →
    Ev (fun k => slotmeshref03_Line.l0 k ((ns.take j).map numA) (j : Int) kd nm ns a) R := by
  induction d with
  | zero =>
    intro j hj hd
    obtain rfl : j = ns.length := by omega
    rw [List.take_of_length_le (Nat.le_refl _)]
    exact hR
  | succ d ih =>
    intro j hj hd
    have hlt : j < ns.length := by omega
    have hih := ih (j + 1) (by omega) (by omega)
    have hw : wrap64 ((j : Int) + 1) = ((j + 1 : Nat) : Int) := by rw [w64 (by omega) (by omega)]; omega
    rw [List.take_succ_eq_append_getElem hlt, List.map_append] at hih
    refine Ev.step (f := _) (fun k => by rw [slotmeshref03_Line.l0]) ?_
    refine evPos (by omega) (evPos (by omega) ?_)
    rw [rd_int ns j hlt, hw]
    exact Ev.bind (numA_ev (hb _ (List.getElem_mem _))) (evPos (by rw [List.length_map, List.length_take]; omega) hih)
set_option maxHeartbeats 4000000 in
theorem line_ev {c : Cmd} (h : cB c = true) : Ev (fun k => slotmeshref03_Line.f k c.f0 c.f1 c.f2 c.f3) ⟨(lineT c ++ [59]).toArray⟩ := by
  obtain ⟨h1, h2, h3, h4, h5⟩ := valid_kind h
  obtain ⟨_, _, g3⟩ := cmdB_parts h
  obtain ⟨k, nm, ns, at_⟩ := c
  simp only at h1 h2 h3 h4 h5 g3 ⊢
  unfold slotmeshref03_Line.f
  have hnl : ns.length ≤ 1000 := by
    have : (shp k).2 ≤ 6 := by rcases kinds h1 h2 with rfl | rfl | rfl | rfl | rfl | rfl | rfl | rfl | rfl | rfl | rfl <;> decide
    omega
  have hns : nm.size ≤ 12 := by rw [← list_size]; exact h4
  refine line_loop k nm ns at_ hnl h5 _ ?_ ns.length 0 (Nat.zero_le _) rfl
  refine Ev.step (f := _) (fun k => by rw [slotmeshref03_Line.l0]) ?_
  refine evNeg (by omega) ?_
  clear h hnl h4
  have nb : ∀ {i : Nat} {n : Int}, numB k i n = true → ¬ (k = 3 ∧ i = 2) → 0 ≤ n := by
    intro i n hn hk
    unfold numB at hn
    rw [decide_eq_true_eq] at hn
    omega
  rcases kinds h1 h2 with rfl | rfl | rfl | rfl | rfl | rfl | rfl | rfl | rfl | rfl | rfl
  · obtain ⟨a, b, rfl⟩ := len2 h3
    simp only [numsB, Bool.and_eq_true] at g3
    have ea := numA_pos (nb g3.1 (by decide))
    have sa := numA_size (h5 a (by simp))
    have eb := numA_pos (nb g3.2.1 (by decide))
    have sb := numA_size (h5 b (by simp))
    simp only [List.map_cons, List.map_nil]
    generalize numA a = A at *
    generalize numA b = B at *
    have r0 : rdOf ByteArray.empty [A, B] 0 = A := rfl
    have r1 : rdOf ByteArray.empty [A, B] 1 = B := rfl
    rw [r0, r1]
    refine evPos trivial ?_
    repeat' (refine evPos ?_ ?_; · first | (simp; done) | ((try simp only [ByteArray.size_append, mk_sizeM, List.length_cons, List.length_nil]); omega))
    refine evEq (Ev.now _) ?_
    apply ba_extM
    simp [ea, eb, lineT, formB, formsL, rend, itoa_dec]
  · obtain ⟨a, b, rfl⟩ := len2 h3
    simp only [numsB, Bool.and_eq_true] at g3
    have ea := numA_pos (nb g3.1 (by decide))
    have sa := numA_size (h5 a (by simp))
    have eb := numA_pos (nb g3.2.1 (by decide))
    have sb := numA_size (h5 b (by simp))
    simp only [List.map_cons, List.map_nil]
    generalize numA a = A at *
    generalize numA b = B at *
    have r0 : rdOf ByteArray.empty [A, B] 0 = A := rfl
    have r1 : rdOf ByteArray.empty [A, B] 1 = B := rfl
    rw [r0, r1]
    refine evNeg (by decide) ?_
    refine evPos trivial ?_
    repeat' (refine evPos ?_ ?_; · first | (simp; done) | ((try simp only [ByteArray.size_append, mk_sizeM, List.length_cons, List.length_nil]); omega))
    refine evEq (Ev.now _) ?_
    apply ba_extM
    simp [ea, eb, lineT, formB, formsL, rend, itoa_dec]
  · obtain ⟨a, b, c, d, rfl⟩ := len4 h3
    simp only [numsB, Bool.and_eq_true] at g3
    have ea := numA_pos (nb g3.1 (by decide))
    have sa := numA_size (h5 a (by simp))
    have eb := numA_pos (nb g3.2.1 (by decide))
    have sb := numA_size (h5 b (by simp))
    have dc := drift_ev (h5 c (by simp))
    have sc := numA_size (h5 c (by simp))
    have ed := numA_pos (nb g3.2.2.2.1 (by decide))
    have sd := numA_size (h5 d (by simp))
    simp only [List.map_cons, List.map_nil]
    generalize numA a = A at *
    generalize numA b = B at *
    generalize numA c = C at *
    generalize numA d = D at *
    have r0 : rdOf ByteArray.empty [A, B, C, D] 0 = A := rfl
    have r1 : rdOf ByteArray.empty [A, B, C, D] 1 = B := rfl
    have r2 : rdOf ByteArray.empty [A, B, C, D] 2 = C := rfl
    have r3 : rdOf ByteArray.empty [A, B, C, D] 3 = D := rfl
    rw [r0, r1, r3]
    refine evNeg (by decide) ?_
    refine evNeg (by decide) ?_
    refine evPos trivial ?_
    have hdl := dec_lenM (absI_toNat (h5 c (by simp)).1 (h5 c (by simp)).2)
    have rc : rd [a, b, c, d] 2 = c := rfl
    rw [rc]
    have hds : (⟨((if c < 0 then slowW else fastW) ++ Lib.decDigits (absI c).toNat).toArray⟩ : ByteArray).size ≤ 20 := by
      rw [mk_sizeM, List.length_append]; split <;> simp [slowW, fastW] <;> omega
    have hdd : (⟨((if c < 0 then slowW else fastW) ++ Lib.decDigits (absI c).toNat).toArray⟩ : ByteArray).data.toList = (if c < 0 then slowW else fastW) ++ Lib.decDigits (absI c).toNat := by simp
    generalize (⟨((if c < 0 then slowW else fastW) ++ Lib.decDigits (absI c).toNat).toArray⟩ : ByteArray) = D at *
    repeat' (refine evPos ?_ ?_; · first | (simp; done) | ((try simp only [ByteArray.size_append, mk_sizeM, List.length_cons, List.length_nil]); omega))
    refine Ev.bind dc ?_
    repeat' (refine evPos ?_ ?_; · first | (simp; done) | ((try simp only [ByteArray.size_append, mk_sizeM, List.length_cons, List.length_nil]); omega))
    refine evEq (Ev.now _) ?_
    apply ba_extM
    by_cases hc : c < 0 <;> simp [ea, eb, ed, hdd, hc, lineT, formB, formsL, rend, itoa_dec]
  · obtain ⟨a, b, c, rfl⟩ := len3 h3
    simp only [numsB, Bool.and_eq_true] at g3
    have ea := numA_pos (nb g3.1 (by decide))
    have sa := numA_size (h5 a (by simp))
    have eb := numA_pos (nb g3.2.1 (by decide))
    have sb := numA_size (h5 b (by simp))
    have ec := numA_pos (nb g3.2.2.1 (by decide))
    have sc := numA_size (h5 c (by simp))
    simp only [List.map_cons, List.map_nil]
    generalize numA a = A at *
    generalize numA b = B at *
    generalize numA c = C at *
    have r0 : rdOf ByteArray.empty [A, B, C] 0 = A := rfl
    have r1 : rdOf ByteArray.empty [A, B, C] 1 = B := rfl
    have r2 : rdOf ByteArray.empty [A, B, C] 2 = C := rfl
    rw [r0, r1, r2]
    refine evNeg (by decide) ?_
    refine evNeg (by decide) ?_
    refine evNeg (by decide) ?_
    refine evPos trivial ?_
    repeat' (refine evPos ?_ ?_; · first | (simp; done) | ((try simp only [ByteArray.size_append, mk_sizeM, List.length_cons, List.length_nil]); omega))
    refine evEq (Ev.now _) ?_
    apply ba_extM
    simp [ea, eb, ec, lineT, formB, formsL, rend, itoa_dec]
  · obtain ⟨a, rfl⟩ := len1 h3
    simp only [numsB, Bool.and_eq_true] at g3
    have ea := numA_pos (nb g3.1 (by decide))
    have sa := numA_size (h5 a (by simp))
    simp only [List.map_cons, List.map_nil]
    generalize numA a = A at *
    have r0 : rdOf ByteArray.empty [A] 0 = A := rfl
    rw [r0]
    refine evNeg (by decide) ?_
    refine evNeg (by decide) ?_
    refine evNeg (by decide) ?_
    refine evNeg (by decide) ?_
    refine evPos trivial ?_
    repeat' (refine evPos ?_ ?_; · first | (simp; done) | ((try simp only [ByteArray.size_append, mk_sizeM, List.length_cons, List.length_nil]); omega))
    refine evEq (Ev.now _) ?_
    apply ba_extM
    simp [ea, lineT, formB, formsL, rend, itoa_dec]
  · obtain ⟨a, rfl⟩ := len1 h3
    simp only [numsB, Bool.and_eq_true] at g3
    have ea := numA_pos (nb g3.1 (by decide))
    have sa := numA_size (h5 a (by simp))
    simp only [List.map_cons, List.map_nil]
    generalize numA a = A at *
    have r0 : rdOf ByteArray.empty [A] 0 = A := rfl
    rw [r0]
    refine evNeg (by decide) ?_
    refine evNeg (by decide) ?_
    refine evNeg (by decide) ?_
    refine evNeg (by decide) ?_
    refine evNeg (by decide) ?_
    refine evPos trivial ?_
    repeat' (refine evPos ?_ ?_; · first | (simp; done) | ((try simp only [ByteArray.size_append, mk_sizeM, List.length_cons, List.length_nil]); omega))
    refine evEq (Ev.now _) ?_
    apply ba_extM
    simp [ea, lineT, formB, formsL, rend, itoa_dec]
  · obtain ⟨a, b, rfl⟩ := len2 h3
    simp only [numsB, Bool.and_eq_true] at g3
    have ea := numA_pos (nb g3.1 (by decide))
    have sa := numA_size (h5 a (by simp))
    have eb := numA_pos (nb g3.2.1 (by decide))
    have sb := numA_size (h5 b (by simp))
    simp only [List.map_cons, List.map_nil]
    generalize numA a = A at *
    generalize numA b = B at *
    have r0 : rdOf ByteArray.empty [A, B] 0 = A := rfl
    have r1 : rdOf ByteArray.empty [A, B] 1 = B := rfl
    rw [r0, r1]
    refine evNeg (by decide) ?_
    refine evNeg (by decide) ?_
    refine evNeg (by decide) ?_
    refine evNeg (by decide) ?_
    refine evNeg (by decide) ?_
    refine evNeg (by decide) ?_
    refine evPos trivial ?_
    repeat' (refine evPos ?_ ?_; · first | (simp; done) | ((try simp only [ByteArray.size_append, mk_sizeM, List.length_cons, List.length_nil]); omega))
    refine evEq (Ev.now _) ?_
    apply ba_extM
    simp [ea, eb, lineT, formB, formsL, rend, itoa_dec]
  · obtain ⟨a, b, c, d, e, f, rfl⟩ := len6 h3
    simp only [numsB, Bool.and_eq_true] at g3
    have ea := numA_pos (nb g3.1 (by decide))
    have sa := numA_size (h5 a (by simp))
    have eb := numA_pos (nb g3.2.1 (by decide))
    have sb := numA_size (h5 b (by simp))
    have ec := numA_pos (nb g3.2.2.1 (by decide))
    have sc := numA_size (h5 c (by simp))
    have ed := numA_pos (nb g3.2.2.2.1 (by decide))
    have sd := numA_size (h5 d (by simp))
    have ee := numA_pos (nb g3.2.2.2.2.1 (by decide))
    have se := numA_size (h5 e (by simp))
    have ef := numA_pos (nb g3.2.2.2.2.2.1 (by decide))
    have sf := numA_size (h5 f (by simp))
    simp only [List.map_cons, List.map_nil]
    generalize numA a = A at *
    generalize numA b = B at *
    generalize numA c = C at *
    generalize numA d = D at *
    generalize numA e = E at *
    generalize numA f = F at *
    have r0 : rdOf ByteArray.empty [A, B, C, D, E, F] 0 = A := rfl
    have r1 : rdOf ByteArray.empty [A, B, C, D, E, F] 1 = B := rfl
    have r2 : rdOf ByteArray.empty [A, B, C, D, E, F] 2 = C := rfl
    have r3 : rdOf ByteArray.empty [A, B, C, D, E, F] 3 = D := rfl
    have r4 : rdOf ByteArray.empty [A, B, C, D, E, F] 4 = E := rfl
    have r5 : rdOf ByteArray.empty [A, B, C, D, E, F] 5 = F := rfl
    rw [r0, r1, r2, r3, r4, r5]
    refine evNeg (by decide) ?_
    refine evNeg (by decide) ?_
    refine evNeg (by decide) ?_
    refine evNeg (by decide) ?_
    refine evNeg (by decide) ?_
    refine evNeg (by decide) ?_
    refine evNeg (by decide) ?_
    refine evPos trivial ?_
    repeat' (refine evPos ?_ ?_; · first | (simp; done) | ((try simp only [ByteArray.size_append, mk_sizeM, List.length_cons, List.length_nil]); omega))
    refine evEq (Ev.now _) ?_
    apply ba_extM
    simp [ea, eb, ec, ed, ee, ef, lineT, formB, formsL, rend, itoa_dec]
  · obtain ⟨a, b, c, d, rfl⟩ := len4 h3
    simp only [numsB, Bool.and_eq_true] at g3
    have ea := numA_pos (nb g3.1 (by decide))
    have sa := numA_size (h5 a (by simp))
    have eb := numA_pos (nb g3.2.1 (by decide))
    have sb := numA_size (h5 b (by simp))
    have ec := numA_pos (nb g3.2.2.1 (by decide))
    have sc := numA_size (h5 c (by simp))
    have ed := numA_pos (nb g3.2.2.2.1 (by decide))
    have sd := numA_size (h5 d (by simp))
    simp only [List.map_cons, List.map_nil]
    generalize numA a = A at *
    generalize numA b = B at *
    generalize numA c = C at *
    generalize numA d = D at *
    have r0 : rdOf ByteArray.empty [A, B, C, D] 0 = A := rfl
    have r1 : rdOf ByteArray.empty [A, B, C, D] 1 = B := rfl
    have r2 : rdOf ByteArray.empty [A, B, C, D] 2 = C := rfl
    have r3 : rdOf ByteArray.empty [A, B, C, D] 3 = D := rfl
    rw [r0, r1, r2, r3]
    refine evNeg (by decide) ?_
    refine evNeg (by decide) ?_
    refine evNeg (by decide) ?_
    refine evNeg (by decide) ?_
    refine evNeg (by decide) ?_
    refine evNeg (by decide) ?_
    refine evNeg (by decide) ?_
    refine evNeg (by decide) ?_
    refine evPos trivial ?_
    repeat' (refine evPos ?_ ?_; · first | (simp; done) | ((try simp only [ByteArray.size_append, mk_sizeM, List.length_cons, List.length_nil]); omega))
    refine evEq (Ev.now _) ?_
    apply ba_extM
    simp [ea, eb, ec, ed, lineT, formB, formsL, rend, itoa_dec]
  · obtain ⟨a, b, c, rfl⟩ := len3 h3
    simp only [numsB, Bool.and_eq_true] at g3
    have ea := numA_pos (nb g3.1 (by decide))
    have sa := numA_size (h5 a (by simp))
    have eb := numA_pos (nb g3.2.1 (by decide))
    have sb := numA_size (h5 b (by simp))
    have ec := numA_pos (nb g3.2.2.1 (by decide))
    have sc := numA_size (h5 c (by simp))
    simp only [List.map_cons, List.map_nil]
    generalize numA a = A at *
    generalize numA b = B at *
    generalize numA c = C at *
    have r0 : rdOf ByteArray.empty [A, B, C] 0 = A := rfl
    have r1 : rdOf ByteArray.empty [A, B, C] 1 = B := rfl
    have r2 : rdOf ByteArray.empty [A, B, C] 2 = C := rfl
    rw [r0, r1, r2]
    refine evNeg (by decide) ?_
    refine evNeg (by decide) ?_
    refine evNeg (by decide) ?_
    refine evNeg (by decide) ?_
    refine evNeg (by decide) ?_
    refine evNeg (by decide) ?_
    refine evNeg (by decide) ?_
    refine evNeg (by decide) ?_
    refine evNeg (by decide) ?_
    refine evPos trivial ?_
    repeat' (refine evPos ?_ ?_; · first | (simp; done) | ((try simp only [ByteArray.size_append, mk_sizeM, List.length_cons, List.length_nil]); omega))
    refine evEq (Ev.now _) ?_
    apply ba_extM
    simp [ea, eb, ec, lineT, formB, formsL, rend, itoa_dec]
  · obtain ⟨a, rfl⟩ := len1 h3
    simp only [numsB, Bool.and_eq_true] at g3
    have ea := numA_pos (nb g3.1 (by decide))
    have sa := numA_size (h5 a (by simp))
    simp only [List.map_cons, List.map_nil]
    generalize numA a = A at *
    have r0 : rdOf ByteArray.empty [A] 0 = A := rfl
    rw [r0]
    refine evNeg (by decide) ?_
    refine evNeg (by decide) ?_
    refine evNeg (by decide) ?_
    refine evNeg (by decide) ?_
    refine evNeg (by decide) ?_
    refine evNeg (by decide) ?_
    refine evNeg (by decide) ?_
    refine evNeg (by decide) ?_
    refine evNeg (by decide) ?_
    refine evNeg (by decide) ?_
    repeat' (refine evPos ?_ ?_; · first | (simp; done) | ((try simp only [ByteArray.size_append, mk_sizeM, List.length_cons, List.length_nil]); omega))
    refine evEq (Ev.now _) ?_
    apply ba_extM
    simp [ea, lineT, formB, formsL, rend, itoa_dec]
def blk : List UInt8 → Nat
  | [] => 0
  | c :: l => (if c = 32 then 1 else 0) + blk l
theorem blk_append : ∀ a b : List UInt8, blk (a ++ b) = blk a + blk b
  | [], b => by simp [blk]
  | c :: a, b => by
    show (if c = 32 then 1 else 0) + blk (a ++ b) = (if c = 32 then 1 else 0) + blk a + blk b
    rw [blk_append a b]; omega
theorem blk_none : ∀ {a : List UInt8}, (∀ c ∈ a, c ≠ 32) → blk a = 0
  | [], _ => rfl
  | c :: a, h => by
    show (if c = 32 then 1 else 0) + blk a = 0
    rw [if_neg (h c (by simp)), blk_none (fun d hd => h d (List.mem_cons_of_mem _ hd))]
theorem blk_le : ∀ a : List UInt8, blk a ≤ a.length
  | [] => Nat.le_refl _
  | c :: a => by
    have := blk_le a
    show (if c = 32 then 1 else 0) + blk a ≤ a.length + 1
    split <;> omega
theorem bt_natM {s : ByteArray} {k : Nat} (h : k < s.size) : bt s (k : Int) = (s[k].toNat : Int) := (bt_at s k (by simpa using h)).symm
theorem tokens_loop (s : ByteArray) (hs : s.size ≤ 1000000) (d : Nat) : ∀ j n : Nat, j ≤ s.size → s.size - j = d → n ≤ j + 2 → Ev (fun k => slotmeshref03_Tokens.l0 k s (n : Int) (j : Int)) ((n + blk (s.data.toList.drop j) : Nat) : Int) := by
  induction d with
  | zero =>
    intro j n hj hd _
    refine Ev.step (f := _) (fun k => by rw [slotmeshref03_Tokens.l0]) (evNeg (by omega) ?_)
    rw [List.drop_of_length_le (by rw [list_size]; omega)]
    exact Ev.now _
  | succ d ih =>
    intro j n hj hd hn
    have hlt : j < s.size := by omega
    have hw : wrap64 ((j : Int) + 1) = ((j + 1 : Nat) : Int) := by rw [w64 (by omega) (by omega)]; omega
    have hw2 : wrap64 ((n : Int) + 1) = ((n + 1 : Nat) : Int) := by rw [w64 (by omega) (by omega)]; omega
    refine Ev.step (f := _) (fun k => by rw [slotmeshref03_Tokens.l0]) ?_
    refine evPos (by omega) (evPos (by omega) ?_)
    rw [bt_natM hlt, hw, hw2, drop_at s j hlt]
    show Ev _ ((n + ((if s[j] = 32 then 1 else 0) + blk (s.data.toList.drop (j + 1))) : Nat) : Int)
    by_cases h : (s[j].toNat : Int) = 32
    · have h' : s[j] = 32 := UInt8.toNat_inj.1 (by change s[j].toNat = 32; omega)
      refine evPos h (evEq (ih (j + 1) (n + 1) (by omega) (by omega) (by omega)) ?_)
      rw [if_pos h']; congr 1; omega
    · have h' : ¬ s[j] = 32 := fun e => h (by rw [e]; rfl)
      refine evNeg h (evEq (ih (j + 1) n (by omega) (by omega) (by omega)) ?_)
      rw [if_neg h']; congr 1; omega
theorem name_nb {t : List UInt8} (h : nameW t) : ∀ b ∈ t, b ≠ 32 := by
  obtain ⟨_, c, a, rfl, h3, h4⟩ := h
  intro b hb e
  subst e
  rcases List.mem_cons.1 hb with e | hb
  · subst e; exact absurd h3 (by decide)
  · have := h4 32 hb; exact absurd this (by decide)
theorem wd_nb {x : Wd} (h : x.ok) : ∀ b ∈ x.txt, b ≠ 32 := by
  cases x with
  | nm t => exact name_nb h
  | num u =>
    intro b hb e
    have := (dec_facts u).2.1 b hb
    subst e
    exact absurd this (by decide)
  | semi => intro b hb e; subst e; exact absurd hb (by decide)
theorem gapped_blk : ∀ (ws : List Wd), (∀ x ∈ ws, x.ok) → ws ≠ [] → 2 + blk (flat (gapped ws)) = (gapped ws).length
  | [], _, h => absurd rfl h
  | [x], h, _ => by
    have h1 := blk_none (wd_nb (h x (by simp)))
    show 2 + blk (flat [(x, []), (.semi, [10])]) = 2
    rw [flat_cons, flat_cons, blk_append, h1]; rfl
  | x :: y :: r, h, _ => by
    have ih := gapped_blk (y :: r) (fun z hz => h z (List.mem_cons_of_mem _ hz)) (by simp)
    have h1 := blk_none (wd_nb (h x (by simp)))
    show 2 + blk (flat ((x, [32]) :: gapped (y :: r))) = (gapped (y :: r)).length + 1
    rw [flat_cons, blk_append, blk_append, h1, ← ih]
    show 2 + (0 + (1 + _)) = _
    omega
theorem wds_ne {c : Cmd} (h : cB c = true) : cWds c ≠ [] := by
  obtain ⟨h1, h2, _⟩ := valid_kind h
  obtain ⟨k, nm, ns, a⟩ := c
  simp only at h1 h2
  clear h
  rcases kinds h1 h2 with rfl | rfl | rfl | rfl | rfl | rfl | rfl | rfl | rfl | rfl | rfl <;> (unfold cWds; simp [formW, formsW, wds])
theorem line_tokens {c : Cmd} (h : cB c = true) : 2 + blk (lineT c ++ [59]) = (cPs c).length := by
  have h1 := gapped_blk (cWds c) (cWds_ok h) (wds_ne h)
  have h2 := line_flat h
  unfold cPs at h2 ⊢
  rw [← h2, show lineT c ++ [59, 10] = (lineT c ++ [59]) ++ [10] by simp, blk_append] at h1
  rw [← h1]; rfl
theorem printB_snocM (l : List Cmd) (c : Cmd) : printB (l ++ [c]) = printB l ++ (lineT c ++ [59, 10]) := by simp [printB]
theorem lPs_snoc (l : List Cmd) (c : Cmd) : lPs (l ++ [c]) = lPs l ++ cPs c := by unfold lPs; simp
theorem rprint_loop (l : List S40) (hl : l.length ≤ 300) (hv : ∀ x ∈ l, cB (cS x) = true) (hc : ∀ x ∈ l, (cPs (cS x)).length ≤ 1200) (d : Nat) : ∀ j : Nat, j ≤ l.length → l.length - j = d →
    Ev (fun k => slotmeshref03_Print.l0 k l ⟨(printB ((l.take j).map cS)).toArray⟩ (((lPs ((l.take j).map cS)).length : Nat) : Int) (j : Int)) (if 8000 < (printB (l.map cS)).length ∨ 2000 < (lPs (l.map cS)).length then (⟨#[]⟩, 2) else (⟨(printB (l.map cS)).toArray⟩, 0)) := by
  have hbig : ∀ j ≤ l.length, (printB ((l.take j).map cS)).length ≤ 330000 ∧ (lPs ((l.take j).map cS)).length ≤ 360000 := by
    intro j hj
    constructor
    · have := printB_len ((l.take j).map cS) (fun c hcm => by obtain ⟨x, hx, rfl⟩ := List.mem_map.1 hcm; exact hv x (List.mem_of_mem_take hx))
      rw [List.length_map, List.length_take] at this
      omega
    · have : ∀ m : List S40, (∀ x ∈ m, (cPs (cS x)).length ≤ 1200) → (lPs (m.map cS)).length ≤ m.length * 1200 := by
        intro m
        induction m with
        | nil => intro _; exact Nat.zero_le _
        | cons x m ih =>
          intro h
          have h1 := ih (fun y hy => h y (List.mem_cons_of_mem _ hy))
          have h2 := h x (by simp)
          rw [List.map_cons, lPs_cons, List.length_append, List.length_cons]
          omega
      have h2 := this (l.take j) (fun x hx => hc x (List.mem_of_mem_take hx))
      rw [List.length_take] at h2
      omega
  induction d with
  | zero =>
    intro j hj hd
    obtain rfl : j = l.length := by omega
    rw [List.take_of_length_le (Nat.le_refl _)]
    refine Ev.step (f := _) (fun k => by rw [slotmeshref03_Print.l0]) (evNeg (by omega) ?_)
    rw [mk_sizeM]
    generalize (printB (l.map cS)).length = p
    generalize (lPs (l.map cS)).length = q
    by_cases h1 : 8000 < p
    · refine evPos (by omega) (evEq (Ev.now _) ?_)
      rw [if_pos (Or.inl h1)]
    · refine evNeg (by omega) ?_
      by_cases h2 : 2000 < q
      · refine evPos (by omega) (evEq (Ev.now _) ?_)
        rw [if_pos (Or.inr h2)]
      · refine evNeg (by omega) (evEq (Ev.now _) ?_)
        rw [if_neg (by omega)]
  | succ d ih =>
    intro j hj hd
    have hlt : j < l.length := by omega
    have hih := ih (j + 1) (by omega) (by omega)
    obtain ⟨b1, b2⟩ := hbig j hj
    have hcv := hv l[j] (List.getElem_mem _)
    have hcn := hc l[j] (List.getElem_mem _)
    have hlb : (lineT (cS l[j])).length ≤ 1080 := by
      have := printB_len [cS l[j]] (fun d hd => by obtain rfl := List.mem_singleton.1 hd; exact hcv)
      simp [printB] at this; omega
    have htk := line_tokens hcv
    have hw : wrap64 ((j : Int) + 1) = ((j + 1 : Nat) : Int) := by rw [w64 (by omega) (by omega)]; omega
    rw [List.take_succ_eq_append_getElem hlt, List.map_append, List.map_cons, List.map_nil, printB_snocM, lPs_snoc, List.length_append] at hih
    have hz : (⟨(lineT (cS l[j]) ++ [59]).toArray⟩ : ByteArray).size = (lineT (cS l[j])).length + 1 := by rw [mk_sizeM, List.length_append]; rfl
    have h10 : (⟨#[10]⟩ : ByteArray).size = 1 := rfl
    have hpz : (⟨(printB ((l.take j).map cS)).toArray⟩ : ByteArray).size = (printB ((l.take j).map cS)).length := mk_sizeM _
    have htok := tokens_loop (⟨(lineT (cS l[j]) ++ [59]).toArray⟩ : ByteArray) (by rw [hz]; omega) _ 0 2 (Nat.zero_le _) rfl (by omega)
    have hdb : ∀ q : List UInt8, (⟨q.toArray⟩ : ByteArray).data.toList = q := fun q => by simp
    rw [List.drop_zero, hdb, htk] at htok
    have e1 : (⟨(printB ((l.take j).map cS)).toArray⟩ : ByteArray) ++ ((⟨(lineT (cS l[j]) ++ [59]).toArray⟩ : ByteArray) ++ (⟨#[10]⟩ : ByteArray)) = ⟨(printB ((l.take j).map cS) ++ (lineT (cS l[j]) ++ [59, 10])).toArray⟩ := by
      apply ba_extM; simp
    refine Ev.step (f := _) (fun k => by rw [slotmeshref03_Print.l0]) ?_
    refine evPos (by omega) (evPos (by omega) ?_)
    rw [rd_at l j hlt, hw]
    refine Ev.bind (line_ev hcv) ?_
    refine evPos (by rw [hz]; omega) ?_
    refine evPos (by rw [ByteArray.size_append, hz, h10, hpz]; omega) ?_
    refine Ev.bind htok ?_
    generalize (lPs ((l.take j).map cS)).length = q at b2 hih
    generalize (cPs (cS l[j])).length = r at hcn hih
    have hw3 : wrap64 ((q : Int) + (r : Int)) = ((q + r : Nat) : Int) := by rw [w64 (by omega) (by omega)]; omega
    rw [hw3, e1]
    exact hih
theorem rprint_ev (l : List S40) (hb : ∀ x ∈ l, x.f2.length ≤ 1000000 ∧ x.f1.size ≤ 1000000) (hl : l.length ≤ 1000000) (hc : ∀ c : Cmd, cB c = true → (cPs c).length ≤ 1200) : Ev (fun k => slotmeshref03_Print.f k l) (printR (l.map cS)) := by
  unfold slotmeshref03_Print.f
  refine Ev.bind (valid_ev l hb hl) ?_
  cases hv : validB (l.map cS) with
  | false =>
    refine evNeg (by decide) (evEq (Ev.now _) ?_)
    unfold printR; rw [if_neg (by rw [hv]; decide)]
  | true =>
    obtain ⟨v1, v2⟩ := validB_mem hv
    rw [List.length_map] at v1
    refine evPos rfl ?_
    have hx := rprint_loop l v1 (fun x hx => v2 _ (List.mem_map.2 ⟨x, hx, rfl⟩)) (fun x hx => hc _ (v2 _ (List.mem_map.2 ⟨x, hx, rfl⟩))) l.length 0 (Nat.zero_le _) rfl
    refine evEq hx ?_
    rcases print_cases (l.map cS) with ⟨h, _⟩ | ⟨_, h8, h2, e, _⟩ | ⟨_, hn, e⟩
    · rw [hv] at h; cases h
    · rw [e, if_neg (by omega)]
    · rw [e, if_pos (by omega)]
theorem cPs_le {c : Cmd} (h : cB c = true) : (cPs c).length ≤ 1200 := by
  have h1 := line_tokens h
  have h2 := blk_le (lineT c ++ [59])
  have h3 := printB_len [c] (fun d hd => by obtain rfl := List.mem_singleton.1 hd; exact h)
  simp [printB] at h3
  rw [List.length_append] at h2
  simp at h2
  omega
theorem PrinterMatchesReference_ev (l : List S40) (hl : l.length ≤ 9223372036854775807) : Ev (fun k => slotmeshlaw03_PrinterMatchesReference.f k l) true := by
  unfold slotmeshlaw03_PrinterMatchesReference.f
  refine evBind head3 (Ev.bind (few_ev l hl) ?_)
  by_cases hf : fewB l = true
  · refine evPos hf (evBind (print_f l) ?_)
    obtain ⟨f1, f2⟩ := few_some hf
    refine Ev.bind (rprint_ev l (fun x hx => ⟨by have := (f2 x hx).1; omega, by have := (f2 x hx).2; omega⟩) (by omega) (fun c hc => cPs_le hc)) ?_
    have e : l.map cS = l.map toCmd := rfl
    rw [e]
    refine evPos rfl (evPos rfl (evEq (Ev.now _) ?_))
    simp
  · exact evNeg hf (Ev.now _)
end Go.Proofs.YtdedlchpjboceaaDoor.Qy
end
