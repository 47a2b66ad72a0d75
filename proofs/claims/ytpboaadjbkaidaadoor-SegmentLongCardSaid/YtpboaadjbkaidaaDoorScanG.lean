
/-
  The scanner: a set outside brackets.
-/
import Derived.Test.YtpboaadjbkaidaaDoorScanF
namespace Go.Proofs.YtpboaadjbkaidaaDoor
set_option maxRecDepth 100000
open Go.RowKit

def outF (s : ByteArray) (i : Nat) : SR :=
  if bt s i = 46 then ⟨notP noP, 0, false, i + 1, false⟩
  else if bt s i = 92 then escF s i
  else if bt s i = 91 then bracketsF s i
  else if wrB (bt s i) = true ∧ inOut (bt s i) = false then ⟨oneP (bt s i), bt s i, true, i + 1, false⟩
  else badR i

set_option maxRecDepth 100000 in
set_option maxHeartbeats 4000000 in
theorem outside_any (w : World) (R : Nat) (s : ByteArray) (i : Nat) (h : ScIn w R s i false) (hi : i < s.size) (hs : s.size ≤ 2147483648) :
    Calls Tryd.prog 121 #[.pointer (some ⟨R, 0, none⟩)] w fun e w' => e = .returned (.agg (setC (outF s i).p).toArray) ∧ ScIn w' R s (outF s i).j (outF s i).bad ∧ Only R w w' := by
  have hR := h.lt
  have hRG1 : R ≠ w.heap.size := by omega
  have hRG2 : R ≠ w.heap.size + 1 := by omega
  have HS0 : Hid (ScIn (w.alloc (.cells #[.int .u8 0, .int .u8 0, .int .u8 0, .int .u8 0, .int .u8 0, .int .u8 0, .int .u8 0, .int .u8 0, .int .u8 0, .int .u8 0, .int .u8 0, .int .u8 0, .int .u8 0, .int .u8 0, .int .u8 0, .int .u8 0, .int .u8 0, .int .u8 0, .int .u8 0, .int .u8 0, .int .u8 0, .int .u8 0, .int .u8 0, .int .u8 0, .int .u8 0, .int .u8 0, .int .u8 0, .int .u8 0, .int .u8 0, .int .u8 0, .int .u8 0, .int .u8 0] 138)) R s i false) := h.below ((Below.refl _ w).alloc (Nat.le_refl _) (.cells #[.int .u8 0, .int .u8 0, .int .u8 0, .int .u8 0, .int .u8 0, .int .u8 0, .int .u8 0, .int .u8 0, .int .u8 0, .int .u8 0, .int .u8 0, .int .u8 0, .int .u8 0, .int .u8 0, .int .u8 0, .int .u8 0, .int .u8 0, .int .u8 0, .int .u8 0, .int .u8 0, .int .u8 0, .int .u8 0, .int .u8 0, .int .u8 0, .int .u8 0, .int .u8 0, .int .u8 0, .int .u8 0, .int .u8 0, .int .u8 0, .int .u8 0, .int .u8 0] 138))
  have HA0 : Hid (SetIn (w.alloc (.cells #[.int .u8 0, .int .u8 0, .int .u8 0, .int .u8 0, .int .u8 0, .int .u8 0, .int .u8 0, .int .u8 0, .int .u8 0, .int .u8 0, .int .u8 0, .int .u8 0, .int .u8 0, .int .u8 0, .int .u8 0, .int .u8 0, .int .u8 0, .int .u8 0, .int .u8 0, .int .u8 0, .int .u8 0, .int .u8 0, .int .u8 0, .int .u8 0, .int .u8 0, .int .u8 0, .int .u8 0, .int .u8 0, .int .u8 0, .int .u8 0, .int .u8 0, .int .u8 0] 138)) w.heap.size 138 noP) := zero_in w 138
  have HO0 := Lib.hid ((Only.refl R w).alloc (.cells #[.int .u8 0, .int .u8 0, .int .u8 0, .int .u8 0, .int .u8 0, .int .u8 0, .int .u8 0, .int .u8 0, .int .u8 0, .int .u8 0, .int .u8 0, .int .u8 0, .int .u8 0, .int .u8 0, .int .u8 0, .int .u8 0, .int .u8 0, .int .u8 0, .int .u8 0, .int .u8 0, .int .u8 0, .int .u8 0, .int .u8 0, .int .u8 0, .int .u8 0, .int .u8 0, .int .u8 0, .int .u8 0, .int .u8 0, .int .u8 0, .int .u8 0, .int .u8 0] 138))
  have HN0 : Hid ((w.alloc (.cells #[.int .u8 0, .int .u8 0, .int .u8 0, .int .u8 0, .int .u8 0, .int .u8 0, .int .u8 0, .int .u8 0, .int .u8 0, .int .u8 0, .int .u8 0, .int .u8 0, .int .u8 0, .int .u8 0, .int .u8 0, .int .u8 0, .int .u8 0, .int .u8 0, .int .u8 0, .int .u8 0, .int .u8 0, .int .u8 0, .int .u8 0, .int .u8 0, .int .u8 0, .int .u8 0, .int .u8 0, .int .u8 0, .int .u8 0, .int .u8 0, .int .u8 0, .int .u8 0] 138)).heap.size = w.heap.size + 1) := by show _ = _; simp
  clear h
  obtain ⟨c, HC⟩ : ∃ c, Hid (c = bt s i) := ⟨_, rfl⟩
  have hc2 : c < 256 := by rw [HC.out]; exact bt_lt s i
  generalize hfin : outF s i = fin
  have HF0 : Hid (fin = outF s i) := hfin.symm
  clear hfin
  go_enter Tryd.func121, Tryd.ntmps121
  go_upto_region 1 with fail
  generalize w.alloc (.cells #[.int .u8 0, .int .u8 0, .int .u8 0, .int .u8 0, .int .u8 0, .int .u8 0, .int .u8 0, .int .u8 0, .int .u8 0, .int .u8 0, .int .u8 0, .int .u8 0, .int .u8 0, .int .u8 0, .int .u8 0, .int .u8 0, .int .u8 0, .int .u8 0, .int .u8 0, .int .u8 0, .int .u8 0, .int .u8 0, .int .u8 0, .int .u8 0, .int .u8 0, .int .u8 0, .int .u8 0, .int .u8 0, .int .u8 0, .int .u8 0, .int .u8 0, .int .u8 0] 138) = w1 at HS0 HA0 HO0 HN0
  have q0 := HS0.out.c0
  have q1 := HS0.out.c1
  have hi' : (i : Int) < (s.size : Int) := by omega
  go_wp2_with fail
  go_quiet (fail)
  rw [show s[i].toNat = c by rw [HC.out, bt_get s i hi]]
  have HS1 : Hid (ScIn (w1.drewN nq) R s i false) := HS0.out
  have HA1 : Hid (SetIn (w1.drewN nq) w.heap.size 138 noP) := HA0.out
  have HO1 : Hid (Only R w (w1.drewN nq)) := HO0.out.drewN nq
  have HN1 : Hid ((w1.drewN nq).heap.size = w.heap.size + 1) := HN0.out
  clear q0 q1 HS0 HA0 HO0 HN0
  generalize w1.drewN nq = wb at HS1 HA1 HO1 HN1 ⊢
  go_upto_region 3 with fail
  rw [HN1.out]
  have HS2 := Lib.hid (HS1.out.below ((Below.refl _ wb).alloc (Nat.le_refl _) (.cells #[.int .u8 0, .int .u8 0, .int .u8 0, .int .u8 0, .int .u8 0, .int .u8 0, .int .u8 0, .int .u8 0, .int .u8 0, .int .u8 0, .int .u8 0, .int .u8 0, .int .u8 0, .int .u8 0, .int .u8 0, .int .u8 0, .int .u8 0, .int .u8 0, .int .u8 0, .int .u8 0, .int .u8 0, .int .u8 0, .int .u8 0, .int .u8 0, .int .u8 0, .int .u8 0, .int .u8 0, .int .u8 0, .int .u8 0, .int .u8 0, .int .u8 0, .int .u8 0] 138)))
  have HA2 := Lib.hid (HA1.out.below ((Below.refl _ wb).alloc (Nat.le_refl _) (.cells #[.int .u8 0, .int .u8 0, .int .u8 0, .int .u8 0, .int .u8 0, .int .u8 0, .int .u8 0, .int .u8 0, .int .u8 0, .int .u8 0, .int .u8 0, .int .u8 0, .int .u8 0, .int .u8 0, .int .u8 0, .int .u8 0, .int .u8 0, .int .u8 0, .int .u8 0, .int .u8 0, .int .u8 0, .int .u8 0, .int .u8 0, .int .u8 0, .int .u8 0, .int .u8 0, .int .u8 0, .int .u8 0, .int .u8 0, .int .u8 0, .int .u8 0, .int .u8 0] 138)))
  have HO2 := Lib.hid (HO1.out.alloc (.cells #[.int .u8 0, .int .u8 0, .int .u8 0, .int .u8 0, .int .u8 0, .int .u8 0, .int .u8 0, .int .u8 0, .int .u8 0, .int .u8 0, .int .u8 0, .int .u8 0, .int .u8 0, .int .u8 0, .int .u8 0, .int .u8 0, .int .u8 0, .int .u8 0, .int .u8 0, .int .u8 0, .int .u8 0, .int .u8 0, .int .u8 0, .int .u8 0, .int .u8 0, .int .u8 0, .int .u8 0, .int .u8 0, .int .u8 0, .int .u8 0, .int .u8 0, .int .u8 0] 138))
  have HP2 : Hid (SetIn (wb.alloc (.cells #[.int .u8 0, .int .u8 0, .int .u8 0, .int .u8 0, .int .u8 0, .int .u8 0, .int .u8 0, .int .u8 0, .int .u8 0, .int .u8 0, .int .u8 0, .int .u8 0, .int .u8 0, .int .u8 0, .int .u8 0, .int .u8 0, .int .u8 0, .int .u8 0, .int .u8 0, .int .u8 0, .int .u8 0, .int .u8 0, .int .u8 0, .int .u8 0, .int .u8 0, .int .u8 0, .int .u8 0, .int .u8 0, .int .u8 0, .int .u8 0, .int .u8 0, .int .u8 0] 138)) (w.heap.size + 1) 138 noP) := by
    have h := zero_in wb 138
    rw [HN1.out] at h
    exact h
  clear HS1 HA1 HO1 HN1
  generalize wb.alloc (.cells #[.int .u8 0, .int .u8 0, .int .u8 0, .int .u8 0, .int .u8 0, .int .u8 0, .int .u8 0, .int .u8 0, .int .u8 0, .int .u8 0, .int .u8 0, .int .u8 0, .int .u8 0, .int .u8 0, .int .u8 0, .int .u8 0, .int .u8 0, .int .u8 0, .int .u8 0, .int .u8 0, .int .u8 0, .int .u8 0, .int .u8 0, .int .u8 0, .int .u8 0, .int .u8 0, .int .u8 0, .int .u8 0, .int .u8 0, .int .u8 0, .int .u8 0, .int .u8 0] 138) = w2 at HS2 HA2 HO2 HP2 ⊢
  have HS1 := HS2
  have HA1 := HA2
  have HP1 := HP2
  have HO1 := HO2
  clear HS2 HA2 HO2 HP2
  have q1 := HS1.out.c1
  have f1 := HS1.out.free 1
  by_cases h46 : c = 46
  · have HF : Hid (fin = ⟨notP noP, 0, false, i + 1, false⟩) := by
      show _ = _
      rw [HF0.out]
      unfold outF
      rw [← HC.out, if_pos h46]
    clear HF0 HC
    subst h46
    obtain ⟨k1, HK1⟩ : ∃ k1, Hid (k1 = i + 1) := ⟨_, rfl⟩
    have hk1a : i < k1 := by have := HK1.out; omega
    have hk1b : k1 < i + 2 := by have := HK1.out; omega
    rw [← HK1.out] at HF
    go_upto_region 5 with fail
    rw [show (i : Int) + 1 = (k1 : Int) by omega]
    have HS4 := Lib.hid (HS1.out.set1 k1)
    have HA4 := Lib.hid (HA1.out.other (Ne.symm hRG1) 1 (.int .i64 k1))
    have HP4 := Lib.hid (HP1.out.other (Ne.symm hRG2) 1 (.int .i64 k1))
    have HO4 := Lib.hid (HO1.out.set 1 (.int .i64 k1))
    clear q1 f1 HS1 HA1 HP1 HO1
    generalize w2.setCell ⟨R, 1, none⟩ (.int .i64 k1) = w5 at HS4 HA4 HP4 HO4 ⊢
    go_wp2_with (first
      | (refine wpList_load_row rfl 138 (.tmp 4) rfl ((w.heap.size + 1)) rfl 138 (setC noP).toArray (0, 0) _ HP4.out Tryd.underlying138 rfl (by rw [set_size, setC_size]) ?_)
      | (go_at_call 127; refine (inverted_any noP _).mono ?_; rintro e w6 ⟨rfl, hb6⟩)
      | (refine wpList_store_row rfl 138 (.tmp 2) (.tmp 25) rfl (w.heap.size) (setC (notP noP)).toArray rfl rfl 138 (setC noP).toArray (HA4.out.below hb6) (by rw [set_size, setC_size]) (by simp only [setC_size]) (setC_one _) ?_))
    exact bodyPost_ret (v := .agg (setC (notP noP)).toArray) (res_set Tryd.results121 _ _ w.heap.size 138 (notP noP) rfl ((HA4.out.below hb6).row (notP noP))) rfl ⟨by (rw [HF.out] <;> rfl), by rw [HF.out]; exact (HS4.out.below hb6).keep (setRow_other _ _ _ _ hRG1), (HO4.out.bel hb6).rowNew (Nat.le_refl _) _⟩
  have h46' : ((c : Int) == 46) = false := beq_eq_false_iff_ne.2 (by omega)
  by_cases h92 : c = 92
  · have HF : Hid (fin = escF s i) := by
      show _ = _
      rw [HF0.out]
      unfold outF
      rw [← HC.out, if_neg h46, if_pos h92]
    have C := escaped_any w2 R s i HS1.out hi hs
    generalize escF s i = r at C HF
    have HE := Lib.hid C
    clear C q1 f1 HF0 HC h46 h46'
    subst h92
    go_wp2_with (first
      | (go_at_call 128; refine HE.out.mono ?_; rintro e w3 ⟨rfl, hs3, ho3⟩)
      | (refine wpList_store_row rfl 138 (.tmp 4) (.tmp 32) rfl ((w.heap.size + 1)) (setC r.p).toArray rfl rfl 138 (setC noP).toArray (HP1.out.only ho3 (Ne.symm hRG2)) (by rw [set_size, setC_size]) (by simp only [setC_size]) (setC_one _) ?_)
      | (refine wpList_load_row rfl 138 (.tmp 4) rfl ((w.heap.size + 1)) rfl 138 (setC r.p).toArray (0, 0) _ ((HP1.out.only ho3 (Ne.symm hRG2)).row r.p) Tryd.underlying138 rfl (by rw [set_size, setC_size]) ?_)
      | (refine wpList_store_row rfl 138 (.tmp 2) (.tmp 35) rfl (w.heap.size) (setC r.p).toArray rfl rfl 138 (setC noP).toArray ((HA1.out.only ho3 (Ne.symm hRG1)).keep (setRow_other _ _ _ _ (by omega))) (by rw [set_size, setC_size]) (by simp only [setC_size]) (setC_one _) ?_))
    exact bodyPost_ret (v := .agg (setC r.p).toArray) (res_set Tryd.results121 _ _ w.heap.size 138 r.p rfl (((HA1.out.only ho3 (Ne.symm hRG1)).keep (w' := w3.setRow (w.heap.size + 1) (setC r.p).toArray) (setRow_other _ _ _ _ (by omega))).row r.p)) rfl ⟨by (rw [HF.out] <;> rfl), by rw [HF.out]; exact (hs3.keep (w' := w3.setRow (w.heap.size + 1) (setC r.p).toArray) (setRow_other _ _ _ _ hRG2)).keep (setRow_other _ _ _ _ hRG1), ((HO1.out.trans ho3).rowNew (g := (w.heap.size + 1)) (Nat.le_succ _) _).rowNew (Nat.le_refl _) _⟩
  have h92' : ((c : Int) == 92) = false := beq_eq_false_iff_ne.2 (by omega)
  by_cases h91 : c = 91
  · have HF : Hid (fin = bracketsF s i) := by
      show _ = _
      rw [HF0.out]
      unfold outF
      rw [← HC.out, if_neg h46, if_neg h92, if_pos h91]
    have C := brackets_any w2 R s i HS1.out hi hs
    generalize bracketsF s i = r at C HF
    have HE := Lib.hid C
    clear C q1 f1 HF0 HC h46 h46' h92 h92'
    subst h91
    go_wp2_with (first
      | (go_at_call 129; refine HE.out.mono ?_; rintro e w3 ⟨rfl, hs3, ho3⟩)
      | (refine wpList_store_row rfl 138 (.tmp 2) (.tmp 40) rfl (w.heap.size) (setC r.p).toArray rfl rfl 138 (setC noP).toArray (HA1.out.only ho3 (Ne.symm hRG1)) (by rw [set_size, setC_size]) (by simp only [setC_size]) (setC_one _) ?_))
    exact bodyPost_ret (v := .agg (setC r.p).toArray) (res_set Tryd.results121 _ _ w.heap.size 138 r.p rfl ((HA1.out.only ho3 (Ne.symm hRG1)).row r.p)) rfl ⟨by (rw [HF.out] <;> rfl), by rw [HF.out]; exact hs3.keep (setRow_other _ _ _ _ hRG1), (HO1.out.trans ho3).rowNew (Nat.le_refl _) _⟩
  have h91' : ((c : Int) == 91) = false := beq_eq_false_iff_ne.2 (by omega)
  obtain ⟨z, HI, hz⟩ : ∃ z, Hid (∀ w, Calls Tryd.prog 131 #[.string (⟨#[42, 43, 63, 40, 41, 124, 93, 123, 125]⟩ : ByteArray), .int .u8 c] w fun e w' => e = .returned (.int .i64 z) ∧ w = w') ∧ decide (0 ≤ z) = inOut c := ⟨_, fun w => index_any (⟨#[42, 43, 63, 40, 41, 124, 93, 123, 125]⟩ : ByteArray) c w, index_out ⟨c, hc2⟩⟩
  by_cases hw : wrB c = true
  · by_cases hin : inOut c = true
    · have hz1 : 0 ≤ z := by rw [hin] at hz; simpa using hz
      have HF : Hid (fin = badR i) := by
        show _ = _
        rw [HF0.out]
        unfold outF
        rw [← HC.out, if_neg h46, if_neg h92, if_neg h91, if_neg (by simp [hin])]
      clear hz hin h92 h91 h46 HF0 HC
      go_upto_region 13 with (first
        | (go_at_call 130; refine (written_any _ _ (by omega)).mono ?_; rintro e w' ⟨rfl, rfl⟩)
        | (go_at_call 131; refine (HI.out _).mono ?_; rintro e w' ⟨rfl, rfl⟩)
        | (go_at_call 132; refine (fail_any _ R s i false i (by exact HS1.out)).mono ?_; rintro e wf ⟨rfl, hsf, hof⟩))
      have HSf := Lib.hid hsf
      have HAf := Lib.hid (HA1.out.only hof (Ne.symm hRG1))
      have HPf := Lib.hid (HP1.out.only hof (Ne.symm hRG2))
      have HOf := Lib.hid (HO1.out.trans hof)
      clear hsf hof q1 f1 HS1 HA1 HP1 HO1
      go_wp2_with (first
        | (refine wpList_load_row rfl 138 (.tmp 4) rfl ((w.heap.size + 1)) rfl 138 (setC noP).toArray (0, 0) _ HPf.out Tryd.underlying138 rfl (by rw [set_size, setC_size]) ?_)
        | (refine wpList_store_row rfl 138 (.tmp 2) (.tmp 56) rfl (w.heap.size) (setC noP).toArray rfl rfl 138 (setC noP).toArray HAf.out (by rw [set_size, setC_size]) (by simp only [setC_size]) (setC_one _) ?_))
      exact bodyPost_ret (v := .agg (setC noP).toArray) (res_set Tryd.results121 _ _ w.heap.size 138 noP rfl (HAf.out.row noP)) rfl ⟨by (rw [HF.out] <;> rfl), by rw [HF.out]; exact HSf.out.keep (setRow_other _ _ _ _ hRG1), HOf.out.rowNew (Nat.le_refl _) _⟩
    · have hin' : inOut c = false := by simpa using hin
      have hz1 : ¬ 0 ≤ z := by rw [hin'] at hz; simpa using hz
      have HF : Hid (fin = ⟨oneP c, c, true, i + 1, false⟩) := by
        show _ = _
        rw [HF0.out]
        unfold outF
        rw [← HC.out, if_neg h46, if_neg h92, if_neg h91, if_pos ⟨hw, hin'⟩]
      clear hz hin hin' h92 h91 h46 HF0 HC
      obtain ⟨k1, HK1⟩ : ∃ k1, Hid (k1 = i + 1) := ⟨_, rfl⟩
      have hk1a : i < k1 := by have := HK1.out; omega
      have hk1b : k1 < i + 2 := by have := HK1.out; omega
      rw [← HK1.out] at HF
      go_upto_region 15 with (first
        | (go_at_call 130; refine (written_any _ _ (by omega)).mono ?_; rintro e w' ⟨rfl, rfl⟩)
        | (go_at_call 131; refine (HI.out _).mono ?_; rintro e w' ⟨rfl, rfl⟩))
      rw [show (i : Int) + 1 = (k1 : Int) by omega]
      have HS4 := Lib.hid (HS1.out.set1 k1)
      have HA4 := Lib.hid (HA1.out.other (Ne.symm hRG1) 1 (.int .i64 k1))
      have HP4 := Lib.hid (HP1.out.other (Ne.symm hRG2) 1 (.int .i64 k1))
      have HO4 := Lib.hid (HO1.out.set 1 (.int .i64 k1))
      clear q1 f1 HS1 HA1 HP1 HO1
      generalize w2.setCell ⟨R, 1, none⟩ (.int .i64 k1) = w5 at HS4 HA4 HP4 HO4 ⊢
      go_upto_region 16 with (go_at_call 133; refine (add_any noP (w.heap.size + 1) c 138 _ (by exact HP4.out) hc2).mono ?_; rintro e w6 ⟨rfl, hz6, ho6⟩)
      have HS6 := Lib.hid (HS4.out.only ho6 hRG2)
      have HA6 := Lib.hid (HA4.out.only ho6 (by omega))
      have HZ6 : Hid (SetIn w6 (w.heap.size + 1) 138 (oneP c)) := hz6
      have HO6 := Lib.hid (HO4.out.new ho6 (Nat.le_succ _))
      clear hz6 ho6 HS4 HP4 HO4 HA4
      go_wp2_with (first
        | (refine wpList_load_row rfl 138 (.tmp 4) rfl ((w.heap.size + 1)) rfl 138 (setC (oneP c)).toArray (0, 0) _ HZ6.out Tryd.underlying138 rfl (by rw [set_size, setC_size]) ?_)
        | (refine wpList_store_row rfl 138 (.tmp 2) (.tmp 66) rfl (w.heap.size) (setC (oneP c)).toArray rfl rfl 138 (setC noP).toArray HA6.out (by rw [set_size, setC_size]) (by simp only [setC_size]) (setC_one _) ?_))
      exact bodyPost_ret (v := .agg (setC (oneP c)).toArray) (res_set Tryd.results121 _ _ w.heap.size 138 (oneP c) rfl (HA6.out.row (oneP c))) rfl ⟨by (rw [HF.out] <;> rfl), by rw [HF.out]; exact HS6.out.keep (setRow_other _ _ _ _ hRG1), HO6.out.rowNew (Nat.le_refl _) _⟩
  · have hw' : wrB c = false := by simpa using hw
    have HF : Hid (fin = badR i) := by
      show _ = _
      rw [HF0.out]
      unfold outF
      rw [← HC.out, if_neg h46, if_neg h92, if_neg h91, if_neg (by simp [hw'])]
    clear hz HI hw h92 h91 h46 HF0 HC
    go_upto_region 13 with (first
      | (go_at_call 130; refine (written_any _ _ (by omega)).mono ?_; rintro e w' ⟨rfl, rfl⟩)
      | (go_at_call 132; refine (fail_any _ R s i false i (by exact HS1.out)).mono ?_; rintro e wf ⟨rfl, hsf, hof⟩))
    have HSf := Lib.hid hsf
    have HAf := Lib.hid (HA1.out.only hof (Ne.symm hRG1))
    have HPf := Lib.hid (HP1.out.only hof (Ne.symm hRG2))
    have HOf := Lib.hid (HO1.out.trans hof)
    clear hsf hof q1 f1 HS1 HA1 HP1 HO1
    go_wp2_with (first
      | (refine wpList_load_row rfl 138 (.tmp 4) rfl ((w.heap.size + 1)) rfl 138 (setC noP).toArray (0, 0) _ HPf.out Tryd.underlying138 rfl (by rw [set_size, setC_size]) ?_)
      | (refine wpList_store_row rfl 138 (.tmp 2) (.tmp 56) rfl (w.heap.size) (setC noP).toArray rfl rfl 138 (setC noP).toArray HAf.out (by rw [set_size, setC_size]) (by simp only [setC_size]) (setC_one _) ?_))
    exact bodyPost_ret (v := .agg (setC noP).toArray) (res_set Tryd.results121 _ _ w.heap.size 138 noP rfl (HAf.out.row noP)) rfl ⟨by (rw [HF.out] <;> rfl), by rw [HF.out]; exact HSf.out.keep (setRow_other _ _ _ _ hRG1), HOf.out.rowNew (Nat.le_refl _) _⟩

end Go.Proofs.YtpboaadjbkaidaaDoor
