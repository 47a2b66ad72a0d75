/-
  Contracts and plain laws that this claim leans on, part 2.
-/
import Derived.Test.YtpboaadjbkaidaaDoorPackL1
import Derived.Laws.AppendOwnNone
import Derived.Maps.AppendAt
import Derived.Deep.AppendLies
import Derived.Deep.RegionLaw
import Derived.Laws.Tables
import Derived.Great.BuildSlice
import Derived.Deep.OwnRows
import Derived.Deep.LoopGhost
import Derived.Deep.DeepCutAuto
import Derived.Deep.CutBlock
import Derived.Deep.RegionHeld3
import Derived.Deep.MidRow
import Derived.StillTailTactics
import Derived.Lib.SplitLaws
import Derived.Lib.Split
import Derived.Lib.IndexMore
set_option linter.unusedVariables false
set_option linter.unusedSimpArgs false
namespace Go.Proofs.YtpboaadjbkaidaaDoor
set_option maxRecDepth 100000
open Go.RowKit

def outF (s : ByteArray) (i : Nat) : SR :=
  if bt s i = 46 then ⟨notP noP, 0, false, i + 1, false⟩
  else if bt s i = 92 then escF s i
  else if bt s i = 91 then bracketsF s i
  else if wrB (bt s i) = true ∧ inOut (bt s i) = false then ⟨oneP (bt s i), bt s i, true, i + 1, false⟩
  else badR i

set_option maxRecDepth 100000 in
set_option maxHeartbeats 4000000 in
theorem outside_any (w : World) (R : Nat) (s : ByteArray) (i : Nat) (h : ScIn w R s i false) (hi : i < s.size) (hs : s.size ≤ 2147483648) :
    Calls Tryd.prog 121 #[.pointer (some ⟨R, 0, none⟩)] w fun e w' => e = .returned (.agg (setC (outF s i).p).toArray) ∧ ScIn w' R s (outF s i).j (outF s i).bad ∧ Only R w w' := by
  have hR := h.lt
  have hRG1 : R ≠ w.heap.size := by omega
  have hRG2 : R ≠ w.heap.size + 1 := by omega
  have HS0 : Hid (ScIn (w.alloc (.cells #[.int .u8 0, .int .u8 0, .int .u8 0, .int .u8 0, .int .u8 0, .int .u8 0, .int .u8 0, .int .u8 0, .int .u8 0, .int .u8 0, .int .u8 0, .int .u8 0, .int .u8 0, .int .u8 0, .int .u8 0, .int .u8 0, .int .u8 0, .int .u8 0, .int .u8 0, .int .u8 0, .int .u8 0, .int .u8 0, .int .u8 0, .int .u8 0, .int .u8 0, .int .u8 0, .int .u8 0, .int .u8 0, .int .u8 0, .int .u8 0, .int .u8 0, .int .u8 0] 138)) R s i false) := h.below ((Below.refl _ w).alloc (Nat.le_refl _) (.cells #[.int .u8 0, .int .u8 0, .int .u8 0, .int .u8 0, .int .u8 0, .int .u8 0, .int .u8 0, .int .u8 0, .int .u8 0, .int .u8 0, .int .u8 0, .int .u8 0, .int .u8 0, .int .u8 0, .int .u8 0, .int .u8 0, .int .u8 0, .int .u8 0, .int .u8 0, .int .u8 0, .int .u8 0, .int .u8 0, .int .u8 0, .int .u8 0, .int .u8 0, .int .u8 0, .int .u8 0, .int .u8 0, .int .u8 0, .int .u8 0, .int .u8 0, .int .u8 0] 138))
  have HA0 : Hid (SetIn (w.alloc (.cells #[.int .u8 0, .int .u8 0, .int .u8 0, .int .u8 0, .int .u8 0, .int .u8 0, .int .u8 0, .int .u8 0, .int .u8 0, .int .u8 0, .int .u8 0, .int .u8 0, .int .u8 0, .int .u8 0, .int .u8 0, .int .u8 0, .int .u8 0, .int .u8 0, .int .u8 0, .int .u8 0, .int .u8 0, .int .u8 0, .int .u8 0, .int .u8 0, .int .u8 0, .int .u8 0, .int .u8 0, .int .u8 0, .int .u8 0, .int .u8 0, .int .u8 0, .int .u8 0] 138)) w.heap.size 138 noP) := zero_in w 138
  have HO0 := Lib.hid ((Only.refl R w).alloc (.cells #[.int .u8 0, .int .u8 0, .int .u8 0, .int .u8 0, .int .u8 0, .int .u8 0, .int .u8 0, .int .u8 0, .int .u8 0, .int .u8 0, .int .u8 0, .int .u8 0, .int .u8 0, .int .u8 0, .int .u8 0, .int .u8 0, .int .u8 0, .int .u8 0, .int .u8 0, .int .u8 0, .int .u8 0, .int .u8 0, .int .u8 0, .int .u8 0, .int .u8 0, .int .u8 0, .int .u8 0, .int .u8 0, .int .u8 0, .int .u8 0, .int .u8 0, .int .u8 0] 138))
  have HN0 : Hid ((w.alloc (.cells #[.int .u8 0, .int .u8 0, .int .u8 0, .int .u8 0, .int .u8 0, .int .u8 0, .int .u8 0, .int .u8 0, .int .u8 0, .int .u8 0, .int .u8 0, .int .u8 0, .int .u8 0, .int .u8 0, .int .u8 0, .int .u8 0, .int .u8 0, .int .u8 0, .int .u8 0, .int .u8 0, .int .u8 0, .int .u8 0, .int .u8 0, .int .u8 0, .int .u8 0, .int .u8 0, .int .u8 0, .int .u8 0, .int .u8 0, .int .u8 0, .int .u8 0, .int .u8 0] 138)).heap.size = w.heap.size + 1) := by show _ = _; simp
  clear h
  obtain ⟨c, HC⟩ : ∃ c, Hid (c = bt s i) := ⟨_, rfl⟩
  have hc2 : c < 256 := by rw [HC.out]; exact bt_lt s i
  generalize hfin : outF s i = fin
  have HF0 : Hid (fin = outF s i) := hfin.symm
  clear hfin
  go_enter Tryd.func121, Tryd.ntmps121
  go_upto_region 1 with fail
  generalize w.alloc (.cells #[.int .u8 0, .int .u8 0, .int .u8 0, .int .u8 0, .int .u8 0, .int .u8 0, .int .u8 0, .int .u8 0, .int .u8 0, .int .u8 0, .int .u8 0, .int .u8 0, .int .u8 0, .int .u8 0, .int .u8 0, .int .u8 0, .int .u8 0, .int .u8 0, .int .u8 0, .int .u8 0, .int .u8 0, .int .u8 0, .int .u8 0, .int .u8 0, .int .u8 0, .int .u8 0, .int .u8 0, .int .u8 0, .int .u8 0, .int .u8 0, .int .u8 0, .int .u8 0] 138) = w1 at HS0 HA0 HO0 HN0
  have q0 := HS0.out.c0
  have q1 := HS0.out.c1
  have hi' : (i : Int) < (s.size : Int) := by omega
  go_wp2_with fail
  go_quiet (fail)
  rw [show s[i].toNat = c by rw [HC.out, bt_get s i hi]]
  have HS1 : Hid (ScIn (w1.drewN nq) R s i false) := HS0.out
  have HA1 : Hid (SetIn (w1.drewN nq) w.heap.size 138 noP) := HA0.out
  have HO1 : Hid (Only R w (w1.drewN nq)) := HO0.out.drewN nq
  have HN1 : Hid ((w1.drewN nq).heap.size = w.heap.size + 1) := HN0.out
  clear q0 q1 HS0 HA0 HO0 HN0
  generalize w1.drewN nq = wb at HS1 HA1 HO1 HN1 ⊢
  go_upto_region 3 with fail
  rw [HN1.out]
  have HS2 := Lib.hid (HS1.out.below ((Below.refl _ wb).alloc (Nat.le_refl _) (.cells #[.int .u8 0, .int .u8 0, .int .u8 0, .int .u8 0, .int .u8 0, .int .u8 0, .int .u8 0, .int .u8 0, .int .u8 0, .int .u8 0, .int .u8 0, .int .u8 0, .int .u8 0, .int .u8 0, .int .u8 0, .int .u8 0, .int .u8 0, .int .u8 0, .int .u8 0, .int .u8 0, .int .u8 0, .int .u8 0, .int .u8 0, .int .u8 0, .int .u8 0, .int .u8 0, .int .u8 0, .int .u8 0, .int .u8 0, .int .u8 0, .int .u8 0, .int .u8 0] 138)))
  have HA2 := Lib.hid (HA1.out.below ((Below.refl _ wb).alloc (Nat.le_refl _) (.cells #[.int .u8 0, .int .u8 0, .int .u8 0, .int .u8 0, .int .u8 0, .int .u8 0, .int .u8 0, .int .u8 0, .int .u8 0, .int .u8 0, .int .u8 0, .int .u8 0, .int .u8 0, .int .u8 0, .int .u8 0, .int .u8 0, .int .u8 0, .int .u8 0, .int .u8 0, .int .u8 0, .int .u8 0, .int .u8 0, .int .u8 0, .int .u8 0, .int .u8 0, .int .u8 0, .int .u8 0, .int .u8 0, .int .u8 0, .int .u8 0, .int .u8 0, .int .u8 0] 138)))
  have HO2 := Lib.hid (HO1.out.alloc (.cells #[.int .u8 0, .int .u8 0, .int .u8 0, .int .u8 0, .int .u8 0, .int .u8 0, .int .u8 0, .int .u8 0, .int .u8 0, .int .u8 0, .int .u8 0, .int .u8 0, .int .u8 0, .int .u8 0, .int .u8 0, .int .u8 0, .int .u8 0, .int .u8 0, .int .u8 0, .int .u8 0, .int .u8 0, .int .u8 0, .int .u8 0, .int .u8 0, .int .u8 0, .int .u8 0, .int .u8 0, .int .u8 0, .int .u8 0, .int .u8 0, .int .u8 0, .int .u8 0] 138))
  have HP2 : Hid (SetIn (wb.alloc (.cells #[.int .u8 0, .int .u8 0, .int .u8 0, .int .u8 0, .int .u8 0, .int .u8 0, .int .u8 0, .int .u8 0, .int .u8 0, .int .u8 0, .int .u8 0, .int .u8 0, .int .u8 0, .int .u8 0, .int .u8 0, .int .u8 0, .int .u8 0, .int .u8 0, .int .u8 0, .int .u8 0, .int .u8 0, .int .u8 0, .int .u8 0, .int .u8 0, .int .u8 0, .int .u8 0, .int .u8 0, .int .u8 0, .int .u8 0, .int .u8 0, .int .u8 0, .int .u8 0] 138)) (w.heap.size + 1) 138 noP) := by
    have h := zero_in wb 138
    rw [HN1.out] at h
    exact h
  clear HS1 HA1 HO1 HN1
  generalize wb.alloc (.cells #[.int .u8 0, .int .u8 0, .int .u8 0, .int .u8 0, .int .u8 0, .int .u8 0, .int .u8 0, .int .u8 0, .int .u8 0, .int .u8 0, .int .u8 0, .int .u8 0, .int .u8 0, .int .u8 0, .int .u8 0, .int .u8 0, .int .u8 0, .int .u8 0, .int .u8 0, .int .u8 0, .int .u8 0, .int .u8 0, .int .u8 0, .int .u8 0, .int .u8 0, .int .u8 0, .int .u8 0, .int .u8 0, .int .u8 0, .int .u8 0, .int .u8 0, .int .u8 0] 138) = w2 at HS2 HA2 HO2 HP2 ⊢
  have HS1 := HS2
  have HA1 := HA2
  have HP1 := HP2
  have HO1 := HO2
  clear HS2 HA2 HO2 HP2
  have q1 := HS1.out.c1
  have f1 := HS1.out.free 1
  by_cases h46 : c = 46
  · have HF : Hid (fin = ⟨notP noP, 0, false, i + 1, false⟩) := by
      show _ = _
      rw [HF0.out]
      unfold outF
      rw [← HC.out, if_pos h46]
    clear HF0 HC
    subst h46
    obtain ⟨k1, HK1⟩ : ∃ k1, Hid (k1 = i + 1) := ⟨_, rfl⟩
    have hk1a : i < k1 := by have := HK1.out; omega
    have hk1b : k1 < i + 2 := by have := HK1.out; omega
    rw [← HK1.out] at HF
    go_upto_region 5 with fail
    rw [show (i : Int) + 1 = (k1 : Int) by omega]
    have HS4 := Lib.hid (HS1.out.set1 k1)
    have HA4 := Lib.hid (HA1.out.other (Ne.symm hRG1) 1 (.int .i64 k1))
    have HP4 := Lib.hid (HP1.out.other (Ne.symm hRG2) 1 (.int .i64 k1))
    have HO4 := Lib.hid (HO1.out.set 1 (.int .i64 k1))
    clear q1 f1 HS1 HA1 HP1 HO1
    generalize w2.setCell ⟨R, 1, none⟩ (.int .i64 k1) = w5 at HS4 HA4 HP4 HO4 ⊢
    go_wp2_with (first
      | (refine wpList_load_row rfl 138 (.tmp 4) rfl ((w.heap.size + 1)) rfl 138 (setC noP).toArray (0, 0) _ HP4.out Tryd.underlying138 rfl (by rw [set_size, setC_size]) ?_)
      | (go_at_call 127; refine (inverted_any noP _).mono ?_; rintro e w6 ⟨rfl, hb6⟩)
      | (refine wpList_store_row rfl 138 (.tmp 2) (.tmp 25) rfl (w.heap.size) (setC (notP noP)).toArray rfl rfl 138 (setC noP).toArray (HA4.out.below hb6) (by rw [set_size, setC_size]) (by simp only [setC_size]) (setC_one _) ?_))
    exact bodyPost_ret (v := .agg (setC (notP noP)).toArray) (res_set Tryd.results121 _ _ w.heap.size 138 (notP noP) rfl ((HA4.out.below hb6).row (notP noP))) rfl ⟨by (rw [HF.out] <;> rfl), by rw [HF.out]; exact (HS4.out.below hb6).keep (setRow_other _ _ _ _ hRG1), (HO4.out.bel hb6).rowNew (Nat.le_refl _) _⟩
  have h46' : ((c : Int) == 46) = false := beq_eq_false_iff_ne.2 (by omega)
  by_cases h92 : c = 92
  · have HF : Hid (fin = escF s i) := by
      show _ = _
      rw [HF0.out]
      unfold outF
      rw [← HC.out, if_neg h46, if_pos h92]
    have C := escaped_any w2 R s i HS1.out hi hs
    generalize escF s i = r at C HF
    have HE := Lib.hid C
    clear C q1 f1 HF0 HC h46 h46'
    subst h92
    go_wp2_with (first
      | (go_at_call 128; refine HE.out.mono ?_; rintro e w3 ⟨rfl, hs3, ho3⟩)
      | (refine wpList_store_row rfl 138 (.tmp 4) (.tmp 32) rfl ((w.heap.size + 1)) (setC r.p).toArray rfl rfl 138 (setC noP).toArray (HP1.out.only ho3 (Ne.symm hRG2)) (by rw [set_size, setC_size]) (by simp only [setC_size]) (setC_one _) ?_)
      | (refine wpList_load_row rfl 138 (.tmp 4) rfl ((w.heap.size + 1)) rfl 138 (setC r.p).toArray (0, 0) _ ((HP1.out.only ho3 (Ne.symm hRG2)).row r.p) Tryd.underlying138 rfl (by rw [set_size, setC_size]) ?_)
      | (refine wpList_store_row rfl 138 (.tmp 2) (.tmp 35) rfl (w.heap.size) (setC r.p).toArray rfl rfl 138 (setC noP).toArray ((HA1.out.only ho3 (Ne.symm hRG1)).keep (setRow_other _ _ _ _ (by omega))) (by rw [set_size, setC_size]) (by simp only [setC_size]) (setC_one _) ?_))
    exact bodyPost_ret (v := .agg (setC r.p).toArray) (res_set Tryd.results121 _ _ w.heap.size 138 r.p rfl (((HA1.out.only ho3 (Ne.symm hRG1)).keep (w' := w3.setRow (w.heap.size + 1) (setC r.p).toArray) (setRow_other _ _ _ _ (by omega))).row r.p)) rfl ⟨by (rw [HF.out] <;> rfl), by rw [HF.out]; exact (hs3.keep (w' := w3.setRow (w.heap.size + 1) (setC r.p).toArray) (setRow_other _ _ _ _ hRG2)).keep (setRow_other _ _ _ _ hRG1), ((HO1.out.trans ho3).rowNew (g := (w.heap.size + 1)) (Nat.le_succ _) _).rowNew (Nat.le_refl _) _⟩
  have h92' : ((c : Int) == 92) = false := beq_eq_false_iff_ne.2 (by omega)
  by_cases h91 : c = 91
  · have HF : Hid (fin = bracketsF s i) := by
      show _ = _
      rw [HF0.out]
      unfold outF
      rw [← HC.out, if_neg h46, if_neg h92, if_pos h91]
    have C := brackets_any w2 R s i HS1.out hi hs
    generalize bracketsF s i = r at C HF
    have HE := Lib.hid C
    clear C q1 f1 HF0 HC h46 h46' h92 h92'
    subst h91
    go_wp2_with (first
      | (go_at_call 129; refine HE.out.mono ?_; rintro e w3 ⟨rfl, hs3, ho3⟩)
      | (refine wpList_store_row rfl 138 (.tmp 2) (.tmp 40) rfl (w.heap.size) (setC r.p).toArray rfl rfl 138 (setC noP).toArray (HA1.out.only ho3 (Ne.symm hRG1)) (by rw [set_size, setC_size]) (by simp only [setC_size]) (setC_one _) ?_))
    exact bodyPost_ret (v := .agg (setC r.p).toArray) (res_set Tryd.results121 _ _ w.heap.size 138 r.p rfl ((HA1.out.only ho3 (Ne.symm hRG1)).row r.p)) rfl ⟨by (rw [HF.out] <;> rfl), by rw [HF.out]; exact hs3.keep (setRow_other _ _ _ _ hRG1), (HO1.out.trans ho3).rowNew (Nat.le_refl _) _⟩
  have h91' : ((c : Int) == 91) = false := beq_eq_false_iff_ne.2 (by omega)
  obtain ⟨z, HI, hz⟩ : ∃ z, Hid (∀ w, Calls Tryd.prog 131 #[.string (⟨#[42, 43, 63, 40, 41, 124, 93, 123, 125]⟩ : ByteArray), .int .u8 c] w fun e w' => e = .returned (.int .i64 z) ∧ w = w') ∧ decide (0 ≤ z) = inOut c := ⟨_, fun w => index_any (⟨#[42, 43, 63, 40, 41, 124, 93, 123, 125]⟩ : ByteArray) c w, index_out ⟨c, hc2⟩⟩
  by_cases hw : wrB c = true
  · by_cases hin : inOut c = true
    · have hz1 : 0 ≤ z := by rw [hin] at hz; simpa using hz
      have HF : Hid (fin = badR i) := by
        show _ = _
        rw [HF0.out]
        unfold outF
        rw [← HC.out, if_neg h46, if_neg h92, if_neg h91, if_neg (by simp [hin])]
      clear hz hin h92 h91 h46 HF0 HC
      go_upto_region 13 with (first
        | (go_at_call 130; refine (written_any _ _ (by omega)).mono ?_; rintro e w' ⟨rfl, rfl⟩)
        | (go_at_call 131; refine (HI.out _).mono ?_; rintro e w' ⟨rfl, rfl⟩)
        | (go_at_call 132; refine (fail_any _ R s i false i (by exact HS1.out)).mono ?_; rintro e wf ⟨rfl, hsf, hof⟩))
      have HSf := Lib.hid hsf
      have HAf := Lib.hid (HA1.out.only hof (Ne.symm hRG1))
      have HPf := Lib.hid (HP1.out.only hof (Ne.symm hRG2))
      have HOf := Lib.hid (HO1.out.trans hof)
      clear hsf hof q1 f1 HS1 HA1 HP1 HO1
      go_wp2_with (first
        | (refine wpList_load_row rfl 138 (.tmp 4) rfl ((w.heap.size + 1)) rfl 138 (setC noP).toArray (0, 0) _ HPf.out Tryd.underlying138 rfl (by rw [set_size, setC_size]) ?_)
        | (refine wpList_store_row rfl 138 (.tmp 2) (.tmp 56) rfl (w.heap.size) (setC noP).toArray rfl rfl 138 (setC noP).toArray HAf.out (by rw [set_size, setC_size]) (by simp only [setC_size]) (setC_one _) ?_))
      exact bodyPost_ret (v := .agg (setC noP).toArray) (res_set Tryd.results121 _ _ w.heap.size 138 noP rfl (HAf.out.row noP)) rfl ⟨by (rw [HF.out] <;> rfl), by rw [HF.out]; exact HSf.out.keep (setRow_other _ _ _ _ hRG1), HOf.out.rowNew (Nat.le_refl _) _⟩
    · have hin' : inOut c = false := by simpa using hin
      have hz1 : ¬ 0 ≤ z := by rw [hin'] at hz; simpa using hz
      have HF : Hid (fin = ⟨oneP c, c, true, i + 1, false⟩) := by
        show _ = _
        rw [HF0.out]
        unfold outF
        rw [← HC.out, if_neg h46, if_neg h92, if_neg h91, if_pos ⟨hw, hin'⟩]
      clear hz hin hin' h92 h91 h46 HF0 HC
      obtain ⟨k1, HK1⟩ : ∃ k1, Hid (k1 = i + 1) := ⟨_, rfl⟩
      have hk1a : i < k1 := by have := HK1.out; omega
      have hk1b : k1 < i + 2 := by have := HK1.out; omega
      rw [← HK1.out] at HF
      go_upto_region 15 with (first
        | (go_at_call 130; refine (written_any _ _ (by omega)).mono ?_; rintro e w' ⟨rfl, rfl⟩)
        | (go_at_call 131; refine (HI.out _).mono ?_; rintro e w' ⟨rfl, rfl⟩))
      rw [show (i : Int) + 1 = (k1 : Int) by omega]
      have HS4 := Lib.hid (HS1.out.set1 k1)
      have HA4 := Lib.hid (HA1.out.other (Ne.symm hRG1) 1 (.int .i64 k1))
      have HP4 := Lib.hid (HP1.out.other (Ne.symm hRG2) 1 (.int .i64 k1))
      have HO4 := Lib.hid (HO1.out.set 1 (.int .i64 k1))
      clear q1 f1 HS1 HA1 HP1 HO1
      generalize w2.setCell ⟨R, 1, none⟩ (.int .i64 k1) = w5 at HS4 HA4 HP4 HO4 ⊢
      go_upto_region 16 with (go_at_call 133; refine (add_any noP (w.heap.size + 1) c 138 _ (by exact HP4.out) hc2).mono ?_; rintro e w6 ⟨rfl, hz6, ho6⟩)
      have HS6 := Lib.hid (HS4.out.only ho6 hRG2)
      have HA6 := Lib.hid (HA4.out.only ho6 (by omega))
      have HZ6 : Hid (SetIn w6 (w.heap.size + 1) 138 (oneP c)) := hz6
      have HO6 := Lib.hid (HO4.out.new ho6 (Nat.le_succ _))
      clear hz6 ho6 HS4 HP4 HO4 HA4
      go_wp2_with (first
        | (refine wpList_load_row rfl 138 (.tmp 4) rfl ((w.heap.size + 1)) rfl 138 (setC (oneP c)).toArray (0, 0) _ HZ6.out Tryd.underlying138 rfl (by rw [set_size, setC_size]) ?_)
        | (refine wpList_store_row rfl 138 (.tmp 2) (.tmp 66) rfl (w.heap.size) (setC (oneP c)).toArray rfl rfl 138 (setC noP).toArray HA6.out (by rw [set_size, setC_size]) (by simp only [setC_size]) (setC_one _) ?_))
      exact bodyPost_ret (v := .agg (setC (oneP c)).toArray) (res_set Tryd.results121 _ _ w.heap.size 138 (oneP c) rfl (HA6.out.row (oneP c))) rfl ⟨by (rw [HF.out] <;> rfl), by rw [HF.out]; exact HS6.out.keep (setRow_other _ _ _ _ hRG1), HO6.out.rowNew (Nat.le_refl _) _⟩
  · have hw' : wrB c = false := by simpa using hw
    have HF : Hid (fin = badR i) := by
      show _ = _
      rw [HF0.out]
      unfold outF
      rw [← HC.out, if_neg h46, if_neg h92, if_neg h91, if_neg (by simp [hw'])]
    clear hz HI hw h92 h91 h46 HF0 HC
    go_upto_region 13 with (first
      | (go_at_call 130; refine (written_any _ _ (by omega)).mono ?_; rintro e w' ⟨rfl, rfl⟩)
      | (go_at_call 132; refine (fail_any _ R s i false i (by exact HS1.out)).mono ?_; rintro e wf ⟨rfl, hsf, hof⟩))
    have HSf := Lib.hid hsf
    have HAf := Lib.hid (HA1.out.only hof (Ne.symm hRG1))
    have HPf := Lib.hid (HP1.out.only hof (Ne.symm hRG2))
    have HOf := Lib.hid (HO1.out.trans hof)
    clear hsf hof q1 f1 HS1 HA1 HP1 HO1
    go_wp2_with (first
      | (refine wpList_load_row rfl 138 (.tmp 4) rfl ((w.heap.size + 1)) rfl 138 (setC noP).toArray (0, 0) _ HPf.out Tryd.underlying138 rfl (by rw [set_size, setC_size]) ?_)
      | (refine wpList_store_row rfl 138 (.tmp 2) (.tmp 56) rfl (w.heap.size) (setC noP).toArray rfl rfl 138 (setC noP).toArray HAf.out (by rw [set_size, setC_size]) (by simp only [setC_size]) (setC_one _) ?_))
    exact bodyPost_ret (v := .agg (setC noP).toArray) (res_set Tryd.results121 _ _ w.heap.size 138 noP rfl (HAf.out.row noP)) rfl ⟨by (rw [HF.out] <;> rfl), by rw [HF.out]; exact HSf.out.keep (setRow_other _ _ _ _ hRG1), HOf.out.rowNew (Nat.le_refl _) _⟩

end Go.Proofs.YtpboaadjbkaidaaDoor

namespace Go.Proofs.YtpboaadjbkaidaaDoor
set_option maxRecDepth 100000
open Go.RowKit

theorem memsF_ok (s : ByteArray) : ∀ (f i : Nat) (m : Bool) (p : Nat → Bool), (memsF s f i m p).2.2 = false → i < (memsF s f i m p).2.1 ∧ (memsF s f i m p).2.1 ≤ s.size
  | 0, _, _, _ => fun h => absurd h (by simp [memsF])
  | f + 1, i, m, p => by
    unfold memsF
    split
    · rename_i hi
      split
      · intro _
        exact ⟨Nat.lt_succ_self i, hi⟩
      · split
        · intro h
          exact absurd h (by simp)
        · rename_i hb
          intro h
          have h1 := memberF_ok s i p hi (by simpa using hb)
          have h2 := memsF_ok s f _ true _ h
          exact ⟨Nat.lt_trans h1.1 h2.1, h2.2⟩
    · intro h
      exact absurd h (by simp)
theorem finishF_ok (inv : Bool) (r : (Nat → Bool) × Nat × Bool) (h : (finishF inv r).bad = false) : r.2.2 = false ∧ (finishF inv r).j = r.2.1 := by
  unfold finishF at *
  by_cases hb : r.2.2 = true
  · rw [if_pos hb] at h
    exact absurd h (by simp [badR])
  · rw [if_neg hb]
    exact ⟨by simpa using hb, rfl⟩
theorem outF_ok (s : ByteArray) (i : Nat) (hi : i < s.size) (h : (outF s i).bad = false) : i < (outF s i).j ∧ (outF s i).j ≤ s.size := by
  unfold outF at *
  split at h
  · rename_i h1
    rw [if_pos h1]
    exact ⟨Nat.lt_succ_self i, hi⟩
  · rename_i h1
    rw [if_neg h1]
    split at h
    · rename_i h2
      rw [if_pos h2]
      have := escF_ok s i hi
      exact ⟨this.2.2.1 h, this.2.1⟩
    · rename_i h2
      rw [if_neg h2]
      split at h
      · rename_i h3
        rw [if_pos h3]
        unfold bracketsF at *
        split at h
        · rename_i h4
          rw [if_pos h4]
          have h5 := finishF_ok _ _ h
          have h6 := memsF_ok s _ _ _ _ h5.1
          rw [h5.2]
          exact ⟨by omega, h6.2⟩
        · rename_i h4
          rw [if_neg h4]
          have h5 := finishF_ok _ _ h
          have h6 := memsF_ok s _ _ _ _ h5.1
          rw [h5.2]
          exact ⟨by omega, h6.2⟩
      · rename_i h3
        rw [if_neg h3]
        split at h
        · rename_i h4
          rw [if_pos h4]
          exact ⟨Nat.lt_succ_self i, hi⟩
        · exact absurd h (by simp [badR])
/-- The sign behind a set. -/
def quantF (s : ByteArray) (j : Nat) : Int × Bool × Nat :=
  if j < s.size then
    if bt s j = 42 then (0, true, j + 1) else if bt s j = 43 then (1, true, j + 1) else if bt s j = 63 then (0, false, j + 1) else (1, false, j)
  else (1, false, j)
/-- The atoms from i on, behind those of l: the atoms, the offset, the error. -/
def parseL (s : ByteArray) : Nat → Nat → List At → List At × Nat × Int
  | 0, _, l => (l, 0, 0)
  | f + 1, i, l =>
    if i < s.size then
      if 32 ≤ l.length then ([], i, 3)
      else if (outF s i).bad = true then ([], (outF s i).j, 2)
      else parseL s f (quantF s (outF s i).j).2.2 (l ++ [⟨(outF s i).p, (quantF s (outF s i).j).1, (quantF s (outF s i).j).2.1⟩])
    else (l, 0, 0)
def parseF (s : ByteArray) : List At × Nat × Int := parseL s (s.size + 1) 0 []

end Go.Proofs.YtpboaadjbkaidaaDoor

namespace Go.Proofs.YtpboaadjbkaidaaDoor
set_option maxRecDepth 100000
open Go.RowKit

/-- The places behind an atom that are reached by a byte. -/
def nxF (x : At) (s : ByteArray) (f : Nat → Bool) : Nat → Bool
  | 0 => false
  | i + 1 => (f i || (x.many && nxF x s f i)) && x.p (bt s i)
def advF (x : At) (s : ByteArray) (f : Nat → Bool) (i : Nat) : Bool := nxF x s f i || (decide (x.mn < 1) && f i)
theorem adv_zero (x : At) (s : ByteArray) (f : Nat → Bool) : advF x s f 0 = (decide (x.mn < 1) && f 0) := by
  unfold advF nxF
  rw [Bool.false_or]
theorem adv_own (x : At) (s : ByteArray) (f : Nat → Bool) (k : Nat) : advF x s f (k + 1) = ((decide (x.mn < 1) && f (k + 1)) || (x.p (bt s k) && (f k || (x.many && advF x s f k)))) := by
  unfold advF
  rw [show nxF x s f (k + 1) = ((f k || (x.many && nxF x s f k)) && x.p (bt s k)) from rfl]
  cases f k <;> cases x.many <;> cases nxF x s f k <;> cases decide (x.mn < 1) <;> cases f (k + 1) <;> cases x.p (bt s k) <;> rfl
def reachF (s : ByteArray) : List At → (Nat → Bool) → Nat → Bool
  | [], f => f
  | x :: p, f => reachF s p (advF x s f)
def startF : Nat → Bool := fun i => i == 0
def allF : Nat → Bool := fun _ => true
/-- The greatest place below n, or -1. -/
def longF (f : Nat → Bool) : Nat → Int
  | 0 => -1
  | n + 1 => if f n = true then (n : Int) else longF f n
def longestF (p : List At) (s : ByteArray) : Int := longF (reachF s p startF) (s.size + 1)
def prefixF (p : List At) (s : ByteArray) : Bool := decide (0 ≤ longestF p s)
def suffixF (p : List At) (s : ByteArray) : Bool := reachF s p allF s.size
def validF (p : List At) : Int := if 32 < p.length then 3 else if p.all (fun x => x.mn == 0 || x.mn == 1) = true then 0 else 1

end Go.Proofs.YtpboaadjbkaidaaDoor

namespace Go.Proofs.YtpboaadjbkaidaaDoor
set_option maxRecDepth 100000
open Go.RowKit

/-- A slice value that reads as the list l; f: an element's cells, m of them. -/
def RdE {α : Type} (f : α → List Value) (m : Nat) (w : World) (v : Value) (l : List α) : Prop :=
  ∃ A c, v = .slice A l.length c ∧ l.length ≤ c ∧ (A = none → c = 0) ∧ (0 < l.length → ∃ b o, A = some ⟨b, o, none⟩ ∧ b < w.heap.size ∧ ∀ (i : Nat) (x : α) (j : Nat) (u : Value), l[i]? = some x → (f x)[j]? = some u →
    w.cell? ⟨b, o + (i * m + j), none⟩ = some u)

section
variable {α : Type} {f : α → List Value} {m : Nat} {w w' : World} {v : Value} {l : List α}
theorem RdE.nil : RdE f m w (.slice none 0 0) ([] : List α) := ⟨none, 0, rfl, by simp, fun _ => rfl, fun h => by simp at h⟩
theorem RdE.keep (h : RdE f m w v l) (hs : w.heap.size ≤ w'.heap.size) (hk : ∀ b, b < w.heap.size → w'.heap[b]? = w.heap[b]?) : RdE f m w' v l := by
  obtain ⟨A, c, hv, hc, hn, h⟩ := h
  refine ⟨A, c, hv, hc, hn, fun h0 => ?_⟩
  obtain ⟨b, o, hA, hb, hx⟩ := h h0
  refine ⟨b, o, hA, by omega, fun i x j u hi hj => ?_⟩
  rw [World.cell?_of_block (w := w) (hk b hb)]
  exact hx i x j u hi hj
theorem RdE.below {B : Nat} (h : RdE f m w v l) (hb : Below B w w') (hB : w.heap.size ≤ B) : RdE f m w' v l :=
  h.keep hb.size (fun b hlt => hb.block b (by omega))
theorem RdE.drewN (h : RdE f m w v l) (n : Nat) : RdE f m (w.drewN n) v l := h
theorem RdE.drew (h : RdE f m w v l) : RdE f m w.drew v l := h
theorem RdE.alloc (h : RdE f m w v l) (o : Obj) : RdE f m (w.alloc o) v l := h.keep (by simp) (fun b hb => Below.heap_alloc w o b hb)
theorem RdE.shape (h : RdE f m w v l) : ∃ A c, v = .slice A l.length c ∧ l.length ≤ c ∧ (A = none → c = 0) := by
  obtain ⟨A, c, hv, hc, hn, _⟩ := h
  exact ⟨A, c, hv, hc, hn⟩
theorem RdE.cells {A : Option Addr} {n c : Nat} (h : RdE f m w (.slice A n c) l) (h0 : 0 < l.length) :
    ∃ b o, A = some ⟨b, o, none⟩ ∧ b < w.heap.size ∧ ∀ (i : Nat) (x : α) (j : Nat) (u : Value), l[i]? = some x → (f x)[j]? = some u → w.cell? ⟨b, o + (i * m + j), none⟩ = some u := by
  obtain ⟨A', c', hv, _, _, h⟩ := h
  injection hv with hA _ _
  subst hA
  exact h h0
theorem RdE.cap {A : Option Addr} {n c : Nat} (h : RdE f m w (.slice A n c) l) : l.length ≤ c := by
  obtain ⟨_, _, hv, hc, _⟩ := h
  injection hv with _ _ h3
  omega
end

/-- A row of the call's own that reads as l. -/
abbrev OwnE {α : Type} (e : TypeId) (f : α → List Value) (m : Nat) (w : World) (B : Nat) (v : Value) (l : List α) : Prop := w.ownsRow B e m v l.length (l.flatMap f)

section
variable {α : Type} {e : TypeId} {f : α → List Value} {m : Nat} {w w' : World} {B : Nat} {v : Value} {l : List α}
theorem OwnE.nil : OwnE e f m w B (.slice none 0 0) ([] : List α) := World.ownsRow_nil _ _ _ _
theorem OwnE.snoc {x : α} (h : w.ownsRow B e m v (l.length + 1) (l.flatMap f ++ f x)) : OwnE e f m w B v (l ++ [x]) := by
  unfold OwnE
  rw [List.length_append, List.flatMap_append]
  simpa using h
theorem own_below {size n : Nat} {xs : List Value} {B' : Nat} (h : w.ownsRow B e size v n xs) (hb : Below B' w w') (hB : w.heap.size ≤ B') : w'.ownsRow B e size v n xs := by
  refine ⟨h.1, ?_⟩
  rcases h.2 with h0 | ⟨g, cap, cur, hv, hbg, hg, rest⟩
  · exact .inl h0
  · refine .inr ⟨g, cap, cur, hv, hbg, ?_, rest⟩
    rw [hb.block g (Nat.lt_of_lt_of_le (Array.getElem?_eq_some_iff.1 hg).1 hB)]
    exact hg
theorem own_base {size n : Nat} {xs : List Value} {B' : Nat} (h : w.ownsRow B e size v n xs) (hB : B' ≤ B) : w.ownsRow B' e size v n xs :=
  ⟨h.1, h.2.imp id (fun ⟨g, cap, cur, a, b, c⟩ => ⟨g, cap, cur, a, Nat.le_trans hB b, c⟩)⟩
theorem OwnE.rd (hm : ∀ x, (f x).length = m) (h : OwnE e f m w B v l) : RdE f m w v l := by
  rcases h.2 with ⟨rfl, h0⟩ | ⟨g, cap, cur, rfl, _, hh, hc, _⟩
  · have : l = [] := List.eq_nil_of_length_eq_zero h0
    subst this
    exact RdE.nil
  · refine ⟨some ⟨g, 0, none⟩, cap, rfl, hc, (fun h => by cases h), fun _ => ⟨g, 0, rfl, (Array.getElem?_eq_some_iff.1 hh).1, fun i x j u hi hj => ?_⟩⟩
    have hil : i < l.length := (List.getElem?_eq_some_iff.1 hi).1
    have hjm : j < m := by rw [← hm x]; exact (List.getElem?_eq_some_iff.1 hj).1
    have hlt : i * m + j < l.length * m := by
      have : (i + 1) * m ≤ l.length * m := Nat.mul_le_mul_right _ hil
      rw [Nat.add_mul] at this
      omega
    rw [Nat.zero_add, h.cellAt (i * m + j) hlt, flat_get f m hm l i j x hi hjm, hj]
end

/-- append(out, xs...): out a row of the call's own, xs a slice that reads as a list (nil, empty or not). -/
theorem wpList_appE {P : Program} {ops : Array Oper} {rest : List Oper} {o : Oper} {a : Act} {Q : Exit → Act → World → Prop} {w : World} {α : Type} (hgd : o.guard = none) (s x : Operand) (t e : TypeId)
    (ho : o.op = .call { callee := .builtin .append, args := #[s, x], argTypes := #[t, t] })
    (ht : P.underlying t = some (.slice e)) (z : Value) (f : α → List Value) (size bytes : Nat) (hinfo : (P.info? e).map (fun i => (i.zero, i.size, i.bytes)) = some (some z, size, bytes)) (hzs : z.cells.size = size) (hsz : 0 < size)
    (hm : ∀ x, (f x).length = size) (h1 : ∀ x, ∀ u ∈ f x, u.oneCell' = true)
    (base : Nat) (v : Value) (l : List α) (hs : a.eval s = v) (hown : w.ownsRow base e size v l.length (l.flatMap f))
    (v2 : Value) (l2 : List α) (hx : a.eval x = v2) (hrd : RdE f size w v2 l2)
    (hbytes : (l.length + l2.length) * bytes ≤ 140737488355328) (hb1 : 1 ≤ bytes) (hbase : base ≤ w.heap.size)
    (h : ∀ v' w', w'.ownsRow base e size v' (l ++ l2).length ((l ++ l2).flatMap f) → (∀ B W, B ≤ base → Below B W w → Below B W w') → w.grownBy w' v.ownBlock → wpList P ops Q rest (a.put o.dst v') w') : wpList P ops Q (o :: rest) a w := by
  obtain ⟨i, hi, hz, hsize, hby⟩ := info_parts hinfo
  have h2 : l.length + l2.length ≤ 140737488355328 := Nat.le_trans (Nat.le_mul_of_pos_right _ hb1) hbytes
  obtain ⟨A, c, hv2, hc, hn, hcell⟩ := hrd
  rcases A with _ | ad
  · have hc0 := hn rfl
    have hl2 : l2 = [] := List.eq_nil_of_length_eq_zero (by omega)
    subst hl2 hc0
    refine wpList_append_own_none hgd s x t ho base e i size ht hi v l.length _ hs hown (by rw [hx, hv2]; rfl) (h v w (by simpa using hown) (fun _ _ _ hB => hB) (World.grownBy.refl w _))
  · refine wpList_append_own w hgd s x t ho base e i z size bytes ht hi hz hsize hby hzs hsz v l.length _ hs hown ad l2.length c (l2.flatMap f) (by rw [hx, hv2]) (flat_length f size hm l2) (fun j u hj => ?_) (fun u hu => ?_) (by unfold maxLen; omega) hbytes hbase ?_
    · have hjl : j < l2.length * size := by rw [← flat_length f size hm l2]; exact (List.getElem?_eq_some_iff.1 hj).1
      have hl0 : 0 < l2.length := by
        rcases Nat.eq_zero_or_pos l2.length with h0 | h0
        · rw [h0] at hjl; omega
        · exact h0
      obtain ⟨b, o', hA, _, hcc⟩ := hcell hl0
      injection hA with hA
      subst hA
      have hq : j / size < l2.length := Nat.div_lt_of_lt_mul (by rw [Nat.mul_comm]; exact hjl)
      have hr : j % size < size := Nat.mod_lt _ hsz
      have hx' : l2[j / size]? = some l2[j / size] := List.getElem?_eq_getElem hq
      have hj2 : j / size * size + j % size = j := by rw [Nat.mul_comm]; exact Nat.div_add_mod j size
      have hg := flat_get f size hm l2 (j / size) (j % size) _ hx' hr
      rw [hj2, hj] at hg
      have := hcc (j / size) _ (j % size) u hx' hg.symm
      rw [hj2] at this
      rw [Addr.add_lit]
      exact this
    · obtain ⟨x, hx, hu⟩ := List.mem_flatMap.1 hu
      exact h1 x u hu
    · intro v' w' hown' hg _
      refine h v' w' ?_ (fun B W hB hW => hW.grown hg (Nat.le_trans hB hbase) (fun k hk => Nat.le_trans hB (hown.lt k hk).1)) hg
      rw [List.length_append, List.flatMap_append]
      exact hown'

/-- A call that returns a row of its own that reads as l. -/
def RetOwn {α : Type} (t : TypeId) (f : α → List Value) (m : Nat) (w : World) (l : List α) (e : Ending) (w' : World) : Prop := ∃ v, e = .returned v ∧ OwnE t f m w' w.heap.size v l ∧ Below w.heap.size w w'

end Go.Proofs.YtpboaadjbkaidaaDoor

namespace Go.Proofs.YtpboaadjbkaidaaDoor
set_option maxRecDepth 100000
open Go.RowKit

theorem run_appE {P : Program} {w : World} {α : Type} (t ty e : TypeId) (ht : P.underlying t = some (.slice e)) (z : Value) (f : α → List Value) (size bytes : Nat)
    (hinfo : (P.info? e).map (fun i => (i.zero, i.size, i.bytes)) = some (some z, size, bytes)) (hzs : z.cells.size = size) (hsz : 0 < size) (hm : ∀ x, (f x).length = size) (h1 : ∀ x, ∀ u ∈ f x, u.oneCell' = true)
    (base : Nat) (v : Value) (l : List α) (hown : w.ownsRow base e size v l.length (l.flatMap f)) (v2 : Value) (l2 : List α) (hrd : RdE f size w v2 l2)
    (hbytes : (l.length + l2.length) * bytes ≤ 140737488355328) (hb1 : 1 ≤ bytes) (hbase : base ≤ w.heap.size) :
    ∃ v' w', (Builtin.append_ #[t, t] ty #[v, v2]).run P w = .ok v' w' ∧ w'.ownsRow base e size v' (l ++ l2).length ((l ++ l2).flatMap f) ∧ (∀ B W, B ≤ base → Below B W w → Below B W w') ∧ w.grownBy w' v.ownBlock ∧
      (v'.ownBlock = v.ownBlock ∨ v'.ownBlock = some w.heap.size) := by
  obtain ⟨i, hi, hz, hsize, hby⟩ := info_parts hinfo
  have h2 : l.length + l2.length ≤ 140737488355328 := Nat.le_trans (Nat.le_mul_of_pos_right _ hb1) hbytes
  obtain ⟨A, c, hv2, hc, hn, hcell⟩ := hrd
  subst hv2
  rcases A with _ | ad
  · have hc0 := hn rfl
    have hl2 : l2 = [] := List.eq_nil_of_length_eq_zero (by omega)
    subst hl2 hc0
    exact ⟨v, w, run_append_owned_none (P := P) (w := w) base t ty e i size ht hi v l.length _ hown, by simpa using hown, fun _ _ _ hB => hB, World.grownBy.refl w _, .inl rfl⟩
  · obtain ⟨v', w', hr, hown', hg, _, hat⟩ := run_append_own_at (P := P) w base t ty e i z size bytes ht hi hz hsize hby hzs hsz v l.length _ hown ad l2.length c (l2.flatMap f) (flat_length f size hm l2) (fun j u hj => by
        have hjl : j < l2.length * size := by rw [← flat_length f size hm l2]; exact (List.getElem?_eq_some_iff.1 hj).1
        have hl0 : 0 < l2.length := by
          rcases Nat.eq_zero_or_pos l2.length with h0 | h0
          · rw [h0] at hjl; omega
          · exact h0
        obtain ⟨b, o', hA, _, hcc⟩ := hcell hl0
        injection hA with hA
        subst hA
        have hq : j / size < l2.length := Nat.div_lt_of_lt_mul (by rw [Nat.mul_comm]; exact hjl)
        have hr : j % size < size := Nat.mod_lt _ hsz
        have hx' : l2[j / size]? = some l2[j / size] := List.getElem?_eq_getElem hq
        have hj2 : j / size * size + j % size = j := by rw [Nat.mul_comm]; exact Nat.div_add_mod j size
        have hg := flat_get f size hm l2 (j / size) (j % size) _ hx' hr
        rw [hj2, hj] at hg
        have := hcc (j / size) _ (j % size) u hx' hg.symm
        rw [hj2] at this
        rw [Addr.add_lit]
        exact this) (fun u hu => by
        obtain ⟨x, hx, hu⟩ := List.mem_flatMap.1 hu
        exact h1 x u hu) (by unfold maxLen; omega) hbytes hbase
    refine ⟨v', w', hr, ?_, (fun B W hB hW => hW.grown hg (Nat.le_trans hB hbase) (fun k hk => Nat.le_trans hB (hown.lt k hk).1)), hg, hat⟩
    rw [List.length_append, List.flatMap_append]
    exact hown'

theorem wp_appE {P : Program} {o : Oper} {a : Act} {K : Act → World → Prop} {Q : Exit → Act → World → Prop} {w : World} {α : Type} (s x : Operand) (t e : TypeId)
    (ho : o.op = .call { callee := .builtin .append, args := #[s, x], argTypes := #[t, t] })
    (ht : P.underlying t = some (.slice e)) (z : Value) (f : α → List Value) (size bytes : Nat) (hinfo : (P.info? e).map (fun i => (i.zero, i.size, i.bytes)) = some (some z, size, bytes)) (hzs : z.cells.size = size) (hsz : 0 < size)
    (hm : ∀ x, (f x).length = size) (h1 : ∀ x, ∀ u ∈ f x, u.oneCell' = true)
    (base : Nat) (v : Value) (l : List α) (hs : a.eval s = v) (hown : w.ownsRow base e size v l.length (l.flatMap f))
    (v2 : Value) (l2 : List α) (hx : a.eval x = v2) (hrd : RdE f size w v2 l2)
    (hbytes : (l.length + l2.length) * bytes ≤ 140737488355328) (hb1 : 1 ≤ bytes) (hbase : base ≤ w.heap.size)
    (h : ∀ v' w', w'.ownsRow base e size v' (l ++ l2).length ((l ++ l2).flatMap f) → (∀ B W, B ≤ base → Below B W w → Below B W w') → w.grownBy w' v.ownBlock → (v'.ownBlock = v.ownBlock ∨ v'.ownBlock = some w.heap.size) → K (a.put o.dst v') w') : o.wp P a w K Q := by
  obtain ⟨v', w', hr, h2, h3, h4, h5⟩ := run_appE (P := P) t o.type e ht z f size bytes hinfo hzs hsz hm h1 base v l hown v2 l2 hrd hbytes hb1 hbase
  unfold Oper.wp execOp
  simp only [ho, resolve, invoke, builtin, Sem.run_bind, Sem.run_pure, Result.andThen_ok, List.map_toArray, List.map_cons, List.map_nil, hs, hx, hr]
  exact h v' w' h2 h3 h4 h5

/-- append(out, xs...) at the list of a plain region's operations; also where the new slice lies. -/
theorem wpList_appAt {P : Program} {ops : Array Oper} {rest : List Oper} {o : Oper} {a : Act} {Q : Exit → Act → World → Prop} {w : World} {α : Type} (hgd : o.guard = none) (s x : Operand) (t e : TypeId)
    (ho : o.op = .call { callee := .builtin .append, args := #[s, x], argTypes := #[t, t] })
    (ht : P.underlying t = some (.slice e)) (z : Value) (f : α → List Value) (size bytes : Nat) (hinfo : (P.info? e).map (fun i => (i.zero, i.size, i.bytes)) = some (some z, size, bytes)) (hzs : z.cells.size = size) (hsz : 0 < size)
    (hm : ∀ x, (f x).length = size) (h1 : ∀ x, ∀ u ∈ f x, u.oneCell' = true)
    (base : Nat) (v : Value) (l : List α) (hs : a.eval s = v) (hown : w.ownsRow base e size v l.length (l.flatMap f))
    (v2 : Value) (l2 : List α) (hx : a.eval x = v2) (hrd : RdE f size w v2 l2)
    (hbytes : (l.length + l2.length) * bytes ≤ 140737488355328) (hb1 : 1 ≤ bytes) (hbase : base ≤ w.heap.size)
    (h : ∀ v' w', w'.ownsRow base e size v' (l ++ l2).length ((l ++ l2).flatMap f) → (∀ B W, B ≤ base → Below B W w → Below B W w') → w.grownBy w' v.ownBlock → (v'.ownBlock = v.ownBlock ∨ v'.ownBlock = some w.heap.size) → wpList P ops Q rest (a.put o.dst v') w') : wpList P ops Q (o :: rest) a w :=
  wpList_plain hgd fun _ hK => wp_appE s x t e ho ht z f size bytes hinfo hzs hsz hm h1 base v l hs hown v2 l2 hx hrd hbytes hb1 hbase fun v' w' h2 h3 h4 h5 => hK _ _ (h v' w' h2 h3 h4 h5)

/-- The same at a step of a region that draws its order. -/
theorem step_appE {P : Program} {ops : Array Oper} {o : Oper} {a : Act} {K : Act → World → Prop} {Q : Exit → Act → World → Prop} {E : Prop} {w : World} {α : Type} (hgd : o.guard = none) (s x : Operand) (t e : TypeId)
    (ho : o.op = .call { callee := .builtin .append, args := #[s, x], argTypes := #[t, t] })
    (ht : P.underlying t = some (.slice e)) (z : Value) (f : α → List Value) (size bytes : Nat) (hinfo : (P.info? e).map (fun i => (i.zero, i.size, i.bytes)) = some (some z, size, bytes)) (hzs : z.cells.size = size) (hsz : 0 < size)
    (hm : ∀ x, (f x).length = size) (h1 : ∀ x, ∀ u ∈ f x, u.oneCell' = true)
    (base : Nat) (v : Value) (l : List α) (hs : a.eval s = v) (hown : w.ownsRow base e size v l.length (l.flatMap f))
    (v2 : Value) (l2 : List α) (hx : a.eval x = v2) (hrd : RdE f size w v2 l2)
    (hbytes : (l.length + l2.length) * bytes ≤ 140737488355328) (hb1 : 1 ≤ bytes) (hbase : base ≤ w.heap.size)
    (h : ∀ v' w', w'.ownsRow base e size v' (l ++ l2).length ((l ++ l2).flatMap f) → (∀ B W, B ≤ base → Below B W w → Below B W w') → w.grownBy w' v.ownBlock → (v'.ownBlock = v.ownBlock ∨ v'.ownBlock = some w.heap.size) → K (a.put o.dst v') w') :
    if Region.wanted o (yielded ops a.tmps) = true then Oper.wp P o a w K Q else E := by
  have hw : Region.wanted o (yielded ops a.tmps) = true := by simp [Region.wanted, hgd]
  rw [if_pos hw]
  exact wp_appE s x t e ho ht z f size bytes hinfo hzs hsz hm h1 base v l hs hown v2 l2 hx hrd hbytes hb1 hbase h

section
variable {α : Type} {e : TypeId} {f : α → List Value} {m : Nat} {w w' : World} {B : Nat} {v : Value} {l : List α}
/-- A row of the call's own whose block reads as it did. -/
theorem own_same {size n : Nat} {xs : List Value} (h : w.ownsRow B e size v n xs) (hk : ∀ k, v.ownBlock = some k → w'.heap[k]? = w.heap[k]?) : w'.ownsRow B e size v n xs := by
  refine ⟨h.1, ?_⟩
  rcases h.2 with h0 | ⟨g, cap, cur, hv, hbg, hg, rest⟩
  · exact .inl h0
  · refine .inr ⟨g, cap, cur, hv, hbg, ?_, rest⟩
    rw [hk g (by rw [hv]; rfl)]
    exact hg
/-- The head of a slice. -/
theorem RdE.take {A : Option Addr} {n c : Nat} (h : RdE f m w (.slice A n c) l) (k : Nat) (hk : k ≤ l.length) : RdE f m w (.slice A k c) (l.take k) := by
  obtain ⟨A', c', hv, hc, hn, hx⟩ := h
  injection hv with h1 h2 h3
  subst h1 h2 h3
  have hlen : (l.take k).length = k := by simp; omega
  refine ⟨A, c, by rw [hlen], by omega, hn, fun h0 => ?_⟩
  obtain ⟨b, o, hA, hb, hcc⟩ := hx (by omega)
  refine ⟨b, o, hA, hb, fun i x j u hi hj => hcc i x j u ?_ hj⟩
  have hik : i < k := by rw [← hlen]; exact (List.getElem?_eq_some_iff.1 hi).1
  rw [List.getElem?_take_of_lt hik] at hi
  exact hi
/-- The rest of a slice: its address, if anything is left behind it. -/
theorem RdE.drop {b o n c : Nat} (h : RdE f m w (.slice (some ⟨b, o, none⟩) n c) l) (k : Nat) (hk : k ≤ l.length) (A : Option Addr) (hA : k < l.length → A = some ⟨b, o + k * m, none⟩) (hA2 : A ≠ none) :
    RdE f m w (.slice A (n - k) (c - k)) (l.drop k) := by
  obtain ⟨A', c', hv, hc, hn, hx⟩ := h
  injection hv with h1 h2 h3
  subst h1 h2 h3
  refine ⟨A, c - k, by rw [List.length_drop], by rw [List.length_drop]; omega, fun e => absurd e hA2, fun h0 => ?_⟩
  rw [List.length_drop] at h0
  obtain ⟨b', o', hA', hb, hcc⟩ := hx (by omega)
  injection hA' with hA'
  injection hA' with e1 e2 _
  subst e1 e2
  refine ⟨b, o + k * m, hA (by omega), hb, fun i x j u hi hj => ?_⟩
  rw [List.getElem?_drop] at hi
  have := hcc (k + i) x j u hi hj
  rw [show o + ((k + i) * m + j) = o + k * m + (i * m + j) by rw [Nat.add_mul]; omega] at this
  exact this
end

end Go.Proofs.YtpboaadjbkaidaaDoor

namespace Go.Proofs.YtpboaadjbkaidaaDoor
set_option maxRecDepth 100000
open Go.RowKit

set_option maxRecDepth 100000 in
theorem built_atom (p : Nat → Bool) : Tryd.prog.built 26 [(1, .int .i64 1), (0, .agg (setC p).toArray)] = some (atC ⟨p, 1, false⟩).toArray := by kernel_rfl
set_option maxRecDepth 100000 in
theorem fill_atom (x : At) : Instr.fill (fun i => some (i * 34, 34)) ((Array.range (1 * 34)).map ((Value.agg (atC ⟨noP, 0, false⟩).toArray).cells[· % (Value.agg (atC ⟨noP, 0, false⟩).toArray).cells.size]!)) [(0, .agg (atC x).toArray)] = some (atC x).toArray := by kernel_rfl
theorem atom_info : (Tryd.prog.info? 26).map (fun i => (i.zero, i.size, i.bytes)) = some (some (.agg (atC ⟨noP, 0, false⟩).toArray), 34, 48) := by kernel_rfl
/-- The atom in block g. -/
def AtIn (w : World) (g : Nat) (x : At) : Prop := w.heap[g]? = some (.cells (atC x).toArray 26)
theorem AtIn.setMn {w : World} {g : Nat} {p : Nat → Bool} {mn : Int} {many : Bool} (h : AtIn w g ⟨p, mn, many⟩) (k : Int) : AtIn (w.setCell ⟨g, 32, none⟩ (.int .i64 k)) g ⟨p, k, many⟩ := by
  unfold AtIn at *
  rw [heap_setCell_same w g 32 _ _ _ h]
  rfl
theorem AtIn.setMany {w : World} {g : Nat} {p : Nat → Bool} {mn : Int} {many : Bool} (h : AtIn w g ⟨p, mn, many⟩) (k : Bool) : AtIn (w.setCell ⟨g, 33, none⟩ (.bool k)) g ⟨p, mn, k⟩ := by
  unfold AtIn at *
  rw [heap_setCell_same w g 33 _ _ _ h]
  rfl
theorem at_zero (w : World) : AtIn (w.alloc (.cells #[.int .u8 0, .int .u8 0, .int .u8 0, .int .u8 0, .int .u8 0, .int .u8 0, .int .u8 0, .int .u8 0, .int .u8 0, .int .u8 0, .int .u8 0, .int .u8 0, .int .u8 0, .int .u8 0, .int .u8 0, .int .u8 0, .int .u8 0, .int .u8 0, .int .u8 0, .int .u8 0, .int .u8 0, .int .u8 0, .int .u8 0, .int .u8 0, .int .u8 0, .int .u8 0, .int .u8 0, .int .u8 0, .int .u8 0, .int .u8 0, .int .u8 0, .int .u8 0, .int .i64 0, .bool false] 26)) w.heap.size ⟨noP, 0, false⟩ := by
  have e : (#[.int .u8 0, .int .u8 0, .int .u8 0, .int .u8 0, .int .u8 0, .int .u8 0, .int .u8 0, .int .u8 0, .int .u8 0, .int .u8 0, .int .u8 0, .int .u8 0, .int .u8 0, .int .u8 0, .int .u8 0, .int .u8 0, .int .u8 0, .int .u8 0, .int .u8 0, .int .u8 0, .int .u8 0, .int .u8 0, .int .u8 0, .int .u8 0, .int .u8 0, .int .u8 0, .int .u8 0, .int .u8 0, .int .u8 0, .int .u8 0, .int .u8 0, .int .u8 0, .int .i64 0, .bool false] : Array Value) = (atC ⟨noP, 0, false⟩).toArray := by kernel_rfl
  rw [e]
  exact heap_alloc_new w _
theorem AtIn.row {w : World} {g : Nat} {x : At} (h : AtIn w g x) (y : At) : AtIn (w.setRow g (atC y).toArray) g y := setRow_heap w g _ _ _ _ h
theorem atom_size : (Tryd.prog.info? 26).map (·.size) = some 34 := by kernel_rfl
theorem atC_size (x : At) : (atC x).toArray.size = 34 := by rw [List.size_toArray, atC_len]
theorem atC_oneA (x : At) : (atC x).toArray.all (·.oneCell') = true := by
  rw [Array.all_eq_true_iff_forall_mem]
  intro v hv
  have h := List.mem_toArray.1 hv
  unfold atC at h
  rcases List.mem_append.1 h with h | h
  · have := (Array.all_eq_true_iff_forall_mem.1 (setC_one x.p)) v (List.mem_toArray.2 h)
    exact this
  · simp at h
    rcases h with rfl | rfl <;> rfl
theorem wpList_buildAtom {ops : Array Oper} {rest : List Oper} {o : Oper} {a : Act} {w : World} {Q : Exit → Act → World → Prop} (hg : o.guard = none) (x : Operand) (ho : o.op = .build 26 #[(1, .const (.int .i64 1)), (0, x)]) (p : Nat → Bool)
    (hx : a.eval x = .agg (setC p).toArray)
    (h : wpList Tryd.prog ops Q rest (a.put o.dst (.agg (atC ⟨p, 1, false⟩).toArray)) w) : wpList Tryd.prog ops Q (o :: rest) a w := by
  have hp : (Array.map (fun ((i, x) : Nat × Operand) => (i, a.eval x)) #[(1, .const (.int .i64 1)), (0, x)]).toList = [(1, .int .i64 1), (0, .agg (setC p).toArray)] := by
    simp only [List.map_toArray, List.map_cons, List.map_nil, hx]
    rfl
  exact wpList_build hg 26 _ ho (by rw [hp, built_atom]; rfl) (by rw [hp, built_atom]; exact h)
theorem AtIn.mn {w : World} {g : Nat} {x : At} (h : AtIn w g x) : w.cell? ⟨g, 32, none⟩ = some (.int .i64 x.mn) := by
  rw [cell_of_row _ _ _ _ _ _ h]
  simpa using atC_mn x
theorem AtIn.many {w : World} {g : Nat} {x : At} (h : AtIn w g x) : w.cell? ⟨g, 33, none⟩ = some (.bool x.many) := by
  rw [cell_of_row _ _ _ _ _ _ h]
  simpa using atC_many x
theorem AtIn.free {w : World} {g : Nat} {x : At} (h : AtIn w g x) (k : Nat) : w.frozen? ⟨g, k, none⟩ = false := frozen_of_row w g k _ _ h
theorem AtIn.keep {w w' : World} {g : Nat} {x : At} (h : AtIn w g x) (e : w'.heap[g]? = w.heap[g]?) : AtIn w' g x := e.trans h
theorem atC_one (x : At) : ∀ u ∈ atC x, u.oneCell' = true := fun u hu => (Array.all_eq_true_iff_forall_mem.1 (atC_oneA x)) u (List.mem_toArray.2 hu)
theorem below_set {a w : World} {B g : Nat} (h : Below B a w) (hg : B ≤ g) (k : Nat) (u : Value) : Below B a (w.setCell ⟨g, k, none⟩ u) := h.setCell hg _
theorem own_setAt {w : World} {B : Nat} {e : TypeId} {size n : Nat} {v : Value} {xs : List Value} {g : Nat} (h : w.ownsRow B e size v n xs) (hk : ∀ k, v.ownBlock = some k → k ≠ g) (j : Nat) (u : Value) : (w.setCell ⟨g, j, none⟩ u).ownsRow B e size v n xs :=
  own_same h fun k hv => Below.heap_setCell _ _ _ _ (hk k hv)
theorem wpList_buildOne {ops : Array Oper} {rest : List Oper} {o : Oper} {a : Act} {w : World} {Q : Exit → Act → World → Prop} (hg : o.guard = none) (x : Operand) (ho : o.op = .buildSlice 28 1 #[(0, x)]) (y : At) (hx : a.eval x = .agg (atC y).toArray)
    (h : wpList Tryd.prog ops Q rest (a.put o.dst (.slice (some ⟨w.heap.size, 0, none⟩) 1 1)) (w.alloc (.cells (atC y).toArray 26))) : wpList Tryd.prog ops Q (o :: rest) a w := by
  obtain ⟨i, hi, hz, hsize, hby⟩ := info_parts atom_info
  refine wpList_buildSlice hg 28 26 1 #[(0, x)] ho (atC y).toArray i _ Tryd.underlying28 hi hz (by rw [hsize]; decide) (by rw [hsize]; decide) ?_ h
  rw [hsize]
  simp only [List.map_toArray, List.map_cons, List.map_nil, hx]
  exact fill_atom y
/-- What a call of Parse gives. -/
def RetPar (w : World) (r : List At × Nat × Int) (e : Ending) (w' : World) : Prop := ∃ v, e = .returned (.tuple #[v, .int .i64 (r.2.1 : Nat), .int .i64 r.2.2]) ∧ OwnE 26 atC 34 w' w.heap.size v r.1 ∧ Below w.heap.size w w'

set_option maxRecDepth 100000 in
set_option maxHeartbeats 4000000 in
theorem parse_any (w : World) (s : ByteArray) (hs : s.size ≤ 2147483648) :
    Calls Tryd.prog 113 #[.string s] w (RetPar w (parseF s)) := by
  have HS0 : Hid (ScIn (w.alloc (.cells #[.string s, .int .i64 0, .bool false] 137)) w.heap.size s 0 false) := heap_alloc_new w _
  have HB0 := Lib.hid ((Below.refl w.heap.size w).alloc (Nat.le_refl _) (.cells #[.string s, .int .i64 0, .bool false] 137))
  generalize hV : parseF s = V
  have HV : Hid (parseL s (s.size + 1) 0 [] = V) := hV
  clear hV
  go_enter Tryd.func113, Tryd.ntmps113
  go_wp2_with fail
  generalize w.alloc (.cells #[.string s, .int .i64 0, .bool false] 137) = w1 at HS0 HB0 ⊢
  go_loopw [2] (fun kv wr => ∃ (i : Nat) (l : List At), Hid (ScIn wr w.heap.size s i false) ∧ i ≤ s.size ∧ l.length ≤ 32 ∧ Hid (OwnE 26 atC 34 wr (w.heap.size + 1) kv l) ∧ Hid (Below w.heap.size w wr) ∧ ∃ f, Hid (s.size - i < f ∧ parseL s f i l = V)) (fun kv _ => 33 - (match kv with | .slice _ n _ => n | _ => 0))
  case atStart => exact ⟨0, [], HS0.out, by omega, by simp, OwnE.nil, HB0.out, s.size + 1, by omega, HV.out⟩
  case round =>
    clear HS0 HB0 HV
    obtain ⟨i, l, HS, hi, hl, HO, HB, f, HX⟩ := hrel
    obtain ⟨A, cA, hkv⟩ := own_shape HO.out
    subst hkv
    obtain ⟨f', HF'⟩ : ∃ f', Hid (f = f' + 1) := ⟨f - 1, by have := HX.out.1; show _ = _; omega⟩
    by_cases hlt : i < s.size
    · have HX1 : Hid (s.size - i < f' + 1 ∧ (if 32 ≤ l.length then ([], i, 3) else if (outF s i).bad = true then ([], (outF s i).j, 2) else parseL s f' (quantF s (outF s i).j).2.2 (l ++ [⟨(outF s i).p, (quantF s (outF s i).j).1, (quantF s (outF s i).j).2.1⟩])) = V) := by
        have h := HX.out
        rw [HF'.out] at h
        unfold parseL at h
        rw [if_pos hlt] at h
        exact h
      clear HX HF'
      go_upto_region 3 with (go_at_call 120; refine (more_any _ w.heap.size s i false (by exact HS.out) (by unfold maxLen; omega)).mono ?_; rintro e w' ⟨rfl, nm, rfl⟩)
      have HS1 : Hid (ScIn (wr.drewN nm) w.heap.size s i false) := HS.out
      have HO1 : Hid (OwnE 26 atC 34 (wr.drewN nm) (w.heap.size + 1) (.slice A l.length cA) l) := HO.out
      have HB1 : Hid (Below w.heap.size w (wr.drewN nm)) := below_drewN HB.out nm
      clear HS HO HB
      generalize wr.drewN nm = w2 at HS1 HO1 HB1 ⊢
      have q1 := HS1.out.c1
      by_cases h32 : 32 ≤ l.length
      · have HVE : Hid (V = ([], i, 3)) := by show _ = _; rw [← HX1.out.2, if_pos h32]
        go_wp2_with fail
        go_ret3
        rw [HVE.out]
        exact ⟨_, rfl, OwnE.nil, HB1.out⟩
      · have HX2 : Hid (s.size - i < f' + 1 ∧ (if (outF s i).bad = true then ([], (outF s i).j, 2) else parseL s f' (quantF s (outF s i).j).2.2 (l ++ [⟨(outF s i).p, (quantF s (outF s i).j).1, (quantF s (outF s i).j).2.1⟩])) = V) := by
          have h := HX1.out
          rw [if_neg h32] at h
          exact h
        have HJ := Lib.hid (outF_ok s i hlt)
        have HE := Lib.hid (outside_any w2 w.heap.size s i HS1.out hlt hs)
        obtain ⟨⟨p0, b0, one0, j0, bad0⟩, HD⟩ : ∃ r, Hid (r = outF s i) := ⟨_, rfl⟩
        rw [← HD.out] at HX2 HJ HE
        clear HD HX1
        go_upto_region 7 with (first
          | (go_at_call 121; refine HE.out.mono ?_; rintro e w3 ⟨rfl, hs3, ho3⟩; rename_i K8 hK8; dsimp only at hs3 ⊢; refine hK8 _ _ ?_; clear hK8; refine wpList_buildAtom rfl (.tmp 22) rfl p0 rfl ?_)
          | (refine wpList_store_row rfl 26 (.tmp 7) (.tmp 23) rfl (w3.heap.size) (atC ⟨p0, 1, false⟩).toArray rfl rfl 26 (atC ⟨noP, 0, false⟩).toArray (at_zero w3) (by rw [atom_size, atC_size]) (by simp only [atC_size]) (atC_oneA _) ?_))
        have hR3 := hs3.lt
        have HS3 := Lib.hid ((hs3.below ((Below.refl _ w3).alloc (Nat.le_refl _) (.cells #[.int .u8 0, .int .u8 0, .int .u8 0, .int .u8 0, .int .u8 0, .int .u8 0, .int .u8 0, .int .u8 0, .int .u8 0, .int .u8 0, .int .u8 0, .int .u8 0, .int .u8 0, .int .u8 0, .int .u8 0, .int .u8 0, .int .u8 0, .int .u8 0, .int .u8 0, .int .u8 0, .int .u8 0, .int .u8 0, .int .u8 0, .int .u8 0, .int .u8 0, .int .u8 0, .int .u8 0, .int .u8 0, .int .u8 0, .int .u8 0, .int .u8 0, .int .u8 0, .int .i64 0, .bool false] 26))).keep (w' := (w3.alloc (.cells #[.int .u8 0, .int .u8 0, .int .u8 0, .int .u8 0, .int .u8 0, .int .u8 0, .int .u8 0, .int .u8 0, .int .u8 0, .int .u8 0, .int .u8 0, .int .u8 0, .int .u8 0, .int .u8 0, .int .u8 0, .int .u8 0, .int .u8 0, .int .u8 0, .int .u8 0, .int .u8 0, .int .u8 0, .int .u8 0, .int .u8 0, .int .u8 0, .int .u8 0, .int .u8 0, .int .u8 0, .int .u8 0, .int .u8 0, .int .u8 0, .int .u8 0, .int .u8 0, .int .i64 0, .bool false] 26)).setRow w3.heap.size (atC ⟨p0, 1, false⟩).toArray) (setRow_other _ _ _ _ (by omega)))
        have HA3 := Lib.hid ((at_zero w3).row ⟨p0, 1, false⟩)
        have HB3 : Hid (Below w.heap.size w ((w3.alloc (.cells #[.int .u8 0, .int .u8 0, .int .u8 0, .int .u8 0, .int .u8 0, .int .u8 0, .int .u8 0, .int .u8 0, .int .u8 0, .int .u8 0, .int .u8 0, .int .u8 0, .int .u8 0, .int .u8 0, .int .u8 0, .int .u8 0, .int .u8 0, .int .u8 0, .int .u8 0, .int .u8 0, .int .u8 0, .int .u8 0, .int .u8 0, .int .u8 0, .int .u8 0, .int .u8 0, .int .u8 0, .int .u8 0, .int .u8 0, .int .u8 0, .int .u8 0, .int .u8 0, .int .i64 0, .bool false] 26)).setRow w3.heap.size (atC ⟨p0, 1, false⟩).toArray)) := below_setRow ((HB1.out.trans (ho3.below (Nat.le_refl _) HB1.out.size)).alloc (Nat.le_of_lt hR3) _) (Nat.le_of_lt hR3) _
        have HO3 : Hid (OwnE 26 atC 34 ((w3.alloc (.cells #[.int .u8 0, .int .u8 0, .int .u8 0, .int .u8 0, .int .u8 0, .int .u8 0, .int .u8 0, .int .u8 0, .int .u8 0, .int .u8 0, .int .u8 0, .int .u8 0, .int .u8 0, .int .u8 0, .int .u8 0, .int .u8 0, .int .u8 0, .int .u8 0, .int .u8 0, .int .u8 0, .int .u8 0, .int .u8 0, .int .u8 0, .int .u8 0, .int .u8 0, .int .u8 0, .int .u8 0, .int .u8 0, .int .u8 0, .int .u8 0, .int .u8 0, .int .u8 0, .int .i64 0, .bool false] 26)).setRow w3.heap.size (atC ⟨p0, 1, false⟩).toArray) (w.heap.size + 1) (.slice A l.length cA) l) := own_same HO1.out fun k hk => by
          have h1 := HO1.out.lt k hk
          rw [setRow_other _ _ _ _ (by have := ho3.size; omega), Below.heap_alloc _ _ _ (by have := ho3.size; omega)]
          exact ho3.block k h1.2 (by omega)
        have hg3 : w.heap.size < w3.heap.size := hR3
        have HG : Hid (∀ k, (Value.slice A l.length cA).ownBlock = some k → k ≠ w3.heap.size) := fun k hk => by
          have h1 := HO1.out.lt k hk
          have := ho3.size
          omega
        have HGR : Hid (∀ k, (Value.slice A l.length cA).ownBlock = some k → k ≠ w.heap.size) := fun k hk => by
          have h1 := HO1.out.lt k hk
          omega
        clear hs3 ho3 HS1 HO1 HB1 HE q1 hR3
        generalize hw3 : w3.heap.size = g at HS3 HA3 HB3 HO3 hg3 HG ⊢
        generalize (w3.alloc (.cells #[.int .u8 0, .int .u8 0, .int .u8 0, .int .u8 0, .int .u8 0, .int .u8 0, .int .u8 0, .int .u8 0, .int .u8 0, .int .u8 0, .int .u8 0, .int .u8 0, .int .u8 0, .int .u8 0, .int .u8 0, .int .u8 0, .int .u8 0, .int .u8 0, .int .u8 0, .int .u8 0, .int .u8 0, .int .u8 0, .int .u8 0, .int .u8 0, .int .u8 0, .int .u8 0, .int .u8 0, .int .u8 0, .int .u8 0, .int .u8 0, .int .u8 0, .int .u8 0, .int .i64 0, .bool false] 26)).setRow g (atC ⟨p0, 1, false⟩).toArray = w4 at HS3 HA3 HB3 HO3 ⊢
        clear hw3
        have q2 := HS3.out.c2
        have q1 := HS3.out.c1
        by_cases hbad : bad0 = true
        · subst hbad
          have HVE : Hid (V = ([], j0, 2)) := by show _ = _; rw [← HX2.out.2, if_pos rfl]
          go_wp2_with fail
          go_quiet (fail)
          go_wp2_with fail
          go_ret3
          rw [HVE.out]
          exact ⟨_, rfl, OwnE.nil, below_drewN HB3.out _⟩
        · have hbad' : bad0 = false := by simpa using hbad
          subst hbad'
          have hj1 : i < j0 := (HJ.out rfl).1
          have hj2 : j0 ≤ s.size := (HJ.out rfl).2
          have HX3 : Hid (s.size - i < f' + 1 ∧ parseL s f' (quantF s j0).2.2 (l ++ [⟨p0, (quantF s j0).1, (quantF s j0).2.1⟩]) = V) := by
            have h := HX2.out
            rw [if_neg (by simp)] at h
            exact h
          clear HX2 HJ hbad q1
          by_cases hj0 : j0 < s.size
          · have hj0i : (j0 : Int) < (s.size : Int) := by omega
            go_upto_region 10 with (go_at_call 120; refine (more_any _ w.heap.size s j0 false (by exact HS3.out) (by unfold maxLen; omega)).mono ?_; rintro e w' ⟨rfl, nm, rfl⟩)
            have HS5 : Hid (ScIn (w4.drewN nm) w.heap.size s j0 false) := HS3.out
            have HA5 : Hid (AtIn (w4.drewN nm) g ⟨p0, 1, false⟩) := HA3.out
            have HO5 : Hid (OwnE 26 atC 34 (w4.drewN nm) (w.heap.size + 1) (.slice A l.length cA) l) := HO3.out
            have HB5 : Hid (Below w.heap.size w (w4.drewN nm)) := below_drewN HB3.out nm
            clear HS3 HA3 HO3 HB3 q2
            generalize w4.drewN nm = w5 at HS5 HA5 HB5 HO5 ⊢
            have q0 := HS5.out.c0
            have q1 := HS5.out.c1
            have f1 := HS5.out.free 1
            have r32 : w5.cell? ⟨g, 32, none⟩ = some (.int .i64 1) := HA5.out.mn
            have r33 : w5.cell? ⟨g, 33, none⟩ = some (.bool false) := HA5.out.many
            have g32 := HA5.out.free 32
            have g33 := HA5.out.free 33
            by_cases h42 : s[j0].toNat = 42
            · have t42 : ((s[j0].toNat : Int) == 42) = true := beq_iff_eq.2 (by omega)
              have h42' : bt s j0 = 42 := by rw [bt_get s j0 hj0]; exact h42
              clear h42
              have HQ : Hid (quantF s j0 = (0, true, j0 + 1)) := by
                show _ = _
                unfold quantF
                rw [if_pos hj0, if_pos h42']
              have HS6 : Hid (ScIn (((w5.setCell ⟨g, 32, none⟩ (.int .i64 0)).setCell ⟨g, 33, none⟩ (.bool true)).setCell ⟨w.heap.size, 1, none⟩ (.int .i64 ((j0 + 1 : Nat) : Int))) w.heap.size s (j0 + 1) false) := (((HS5.out.other (Nat.ne_of_lt hg3) 32 (.int .i64 0)).other (Nat.ne_of_lt hg3) 33 (.bool true)).set1 (j0 + 1))
              have HA6 : Hid (AtIn (((w5.setCell ⟨g, 32, none⟩ (.int .i64 0)).setCell ⟨g, 33, none⟩ (.bool true)).setCell ⟨w.heap.size, 1, none⟩ (.int .i64 ((j0 + 1 : Nat) : Int))) g ⟨p0, 0, true⟩) := (((HA5.out.setMn _).setMany _).keep (Below.heap_setCell _ ⟨w.heap.size, 1, none⟩ _ _ (Nat.ne_of_gt hg3)))
              have HB6 : Hid (Below w.heap.size w (((w5.setCell ⟨g, 32, none⟩ (.int .i64 0)).setCell ⟨g, 33, none⟩ (.bool true)).setCell ⟨w.heap.size, 1, none⟩ (.int .i64 ((j0 + 1 : Nat) : Int)))) := (below_set (below_set (below_set HB5.out (Nat.le_of_lt hg3) _ _) (Nat.le_of_lt hg3) _ _) (Nat.le_refl _) _ _)
              have HO6 : Hid (OwnE 26 atC 34 (((w5.setCell ⟨g, 32, none⟩ (.int .i64 0)).setCell ⟨g, 33, none⟩ (.bool true)).setCell ⟨w.heap.size, 1, none⟩ (.int .i64 ((j0 + 1 : Nat) : Int))) (w.heap.size + 1) (.slice A l.length cA) l) := (own_setAt (own_setAt (own_setAt HO5.out HG.out _ _) HG.out _ _) HGR.out _ _)
              go_upto_region 20 with fail
              rw [show (j0 : Int) + 1 = ((j0 + 1 : Nat) : Int) by omega]
              clear HS5 HA5 HB5 HO5 q0 q1 f1 r32 r33 g32 g33
              generalize ((w5.setCell ⟨g, 32, none⟩ (.int .i64 0)).setCell ⟨g, 33, none⟩ (.bool true)).setCell ⟨w.heap.size, 1, none⟩ (.int .i64 ((j0 + 1 : Nat) : Int)) = w6 at HS6 HA6 HB6 HO6 ⊢
              have hz6 := HS6.out.lt
              go_wp2_with (first
                | (refine wpList_load_row rfl 26 (.tmp 7) rfl (g) rfl 26 (atC ⟨p0, 0, true⟩).toArray (0, 0) _ HA6.out Tryd.underlying26 rfl (by rw [atom_size, atC_size]) ?_)
                | (refine wpList_buildOne rfl (.tmp 72) (by rfl) ⟨p0, 0, true⟩ (by rfl) ?_)
                | (refine wpList_app1 rfl (.tmp 71) (.tmp 73) 28 26 rfl Tryd.underlying28 _ 34 48 atom_info rfl (by decide) (w.heap.size + 1) (.slice A l.length cA) l.length (l.flatMap atC) rfl (own_below HO6.out ((Below.refl _ w6).alloc (Nat.le_refl _) _) (Nat.le_refl _)) ⟨w6.heap.size, 0, none⟩ 1 (atC ⟨p0, 0, true⟩) rfl (atC_len _) (cells_new w6 (atC ⟨p0, 0, true⟩) 26) (atC_one _) (by omega) (by decide) (by simp; omega) ?_; intro g2 cap w9 hown9 hbg9 hbel9 hgrow9))
              have HS9 := Lib.hid (HS6.out.keep ((hbel9 (w.heap.size + 1) w6 (Nat.le_refl _) ((Below.refl _ w6).alloc (by omega) _)).block _ (Nat.lt_succ_self _)))
              have HB9 := Lib.hid (hbel9 w.heap.size w (Nat.le_succ _) (HB6.out.alloc (by omega) _))
              have HO9 : Hid (OwnE 26 atC 34 w9 (w.heap.size + 1) (.slice (some ⟨g2, 0, none⟩) (l.length + 1) cap) (l ++ [⟨p0, 0, true⟩])) := OwnE.snoc hown9
              have HXE : Hid (s.size - (j0 + 1) < f' ∧ parseL s f' (j0 + 1) (l ++ [⟨p0, 0, true⟩]) = V) := by
                have h := HX3.out
                rw [HQ.out] at h
                exact ⟨by omega, h.2⟩
              clear hown9 hbel9 hgrow9 HX3 HQ HS6 HA6 HB6 HO6
              go_roundw
              case rel => exact ⟨(j0 + 1), l ++ [(At.mk p0 0 true)], HS9.out, by omega, by simp; omega, HO9.out, HB9.out, f', HXE.out⟩
              case measure => simp; omega
            · have t42 : ((s[j0].toNat : Int) == 42) = false := beq_eq_false_iff_ne.2 (by omega)
              have h42' : ¬ bt s j0 = 42 := by rw [bt_get s j0 hj0]; exact h42
              clear h42
              by_cases h43 : s[j0].toNat = 43
              · have t43 : ((s[j0].toNat : Int) == 43) = true := beq_iff_eq.2 (by omega)
                have h43' : bt s j0 = 43 := by rw [bt_get s j0 hj0]; exact h43
                clear h43
                have HQ : Hid (quantF s j0 = (1, true, j0 + 1)) := by
                  show _ = _
                  unfold quantF
                  rw [if_pos hj0, if_neg h42', if_pos h43']
                have HS6 : Hid (ScIn ((w5.setCell ⟨g, 33, none⟩ (.bool true)).setCell ⟨w.heap.size, 1, none⟩ (.int .i64 ((j0 + 1 : Nat) : Int))) w.heap.size s (j0 + 1) false) := ((HS5.out.other (Nat.ne_of_lt hg3) 33 (.bool true)).set1 (j0 + 1))
                have HA6 : Hid (AtIn ((w5.setCell ⟨g, 33, none⟩ (.bool true)).setCell ⟨w.heap.size, 1, none⟩ (.int .i64 ((j0 + 1 : Nat) : Int))) g ⟨p0, 1, true⟩) := ((HA5.out.setMany _).keep (Below.heap_setCell _ ⟨w.heap.size, 1, none⟩ _ _ (Nat.ne_of_gt hg3)))
                have HB6 : Hid (Below w.heap.size w ((w5.setCell ⟨g, 33, none⟩ (.bool true)).setCell ⟨w.heap.size, 1, none⟩ (.int .i64 ((j0 + 1 : Nat) : Int)))) := (below_set (below_set HB5.out (Nat.le_of_lt hg3) _ _) (Nat.le_refl _) _ _)
                have HO6 : Hid (OwnE 26 atC 34 ((w5.setCell ⟨g, 33, none⟩ (.bool true)).setCell ⟨w.heap.size, 1, none⟩ (.int .i64 ((j0 + 1 : Nat) : Int))) (w.heap.size + 1) (.slice A l.length cA) l) := (own_setAt (own_setAt HO5.out HG.out _ _) HGR.out _ _)
                go_upto_region 20 with fail
                rw [show (j0 : Int) + 1 = ((j0 + 1 : Nat) : Int) by omega]
                clear HS5 HA5 HB5 HO5 q0 q1 f1 r32 r33 g32 g33
                generalize (w5.setCell ⟨g, 33, none⟩ (.bool true)).setCell ⟨w.heap.size, 1, none⟩ (.int .i64 ((j0 + 1 : Nat) : Int)) = w6 at HS6 HA6 HB6 HO6 ⊢
                have hz6 := HS6.out.lt
                go_wp2_with (first
                  | (refine wpList_load_row rfl 26 (.tmp 7) rfl (g) rfl 26 (atC ⟨p0, 1, true⟩).toArray (0, 0) _ HA6.out Tryd.underlying26 rfl (by rw [atom_size, atC_size]) ?_)
                  | (refine wpList_buildOne rfl (.tmp 72) (by rfl) ⟨p0, 1, true⟩ (by rfl) ?_)
                  | (refine wpList_app1 rfl (.tmp 71) (.tmp 73) 28 26 rfl Tryd.underlying28 _ 34 48 atom_info rfl (by decide) (w.heap.size + 1) (.slice A l.length cA) l.length (l.flatMap atC) rfl (own_below HO6.out ((Below.refl _ w6).alloc (Nat.le_refl _) _) (Nat.le_refl _)) ⟨w6.heap.size, 0, none⟩ 1 (atC ⟨p0, 1, true⟩) rfl (atC_len _) (cells_new w6 (atC ⟨p0, 1, true⟩) 26) (atC_one _) (by omega) (by decide) (by simp; omega) ?_; intro g2 cap w9 hown9 hbg9 hbel9 hgrow9))
                have HS9 := Lib.hid (HS6.out.keep ((hbel9 (w.heap.size + 1) w6 (Nat.le_refl _) ((Below.refl _ w6).alloc (by omega) _)).block _ (Nat.lt_succ_self _)))
                have HB9 := Lib.hid (hbel9 w.heap.size w (Nat.le_succ _) (HB6.out.alloc (by omega) _))
                have HO9 : Hid (OwnE 26 atC 34 w9 (w.heap.size + 1) (.slice (some ⟨g2, 0, none⟩) (l.length + 1) cap) (l ++ [⟨p0, 1, true⟩])) := OwnE.snoc hown9
                have HXE : Hid (s.size - (j0 + 1) < f' ∧ parseL s f' (j0 + 1) (l ++ [⟨p0, 1, true⟩]) = V) := by
                  have h := HX3.out
                  rw [HQ.out] at h
                  exact ⟨by omega, h.2⟩
                clear hown9 hbel9 hgrow9 HX3 HQ HS6 HA6 HB6 HO6
                go_roundw
                case rel => exact ⟨(j0 + 1), l ++ [(At.mk p0 1 true)], HS9.out, by omega, by simp; omega, HO9.out, HB9.out, f', HXE.out⟩
                case measure => simp; omega
              · have t43 : ((s[j0].toNat : Int) == 43) = false := beq_eq_false_iff_ne.2 (by omega)
                have h43' : ¬ bt s j0 = 43 := by rw [bt_get s j0 hj0]; exact h43
                clear h43
                by_cases h63 : s[j0].toNat = 63
                · have t63 : ((s[j0].toNat : Int) == 63) = true := beq_iff_eq.2 (by omega)
                  have h63' : bt s j0 = 63 := by rw [bt_get s j0 hj0]; exact h63
                  clear h63
                  have HQ : Hid (quantF s j0 = (0, false, j0 + 1)) := by
                    show _ = _
                    unfold quantF
                    rw [if_pos hj0, if_neg h42', if_neg h43', if_pos h63']
                  have HS6 : Hid (ScIn ((w5.setCell ⟨g, 32, none⟩ (.int .i64 0)).setCell ⟨w.heap.size, 1, none⟩ (.int .i64 ((j0 + 1 : Nat) : Int))) w.heap.size s (j0 + 1) false) := ((HS5.out.other (Nat.ne_of_lt hg3) 32 (.int .i64 0)).set1 (j0 + 1))
                  have HA6 : Hid (AtIn ((w5.setCell ⟨g, 32, none⟩ (.int .i64 0)).setCell ⟨w.heap.size, 1, none⟩ (.int .i64 ((j0 + 1 : Nat) : Int))) g ⟨p0, 0, false⟩) := ((HA5.out.setMn _).keep (Below.heap_setCell _ ⟨w.heap.size, 1, none⟩ _ _ (Nat.ne_of_gt hg3)))
                  have HB6 : Hid (Below w.heap.size w ((w5.setCell ⟨g, 32, none⟩ (.int .i64 0)).setCell ⟨w.heap.size, 1, none⟩ (.int .i64 ((j0 + 1 : Nat) : Int)))) := (below_set (below_set HB5.out (Nat.le_of_lt hg3) _ _) (Nat.le_refl _) _ _)
                  have HO6 : Hid (OwnE 26 atC 34 ((w5.setCell ⟨g, 32, none⟩ (.int .i64 0)).setCell ⟨w.heap.size, 1, none⟩ (.int .i64 ((j0 + 1 : Nat) : Int))) (w.heap.size + 1) (.slice A l.length cA) l) := (own_setAt (own_setAt HO5.out HG.out _ _) HGR.out _ _)
                  go_upto_region 20 with fail
                  rw [show (j0 : Int) + 1 = ((j0 + 1 : Nat) : Int) by omega]
                  clear HS5 HA5 HB5 HO5 q0 q1 f1 r32 r33 g32 g33
                  generalize (w5.setCell ⟨g, 32, none⟩ (.int .i64 0)).setCell ⟨w.heap.size, 1, none⟩ (.int .i64 ((j0 + 1 : Nat) : Int)) = w6 at HS6 HA6 HB6 HO6 ⊢
                  have hz6 := HS6.out.lt
                  go_wp2_with (first
                    | (refine wpList_load_row rfl 26 (.tmp 7) rfl (g) rfl 26 (atC ⟨p0, 0, false⟩).toArray (0, 0) _ HA6.out Tryd.underlying26 rfl (by rw [atom_size, atC_size]) ?_)
                    | (refine wpList_buildOne rfl (.tmp 72) (by rfl) ⟨p0, 0, false⟩ (by rfl) ?_)
                    | (refine wpList_app1 rfl (.tmp 71) (.tmp 73) 28 26 rfl Tryd.underlying28 _ 34 48 atom_info rfl (by decide) (w.heap.size + 1) (.slice A l.length cA) l.length (l.flatMap atC) rfl (own_below HO6.out ((Below.refl _ w6).alloc (Nat.le_refl _) _) (Nat.le_refl _)) ⟨w6.heap.size, 0, none⟩ 1 (atC ⟨p0, 0, false⟩) rfl (atC_len _) (cells_new w6 (atC ⟨p0, 0, false⟩) 26) (atC_one _) (by omega) (by decide) (by simp; omega) ?_; intro g2 cap w9 hown9 hbg9 hbel9 hgrow9))
                  have HS9 := Lib.hid (HS6.out.keep ((hbel9 (w.heap.size + 1) w6 (Nat.le_refl _) ((Below.refl _ w6).alloc (by omega) _)).block _ (Nat.lt_succ_self _)))
                  have HB9 := Lib.hid (hbel9 w.heap.size w (Nat.le_succ _) (HB6.out.alloc (by omega) _))
                  have HO9 : Hid (OwnE 26 atC 34 w9 (w.heap.size + 1) (.slice (some ⟨g2, 0, none⟩) (l.length + 1) cap) (l ++ [⟨p0, 0, false⟩])) := OwnE.snoc hown9
                  have HXE : Hid (s.size - (j0 + 1) < f' ∧ parseL s f' (j0 + 1) (l ++ [⟨p0, 0, false⟩]) = V) := by
                    have h := HX3.out
                    rw [HQ.out] at h
                    exact ⟨by omega, h.2⟩
                  clear hown9 hbel9 hgrow9 HX3 HQ HS6 HA6 HB6 HO6
                  go_roundw
                  case rel => exact ⟨(j0 + 1), l ++ [(At.mk p0 0 false)], HS9.out, by omega, by simp; omega, HO9.out, HB9.out, f', HXE.out⟩
                  case measure => simp; omega
                · have t63 : ((s[j0].toNat : Int) == 63) = false := beq_eq_false_iff_ne.2 (by omega)
                  have h63' : ¬ bt s j0 = 63 := by rw [bt_get s j0 hj0]; exact h63
                  clear h63
                  have HQ : Hid (quantF s j0 = (1, false, j0)) := by
                    show _ = _
                    unfold quantF
                    rw [if_pos hj0, if_neg h42', if_neg h43', if_neg h63']
                  go_upto_region 20 with fail
                  clear q0 q1 f1 r32 r33 g32 g33
                  have hz5 := HS5.out.lt
                  go_wp2_with (first
                    | (refine wpList_load_row rfl 26 (.tmp 7) rfl (g) rfl 26 (atC ⟨p0, 1, false⟩).toArray (0, 0) _ HA5.out Tryd.underlying26 rfl (by rw [atom_size, atC_size]) ?_)
                    | (refine wpList_buildOne rfl (.tmp 72) (by rfl) ⟨p0, 1, false⟩ (by rfl) ?_)
                    | (refine wpList_app1 rfl (.tmp 71) (.tmp 73) 28 26 rfl Tryd.underlying28 _ 34 48 atom_info rfl (by decide) (w.heap.size + 1) (.slice A l.length cA) l.length (l.flatMap atC) rfl (own_below HO5.out ((Below.refl _ w5).alloc (Nat.le_refl _) _) (Nat.le_refl _)) ⟨w5.heap.size, 0, none⟩ 1 (atC ⟨p0, 1, false⟩) rfl (atC_len _) (cells_new w5 (atC ⟨p0, 1, false⟩) 26) (atC_one _) (by omega) (by decide) (by simp; omega) ?_; intro g2 cap w9 hown9 hbg9 hbel9 hgrow9))
                  have HS9 := Lib.hid (HS5.out.keep ((hbel9 (w.heap.size + 1) w5 (Nat.le_refl _) ((Below.refl _ w5).alloc (by omega) _)).block _ (Nat.lt_succ_self _)))
                  have HB9 := Lib.hid (hbel9 w.heap.size w (Nat.le_succ _) (HB5.out.alloc (by omega) _))
                  have HO9 : Hid (OwnE 26 atC 34 w9 (w.heap.size + 1) (.slice (some ⟨g2, 0, none⟩) (l.length + 1) cap) (l ++ [⟨p0, 1, false⟩])) := OwnE.snoc hown9
                  have HXE : Hid (s.size - j0 < f' ∧ parseL s f' j0 (l ++ [⟨p0, 1, false⟩]) = V) := by
                    have h := HX3.out
                    rw [HQ.out] at h
                    exact ⟨by omega, h.2⟩
                  clear hown9 hbel9 hgrow9 HX3 HQ HS5 HA5 HB5 HO5
                  go_roundw
                  case rel => exact ⟨j0, l ++ [(At.mk p0 1 false)], HS9.out, by omega, by simp; omega, HO9.out, HB9.out, f', HXE.out⟩
                  case measure => simp; omega
          · have HQ : Hid (quantF s j0 = (1, false, j0)) := by
              show _ = _
              unfold quantF
              rw [if_neg hj0]
            go_upto_region 20 with (go_at_call 120; refine (more_any _ w.heap.size s j0 false (by exact HS3.out) (by unfold maxLen; omega)).mono ?_; rintro e w' ⟨rfl, nm, rfl⟩)
            have HS5 : Hid (ScIn (w4.drewN nm) w.heap.size s j0 false) := HS3.out
            have HA5 : Hid (AtIn (w4.drewN nm) g ⟨p0, 1, false⟩) := HA3.out
            have HO5 : Hid (OwnE 26 atC 34 (w4.drewN nm) (w.heap.size + 1) (.slice A l.length cA) l) := HO3.out
            have HB5 : Hid (Below w.heap.size w (w4.drewN nm)) := below_drewN HB3.out nm
            clear HS3 HA3 HO3 HB3 q2
            generalize w4.drewN nm = w5 at HS5 HA5 HB5 HO5 ⊢
            have hz5 := HS5.out.lt
            go_wp2_with (first
              | (refine wpList_load_row rfl 26 (.tmp 7) rfl (g) rfl 26 (atC ⟨p0, 1, false⟩).toArray (0, 0) _ HA5.out Tryd.underlying26 rfl (by rw [atom_size, atC_size]) ?_)
              | (refine wpList_buildOne rfl (.tmp 72) (by rfl) ⟨p0, 1, false⟩ (by rfl) ?_)
              | (refine wpList_app1 rfl (.tmp 71) (.tmp 73) 28 26 rfl Tryd.underlying28 _ 34 48 atom_info rfl (by decide) (w.heap.size + 1) (.slice A l.length cA) l.length (l.flatMap atC) rfl (own_below HO5.out ((Below.refl _ w5).alloc (Nat.le_refl _) _) (Nat.le_refl _)) ⟨w5.heap.size, 0, none⟩ 1 (atC ⟨p0, 1, false⟩) rfl (atC_len _) (cells_new w5 (atC ⟨p0, 1, false⟩) 26) (atC_one _) (by omega) (by decide) (by simp; omega) ?_; intro g2 cap w9 hown9 hbg9 hbel9 hgrow9))
            have HS9 := Lib.hid (HS5.out.keep ((hbel9 (w.heap.size + 1) w5 (Nat.le_refl _) ((Below.refl _ w5).alloc (by omega) _)).block _ (Nat.lt_succ_self _)))
            have HB9 := Lib.hid (hbel9 w.heap.size w (Nat.le_succ _) (HB5.out.alloc (by omega) _))
            have HO9 : Hid (OwnE 26 atC 34 w9 (w.heap.size + 1) (.slice (some ⟨g2, 0, none⟩) (l.length + 1) cap) (l ++ [⟨p0, 1, false⟩])) := OwnE.snoc hown9
            have HXE : Hid (s.size - j0 < f' ∧ parseL s f' j0 (l ++ [⟨p0, 1, false⟩]) = V) := by
              have h := HX3.out
              rw [HQ.out] at h
              exact ⟨by omega, h.2⟩
            clear hown9 hbel9 hgrow9 HX3 HQ HS5 HA5 HB5 HO5
            go_roundw
            case rel => exact ⟨j0, l ++ [(At.mk p0 1 false)], HS9.out, by omega, by simp; omega, HO9.out, HB9.out, f', HXE.out⟩
            case measure => simp; omega
    · have HVE : Hid (V = (l, 0, 0)) := by
        have h := HX.out.2
        rw [HF'.out] at h
        unfold parseL at h
        rw [if_neg hlt] at h
        exact h.symm
      go_wp2_with (go_at_call 120; refine (more_any _ w.heap.size s i false (by exact HS.out) (by unfold maxLen; omega)).mono ?_; rintro e w' ⟨rfl, nm, rfl⟩)
      go_ret3
      rw [HVE.out]
      exact ⟨_, rfl, own_base HO.out (Nat.le_succ _), below_drewN HB.out _⟩

end Go.Proofs.YtpboaadjbkaidaaDoor

namespace Go.Proofs.YtpboaadjbkaidaaDoor
set_option maxRecDepth 100000
open Go.RowKit

/-- A whole struct is loaded in a region that draws its order. -/
theorem still_load_mid {P : Program} {o : Oper} {a : Act} {w : World} {K : Act → Prop} (ty : TypeId) (x : Operand) (ho : o.op = .load ty x) (b of : Nat) (hx : a.eval x = .pointer (some ⟨b, of, none⟩)) (cs : List Value) (d : TypeDesc)
    (hc : w.rangeAt b of cs) (hu : P.underlying ty = some d) (hd : d.isRow = true) (hi : (P.info? ty).map (·.size) = some cs.length) (h : K (a.put o.dst (.agg cs.toArray))) : o.still P a w K := by
  unfold Oper.still execOp
  simp only [ho, hx, Instr.loadAt, Instr.sureAddr, Sem.run_bind, Sem.run_pure, Result.andThen_ok, run_loadVar_mid w b of ty cs d hc hu hd hi]
  rw [Oper.stillUpon_value]
  exact h
theorem AtIn.range {w : World} {g : Nat} {x : At} (h : AtIn w g x) : w.rangeAt g 0 (atC x) := fun j v hj => by
  rw [Nat.zero_add, cell_of_row _ _ _ _ _ _ h]
  simpa using hj
theorem bool_info : (Tryd.prog.info? 4).map (fun i => (i.zero, i.size, i.bytes)) = some (some (.bool false), 1, 1) := by kernel_rfl
/-- A slice of n Bools. -/
def PlIn (w : World) (v : Value) (n : Nat) (f : Nat → Bool) : Prop := ∃ b o c, v = .slice (some ⟨b, o, none⟩) n c ∧ b < w.heap.size ∧ ∀ j, j < n → w.cell? ⟨b, o + j, none⟩ = some (.bool (f j))
theorem PlIn.below {w w' : World} {v : Value} {n : Nat} {f : Nat → Bool} (h : PlIn w v n f) {B : Nat} (hb : Below B w w') (hB : w.heap.size ≤ B) : PlIn w' v n f := by
  obtain ⟨b, o, c, hv, hl, hc⟩ := h
  exact ⟨b, o, c, hv, Nat.lt_of_lt_of_le hl hb.size, fun j hj => (hb.cell (p := ⟨b, o + j, none⟩) (Nat.lt_of_lt_of_le hl hB)).trans (hc j hj)⟩
theorem PlIn.congr {w : World} {v : Value} {n : Nat} {f g : Nat → Bool} (h : PlIn w v n f) (e : ∀ j, j < n → f j = g j) : PlIn w v n g := by
  obtain ⟨b, o, c, hv, hl, hc⟩ := h
  exact ⟨b, o, c, hv, hl, fun j hj => by rw [hc j hj, e j hj]⟩
/-- What a call gives that makes a row of n Bools. -/
def RetPl (w : World) (n : Nat) (f : Nat → Bool) (e : Ending) (w' : World) : Prop :=
  ∃ g, e = .returned (.slice (some ⟨g, 0, none⟩) n n) ∧ w.heap.size ≤ g ∧ w'.rowIs g 4 n (fun j => .bool (f j)) ∧ Below w.heap.size w w'
end Go.Proofs.YtpboaadjbkaidaaDoor

namespace Go.Proofs.YtpboaadjbkaidaaDoor
set_option maxRecDepth 100000
open Go.RowKit

/-- The words of an atom. -/
def inA (x : At) (u : List Nat) : Prop := (u = [] ∧ x.mn < 1) ∨ (u ≠ [] ∧ (∀ b ∈ u, x.p b = true) ∧ (u.length = 1 ∨ x.many = true))
/-- The words of a pattern. -/
def Lang : List At → List Nat → Prop
  | [], u => u = []
  | x :: p, u => ∃ a b, u = a ++ b ∧ inA x a ∧ Lang p b

theorem lang_append : ∀ (p q : List At) (u : List Nat), Lang (p ++ q) u ↔ ∃ a b, u = a ++ b ∧ Lang p a ∧ Lang q b
  | [], q, u => ⟨fun h => ⟨[], u, rfl, rfl, h⟩, fun ⟨a, b, h1, h2, h3⟩ => by
      have h2' : a = [] := h2
      subst h2'
      rw [h1]
      exact h3⟩
  | x :: p, q, u => ⟨fun ⟨a, b, h1, h2, h3⟩ => by
      obtain ⟨c, d, h4, h5, h6⟩ := (lang_append p q b).1 h3
      exact ⟨a ++ c, d, by rw [h1, h4, List.append_assoc], ⟨a, c, rfl, h2, h5⟩, h6⟩, fun ⟨a, b, h1, ⟨c, d, h4, h5, h6⟩, h3⟩ =>
      ⟨c, d ++ b, by rw [h1, h4, List.append_assoc], h5, (lang_append p q (d ++ b)).2 ⟨d, b, rfl, h6, h3⟩⟩⟩
theorem lang_one (x : At) (u : List Nat) : Lang [x] u ↔ inA x u :=
  ⟨fun ⟨a, b, h1, h2, h3⟩ => by
    have h3' : b = [] := h3
    subst h3'
    rw [h1, List.append_nil]
    exact h2, fun h => ⟨u, [], by rw [List.append_nil], h, rfl⟩⟩
theorem inA_rev (x : At) (u : List Nat) : inA x u.reverse ↔ inA x u := by
  unfold inA
  rw [List.length_reverse]
  have e : u.reverse = [] ↔ u = [] := List.reverse_eq_nil_iff
  constructor
  · rintro (h | ⟨h1, h2, h3⟩)
    · exact .inl ⟨e.1 h.1, h.2⟩
    · exact .inr ⟨fun h => h1 (e.2 h), fun b hb => h2 b (List.mem_reverse.2 hb), h3⟩
  · rintro (h | ⟨h1, h2, h3⟩)
    · exact .inl ⟨e.2 h.1, h.2⟩
    · exact .inr ⟨fun h => h1 (e.1 h), fun b hb => h2 b (List.mem_reverse.1 hb), h3⟩
theorem lang_rev_imp : ∀ (p : List At) (u : List Nat), Lang p u → Lang p.reverse u.reverse
  | [], u, h => by
    have h' : u = [] := h
    subst h'
    rfl
  | x :: p, u, ⟨a, b, h1, h2, h3⟩ => by
    rw [List.reverse_cons, h1, List.reverse_append]
    exact (lang_append _ _ _).2 ⟨_, _, rfl, lang_rev_imp p b h3, (lang_one x _).2 ((inA_rev x a).2 h2)⟩
theorem lang_rev (p : List At) (u : List Nat) : Lang p.reverse u.reverse ↔ Lang p u :=
  ⟨fun h => by
    have := lang_rev_imp _ _ h
    rwa [List.reverse_reverse, List.reverse_reverse] at this, lang_rev_imp p u⟩

/-! ### Places -/
/-- The bytes of s from i up to n. -/
def seg (s : ByteArray) (i n : Nat) : List Nat := ((List.range n).drop i).map (bt s)
theorem seg_self (s : ByteArray) (i : Nat) : seg s i i = [] := by unfold seg; rw [List.drop_eq_nil_of_le (by simp)]; rfl
theorem seg_len (s : ByteArray) (i n : Nat) : (seg s i n).length = n - i := by unfold seg; simp
theorem seg_snoc (s : ByteArray) (i n : Nat) (h : i ≤ n) : seg s i (n + 1) = seg s i n ++ [bt s n] := by
  unfold seg
  rw [List.range_succ, List.drop_append_of_le_length (by simpa using h), List.map_append]
  rfl
theorem seg_split (s : ByteArray) (i j n : Nat) (h1 : i ≤ j) (h2 : j ≤ n) : seg s i n = seg s i j ++ seg s j n := by
  induction n with
  | zero =>
    obtain rfl : j = 0 := by omega
    obtain rfl : i = 0 := by omega
    rw [seg_self]; rfl
  | succ n ih =>
    by_cases hj : j = n + 1
    · subst hj
      rw [seg_self, List.append_nil]
    · rw [seg_snoc s i n (by omega), seg_snoc s j n (by omega), ih (by omega), List.append_assoc]
theorem nx_lang (x : At) (s : ByteArray) (f : Nat → Bool) : ∀ n, nxF x s f n = true ↔ ∃ i, i < n ∧ f i = true ∧ (∀ b ∈ seg s i n, x.p b = true) ∧ (n - i = 1 ∨ x.many = true)
  | 0 => ⟨fun h => absurd h Bool.false_ne_true, fun ⟨i, h, _⟩ => absurd h (Nat.not_lt_zero i)⟩
  | n + 1 => by
    rw [show nxF x s f (n + 1) = ((f n || (x.many && nxF x s f n)) && x.p (bt s n)) from rfl, Bool.and_eq_true, Bool.or_eq_true, Bool.and_eq_true, nx_lang x s f n]
    constructor
    · rintro ⟨h | ⟨hm, i, h1, h2, h3, h4⟩, hp⟩
      · refine ⟨n, by omega, h, fun b hb => ?_, .inl (by omega)⟩
        rw [seg_snoc s n n (Nat.le_refl _), seg_self] at hb
        simp at hb
        rw [hb]
        exact hp
      · refine ⟨i, by omega, h2, fun b hb => ?_, .inr hm⟩
        rw [seg_snoc s i n (by omega)] at hb
        rcases List.mem_append.1 hb with hb | hb
        · exact h3 b hb
        · simp at hb
          rw [hb]
          exact hp
    · rintro ⟨i, h1, h2, h3, h4⟩
      have hp : x.p (bt s n) = true := h3 _ (by rw [seg_snoc s i n (by omega)]; exact List.mem_append_right _ (by simp))
      refine ⟨?_, hp⟩
      by_cases hi : i = n
      · subst hi
        exact .inl h2
      · have hm : x.many = true := by
          rcases h4 with h4 | h4
          · omega
          · exact h4
        exact .inr ⟨hm, i, by omega, h2, fun b hb => h3 b (by rw [seg_snoc s i n (by omega)]; exact List.mem_append_left _ hb), .inr hm⟩
theorem adv_lang (x : At) (s : ByteArray) (f : Nat → Bool) (n : Nat) : advF x s f n = true ↔ ∃ i, i ≤ n ∧ f i = true ∧ inA x (seg s i n) := by
  unfold advF
  rw [Bool.or_eq_true, Bool.and_eq_true, decide_eq_true_iff, nx_lang x s f n]
  constructor
  · rintro (⟨i, h1, h2, h3, h4⟩ | ⟨h1, h2⟩)
    · refine ⟨i, by omega, h2, .inr ⟨?_, h3, ?_⟩⟩
      · intro e
        have := seg_len s i n
        rw [e] at this
        simp at this
        omega
      · rw [seg_len]
        exact h4
    · exact ⟨n, Nat.le_refl _, h2, .inl ⟨seg_self s n, h1⟩⟩
  · rintro ⟨i, h1, h2, h3 | ⟨h3, h4, h5⟩⟩
    · have hi : i = n := by
        have := seg_len s i n
        rw [h3.1] at this
        simp at this
        omega
      subst hi
      exact .inr ⟨h3.2, h2⟩
    · rw [seg_len] at h5
      refine .inl ⟨i, ?_, h2, h4, h5⟩
      refine Nat.lt_of_le_of_ne h1 fun e => h3 ?_
      subst e
      exact seg_self s i
theorem seg_cut (s : ByteArray) (i n : Nat) (hin : i ≤ n) (a b : List Nat) (h : seg s i n = a ++ b) : ∃ j, i ≤ j ∧ j ≤ n ∧ seg s i j = a ∧ seg s j n = b := by
  have hl : a.length + b.length = n - i := by rw [← List.length_append, ← h, seg_len]
  refine ⟨i + a.length, by omega, by omega, ?_⟩
  have h2 := seg_split s i (i + a.length) n (by omega) (by omega)
  rw [h] at h2
  have h3 : a.length = (seg s i (i + a.length)).length := by rw [seg_len]; omega
  obtain ⟨e1, e2⟩ := List.append_inj h2 h3
  exact ⟨e1.symm, e2.symm⟩
theorem reach_lang (s : ByteArray) : ∀ (p : List At) (f : Nat → Bool) (n : Nat), reachF s p f n = true ↔ ∃ i, i ≤ n ∧ f i = true ∧ Lang p (seg s i n)
  | [], f, n => ⟨fun h => ⟨n, Nat.le_refl _, h, seg_self s n⟩, fun ⟨i, h1, h2, h3⟩ => by
      have h3' : seg s i n = [] := h3
      have : i = n := by
        have := seg_len s i n
        rw [h3'] at this
        simp at this
        omega
      subst this
      exact h2⟩
  | x :: p, f, n => by
    rw [show reachF s (x :: p) f n = reachF s p (advF x s f) n from rfl, reach_lang s p]
    constructor
    · rintro ⟨j, h1, h2, h3⟩
      obtain ⟨i, h4, h5, h6⟩ := (adv_lang x s f j).1 h2
      exact ⟨i, by omega, h5, _, _, seg_split s i j n h4 h1, h6, h3⟩
    · rintro ⟨i, h1, h2, a, b, h3, h4, h5⟩
      obtain ⟨j, h6, h7, h8, h9⟩ := seg_cut s i n h1 a b h3
      exact ⟨j, h7, (adv_lang x s f j).2 ⟨i, h6, h2, by rw [h8]; exact h4⟩, by rw [h9]; exact h5⟩
theorem suffix_lang (p : List At) (s : ByteArray) : suffixF p s = true ↔ ∃ i, i ≤ s.size ∧ Lang p (seg s i s.size) := by
  unfold suffixF
  rw [reach_lang]
  exact ⟨fun ⟨i, h1, _, h3⟩ => ⟨i, h1, h3⟩, fun ⟨i, h1, h3⟩ => ⟨i, h1, rfl, h3⟩⟩
theorem start_lang (p : List At) (s : ByteArray) (n : Nat) : reachF s p startF n = true ↔ Lang p (seg s 0 n) := by
  rw [reach_lang]
  constructor
  · rintro ⟨i, _, h2, h3⟩
    have : i = 0 := by unfold startF at h2; simpa using h2
    subst this
    exact h3
  · exact fun h => ⟨0, Nat.zero_le _, rfl, h⟩
theorem long_nonneg (f : Nat → Bool) : ∀ n, 0 ≤ longF f n ↔ ∃ i, i < n ∧ f i = true
  | 0 => ⟨fun h => absurd h (by unfold longF; decide), fun ⟨i, h, _⟩ => absurd h (Nat.not_lt_zero i)⟩
  | n + 1 => by
    unfold longF
    by_cases h : f n = true
    · rw [if_pos h]
      exact ⟨fun _ => ⟨n, by omega, h⟩, fun _ => by omega⟩
    · rw [if_neg h, long_nonneg f n]
      exact ⟨fun ⟨i, h1, h2⟩ => ⟨i, by omega, h2⟩, fun ⟨i, h1, h2⟩ => ⟨i, by
        refine Nat.lt_of_le_of_ne (by omega) fun e => h ?_
        rw [← e]
        exact h2, h2⟩⟩
theorem prefix_lang (p : List At) (s : ByteArray) : prefixF p s = true ↔ ∃ n, n ≤ s.size ∧ Lang p (seg s 0 n) := by
  unfold prefixF longestF
  rw [decide_eq_true_iff, long_nonneg]
  exact ⟨fun ⟨i, h1, h2⟩ => ⟨i, by omega, (start_lang p s i).1 h2⟩, fun ⟨i, h1, h2⟩ => ⟨i, by omega, (start_lang p s i).2 h2⟩⟩
/-- Strings with the same bytes there. -/
theorem seg_same {s t : ByteArray} {i n d : Nat} (h : ∀ k, i ≤ k → k < n → bt s k = bt t (k + d)) (hin : i ≤ n) : seg s i n = seg t (i + d) (n + d) := by
  induction n with
  | zero =>
    obtain rfl : i = 0 := by omega
    rw [Nat.zero_add, seg_self, seg_self]
  | succ n ih =>
    by_cases hi : i = n + 1
    · subst hi
      rw [seg_self, seg_self]
    · rw [seg_snoc s i n (by omega), show n + 1 + d = (n + d) + 1 by omega, seg_snoc t (i + d) (n + d) (by omega), ih (fun k h1 h2 => h k h1 (by omega)) (by omega), h n (by omega) (by omega)]
theorem bt_extract (s : ByteArray) (a b k : Nat) (hk : a + k < b) (hb : b ≤ s.size) : bt (s.extract a b) k = bt s (a + k) := by
  have h1 : k < (s.extract a b).size := by rw [ByteArray.size_extract]; omega
  rw [bt_get _ _ h1, bt_get s (a + k) (by omega)]
  rw [ByteArray.getElem_extract h1]
/-! ### What the statements reckon -/
theorem seg_rev {s t : ByteArray} (hst : t.size = s.size) (h : ∀ k, k < s.size → bt t k = bt s (s.size - 1 - k)) : ∀ i n, i ≤ n → n ≤ s.size → seg t (s.size - n) (s.size - i) = (seg s i n).reverse := by
  intro i n hin hn
  refine List.ext_getElem? fun k => ?_
  by_cases hk : k < n - i
  · unfold seg
    rw [List.getElem?_reverse (by simp; omega)]
    simp only [List.getElem?_map, List.getElem?_drop, List.length_map, List.length_drop, List.length_range]
    rw [List.getElem?_range (by omega), List.getElem?_range (by omega)]
    simp only [Option.map_some]
    rw [h _ (by omega)]
    congr 2
    omega
  · rw [List.getElem?_eq_none (by rw [seg_len]; omega), List.getElem?_eq_none (by rw [List.length_reverse, seg_len]; omega)]
end Go.Proofs.YtpboaadjbkaidaaDoor

namespace Go.Proofs.YtpboaadjbkaidaaDoor
set_option maxRecDepth 100000
open Go.RowKit

/-- The last k bytes of a string, backwards. -/
def rvS (s : ByteArray) (k : Nat) : ByteArray := ⟨((s.data.toList.drop (s.size - k)).reverse).toArray⟩
theorem rv_size (s : ByteArray) : (rvS s s.size).size = s.size := by
  show ((s.data.toList.drop (s.size - s.size)).reverse).length = _
  rw [Nat.sub_self, List.drop_zero, List.length_reverse, ← Lib.size_eq]
theorem rv_bt (s : ByteArray) (k : Nat) (hk : k < s.size) : bt (rvS s s.size) k = bt s (s.size - 1 - k) := by
  have hl : s.data.toList.length = s.size := (Lib.size_eq s).symm
  unfold bt rvS
  simp only
  rw [Nat.sub_self, List.drop_zero, List.getD_eq_getElem?_getD, List.getD_eq_getElem?_getD, List.getElem?_reverse (by omega), hl]
end Go.Proofs.YtpboaadjbkaidaaDoor

namespace Go.Proofs.YtpboaadjbkaidaaDoor
set_option maxRecDepth 100000
open Go.Lib

/-- The words of the rest of a line, the bytes cur of the word under way read already. -/
def wordsA : List UInt8 → List UInt8 → List (List UInt8)
  | cur, [] => if cur = [] then [] else [cur]
  | cur, b :: l => if b = 32 then (if cur = [] then [] else [cur]) ++ wordsA [] l else wordsA (cur ++ [b]) l
def wordsL (l : List UInt8) : List (List UInt8) := wordsA [] l
theorem wordsA_pre : ∀ (p cur l : List UInt8), (∀ b ∈ p, b ≠ 32) → wordsA cur (p ++ l) = wordsA (cur ++ p) l
  | [], cur, l, _ => by simp
  | b :: p, cur, l, h => by
    rw [List.cons_append, wordsA, if_neg (h b (by simp)), wordsA_pre p (cur ++ [b]) l (fun x hx => h x (by simp [hx]))]
    simp
theorem wordsL_end (p : List UInt8) (h : ∀ b ∈ p, b ≠ 32) : wordsL p = if p = [] then [] else [p] := by
  have := wordsA_pre p [] [] h
  rw [List.append_nil, List.nil_append] at this
  unfold wordsL
  rw [this, wordsA]
theorem wordsL_sep (p l : List UInt8) (h : ∀ b ∈ p, b ≠ 32) : wordsL (p ++ 32 :: l) = (if p = [] then [] else [p]) ++ wordsL l := by
  unfold wordsL
  rw [wordsA_pre p [] (32 :: l) h, wordsA, if_pos rfl, List.nil_append]
theorem wordsL_ne (l : List UInt8) : ∀ w ∈ wordsL l, w ≠ [] := by
  have : ∀ (l cur : List UInt8), ∀ w ∈ wordsA cur l, w ≠ [] := by
    intro l
    induction l with
    | nil =>
      intro cur w hw
      rw [wordsA] at hw
      split at hw
      · simp at hw
      · simp at hw; subst hw; assumption
    | cons b l ih =>
      intro cur w hw
      rw [wordsA] at hw
      split at hw
      · rcases List.mem_append.1 hw with hw | hw
        · split at hw
          · simp at hw
          · simp at hw; subst hw; assumption
        · exact ih [] w hw
      · exact ih _ w hw
  exact this l []

/-- The lines of a text. -/
def linesL : List UInt8 → List (List UInt8)
  | [] => []
  | b :: l => if b = 10 then [] :: linesL l else match linesL l with
    | [] => [[b]]
    | x :: xs => (b :: x) :: xs
theorem linesL_end : ∀ (p : List UInt8), (∀ b ∈ p, b ≠ 10) → linesL p = if p = [] then [] else [p]
  | [], _ => rfl
  | b :: p, h => by
    rw [linesL, if_neg (h b (by simp)), linesL_end p (fun x hx => h x (by simp [hx]))]
    cases p <;> simp
theorem linesL_sep : ∀ (p l : List UInt8), (∀ b ∈ p, b ≠ 10) → linesL (p ++ 10 :: l) = p :: linesL l
  | [], l, _ => by rw [List.nil_append, linesL, if_pos rfl]
  | b :: p, l, h => by
    rw [List.cons_append, linesL, if_neg (h b (by simp)), linesL_sep p l (fun x hx => h x (by simp [hx]))]

/-- The first place of a byte. -/
theorem index_one_miss (c : UInt8) : ∀ l : List UInt8, (∀ b ∈ l, b ≠ c) → index l [c] = -1
  | [], _ => rfl
  | b :: l, h => by
    have hb : b ≠ c := h b (by simp)
    have ih := index_one_miss c l (fun x hx => h x (by simp [hx]))
    unfold index
    simp [List.isPrefixOf, hb.symm, ih]
theorem index_one_hit (c : UInt8) : ∀ p l : List UInt8, (∀ b ∈ p, b ≠ c) → index (p ++ c :: l) [c] = p.length
  | [], l, _ => by
    unfold index
    simp [List.isPrefixOf]
  | b :: p, l, h => by
    have hb : b ≠ c := h b (by simp)
    have ih := index_one_hit c p l (fun x hx => h x (by simp [hx]))
    rw [List.cons_append]
    unfold index
    simp [List.isPrefixOf, hb.symm, ih]
theorem parted (c : UInt8) : ∀ l : List UInt8, (∀ b ∈ l, b ≠ c) ∨ ∃ p r, l = p ++ c :: r ∧ ∀ b ∈ p, b ≠ c
  | [] => .inl (by simp)
  | b :: l => by
    by_cases hb : b = c
    · exact .inr ⟨[], l, by rw [hb]; rfl, by simp⟩
    · rcases parted c l with h | ⟨p, r, rfl, h⟩
      · refine .inl fun x hx => ?_
        rcases List.mem_cons.1 hx with rfl | hx
        · exact hb
        · exact h x hx
      · refine .inr ⟨b :: p, r, rfl, fun x hx => ?_⟩
        rcases List.mem_cons.1 hx with rfl | hx
        · exact hb
        · exact h x hx
/-- Cut at a line's end: the first line and the rest. -/
theorem cut_lines (l : List UInt8) (h : l ≠ []) : linesL l = (cut l [10]).1 :: linesL (cut l [10]).2.1 := by
  rcases parted 10 l with hm | ⟨p, r, rfl, hm⟩
  · unfold cut
    rw [index_one_miss 10 l hm, if_neg (by decide), linesL_end l hm, if_neg h]
    rfl
  · unfold cut
    rw [index_one_hit 10 p r hm, if_pos (by omega), linesL_sep p r hm]
    simp
theorem cut_len (l : List UInt8) (h : l ≠ []) : (cut l [10]).2.1.length < l.length := by
  have h0 : 0 < l.length := List.length_pos_iff.2 h
  rcases parted 10 l with hm | ⟨p, r, rfl, hm⟩
  · unfold cut
    rw [index_one_miss 10 l hm, if_neg (by decide)]
    simpa using h0
  · unfold cut
    rw [index_one_hit 10 p r hm, if_pos (by omega)]
    simp
    omega
theorem cut_fst (l : List UInt8) : (cut l [10]).1.length ≤ l.length := by
  unfold cut
  split
  · simp; omega
  · exact Nat.le_refl _
/-- The pieces between spaces, without the empty ones, are the words. -/
theorem split_words : ∀ (k : Nat) (l : List UInt8), l.count 32 = k → (splitK [32] 0 k l).filter (fun x => x ≠ []) = wordsL l
  | 0, l, h => by
    have hm : ∀ b ∈ l, b ≠ 32 := fun b hb e => by
      subst e
      exact absurd (List.count_pos_iff.2 hb) (by omega)
    rw [splitK, wordsL_end l hm]
    by_cases he : l = []
    · subst he; simp
    · rw [if_neg he, List.filter_cons_of_pos (by simpa using he)]; rfl
  | k + 1, l, h => by
    rcases parted 32 l with hm | ⟨p, r, rfl, hm⟩
    · have : l.count 32 = 0 := List.count_eq_zero.2 (fun hb => hm 32 hb rfl)
      omega
    · have hp : p.count 32 = 0 := List.count_eq_zero.2 (fun hb => hm 32 hb rfl)
      rw [splitK, index_one_hit 32 p r hm, if_neg (by simp), wordsL_sep p r hm]
      have hr : r.count 32 = k := by
        rw [List.count_append, hp] at h
        simp at h
        omega
      have e1 : ((p.length : Int)).toNat + 0 = p.length := by simp
      have e2 : ((p.length : Int)).toNat + [(32 : UInt8)].length = p.length + 1 := by simp
      rw [e1, e2, List.take_left, show (p ++ 32 :: r).drop (p.length + 1) = r by rw [List.drop_append, List.drop_eq_nil_of_le (by omega), show p.length + 1 - p.length = 1 by omega]; rfl]
      by_cases he : p = []
      · subst he
        rw [if_pos rfl, List.filter_cons_of_neg (by simp), split_words k r hr]
        rfl
      · rw [if_neg he, List.filter_cons_of_pos (by simpa using he), split_words k r hr]
        rfl

end Go.Proofs.YtpboaadjbkaidaaDoor

namespace Go.Proofs.YtpboaadjbkaidaaDoor
set_option maxRecDepth 100000
open Go.RowKit

/-- A rule. -/
structure Ru where
  br : Bool
  bf : List At
  af : List At
/-- A table. -/
structure Tb where
  nm : ByteArray
  pa : ByteArray
  rs : List Ru

def ofL (l : List UInt8) : ByteArray := ⟨l.toArray⟩
theorem ofL_list (l : List UInt8) : (ofL l).data.toList = l := by simp [ofL]
theorem ofL_of (s : ByteArray) : ofL s.data.toList = s := by cases s; simp [ofL]

/-- What a word says of one side of a rule. -/
def sideF (w : List UInt8) : List At × Int := if w = [45] then ([], 0) else ((parseF (ofL w)).1, (parseF (ofL w)).2.2)
def wTable : List UInt8 := [116, 97, 98, 108, 101]
def wBreak : List UInt8 := [98, 114, 101, 97, 107]
def wKeep : List UInt8 := [107, 101, 101, 112]
/-- The tables with a rule more in the last one. -/
def addLast : List Tb → Ru → List Tb
  | [], _ => []
  | [t], r => [⟨t.nm, t.pa, t.rs ++ [r]⟩]
  | t :: u :: ts, r => t :: addLast (u :: ts) r
def tableF (ts : List Tb) (w : List (List UInt8)) : List Tb × Int :=
  if w.length ≠ 2 ∧ w.length ≠ 3 then ([], 2)
  else if nameL (w.getD 1 []) = false ∨ (w.length = 3 ∧ nameL (w.getD 2 []) = false) then ([], 4)
  else if ts.any (fun t => t.nm.data.toList == w.getD 1 []) = true then ([], 5)
  else if 16 ≤ ts.length then ([], 3)
  else (ts ++ [⟨ofL (w.getD 1 []), if w.length = 3 then ofL (w.getD 2 []) else ofL [], []⟩], 0)
def ruleF (ts : List Tb) (w : List (List UInt8)) : List Tb × Int :=
  if w.length ≠ 3 then ([], 2)
  else if ts = [] then ([], 8)
  else if (sideF (w.getD 1 [])).2 ≠ 0 then ([], (sideF (w.getD 1 [])).2)
  else if (sideF (w.getD 2 [])).2 ≠ 0 then ([], (sideF (w.getD 2 [])).2)
  else if 32 ≤ ((ts.getLast?.map (·.rs)).getD []).length then ([], 3)
  else (addLast ts ⟨w.getD 0 [] == wBreak, (sideF (w.getD 1 [])).1, (sideF (w.getD 2 [])).1⟩, 0)
def lineF (ts : List Tb) (w : List (List UInt8)) : List Tb × Int :=
  if w.getD 0 [] = wTable then tableF ts w
  else if w.getD 0 [] = wBreak ∨ w.getD 0 [] = wKeep then ruleF ts w
  else ([], 2)
/-- A line that says nothing. -/
def idle (w : List (List UInt8)) : Bool := match w with
  | [] => true
  | x :: _ => x.head? == some 35
def linesF : List (List UInt8) → Nat → List Tb → List Tb × Nat × Int
  | [], _, ts => (ts, 0, 0)
  | s :: rest, n, ts =>
    if idle (wordsL s) = true then linesF rest (n + 1) ts
    else if (lineF ts (wordsL s)).2 ≠ 0 then ([], n + 1, (lineF ts (wordsL s)).2)
    else linesF rest (n + 1) (lineF ts (wordsL s)).1
def rulesF (s : ByteArray) : List Tb × Nat × Int := if 65536 < s.size then ([], 0, 3) else linesF (linesL s.data.toList) 0 []

/-- Whether there is a break. -/
def decideF : List Ru → ByteArray → Nat → Bool
  | [], _, _ => false
  | r :: rs, s, k => if (suffixF r.bf (s.extract 0 k) && prefixF r.af (s.extract k s.size)) = true then r.br else decideF rs s k
def breaksF (rs : List Ru) (s : ByteArray) : List Int := if 1024 < s.size then [] else ((List.range s.size).filter fun k => decide (0 < k) && decideF rs s k).map fun (k : Nat) => (k : Int)

def knownT : ByteArray := ⟨#[116, 97, 98, 108, 101, 32, 101, 110, 10, 107, 101, 101, 112, 32, 77, 114, 92, 46, 32, 92, 115, 10, 98, 114, 101, 97, 107, 32, 91, 46, 33, 63, 93, 32, 92, 115, 10]⟩
def knownS : ByteArray := ⟨#[77, 114, 46, 32, 88, 32, 99, 97, 109, 101, 46, 32, 72, 101, 32, 108, 101, 102, 116, 46]⟩
theorem known_len : (rulesF knownT).1.length = 1 ∧ (rulesF knownT).2.1 = 0 ∧ (rulesF knownT).2.2 = 0 := by decide +kernel
theorem known_breaks : breaksF (((rulesF knownT).1.map (·.rs)).headD []) knownS = [11] := by decide +kernel

end Go.Proofs.YtpboaadjbkaidaaDoor

namespace Go.Proofs.YtpboaadjbkaidaaDoor
set_option maxRecDepth 100000
open Go.RowKit

theorem extract_size (s : ByteArray) (a b : Nat) (hab : a ≤ b) (hb : b ≤ s.size) : (s.extract a b).size = b - a := by
  rw [ByteArray.size_extract]
  omega
theorem ends_suf (p : List At) (s : ByteArray) (i : Nat) (h : i ≤ s.size) : reachF s p allF i = suffixF p (s.extract 0 i) := by
  have hz := extract_size s 0 i (Nat.zero_le _) h
  rw [Nat.sub_zero] at hz
  rw [Bool.eq_iff_iff, reach_lang, suffix_lang, hz]
  have e : ∀ j, j ≤ i → seg (s.extract 0 i) j i = seg s j i := fun j hj => by
    have := seg_same (s := s.extract 0 i) (t := s) (i := j) (n := i) (d := 0) (fun k h1 h2 => by rw [bt_extract s 0 i k (by omega) h, Nat.zero_add, Nat.add_zero]) hj
    simpa using this
  constructor
  · rintro ⟨j, hj, _, hl⟩
    exact ⟨j, hj, by rw [e j hj]; exact hl⟩
  · rintro ⟨j, hj, hl⟩
    exact ⟨j, hj, rfl, by rw [← e j hj]; exact hl⟩
theorem ends_pre (p : List At) {s t : ByteArray} (hst : t.size = s.size) (h : ∀ k, k < s.size → bt t k = bt s (s.size - 1 - k)) (k : Nat) (hk : k ≤ s.size) : reachF t p.reverse allF (s.size - k) = prefixF p (s.extract k s.size) := by
  have hz := extract_size s k s.size hk (Nat.le_refl _)
  rw [Bool.eq_iff_iff, reach_lang, prefix_lang, hz]
  have e : ∀ n, n ≤ s.size - k → seg (s.extract k s.size) 0 n = seg s k (k + n) := fun n hn => by
    have := seg_same (s := s.extract k s.size) (t := s) (i := 0) (n := n) (d := k) (fun j _ h2 => by rw [bt_extract s k s.size j (by omega) (Nat.le_refl _), Nat.add_comm]) (Nat.zero_le _)
    rw [this, Nat.zero_add, Nat.add_comm n k]
  constructor
  · rintro ⟨j, hj, _, hl⟩
    refine ⟨s.size - k - j, by omega, ?_⟩
    rw [e _ (by omega), show k + (s.size - k - j) = s.size - j by omega, ← lang_rev, ← seg_rev hst h k (s.size - j) (by omega) (by omega), show s.size - (s.size - j) = j by omega]
    exact hl
  · rintro ⟨n, hn, hl⟩
    refine ⟨s.size - k - n, by omega, rfl, ?_⟩
    have := seg_rev hst h k (k + n) (by omega) (by omega)
    rw [show s.size - (k + n) = s.size - k - n by omega] at this
    rw [this, lang_rev, ← e n hn]
    exact hl
def applyF (r : Ru) (s : ByteArray) (k : Nat) : Bool := suffixF r.bf (s.extract 0 k) && prefixF r.af (s.extract k s.size)
def foundF (rs : List Ru) (s : ByteArray) (k : Nat) : Bool := rs.any fun r => applyF r s k
theorem decide_cons (r : Ru) (rs : List Ru) (s : ByteArray) (k : Nat) : decideF (r :: rs) s k = if applyF r s k = true then r.br else decideF rs s k := rfl
theorem decide_none : ∀ (rs : List Ru) (s : ByteArray) (k : Nat), foundF rs s k = false → decideF rs s k = false
  | [], _, _, _ => rfl
  | r :: rs, s, k, h => by
    unfold foundF at h
    rw [List.any_cons, Bool.or_eq_false_iff] at h
    rw [decide_cons, if_neg (by rw [h.1]; exact Bool.false_ne_true)]
    exact decide_none rs s k h.2
theorem decide_append : ∀ (rs qs : List Ru) (s : ByteArray) (k : Nat), decideF (rs ++ qs) s k = if foundF rs s k = true then decideF rs s k else decideF qs s k
  | [], qs, s, k => rfl
  | r :: rs, qs, s, k => by
    rw [List.cons_append, decide_cons, decide_cons]
    have e : foundF (r :: rs) s k = (applyF r s k || foundF rs s k) := rfl
    by_cases h : applyF r s k = true
    · rw [if_pos h, if_pos h, if_pos (by rw [e, h]; rfl)]
    · rw [if_neg h, if_neg h, decide_append rs qs s k, e, Bool.not_eq_true] at *
      rw [h, Bool.false_or]
theorem decide_snoc (rs : List Ru) (r : Ru) (s : ByteArray) (k : Nat) : decideF (rs ++ [r]) s k = if foundF rs s k = true then decideF rs s k else (applyF r s k && r.br) := by
  rw [decide_append]
  congr 1
  rw [decide_cons]
  cases applyF r s k <;> rfl
theorem found_snoc (rs : List Ru) (r : Ru) (s : ByteArray) (k : Nat) : foundF (rs ++ [r]) s k = (foundF rs s k || applyF r s k) := by
  unfold foundF
  rw [List.any_append]
  simp

/-- The places below k with a break. -/
def uptoN (f : Nat → Bool) (k : Nat) : List Int := ((List.range k).filter f).map fun (n : Nat) => (n : Int)
theorem uptoN_succ (f : Nat → Bool) (k : Nat) : uptoN f (k + 1) = uptoN f k ++ if f k = true then [(k : Int)] else [] := by
  unfold uptoN
  rw [List.range_succ, List.filter_append, List.map_append]
  congr 1
  by_cases h : f k = true
  · rw [if_pos h, List.filter_cons_of_pos h]; rfl
  · rw [if_neg h, List.filter_cons_of_neg h]; rfl
theorem uptoN_congr {f g : Nat → Bool} : ∀ {k : Nat}, (∀ i, i < k → f i = g i) → uptoN f k = uptoN g k
  | 0, _ => rfl
  | k + 1, h => by rw [uptoN_succ, uptoN_succ, uptoN_congr (fun i hi => h i (by omega)), h k (by omega)]
def inB (rs : List Ru) (s : ByteArray) (k : Nat) : Bool := decide (0 < k) && decideF rs s k
theorem breaks_upto (rs : List Ru) (s : ByteArray) (h : s.size ≤ 1024) : breaksF rs s = uptoN (inB rs s) s.size := by
  unfold breaksF
  rw [if_neg (by omega)]
  rfl
/-- The row of Bools that the program makes. -/
def rowB (rs : List Ru) (s : ByteArray) (k : Nat) : Bool := decide (0 < k ∧ k < s.size) && decideF rs s k
theorem breaks_row (rs : List Ru) (s : ByteArray) (h : s.size ≤ 1024) : uptoN (rowB rs s) (s.size + 1) = breaksF rs s := by
  rw [uptoN_succ, if_neg (by unfold rowB; simp), List.append_nil, breaks_upto rs s h]
  refine uptoN_congr fun i hi => ?_
  unfold rowB inB
  congr 1
  rw [decide_eq_decide]
  omega

end Go.Proofs.YtpboaadjbkaidaaDoor

namespace Go.Proofs.YtpboaadjbkaidaaDoor
set_option maxRecDepth 100000
open Go.RowKit

theorem u8_info6 : (Tryd.prog.info? 5).map (fun i => (i.zero, i.size, i.bytes)) = some (some (.int .u8 0), 1, 1) := by kernel_rfl
theorem run_rev (s : ByteArray) (src dst : TypeId) {e : TypeId} (hs : Tryd.prog.underlying src = some (.slice e)) (he : Tryd.prog.underlying e = some (.int .u8)) (hd : Tryd.prog.underlying dst = some .string) (w : World) (g : Nat)
    (h : w.rowIs g e s.size (fun j => .int .u8 (bt s (s.size - 1 - j) : Int))) : (convert src dst (.slice (some ⟨g, 0, none⟩) s.size s.size)).run Tryd.prog w = .ok (.string (rvS s s.size)) w := by
  have hl : s.data.toList.length = s.size := (Lib.size_eq s).symm
  have := run_convert_bytes_back (P := Tryd.prog) w src dst e ⟨g, 0, none⟩ s.size s.data.toList.reverse hs he hd (fun j hj => by
    have hj2 : j < s.size := by simpa [hl] using hj
    rw [Addr.add_lit, Nat.zero_add, h.cell hj2]
    congr 2
    rw [List.getElem_reverse]
    unfold bt
    rw [List.getD_eq_getElem?_getD, List.getElem?_eq_getElem (by omega)]
    simp [hl])
  rw [List.length_reverse, hl] at this
  rw [this]
  congr 2
  unfold rvS
  rw [Nat.sub_self, List.drop_zero]

set_option maxRecDepth 100000 in
set_option maxHeartbeats 8000000 in
theorem reversed_any (s : ByteArray) (w : World) (hs : s.size ≤ 1048576) : Calls Tryd.prog 49 #[.string s] w fun e w' => e = .returned (.string (rvS s s.size)) ∧ Below w.heap.size w w' := by
  have hmk := fun w => run_make_row' (P := Tryd.prog) 23 5 (.int .u8 0) 1 Tryd.underlying23 u8_info6 rfl .i64 .i64 s.size (by omega) (by omega) w
  have HCV := Lib.hid (run_rev s 23 9 Tryd.underlying23 Tryd.underlying5 Tryd.underlying9)
  go_enter Tryd.func49, Tryd.ntmps49
  have HR0 : Hid ((w.alloc (.cells (madeCells #[.int .u8 0] s.size) 5)).rowIs w.heap.size 5 s.size (fun j => .int .u8 (if j < 0 then (bt s (s.size - 1 - j) : Int) else 0))) := (World.rowIs_made w (.int .u8 0) s.size 5).congr fun j _ => by rw [if_neg (Nat.not_lt_zero j)]
  have HB0 := Lib.hid ((Below.refl w.heap.size w).alloc (Nat.le_refl _) (.cells (madeCells #[.int .u8 0] s.size) 5))
  go_upto_region 2 with fail
  generalize hg : w.heap.size = g at HR0 ⊢
  generalize w.alloc (.cells (madeCells #[.int .u8 0] s.size) 5) = w1 at HR0 HB0 ⊢
  go_wp2_with fail
  go_loopg [10] s.size (fun gk kv wr => ∃ k : Nat, k ≤ s.size ∧ kv = .int .i64 k ∧ Hid (wr.rowIs g 5 s.size (fun j => .int .u8 (if j < k then (bt s (s.size - 1 - j) : Int) else 0))) ∧ Hid (Below w.heap.size w wr) ∧ s.size - k ≤ gk)
  case atStart => exact ⟨0, by omega, rfl, HR0.out, HB0.out, by omega⟩
  case round =>
    clear HR0 HB0
    obtain ⟨k, hk, rfl, HR, HB, hgk⟩ := hrel
    by_cases hkl : k < s.size
    · have hki : (k : Int) < (s.size : Int) := by omega
      obtain ⟨j, hj⟩ : ∃ j, j + k + 1 = s.size := ⟨s.size - 1 - k, by omega⟩
      have r0 := HR.out.cell (i := k) hkl
      have rf := HR.out.frozen k
      rw [if_neg (Nat.lt_irrefl k)] at r0
      have hjs : (j : Int) < (s.size : Int) := by omega
      have hjl : j < s.size := by omega
      have hj0 : (0 : Int) ≤ (j : Int) := by omega
      have HR1 : Hid ((wr.setCell ⟨g, k, none⟩ (.int .u8 (s[j].toNat : Int))).rowIs g 5 s.size (fun j => .int .u8 (if j < k + 1 then (bt s (s.size - 1 - j) : Int) else 0))) := (HR.out.set k (.int .u8 (s[j].toNat : Int))).congr fun i hi => by
        by_cases h : i = k
        · rw [if_pos h, if_pos (by omega), h, show s.size - 1 - k = j by omega, bt_get s j hjl]
        · rw [if_neg h]
          by_cases h2 : i < k
          · rw [if_pos h2, if_pos (by omega)]
          · rw [if_neg h2, if_neg (by omega)]
      obtain ⟨z, hz⟩ : ∃ z : Int, z = (s.size : Int) - 1 - (k : Int) := ⟨_, rfl⟩
      have hzj : z = (j : Int) := by omega
      subst hzj
      have hz2 : (s.size : Int) - 1 - (k : Int) = (j : Int) := hz.symm
      clear hz
      go_wp2_with fail
      go_roundg (s.size - (k + 1))
      case measure => omega
      case rel => exact ⟨k + 1, by omega, by go_num, HR1.out, HB.out.setCell (p := ⟨g, k, none⟩) (show w.heap.size ≤ g by omega) _, Nat.le_refl _⟩
    · obtain rfl : k = s.size := by omega
      have hki : ¬ (s.size : Int) < (s.size : Int) := by omega
      have hcv := HCV.out wr g (HR.out.congr fun j hj => by rw [if_pos hj])
      go_wp2_with fail
      go_ret
      exact ⟨rfl, hg ▸ HB.out⟩

end Go.Proofs.YtpboaadjbkaidaaDoor

namespace Go.Proofs.YtpboaadjbkaidaaDoor
set_option maxRecDepth 100000
open Go.RowKit

section
variable {P : Program} {ops : Array Oper} {w : World} {Q : Act → Prop} {a : Act} {o : Oper} {rest : List Oper}
theorem ex_move (x : Operand) (v : Value) (ho : o.op = .move x) (hx : a.eval x = v) : (execOp a.eval o).run P w = .ok (.value v) w := by
  unfold execOp
  simp only [ho, hx]
  rfl
theorem ex_assign (x : Operand) (v : Value) (ho : o.op = .assign x) (hx : a.eval x = v) : (execOp a.eval o).run P w = .ok (.value v) w := by
  unfold execOp
  simp only [ho, hx]
  rfl
theorem ex_pick (c x y : Operand) (b : Bool) (vx vy : Value) (ho : o.op = .pick c x y) (hc : a.eval c = .bool b) (hx : a.eval x = vx) (hy : a.eval y = vy) : (execOp a.eval o).run P w = .ok (.value (if b = true then vx else vy)) w := by
  unfold execOp
  simp only [ho, hx, hy, hc]
  rfl
theorem ex_indexAddr (t : TypeId) (x i : Operand) (vx vi v : Value) (ho : o.op = .indexAddr t x i) (hx : a.eval x = vx) (hi : a.eval i = vi) (hr : (Instr.indexAt t vx vi).run P w = .ok v w) : (execOp a.eval o).run P w = .ok (.value v) w := by
  unfold execOp
  simp only [ho, hx, hi, Sem.run_bind, hr, Result.andThen_ok, Sem.run_pure]
theorem ex_fieldAddr (t : TypeId) (x : Operand) (f : Nat) (vx v : Value) (ho : o.op = .fieldAddr t x f) (hx : a.eval x = vx) (hr : (Instr.fieldAt t vx f).run P w = .ok v w) : (execOp a.eval o).run P w = .ok (.value v) w := by
  unfold execOp
  simp only [ho, hx, Sem.run_bind, hr, Result.andThen_ok, Sem.run_pure]
theorem ex_load (t : TypeId) (x : Operand) (vx v : Value) (ho : o.op = .load t x) (hx : a.eval x = vx) (hr : (Instr.loadAt t vx).run P w = .ok v w) : (execOp a.eval o).run P w = .ok (.value v) w := by
  unfold execOp
  simp only [ho, hx, Sem.run_bind, hr, Result.andThen_ok, Sem.run_pure]
theorem ex_index (t : TypeId) (x i : Operand) (vx vi v : Value) (ho : o.op = .index t x i) (hx : a.eval x = vx) (hi : a.eval i = vi) (hr : (Instr.index t vx vi).run P w = .ok v w) : (execOp a.eval o).run P w = .ok (.value v) w := by
  unfold execOp
  simp only [ho, hx, hi, Sem.run_bind, hr, Result.andThen_ok, Sem.run_pure]
theorem ex_binOp (op : BinOp) (t t2 : TypeId) (x y : Operand) (vx vy v : Value) (ho : o.op = .binOp op t x y t2) (hx : a.eval x = vx) (hy : a.eval y = vy) (hr : (do eqGuard op t x y vx vy; Go.binOp op t vx vy : Sem Value).run P w = .ok v w) : (execOp a.eval o).run P w = .ok (.value v) w := by
  unfold execOp
  simp only [ho, hx, hy]
  rw [Sem.run_bind, hr]
  rfl
/-- A region that draws its order, what has come up written out. -/
theorem wp_region_at {QE : Exit → Act → World → Prop} {id : Nat} (n : Nat) (l0 : Array Bool) (hn : ops.size = n) (hl : Array.replicate n false = l0) (hm : P.follows .mixedOrders = true)
    (h : wpAny P .any ops QE n l0 a w.drew) : (Code.region id ops true).wp P QE a w := by
  subst hn hl
  exact wp_region_any hm h
theorem at_drop {i : Nat} {oi : Oper} {rs : List Oper} (h : ops.toList.drop i = oi :: rs) : ops[i]? = some oi := by
  rw [← Array.getElem?_toList]
  have := congrArg (fun l => l[0]?) h
  simpa using this
/-- wpAny_take, the slot written out. -/
theorem wpAny_at {md : Region.Mode} {QE : Exit → Act → World → Prop} {i : Nat} {oi : Oper} (d : Option Tmp) {v : Value} {fuel : Nat} {listed : Array Bool} {rs : List Oper} (hi0 : ops.toList.drop i = oi :: rs) (hd : oi.dst = d)
    (hs : Region.noSelect ops = true) (hf : Region.free md ops listed i = true) (hr : (Region.ready md ops listed).contains i = true)
    (hQ : ∀ c a w, QE (.panic c) (a.put oi.dst v) w → QE (.panic c) a w) (hw : Region.wanted oi (yielded ops a.tmps) = true) (hv : ∀ w, (execOp a.eval oi).run P w = .ok (.value v) w)
    (h : wpAny P md ops QE fuel (listed.setIfInBounds i true) (a.put d v) w) : wpAny P md ops QE (fuel + 1) listed a w := by
  subst hd
  have hi := at_drop hi0
  exact wpAny_take hi hs hf hr hQ (Or.inl ⟨hw, hv⟩) h
/-- One operation alone may come up. -/
theorem wpAny_only {md : Region.Mode} {QE : Exit → Act → World → Prop} (i : Nat) {oi : Oper} {fuel : Nat} {listed : Array Bool} {rs : List Oper} (hr : Region.ready md ops listed = [i]) (hi : ops.toList.drop i = oi :: rs) (hw : Region.wanted oi (yielded ops a.tmps) = true)
    (h : Oper.wp P oi a w (wpAny P md ops QE fuel (listed.setIfInBounds i true)) QE) : wpAny P md ops QE (fuel + 1) listed a w :=
  wpAny_ready hr (by simp) (AllReady.cons (at_drop hi) (fun K hK => by rw [if_pos hw]; exact Oper.wp_mono hK h) AllReady.nil)
theorem wpAny_two {md : Region.Mode} {QE : Exit → Act → World → Prop} (i j : Nat) {oi oj : Oper} {fuel : Nat} {listed : Array Bool} {rs rs2 : List Oper} (hr : Region.ready md ops listed = [i, j]) (hi : ops.toList.drop i = oi :: rs) (hj : ops.toList.drop j = oj :: rs2) (hwi : Region.wanted oi (yielded ops a.tmps) = true) (hwj : Region.wanted oj (yielded ops a.tmps) = true)
    (h1 : Oper.wp P oi a w (wpAny P md ops QE fuel (listed.setIfInBounds i true)) QE) (h2 : Oper.wp P oj a w (wpAny P md ops QE fuel (listed.setIfInBounds j true)) QE) : wpAny P md ops QE (fuel + 1) listed a w :=
  wpAny_ready hr (by simp) (AllReady.cons (at_drop hi) (fun K hK => by rw [if_pos hwi]; exact Oper.wp_mono hK h1) (AllReady.cons (at_drop hj) (fun K hK => by rw [if_pos hwj]; exact Oper.wp_mono hK h2) AllReady.nil))
/-- One load alone may come up. (No goal 'Oper.wp ..' may stand open: elaborating against it runs the operation and what follows.) -/
theorem wpAny_load {md : Region.Mode} {QE : Exit → Act → World → Prop} (i : Nat) (d : Option Tmp) {oi : Oper} {fuel : Nat} {listed : Array Bool} {rs : List Oper} (hr : Region.ready md ops listed = [i]) (hi : ops.toList.drop i = oi :: rs) (hd : oi.dst = d) (hw : Region.wanted oi (yielded ops a.tmps) = true)
    (ty : TypeId) (x : Operand) (ho : oi.op = .load ty x) (b o : Nat) (hx : a.eval x = .pointer (some ⟨b, o, none⟩)) (cs : List Value) (dd : TypeDesc) (hc : w.rangeAt b o cs) (hu : P.underlying ty = some dd) (hdd : dd.isRow = true) (hsz : (P.info? ty).map (·.size) = some cs.length)
    (h : wpAny P md ops QE fuel (listed.setIfInBounds i true) (a.put d (.agg cs.toArray)) w) : wpAny P md ops QE (fuel + 1) listed a w := by
  subst hd
  exact wpAny_only i hr hi hw (wp_load_mid ty x ho b o hx cs dd hc hu hdd hsz h)
theorem wpAny_loads {md : Region.Mode} {QE : Exit → Act → World → Prop} (i j : Nat) (d e : Option Tmp) {oi oj : Oper} {fuel : Nat} {listed : Array Bool} {rs rs2 : List Oper} (hr : Region.ready md ops listed = [i, j]) (hi : ops.toList.drop i = oi :: rs) (hj : ops.toList.drop j = oj :: rs2) (hd : oi.dst = d) (he : oj.dst = e)
    (hwi : Region.wanted oi (yielded ops a.tmps) = true) (hwj : Region.wanted oj (yielded ops a.tmps) = true)
    (ty : TypeId) (x : Operand) (ho : oi.op = .load ty x) (b o : Nat) (hx : a.eval x = .pointer (some ⟨b, o, none⟩)) (cs : List Value) (dd : TypeDesc) (hc : w.rangeAt b o cs) (hu : P.underlying ty = some dd) (hdd : dd.isRow = true) (hsz : (P.info? ty).map (·.size) = some cs.length)
    (ty2 : TypeId) (x2 : Operand) (ho2 : oj.op = .load ty2 x2) (b2 o2 : Nat) (hx2 : a.eval x2 = .pointer (some ⟨b2, o2, none⟩)) (cs2 : List Value) (dd2 : TypeDesc) (hc2 : w.rangeAt b2 o2 cs2) (hu2 : P.underlying ty2 = some dd2) (hdd2 : dd2.isRow = true) (hsz2 : (P.info? ty2).map (·.size) = some cs2.length)
    (h1 : wpAny P md ops QE fuel (listed.setIfInBounds i true) (a.put d (.agg cs.toArray)) w) (h2 : wpAny P md ops QE fuel (listed.setIfInBounds j true) (a.put e (.agg cs2.toArray)) w) : wpAny P md ops QE (fuel + 1) listed a w := by
  subst hd he
  exact wpAny_two i j hr hi hj hwi hwj (wp_load_mid ty x ho b o hx cs dd hc hu hdd hsz h1) (wp_load_mid ty2 x2 ho2 b2 o2 hx2 cs2 dd2 hc2 hu2 hdd2 hsz2 h2)
theorem wpAny_store {md : Region.Mode} {QE : Exit → Act → World → Prop} (i : Nat) {oi : Oper} {fuel : Nat} {listed : Array Bool} {rs : List Oper} (hr : Region.ready md ops listed = [i]) (hi : ops.toList.drop i = oi :: rs) (hd : oi.dst = none) (hw : Region.wanted oi (yielded ops a.tmps) = true)
    (ty : TypeId) (x y : Operand) (ho : oi.op = .store ty x y) (b o : Nat) (cells : List Value) (hx : a.eval x = .pointer (some ⟨b, o, none⟩)) (hy : a.eval y = .agg cells.toArray) (ht : w.there b o cells.length) (hsz : (P.info? ty).map (·.size) = some cells.length) (h1 : cells.toArray.all (·.oneCell') = true)
    (h : wpAny P md ops QE fuel (listed.setIfInBounds i true) a (w.setCells b o cells)) : wpAny P md ops QE (fuel + 1) listed a w := by
  refine wpAny_only i hr hi hw (wp_store_mid ty x y ho b o cells.toArray hx hy (by simpa using ht) (by simpa using hsz) h1 ?_)
  rw [hd]
  exact h
/-- A reading operation that alone may come up: its value in this world. -/
theorem wpAny_val {md : Region.Mode} {QE : Exit → Act → World → Prop} (i : Nat) (d : Option Tmp) (v : Value) {oi : Oper} {fuel : Nat} {listed : Array Bool} {rs : List Oper} (hr : Region.ready md ops listed = [i]) (hi : ops.toList.drop i = oi :: rs) (hd : oi.dst = d) (hw : Region.wanted oi (yielded ops a.tmps) = true)
    (hv : (execOp a.eval oi).run P w = .ok (.value v) w) (h : wpAny P md ops QE fuel (listed.setIfInBounds i true) (a.put d v) w) : wpAny P md ops QE (fuel + 1) listed a w := by
  subst hd
  refine wpAny_only i hr hi hw ?_
  show Oper.upon _ _ _ _ _ _
  rw [hv]
  exact h
/-- An operation whose guard does not hold. -/
theorem wpAny_skip {md : Region.Mode} {QE : Exit → Act → World → Prop} (i : Nat) (d : Option Tmp) {oi : Oper} {fuel : Nat} {listed : Array Bool} {rs : List Oper} (hi0 : ops.toList.drop i = oi :: rs) (hd : oi.dst = d)
    (hs : Region.noSelect ops = true) (hf : Region.free md ops listed i = true) (hr : (Region.ready md ops listed).contains i = true)
    (hQ : ∀ c a w, QE (.panic c) (a.put oi.dst undef) w → QE (.panic c) a w) (hw : Region.wanted oi (yielded ops a.tmps) = false)
    (h : wpAny P md ops QE fuel (listed.setIfInBounds i true) (a.put d undef) w) : wpAny P md ops QE (fuel + 1) listed a w := by
  subst hd
  exact wpAny_take (at_drop hi0) hs hf hr hQ (Or.inr ⟨hw, rfl⟩) h
/-- A call that alone may come up. -/
theorem wpAny_call {md : Region.Mode} {QE : Exit → Act → World → Prop} (i : Nat) (d : Option Tmp) {oi : Oper} {fuel : Nat} {listed : Array Bool} {rs : List Oper} (hr : Region.ready md ops listed = [i]) (hi : ops.toList.drop i = oi :: rs) (hd : oi.dst = d) (hw : Region.wanted oi (yielded ops a.tmps) = true)
    (f : FuncId) (vs : Array Value) (hrun : (execOp a.eval oi).run P w = .ok (.enter f vs) w) {Post : Ending → World → Prop} (hc : Calls P f vs w Post)
    (h : ∀ e w', Post e w' → ∃ v, e = .returned v ∧ wpAny P md ops QE fuel (listed.setIfInBounds i true) (a.put d v) w') : wpAny P md ops QE (fuel + 1) listed a w := by
  subst hd
  refine wpAny_only i hr hi hw ?_
  show Oper.upon _ _ _ _ _ _
  rw [hrun, Oper.upon_enter]
  refine hc.mono fun e w' hp => ?_
  obtain ⟨v, rfl, hv⟩ := h e w' hp
  exact hv
end

end Go.Proofs.YtpboaadjbkaidaaDoor
