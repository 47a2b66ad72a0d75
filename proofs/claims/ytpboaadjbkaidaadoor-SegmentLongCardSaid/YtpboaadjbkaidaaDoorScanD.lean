
/-
  The scanner: one byte inside brackets.
-/
import Derived.Test.YtpboaadjbkaidaaDoorScanC
namespace Go.Proofs.YtpboaadjbkaidaaDoor
set_option maxRecDepth 100000
open Go.RowKit

set_option maxRecDepth 100000 in
set_option maxHeartbeats 4000000 in
theorem single_any5 (w : World) (R : Nat) (s : ByteArray) (i : Nat) (h : ScIn w R s i false) (hi : i < s.size) (hs : s.size ≤ 2147483648) :
    Calls Tryd.prog 138 #[.pointer (some ⟨R, 0, none⟩)] w fun e w' => e = .returned (.tuple #[.agg (setC (singleF s i).p).toArray, .int .u8 (singleF s i).b, .bool (singleF s i).one]) ∧ ScIn w' R s (singleF s i).j (singleF s i).bad ∧ Only R w w' := by
  have hR := h.lt
  have hRG : R ≠ w.heap.size := by omega
  have HS0 : Hid (ScIn (w.alloc (.cells #[.int .u8 0, .int .u8 0, .int .u8 0, .int .u8 0, .int .u8 0, .int .u8 0, .int .u8 0, .int .u8 0, .int .u8 0, .int .u8 0, .int .u8 0, .int .u8 0, .int .u8 0, .int .u8 0, .int .u8 0, .int .u8 0, .int .u8 0, .int .u8 0, .int .u8 0, .int .u8 0, .int .u8 0, .int .u8 0, .int .u8 0, .int .u8 0, .int .u8 0, .int .u8 0, .int .u8 0, .int .u8 0, .int .u8 0, .int .u8 0, .int .u8 0, .int .u8 0] 138)) R s i false) := h.below ((Below.refl _ w).alloc (Nat.le_refl _) (.cells #[.int .u8 0, .int .u8 0, .int .u8 0, .int .u8 0, .int .u8 0, .int .u8 0, .int .u8 0, .int .u8 0, .int .u8 0, .int .u8 0, .int .u8 0, .int .u8 0, .int .u8 0, .int .u8 0, .int .u8 0, .int .u8 0, .int .u8 0, .int .u8 0, .int .u8 0, .int .u8 0, .int .u8 0, .int .u8 0, .int .u8 0, .int .u8 0, .int .u8 0, .int .u8 0, .int .u8 0, .int .u8 0, .int .u8 0, .int .u8 0, .int .u8 0, .int .u8 0] 138))
  have HZ0 : Hid (SetIn (w.alloc (.cells #[.int .u8 0, .int .u8 0, .int .u8 0, .int .u8 0, .int .u8 0, .int .u8 0, .int .u8 0, .int .u8 0, .int .u8 0, .int .u8 0, .int .u8 0, .int .u8 0, .int .u8 0, .int .u8 0, .int .u8 0, .int .u8 0, .int .u8 0, .int .u8 0, .int .u8 0, .int .u8 0, .int .u8 0, .int .u8 0, .int .u8 0, .int .u8 0, .int .u8 0, .int .u8 0, .int .u8 0, .int .u8 0, .int .u8 0, .int .u8 0, .int .u8 0, .int .u8 0] 138)) w.heap.size 138 noP) := zero_in w 138
  have HO0 := Lib.hid ((Only.refl R w).alloc (.cells #[.int .u8 0, .int .u8 0, .int .u8 0, .int .u8 0, .int .u8 0, .int .u8 0, .int .u8 0, .int .u8 0, .int .u8 0, .int .u8 0, .int .u8 0, .int .u8 0, .int .u8 0, .int .u8 0, .int .u8 0, .int .u8 0, .int .u8 0, .int .u8 0, .int .u8 0, .int .u8 0, .int .u8 0, .int .u8 0, .int .u8 0, .int .u8 0, .int .u8 0, .int .u8 0, .int .u8 0, .int .u8 0, .int .u8 0, .int .u8 0, .int .u8 0, .int .u8 0] 138))
  clear h
  obtain ⟨c, HC⟩ : ∃ c, Hid (c = bt s i) := ⟨_, rfl⟩
  have hc2 : c < 256 := by rw [HC.out]; exact bt_lt s i
  go_enter Tryd.func138, Tryd.ntmps138
  go_upto_region 1 with fail
  generalize w.alloc (.cells #[.int .u8 0, .int .u8 0, .int .u8 0, .int .u8 0, .int .u8 0, .int .u8 0, .int .u8 0, .int .u8 0, .int .u8 0, .int .u8 0, .int .u8 0, .int .u8 0, .int .u8 0, .int .u8 0, .int .u8 0, .int .u8 0, .int .u8 0, .int .u8 0, .int .u8 0, .int .u8 0, .int .u8 0, .int .u8 0, .int .u8 0, .int .u8 0, .int .u8 0, .int .u8 0, .int .u8 0, .int .u8 0, .int .u8 0, .int .u8 0, .int .u8 0, .int .u8 0] 138) = w1 at HS0 HZ0 HO0
  have q0 := HS0.out.c0
  have q1 := HS0.out.c1
  have hi' : (i : Int) < (s.size : Int) := by omega
  go_wp2_with fail
  go_quiet (fail)
  rw [show s[i].toNat = c by rw [HC.out, bt_get s i hi]]
  have HS1 : Hid (ScIn (w1.drewN nq) R s i false) := HS0.out
  have HZ1 : Hid (SetIn (w1.drewN nq) w.heap.size 138 noP) := HZ0.out
  have HO1 : Hid (Only R w (w1.drewN nq)) := HO0.out.drewN nq
  clear q0 q1 HS0 HZ0 HO0
  generalize w1.drewN nq = w2 at HS1 HZ1 HO1 ⊢
  have q1 := HS1.out.c1
  have f1 := HS1.out.free 1
  by_cases h92 : c = 92
  · have HR : Hid (singleF s i = escF s i) := by
      show _ = _
      unfold singleF
      rw [← HC.out, if_pos h92]
    have C := escaped_any w2 R s i HS1.out hi hs
    generalize escF s i = r at C HR
    have HE := Lib.hid C
    clear C q1 f1
    subst h92
    go_wp2_with (first
      | (go_at_call 128; refine HE.out.mono ?_; rintro e w3 ⟨rfl, hs3, ho3⟩)
      | (refine wpList_store_row rfl 138 (.tmp 2) (.tmp 18) rfl (w.heap.size) (setC r.p).toArray rfl rfl 138 (setC noP).toArray (HZ1.out.only ho3 (Ne.symm hRG)) (by rw [set_size, setC_size]) (by simp only [setC_size]) (setC_one _) ?_))
    exact bodyPost_ret (v := .tuple #[.agg (setC r.p).toArray, .int .u8 r.b, .bool r.one]) (res_set3 Tryd.results138 _ _ w.heap.size 138 r.p _ _ rfl rfl rfl ((HZ1.out.only ho3 (Ne.symm hRG)).row r.p)) rfl ⟨by (rw [HR.out] <;> rfl), by rw [HR.out]; exact hs3.keep (setRow_other _ _ _ _ hRG), (HO1.out.trans ho3).rowNew (Nat.le_refl _) _⟩
  have h92' : ((c : Int) == 92) = false := beq_eq_false_iff_ne.2 (by omega)
  obtain ⟨z, HI, hz⟩ : ∃ z, Hid (∀ w, Calls Tryd.prog 131 #[.string (⟨#[93, 91, 94, 45]⟩ : ByteArray), .int .u8 c] w fun e w' => e = .returned (.int .i64 z) ∧ w = w') ∧ decide (0 ≤ z) = inIn c := ⟨_, fun w => index_any (⟨#[93, 91, 94, 45]⟩ : ByteArray) c w, index_in ⟨c, hc2⟩⟩
  by_cases hw : wrB c = true
  · by_cases hin : inIn c = true
    · have hz1 : 0 ≤ z := by rw [hin] at hz; simpa using hz
      have HR : Hid (singleF s i = badR i) := by
        show _ = _
        unfold singleF
        rw [← HC.out, if_neg h92, if_neg (by simp [hin])]
      clear hz hin h92
      go_upto_region 6 with (first
        | (go_at_call 130; refine (written_any _ _ (by omega)).mono ?_; rintro e w' ⟨rfl, rfl⟩)
        | (go_at_call 131; refine (HI.out _).mono ?_; rintro e w' ⟨rfl, rfl⟩)
        | (go_at_call 132; refine (fail_any _ R s i false i (by exact HS1.out)).mono ?_; rintro e wf ⟨rfl, hsf, hof⟩))
      have HZf := Lib.hid (HZ1.out.only hof (Ne.symm hRG))
      have HOf := Lib.hid (HO1.out.trans hof)
      have HSf := Lib.hid hsf
      clear hsf hof q1 f1 HS1 HZ1 HO1
      go_wp2_with (refine wpList_store_row rfl 138 (.tmp 2) (.tmp 35) rfl (w.heap.size) zeroA rfl rfl 138 (setC noP).toArray HZf.out (by rw [set_size]; rfl) (by rw [setC_size]; rfl) zero_one ?_; rw [zero_eq])
      exact bodyPost_ret (v := .tuple #[.agg (setC noP).toArray, .int .u8 ((0 : Nat) : Int), .bool false]) (res_set3 Tryd.results138 _ _ w.heap.size 138 noP _ _ rfl rfl rfl (HZf.out.row noP)) rfl ⟨by (rw [HR.out] <;> rfl), by rw [HR.out]; exact HSf.out.keep (setRow_other _ _ _ _ hRG), HOf.out.rowNew (Nat.le_refl _) _⟩
    · have hin' : inIn c = false := by simpa using hin
      have hz1 : ¬ 0 ≤ z := by rw [hin'] at hz; simpa using hz
      have HR : Hid (singleF s i = ⟨oneP c, c, true, i + 1, false⟩) := by
        show _ = _
        unfold singleF
        rw [← HC.out, if_neg h92, if_pos ⟨hw, hin'⟩]
      clear hz hin hin' h92
      obtain ⟨k1, HK1⟩ : ∃ k1, Hid (k1 = i + 1) := ⟨_, rfl⟩
      have hk1a : i < k1 := by have := HK1.out; omega
      have hk1b : k1 < i + 2 := by have := HK1.out; omega
      go_upto_region 8 with (first
        | (go_at_call 130; refine (written_any _ _ (by omega)).mono ?_; rintro e w' ⟨rfl, rfl⟩)
        | (go_at_call 131; refine (HI.out _).mono ?_; rintro e w' ⟨rfl, rfl⟩))
      rw [show (i : Int) + 1 = (k1 : Int) by omega]
      have HS4 := Lib.hid (HS1.out.set1 k1)
      have HZ4 := Lib.hid (HZ1.out.other (Ne.symm hRG) 1 (.int .i64 k1))
      have HO4 := Lib.hid (HO1.out.set 1 (.int .i64 k1))
      clear q1 f1 HS1 HZ1 HO1
      generalize w2.setCell ⟨R, 1, none⟩ (.int .i64 k1) = w5 at HS4 HZ4 HO4 ⊢
      go_upto_region 9 with (go_at_call 133; refine (add_any noP w.heap.size c 138 _ (by exact HZ4.out) hc2).mono ?_; rintro e w6 ⟨rfl, hz6, ho6⟩)
      have HS6 := Lib.hid (HS4.out.only ho6 hRG)
      have HZ6 : Hid (SetIn w6 w.heap.size 138 (oneP c)) := hz6
      have HO6 := Lib.hid (HO4.out.new ho6 (Nat.le_refl _))
      clear hz6 ho6 HS4 HZ4 HO4
      rw [HK1.out] at HS6
      go_wp2_with (first
        | (refine wpList_load_row rfl 138 (.tmp 2) rfl (w.heap.size) rfl 138 (setC (oneP c)).toArray (0, 0) _ HZ6.out Tryd.underlying138 rfl (by rw [set_size, setC_size]) ?_)
        | (refine wpList_store_row rfl 138 (.tmp 2) (.tmp 45) rfl (w.heap.size) (setC (oneP c)).toArray rfl rfl 138 (setC (oneP c)).toArray HZ6.out (by rw [set_size, setC_size]) (by simp only [setC_size]) (setC_one _) ?_))
      exact bodyPost_ret (v := .tuple #[.agg (setC (oneP c)).toArray, .int .u8 c, .bool true]) (res_set3 Tryd.results138 _ _ w.heap.size 138 (oneP c) _ _ rfl rfl rfl (HZ6.out.row (oneP c))) rfl ⟨by (rw [HR.out] <;> rfl), by rw [HR.out]; exact HS6.out.keep (setRow_other _ _ _ _ hRG), HO6.out.rowNew (Nat.le_refl _) _⟩
  · have hw' : wrB c = false := by simpa using hw
    have HR : Hid (singleF s i = badR i) := by
      show _ = _
      unfold singleF
      rw [← HC.out, if_neg h92, if_neg (by simp [hw'])]
    clear hz HI hw h92
    go_upto_region 6 with (first
      | (go_at_call 130; refine (written_any _ _ (by omega)).mono ?_; rintro e w' ⟨rfl, rfl⟩)
      | (go_at_call 132; refine (fail_any _ R s i false i (by exact HS1.out)).mono ?_; rintro e wf ⟨rfl, hsf, hof⟩))
    have HZf := Lib.hid (HZ1.out.only hof (Ne.symm hRG))
    have HOf := Lib.hid (HO1.out.trans hof)
    have HSf := Lib.hid hsf
    clear hsf hof q1 f1 HS1 HZ1 HO1
    go_wp2_with (refine wpList_store_row rfl 138 (.tmp 2) (.tmp 35) rfl (w.heap.size) zeroA rfl rfl 138 (setC noP).toArray HZf.out (by rw [set_size]; rfl) (by rw [setC_size]; rfl) zero_one ?_; rw [zero_eq])
    exact bodyPost_ret (v := .tuple #[.agg (setC noP).toArray, .int .u8 ((0 : Nat) : Int), .bool false]) (res_set3 Tryd.results138 _ _ w.heap.size 138 noP _ _ rfl rfl rfl (HZf.out.row noP)) rfl ⟨by (rw [HR.out] <;> rfl), by rw [HR.out]; exact HSf.out.keep (setRow_other _ _ _ _ hRG), HOf.out.rowNew (Nat.le_refl _) _⟩

end Go.Proofs.YtpboaadjbkaidaaDoor
