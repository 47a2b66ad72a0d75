
/-
  The scanner: what is behind a backslash.
-/
import Derived.Test.YtpboaadjbkaidaaDoorScanB
namespace Go.Proofs.YtpboaadjbkaidaaDoor
set_option maxRecDepth 100000
open Go.RowKit

theorem results_cell_tmp2 {fn : Func} {p u v : Tmp} {ty : TypeId} (h : fn.results = #[.cell p ty, .tmp u, .tmp v]) (tmps : Array Value) (P : Program) (w : World) :
    (results fn tmps).run P w =
      ((asAddr (tmps.getD p undef)).run P w).andThen fun a w₁ => ((loadVar ty a).run P w₁).andThen fun x w₂ => .ok (.tuple #[x, tmps.getD u undef, tmps.getD v undef]) w₂ := by
  simp only [results, h]
  simp [Sem.run_bind, Result.andThen]
theorem res_set3 {fn : Func} {p u v : Tmp} (h : fn.results = #[.cell p 138, .tmp u, .tmp v]) (tmps : Array Value) (w : World) (g : Nat) (t : TypeId) (q : Nat → Bool) (x y : Value) (hp : tmps.getD p undef = .pointer (some ⟨g, 0, none⟩)) (hu : tmps.getD u undef = x) (hv : tmps.getD v undef = y) (hs : SetIn w g t q) :
    (results fn tmps).run Tryd.prog w = .ok (.tuple #[.agg (setC q).toArray, x, y]) w := by
  rw [results_cell_tmp2 h, hp, hu, hv]
  have hl := run_loadVar_row (P := Tryd.prog) w g t 138 (setC q).toArray (0, 0) _ hs Tryd.underlying138 rfl (by rw [set_size, setC_size])
  simp [asAddr, Result.andThen, hl]

set_option maxRecDepth 100000 in
set_option maxHeartbeats 4000000 in
theorem escaped_any (w : World) (R : Nat) (s : ByteArray) (i : Nat) (h : ScIn w R s i false) (hi : i < s.size) (hs : s.size ≤ 2147483648) :
    Calls Tryd.prog 128 #[.pointer (some ⟨R, 0, none⟩)] w fun e w' => e = .returned (.tuple #[.agg (setC (escF s i).p).toArray, .int .u8 (escF s i).b, .bool (escF s i).one]) ∧ ScIn w' R s (escF s i).j (escF s i).bad ∧ Only R w w' := by
  have hR := h.lt
  have hRG : R ≠ w.heap.size := by omega
  have HS0 : Hid (ScIn (w.alloc (.cells #[.int .u8 0, .int .u8 0, .int .u8 0, .int .u8 0, .int .u8 0, .int .u8 0, .int .u8 0, .int .u8 0, .int .u8 0, .int .u8 0, .int .u8 0, .int .u8 0, .int .u8 0, .int .u8 0, .int .u8 0, .int .u8 0, .int .u8 0, .int .u8 0, .int .u8 0, .int .u8 0, .int .u8 0, .int .u8 0, .int .u8 0, .int .u8 0, .int .u8 0, .int .u8 0, .int .u8 0, .int .u8 0, .int .u8 0, .int .u8 0, .int .u8 0, .int .u8 0] 138)) R s i false) := h.below ((Below.refl _ w).alloc (Nat.le_refl _) (.cells #[.int .u8 0, .int .u8 0, .int .u8 0, .int .u8 0, .int .u8 0, .int .u8 0, .int .u8 0, .int .u8 0, .int .u8 0, .int .u8 0, .int .u8 0, .int .u8 0, .int .u8 0, .int .u8 0, .int .u8 0, .int .u8 0, .int .u8 0, .int .u8 0, .int .u8 0, .int .u8 0, .int .u8 0, .int .u8 0, .int .u8 0, .int .u8 0, .int .u8 0, .int .u8 0, .int .u8 0, .int .u8 0, .int .u8 0, .int .u8 0, .int .u8 0, .int .u8 0] 138))
  have HZ0 : Hid (SetIn (w.alloc (.cells #[.int .u8 0, .int .u8 0, .int .u8 0, .int .u8 0, .int .u8 0, .int .u8 0, .int .u8 0, .int .u8 0, .int .u8 0, .int .u8 0, .int .u8 0, .int .u8 0, .int .u8 0, .int .u8 0, .int .u8 0, .int .u8 0, .int .u8 0, .int .u8 0, .int .u8 0, .int .u8 0, .int .u8 0, .int .u8 0, .int .u8 0, .int .u8 0, .int .u8 0, .int .u8 0, .int .u8 0, .int .u8 0, .int .u8 0, .int .u8 0, .int .u8 0, .int .u8 0] 138)) w.heap.size 138 noP) := zero_in w 138
  have HO0 := Lib.hid ((Only.refl R w).alloc (.cells #[.int .u8 0, .int .u8 0, .int .u8 0, .int .u8 0, .int .u8 0, .int .u8 0, .int .u8 0, .int .u8 0, .int .u8 0, .int .u8 0, .int .u8 0, .int .u8 0, .int .u8 0, .int .u8 0, .int .u8 0, .int .u8 0, .int .u8 0, .int .u8 0, .int .u8 0, .int .u8 0, .int .u8 0, .int .u8 0, .int .u8 0, .int .u8 0, .int .u8 0, .int .u8 0, .int .u8 0, .int .u8 0, .int .u8 0, .int .u8 0, .int .u8 0, .int .u8 0] 138))
  clear h
  obtain ⟨k1, HK1⟩ : ∃ k1, Hid (k1 = i + 1) := ⟨_, rfl⟩
  have hk1a : i < k1 := by have := HK1.out; omega
  have hk1b : k1 < i + 2 := by have := HK1.out; omega
  have hk1' : k1 ≤ s.size := by omega
  go_enter Tryd.func128, Tryd.ntmps128
  go_upto_region 1 with fail
  generalize w.alloc (.cells #[.int .u8 0, .int .u8 0, .int .u8 0, .int .u8 0, .int .u8 0, .int .u8 0, .int .u8 0, .int .u8 0, .int .u8 0, .int .u8 0, .int .u8 0, .int .u8 0, .int .u8 0, .int .u8 0, .int .u8 0, .int .u8 0, .int .u8 0, .int .u8 0, .int .u8 0, .int .u8 0, .int .u8 0, .int .u8 0, .int .u8 0, .int .u8 0, .int .u8 0, .int .u8 0, .int .u8 0, .int .u8 0, .int .u8 0, .int .u8 0, .int .u8 0, .int .u8 0] 138) = w1 at HS0 HZ0 HO0
  have q1 := HS0.out.c1
  have f1 := HS0.out.free 1
  go_upto_region 2 with fail
  rw [show (i : Int) + 1 = (k1 : Int) by omega]
  have HS1 := Lib.hid (HS0.out.set1 k1)
  have HZ1 := Lib.hid (HZ0.out.other (Ne.symm hRG) 1 (.int .i64 k1))
  have HO1 := Lib.hid (HO0.out.set 1 (.int .i64 k1))
  clear q1 f1 HS0 HZ0 HO0
  generalize w1.setCell ⟨R, 1, none⟩ (.int .i64 k1) = w2 at HS1 HZ1 HO1 ⊢
  by_cases hlt : k1 < s.size
  · obtain ⟨c, HC⟩ : ∃ c, Hid (c = bt s k1) := ⟨_, rfl⟩
    have hc2 : c < 256 := by rw [HC.out]; exact bt_lt s k1
    go_upto_region 5 with (go_at_call 120; refine (more_any _ R s k1 false (by exact HS1.out) (by unfold maxLen; omega)).mono ?_; rintro e w' ⟨rfl, nm, rfl⟩)
    have HS2 : Hid (ScIn (w2.drewN nm) R s k1 false) := HS1.out
    have HZ2 : Hid (SetIn (w2.drewN nm) w.heap.size 138 noP) := HZ1.out
    have HO2 : Hid (Only R w (w2.drewN nm)) := HO1.out.drewN nm
    clear HS1 HZ1 HO1
    generalize w2.drewN nm = w3 at HS2 HZ2 HO2 ⊢
    have q0 := HS2.out.c0
    have q1 := HS2.out.c1
    have hlt' : (k1 : Int) < (s.size : Int) := by omega
    go_wp2_with fail
    go_quiet (fail)
    rw [show s[k1].toNat = c by rw [HC.out, bt_get s k1 hlt]]
    have HS3 : Hid (ScIn (w3.drewN nq) R s k1 false) := HS2.out
    have HZ3 : Hid (SetIn (w3.drewN nq) w.heap.size 138 noP) := HZ2.out
    have HO3 : Hid (Only R w (w3.drewN nq)) := HO2.out.drewN nq
    clear q0 q1 HS2 HZ2 HO2
    generalize w3.drewN nq = w4 at HS3 HZ3 HO3 ⊢
    have q1 := HS3.out.c1
    have f1 := HS3.out.free 1
    obtain ⟨k2, HK2⟩ : ∃ k2, Hid (k2 = k1 + 1) := ⟨_, rfl⟩
    have hk2a : k1 < k2 := by have := HK2.out; omega
    have hk2b : k2 < k1 + 2 := by have := HK2.out; omega
    by_cases hm : clsN (c : Int) = 5
    · have t5 : (clsN (c : Int) == 5) = true := by rw [hm]; rfl
      have HR : Hid (escF s i = ⟨oneP c, c, true, k2, false⟩) := by
        show _ = _
        unfold escF
        rw [HK2.out, HC.out, HK1.out] at *
        rw [if_pos hlt, if_pos hm]
      clear hm
      go_upto_region 8 with (go_at_call 98; refine (of_any _ _ (by omega) (by omega)).mono ?_; rintro e w' ⟨rfl, rfl⟩)
      rw [show (k1 : Int) + 1 = (k2 : Int) by omega]
      have HS4 := Lib.hid (HS3.out.set1 k2)
      have HZ4 := Lib.hid (HZ3.out.other (Ne.symm hRG) 1 (.int .i64 k2))
      have HO4 := Lib.hid (HO3.out.set 1 (.int .i64 k2))
      clear q1 f1 HS3 HZ3 HO3
      generalize w4.setCell ⟨R, 1, none⟩ (.int .i64 k2) = w5 at HS4 HZ4 HO4 ⊢
      go_upto_region 9 with (go_at_call 133; refine (add_any noP w.heap.size c 138 _ (by exact HZ4.out) hc2).mono ?_; rintro e w6 ⟨rfl, hz6, ho6⟩)
      have HS6 := Lib.hid (HS4.out.only ho6 hRG)
      have HZ6 : Hid (SetIn w6 w.heap.size 138 (oneP c)) := hz6
      have HO6 := Lib.hid (HO4.out.new ho6 (Nat.le_refl _))
      clear hz6 ho6 HS4 HZ4 HO4
      go_wp2_with (first
        | (refine wpList_load_row rfl 138 (.tmp 2) rfl (w.heap.size) rfl 138 (setC (oneP c)).toArray (0, 0) _ HZ6.out Tryd.underlying138 rfl (by rw [set_size, setC_size]) ?_)
        | (refine wpList_store_row rfl 138 (.tmp 2) (.tmp 44) rfl (w.heap.size) (setC (oneP c)).toArray rfl rfl 138 (setC (oneP c)).toArray HZ6.out (by rw [set_size, setC_size]) (by simp only [setC_size]) (setC_one _) ?_))
      exact bodyPost_ret (v := .tuple #[.agg (setC (oneP c)).toArray, .int .u8 c, .bool true]) (res_set3 Tryd.results128 _ _ w.heap.size 138 (oneP c) _ _ rfl rfl rfl (HZ6.out.row (oneP c))) rfl ⟨by (rw [HR.out] <;> rfl), by rw [HR.out]; exact HS6.out.keep (setRow_other _ _ _ _ hRG), HO6.out.rowNew (Nat.le_refl _) _⟩
    · have t5 : (clsN (c : Int) == 5) = false := by simpa using hm
      rcases hcl : classP c with _ | p
      · have HR : Hid (escF s i = badR k1) := by
          show _ = _
          unfold escF
          rw [← HK1.out, if_pos hlt, ← HC.out, if_neg hm, hcl]
        have C := classSet_any c w4 hc2
        rw [hcl] at C
        have HCL := Lib.hid C
        clear C hcl hm
        go_upto_region 10 with (go_at_call 98; refine (of_any _ _ (by omega) (by omega)).mono ?_; rintro e w' ⟨rfl, rfl⟩)
        go_upto_region 11 with (first
          | (go_at_call 136; refine HCL.out.mono ?_; rintro e w5 ⟨rfl, hb5⟩)
          | (refine wpList_store_row rfl 138 (.tmp 2) (.tmp 49) rfl (w.heap.size) (setC noP).toArray rfl rfl 138 (setC noP).toArray (HZ3.out.below hb5) (by rw [set_size, setC_size]) (by simp only [setC_size]) (setC_one _) ?_))
        have HS4 := Lib.hid ((HS3.out.below hb5).keep (w' := w5.setRow w.heap.size (setC noP).toArray) (setRow_other _ _ _ _ hRG))
        have HZ4 := Lib.hid ((HZ3.out.below hb5).row noP)
        have HO4 := Lib.hid ((HO3.out.bel hb5).rowNew (Nat.le_refl _) (setC noP).toArray)
        clear q1 f1 HS3 HZ3 HO3
        generalize w5.setRow w.heap.size (setC noP).toArray = w6 at HS4 HZ4 HO4 ⊢
        have q1 := HS4.out.c1
        go_upto_region 13 with (first
          | (go_at_call 98; refine (of_any _ _ (by omega) (by omega)).mono ?_; rintro e w' ⟨rfl, rfl⟩)
          | (go_at_call 132; refine (fail_any _ R s k1 false k1 (by exact HS4.out)).mono ?_; rintro e wf ⟨rfl, hsf, hof⟩))
        have HZf := Lib.hid (HZ4.out.only hof (Ne.symm hRG))
        have HOf := Lib.hid (HO4.out.trans hof)
        have HSf := Lib.hid hsf
        clear hsf hof q1 HS4 HZ4 HO4
        go_wp2_with (refine wpList_store_row rfl 138 (.tmp 2) (.tmp 64) rfl (w.heap.size) zeroA rfl rfl 138 (setC noP).toArray HZf.out (by rw [set_size]; rfl) (by rw [setC_size]; rfl) zero_one ?_; rw [zero_eq])
        exact bodyPost_ret (v := .tuple #[.agg (setC noP).toArray, .int .u8 ((0 : Nat) : Int), .bool false]) (res_set3 Tryd.results128 _ _ w.heap.size 138 noP _ _ rfl rfl rfl (HZf.out.row noP)) rfl ⟨by (rw [HR.out] <;> rfl), by rw [HR.out]; exact HSf.out.keep (setRow_other _ _ _ _ hRG), HOf.out.rowNew (Nat.le_refl _) _⟩
      · have HR : Hid (escF s i = ⟨p, c, false, k2, false⟩) := by
          show _ = _
          unfold escF
          rw [← HK1.out, if_pos hlt, ← HC.out, if_neg hm, hcl, HK2.out, HK1.out]
        have C := classSet_any c w4 hc2
        rw [hcl] at C
        have HCL := Lib.hid C
        have t4 : (clsN (c : Int) == 4) = true := by
          have h4 := classP_letter ⟨c, hc2⟩ (by simp [hcl])
          simpa using h4
        have t4' : (clsN (c : Int) != 4) = false := by
          have h4 := classP_letter ⟨c, hc2⟩ (by simp [hcl])
          simpa using h4
        clear C hcl hm
        go_upto_region 10 with (go_at_call 98; refine (of_any _ _ (by omega) (by omega)).mono ?_; rintro e w' ⟨rfl, rfl⟩)
        go_upto_region 11 with (first
          | (go_at_call 136; refine HCL.out.mono ?_; rintro e w5 ⟨rfl, hb5⟩)
          | (refine wpList_store_row rfl 138 (.tmp 2) (.tmp 49) rfl (w.heap.size) (setC p).toArray rfl rfl 138 (setC noP).toArray (HZ3.out.below hb5) (by rw [set_size, setC_size]) (by simp only [setC_size]) (setC_one _) ?_))
        have HS4 := Lib.hid ((HS3.out.below hb5).keep (w' := w5.setRow w.heap.size (setC p).toArray) (setRow_other _ _ _ _ hRG))
        have HZ4 := Lib.hid ((HZ3.out.below hb5).row p)
        have HO4 := Lib.hid ((HO3.out.bel hb5).rowNew (Nat.le_refl _) (setC p).toArray)
        clear q1 f1 HS3 HZ3 HO3
        generalize w5.setRow w.heap.size (setC p).toArray = w6 at HS4 HZ4 HO4 ⊢
        have q1 := HS4.out.c1
        have f1 := HS4.out.free 1
        go_upto_region 15 with (go_at_call 98; refine (of_any _ _ (by omega) (by omega)).mono ?_; rintro e w' ⟨rfl, rfl⟩)
        rw [show (k1 : Int) + 1 = (k2 : Int) by omega]
        have HS5 := Lib.hid (HS4.out.set1 k2)
        have HZ5 := Lib.hid (HZ4.out.other (Ne.symm hRG) 1 (.int .i64 k2))
        have HO5 := Lib.hid (HO4.out.set 1 (.int .i64 k2))
        clear q1 f1 HS4 HZ4 HO4
        generalize w6.setCell ⟨R, 1, none⟩ (.int .i64 k2) = w7 at HS5 HZ5 HO5 ⊢
        go_wp2_with (first
          | (refine wpList_load_row rfl 138 (.tmp 2) rfl (w.heap.size) rfl 138 (setC p).toArray (0, 0) _ HZ5.out Tryd.underlying138 rfl (by rw [set_size, setC_size]) ?_)
          | (refine wpList_store_row rfl 138 (.tmp 2) (.tmp 72) rfl (w.heap.size) (setC p).toArray rfl rfl 138 (setC p).toArray HZ5.out (by rw [set_size, setC_size]) (by simp only [setC_size]) (setC_one _) ?_))
        exact bodyPost_ret (v := .tuple #[.agg (setC p).toArray, .int .u8 c, .bool false]) (res_set3 Tryd.results128 _ _ w.heap.size 138 p _ _ rfl rfl rfl (HZ5.out.row p)) rfl ⟨by (rw [HR.out] <;> rfl), by rw [HR.out]; exact HS5.out.keep (setRow_other _ _ _ _ hRG), HO5.out.rowNew (Nat.le_refl _) _⟩
  · have HR : Hid (escF s i = badR k1) := by
      show _ = _
      unfold escF
      rw [← HK1.out, if_neg hlt]
    go_upto_region 3 with (go_at_call 120; refine (more_any _ R s k1 false (by exact HS1.out) (by unfold maxLen; omega)).mono ?_; rintro e w' ⟨rfl, nm, rfl⟩)
    have HS2 : Hid (ScIn (w2.drewN nm) R s k1 false) := HS1.out
    have HZ2 : Hid (SetIn (w2.drewN nm) w.heap.size 138 noP) := HZ1.out
    have HO2 : Hid (Only R w (w2.drewN nm)) := HO1.out.drewN nm
    clear HS1 HZ1 HO1
    generalize w2.drewN nm = w3 at HS2 HZ2 HO2 ⊢
    have q1 := HS2.out.c1
    go_upto_region 4 with (go_at_call 132; refine (fail_any _ R s k1 false k1 (by exact HS2.out)).mono ?_; rintro e wf ⟨rfl, hsf, hof⟩)
    have HZf := Lib.hid (HZ2.out.only hof (Ne.symm hRG))
    have HOf := Lib.hid (HO2.out.trans hof)
    have HSf := Lib.hid hsf
    clear hsf hof q1 HS2 HZ2 HO2
    go_wp2_with (refine wpList_store_row rfl 138 (.tmp 2) (.tmp 22) rfl (w.heap.size) zeroA rfl rfl 138 (setC noP).toArray HZf.out (by rw [set_size]; rfl) (by rw [setC_size]; rfl) zero_one ?_; rw [zero_eq])
    exact bodyPost_ret (v := .tuple #[.agg (setC noP).toArray, .int .u8 ((0 : Nat) : Int), .bool false]) (res_set3 Tryd.results128 _ _ w.heap.size 138 noP _ _ rfl rfl rfl (HZf.out.row noP)) rfl ⟨by (rw [HR.out] <;> rfl), by rw [HR.out]; exact HSf.out.keep (setRow_other _ _ _ _ hRG), HOf.out.rowNew (Nat.le_refl _) _⟩

end Go.Proofs.YtpboaadjbkaidaaDoor
