
/-
  The scanner: a set in brackets.
-/
import Derived.Test.YtpboaadjbkaidaaDoorScanE
namespace Go.Proofs.YtpboaadjbkaidaaDoor
set_option maxRecDepth 100000
open Go.RowKit

theorem more_quietb (w : World) (R : Nat) (s : ByteArray) (i : Nat) (bad : Bool) (n : Nat) {b : Bool} (h : ScIn w R s i bad) (hs : s.size ≤ maxLen) (hb : decide (i < s.size) = b) :
    Calls Tryd.prog 120 #[.pointer (some ⟨R, 0, none⟩)] (w.drewN n) fun e w' => e = .returned (.bool b) ∧ ∃ m, w' = w.drewN m := by
  subst hb
  exact more_quiet w R s i bad n h hs
theorem more_quietb_add (w : World) (R : Nat) (s : ByteArray) (i : Nat) (bad : Bool) (a n : Nat) {b : Bool} (h : ScIn w R s i bad) (hs : s.size ≤ maxLen) (hb : decide (i < s.size) = b) :
    Calls Tryd.prog 120 #[.pointer (some ⟨R, 0, none⟩)] (w.drewN (a + n)) fun e w' => e = .returned (.bool b) ∧ ∃ m, w' = w.drewN (a + m) := by
  subst hb
  exact more_quiet_add w R s i bad a n h hs
theorem Only.two {g h : Nat} {a b c : World} (x : Only g a b) (y : Two g h b c) (hh : a.heap.size ≤ h) : Only g a c := ((Two.ofL x (h := h)).trans y).onlyL hh
/-- The members of a set in brackets; m: there was one. -/
def memsF (s : ByteArray) : Nat → Nat → Bool → (Nat → Bool) → (Nat → Bool) × Nat × Bool
  | 0, i, _, _ => (noP, i, true)
  | f + 1, i, m, p =>
    if i < s.size then
      if bt s i = 93 ∧ m = true then (p, i + 1, false)
      else if (memberF s i p).2.2 = true then (noP, (memberF s i p).2.1, true)
      else memsF s f (memberF s i p).2.1 true (memberF s i p).1
    else (noP, i, true)
def finishF (inv : Bool) (r : (Nat → Bool) × Nat × Bool) : SR := if r.2.2 = true then badR r.2.1 else ⟨if inv = true then notP r.1 else r.1, 0, false, r.2.1, false⟩
def bracketsF (s : ByteArray) (i : Nat) : SR :=
  if i + 1 < s.size ∧ bt s (i + 1) = 94 then finishF true (memsF s (s.size + 1) (i + 1 + 1) false noP) else finishF false (memsF s (s.size + 1) (i + 1) false noP)

set_option maxRecDepth 100000 in
set_option maxHeartbeats 8000000 in
theorem brackets_any (w : World) (R : Nat) (s : ByteArray) (i : Nat) (h : ScIn w R s i false) (hi : i < s.size) (hs : s.size ≤ 2147483648) :
    Calls Tryd.prog 129 #[.pointer (some ⟨R, 0, none⟩)] w fun e w' => e = .returned (.agg (setC (bracketsF s i).p).toArray) ∧ ScIn w' R s (bracketsF s i).j (bracketsF s i).bad ∧ Only R w w' := by
  have hR := h.lt
  have hRG1 : R ≠ w.heap.size := by omega
  have hRG2 : R ≠ w.heap.size + 1 := by omega
  have hb1 := (Below.refl _ w).alloc (Nat.le_refl _) (.cells #[.int .u8 0, .int .u8 0, .int .u8 0, .int .u8 0, .int .u8 0, .int .u8 0, .int .u8 0, .int .u8 0, .int .u8 0, .int .u8 0, .int .u8 0, .int .u8 0, .int .u8 0, .int .u8 0, .int .u8 0, .int .u8 0, .int .u8 0, .int .u8 0, .int .u8 0, .int .u8 0, .int .u8 0, .int .u8 0, .int .u8 0, .int .u8 0, .int .u8 0, .int .u8 0, .int .u8 0, .int .u8 0, .int .u8 0, .int .u8 0, .int .u8 0, .int .u8 0] 138)
  have hb2 := hb1.alloc (by simp) (.cells #[.int .u8 0, .int .u8 0, .int .u8 0, .int .u8 0, .int .u8 0, .int .u8 0, .int .u8 0, .int .u8 0, .int .u8 0, .int .u8 0, .int .u8 0, .int .u8 0, .int .u8 0, .int .u8 0, .int .u8 0, .int .u8 0, .int .u8 0, .int .u8 0, .int .u8 0, .int .u8 0, .int .u8 0, .int .u8 0, .int .u8 0, .int .u8 0, .int .u8 0, .int .u8 0, .int .u8 0, .int .u8 0, .int .u8 0, .int .u8 0, .int .u8 0, .int .u8 0] 138)
  have HS0 : Hid (ScIn ((w.alloc (.cells #[.int .u8 0, .int .u8 0, .int .u8 0, .int .u8 0, .int .u8 0, .int .u8 0, .int .u8 0, .int .u8 0, .int .u8 0, .int .u8 0, .int .u8 0, .int .u8 0, .int .u8 0, .int .u8 0, .int .u8 0, .int .u8 0, .int .u8 0, .int .u8 0, .int .u8 0, .int .u8 0, .int .u8 0, .int .u8 0, .int .u8 0, .int .u8 0, .int .u8 0, .int .u8 0, .int .u8 0, .int .u8 0, .int .u8 0, .int .u8 0, .int .u8 0, .int .u8 0] 138)).alloc (.cells #[.int .u8 0, .int .u8 0, .int .u8 0, .int .u8 0, .int .u8 0, .int .u8 0, .int .u8 0, .int .u8 0, .int .u8 0, .int .u8 0, .int .u8 0, .int .u8 0, .int .u8 0, .int .u8 0, .int .u8 0, .int .u8 0, .int .u8 0, .int .u8 0, .int .u8 0, .int .u8 0, .int .u8 0, .int .u8 0, .int .u8 0, .int .u8 0, .int .u8 0, .int .u8 0, .int .u8 0, .int .u8 0, .int .u8 0, .int .u8 0, .int .u8 0, .int .u8 0] 138)) R s i false) := h.below hb2
  have HA0 : Hid (SetIn ((w.alloc (.cells #[.int .u8 0, .int .u8 0, .int .u8 0, .int .u8 0, .int .u8 0, .int .u8 0, .int .u8 0, .int .u8 0, .int .u8 0, .int .u8 0, .int .u8 0, .int .u8 0, .int .u8 0, .int .u8 0, .int .u8 0, .int .u8 0, .int .u8 0, .int .u8 0, .int .u8 0, .int .u8 0, .int .u8 0, .int .u8 0, .int .u8 0, .int .u8 0, .int .u8 0, .int .u8 0, .int .u8 0, .int .u8 0, .int .u8 0, .int .u8 0, .int .u8 0, .int .u8 0] 138)).alloc (.cells #[.int .u8 0, .int .u8 0, .int .u8 0, .int .u8 0, .int .u8 0, .int .u8 0, .int .u8 0, .int .u8 0, .int .u8 0, .int .u8 0, .int .u8 0, .int .u8 0, .int .u8 0, .int .u8 0, .int .u8 0, .int .u8 0, .int .u8 0, .int .u8 0, .int .u8 0, .int .u8 0, .int .u8 0, .int .u8 0, .int .u8 0, .int .u8 0, .int .u8 0, .int .u8 0, .int .u8 0, .int .u8 0, .int .u8 0, .int .u8 0, .int .u8 0, .int .u8 0] 138)) w.heap.size 138 noP) := (zero_in w 138).keep (Below.heap_alloc _ _ _ (by simp))
  have HP0 : Hid (SetIn ((w.alloc (.cells #[.int .u8 0, .int .u8 0, .int .u8 0, .int .u8 0, .int .u8 0, .int .u8 0, .int .u8 0, .int .u8 0, .int .u8 0, .int .u8 0, .int .u8 0, .int .u8 0, .int .u8 0, .int .u8 0, .int .u8 0, .int .u8 0, .int .u8 0, .int .u8 0, .int .u8 0, .int .u8 0, .int .u8 0, .int .u8 0, .int .u8 0, .int .u8 0, .int .u8 0, .int .u8 0, .int .u8 0, .int .u8 0, .int .u8 0, .int .u8 0, .int .u8 0, .int .u8 0] 138)).alloc (.cells #[.int .u8 0, .int .u8 0, .int .u8 0, .int .u8 0, .int .u8 0, .int .u8 0, .int .u8 0, .int .u8 0, .int .u8 0, .int .u8 0, .int .u8 0, .int .u8 0, .int .u8 0, .int .u8 0, .int .u8 0, .int .u8 0, .int .u8 0, .int .u8 0, .int .u8 0, .int .u8 0, .int .u8 0, .int .u8 0, .int .u8 0, .int .u8 0, .int .u8 0, .int .u8 0, .int .u8 0, .int .u8 0, .int .u8 0, .int .u8 0, .int .u8 0, .int .u8 0] 138)) (w.heap.size + 1) 138 noP) := by
    have h := zero_in (w.alloc (.cells #[.int .u8 0, .int .u8 0, .int .u8 0, .int .u8 0, .int .u8 0, .int .u8 0, .int .u8 0, .int .u8 0, .int .u8 0, .int .u8 0, .int .u8 0, .int .u8 0, .int .u8 0, .int .u8 0, .int .u8 0, .int .u8 0, .int .u8 0, .int .u8 0, .int .u8 0, .int .u8 0, .int .u8 0, .int .u8 0, .int .u8 0, .int .u8 0, .int .u8 0, .int .u8 0, .int .u8 0, .int .u8 0, .int .u8 0, .int .u8 0, .int .u8 0, .int .u8 0] 138)) 138
    rw [show (w.alloc (.cells #[.int .u8 0, .int .u8 0, .int .u8 0, .int .u8 0, .int .u8 0, .int .u8 0, .int .u8 0, .int .u8 0, .int .u8 0, .int .u8 0, .int .u8 0, .int .u8 0, .int .u8 0, .int .u8 0, .int .u8 0, .int .u8 0, .int .u8 0, .int .u8 0, .int .u8 0, .int .u8 0, .int .u8 0, .int .u8 0, .int .u8 0, .int .u8 0, .int .u8 0, .int .u8 0, .int .u8 0, .int .u8 0, .int .u8 0, .int .u8 0, .int .u8 0, .int .u8 0] 138)).heap.size = w.heap.size + 1 by simp] at h
    exact h
  have HO0 : Hid (Only R w ((w.alloc (.cells #[.int .u8 0, .int .u8 0, .int .u8 0, .int .u8 0, .int .u8 0, .int .u8 0, .int .u8 0, .int .u8 0, .int .u8 0, .int .u8 0, .int .u8 0, .int .u8 0, .int .u8 0, .int .u8 0, .int .u8 0, .int .u8 0, .int .u8 0, .int .u8 0, .int .u8 0, .int .u8 0, .int .u8 0, .int .u8 0, .int .u8 0, .int .u8 0, .int .u8 0, .int .u8 0, .int .u8 0, .int .u8 0, .int .u8 0, .int .u8 0, .int .u8 0, .int .u8 0] 138)).alloc (.cells #[.int .u8 0, .int .u8 0, .int .u8 0, .int .u8 0, .int .u8 0, .int .u8 0, .int .u8 0, .int .u8 0, .int .u8 0, .int .u8 0, .int .u8 0, .int .u8 0, .int .u8 0, .int .u8 0, .int .u8 0, .int .u8 0, .int .u8 0, .int .u8 0, .int .u8 0, .int .u8 0, .int .u8 0, .int .u8 0, .int .u8 0, .int .u8 0, .int .u8 0, .int .u8 0, .int .u8 0, .int .u8 0, .int .u8 0, .int .u8 0, .int .u8 0, .int .u8 0] 138))) := (Only.refl R w).bel hb2
  clear h hb1 hb2
  obtain ⟨k1, HK1⟩ : ∃ k1, Hid (k1 = i + 1) := ⟨_, rfl⟩
  have hk1a : i < k1 := by have := HK1.out; omega
  have hk1b : k1 < i + 2 := by have := HK1.out; omega
  have hk1c : k1 ≤ s.size := by omega
  generalize hfin : bracketsF s i = fin
  have HFI := Lib.hid hfin
  clear hfin
  go_enter Tryd.func129, Tryd.ntmps129
  go_upto_region 2 with fail
  generalize (w.alloc (.cells #[.int .u8 0, .int .u8 0, .int .u8 0, .int .u8 0, .int .u8 0, .int .u8 0, .int .u8 0, .int .u8 0, .int .u8 0, .int .u8 0, .int .u8 0, .int .u8 0, .int .u8 0, .int .u8 0, .int .u8 0, .int .u8 0, .int .u8 0, .int .u8 0, .int .u8 0, .int .u8 0, .int .u8 0, .int .u8 0, .int .u8 0, .int .u8 0, .int .u8 0, .int .u8 0, .int .u8 0, .int .u8 0, .int .u8 0, .int .u8 0, .int .u8 0, .int .u8 0] 138)).alloc (.cells #[.int .u8 0, .int .u8 0, .int .u8 0, .int .u8 0, .int .u8 0, .int .u8 0, .int .u8 0, .int .u8 0, .int .u8 0, .int .u8 0, .int .u8 0, .int .u8 0, .int .u8 0, .int .u8 0, .int .u8 0, .int .u8 0, .int .u8 0, .int .u8 0, .int .u8 0, .int .u8 0, .int .u8 0, .int .u8 0, .int .u8 0, .int .u8 0, .int .u8 0, .int .u8 0, .int .u8 0, .int .u8 0, .int .u8 0, .int .u8 0, .int .u8 0, .int .u8 0] 138) = wa at HS0 HA0 HP0 HO0
  have q1 := HS0.out.c1
  have f1 := HS0.out.free 1
  go_upto_region 3 with fail
  rw [show (i : Int) + 1 = (k1 : Int) by omega]
  have HS1 := Lib.hid (HS0.out.set1 k1)
  have HA1 := Lib.hid (HA0.out.other (Ne.symm hRG1) 1 (.int .i64 k1))
  have HP1 := Lib.hid (HP0.out.other (Ne.symm hRG2) 1 (.int .i64 k1))
  have HO1 := Lib.hid (HO0.out.set 1 (.int .i64 k1))
  clear q1 f1 HS0 HA0 HP0 HO0
  generalize wa.setCell ⟨R, 1, none⟩ (.int .i64 k1) = wb at HS1 HA1 HP1 HO1 ⊢
  have q0 := HS1.out.c0
  have q1 := HS1.out.c1
  by_cases hlt : k1 < s.size
  · have hlt' : (k1 : Int) < (s.size : Int) := by omega
    by_cases h94 : s[k1].toNat = 94
    · have t94 : ((s[k1].toNat : Int) == 94) = true := beq_iff_eq.2 (by omega)
      have HB : Hid (bracketsF s i = finishF true (memsF s (s.size + 1) (k1 + 1) false noP)) := by
        show _ = _
        unfold bracketsF
        rw [← HK1.out, if_pos ⟨hlt, by rw [bt_get s _ hlt]; exact h94⟩]
      clear h94
      go_wp2_with fail
      go_quiet ((go_at_call 120; first | exact more_quiet _ R s k1 false _ HS1.out (by unfold maxLen; omega) | exact more_quiet_add _ R s k1 false _ _ HS1.out (by unfold maxLen; omega)))
      have HS2 : Hid (ScIn (wb.drewN nq) R s k1 false) := HS1.out
      have HA2 : Hid (SetIn (wb.drewN nq) w.heap.size 138 noP) := HA1.out
      have HP2 : Hid (SetIn (wb.drewN nq) (w.heap.size + 1) 138 noP) := HP1.out
      have HO2 : Hid (Only R w (wb.drewN nq)) := HO1.out.drewN nq
      rw [show s[k1].toNat = bt s k1 from (bt_get s k1 hlt).symm]
      generalize bt s k1 = c94
      clear q0 q1 t94 HS1 HA1 HP1 HO1
      generalize wb.drewN nq = wc at HS2 HA2 HP2 HO2 ⊢
      have q1 := HS2.out.c1
      have f1 := HS2.out.free 1
      obtain ⟨k2, HK2⟩ : ∃ k2, Hid (k2 = k1 + 1) := ⟨_, rfl⟩
      have hk2a : k1 < k2 := by have := HK2.out; omega
      have hk2b : k2 < k1 + 2 := by have := HK2.out; omega
      have hk2c : k2 ≤ s.size := by omega
      rw [← HK2.out] at HB
      go_upto_region 6 with fail
      rw [show (k1 : Int) + 1 = (k2 : Int) by omega]
      have HS3 := Lib.hid (HS2.out.set1 k2)
      have HA3 := Lib.hid (HA2.out.other (Ne.symm hRG1) 1 (.int .i64 k2))
      have HP3 := Lib.hid (HP2.out.other (Ne.symm hRG2) 1 (.int .i64 k2))
      have HO3 := Lib.hid (HO2.out.set 1 (.int .i64 k2))
      clear q1 f1 HS2 HA2 HP2 HO2 HK1 HK2 hlt hlt'
      generalize wc.setCell ⟨R, 1, none⟩ (.int .i64 k2) = wd at HS3 HA3 HP3 HO3 ⊢
      obtain ⟨V, HV⟩ : ∃ V, Hid (V = memsF s (s.size + 1) k2 false noP) := ⟨_, rfl⟩
      have HF0 : Hid (fin = finishF true V) := by show _ = _; rw [← HFI.out, HV.out]; exact HB.out
      clear HB
      have HV0 : Hid (memsF s (s.size + 1) k2 (decide (0 < 0)) noP = V) := HV.out.symm
      clear HV
      go_wp2_with fail
      go_loopw [5] (fun kv wr => ∃ cnt k bad, kv = .int .i64 (cnt : Nat) ∧ Hid (ScIn wr R s k bad) ∧ Hid (SetIn wr w.heap.size 138 noP) ∧ Hid (Only R w wr) ∧ (bad = false → cnt ≤ k ∧ k ≤ s.size ∧ ∃ f p, Hid (s.size - k < f ∧ memsF s f k (decide (0 < cnt)) p = V) ∧ Hid (SetIn wr (w.heap.size + 1) 138 p)) ∧ (bad = true → cnt ≤ s.size + 1 ∧ Hid (V = (noP, k, true)))) (fun kv _ => s.size + 2 - (intOf kv).toNat)
      case atStart => exact ⟨0, k2, false, rfl, HS3.out, HA3.out, HO3.out, fun _ => ⟨by omega, by omega, s.size + 1, noP, ⟨by omega, HV0.out⟩, HP3.out⟩, fun h => absurd h Bool.false_ne_true⟩
      case round =>
        clear HS3 HA3 HP3 HO3 HV0
        obtain ⟨cnt, k, bad, rfl, HS, HA, HO, hgo, hbad⟩ := hrel
        cases bad with
        | true =>
          obtain ⟨hc, HX⟩ := hbad rfl
          have HF : Hid (fin = badR k) := by show _ = _; rw [HF0.out, HX.out]; rfl
          clear hbad hgo HX HF0
          have q2 := HS.out.c2
          go_wp2_with (refine wpList_store_row rfl 138 (.tmp 2) (.tmp 78) rfl (w.heap.size) zeroA rfl rfl 138 (setC noP).toArray HA.out (by rw [set_size]; rfl) (by rw [setC_size]; rfl) zero_one ?_; rw [zero_eq])
          exact bodyPost_ret (v := .agg (setC noP).toArray) (res_set Tryd.results129 _ _ w.heap.size 138 noP rfl (HA.out.row noP)) rfl ⟨by (rw [HF.out] <;> rfl), by rw [HF.out]; exact HS.out.keep (setRow_other _ _ _ _ hRG1), HO.out.rowNew (Nat.le_refl _) _⟩
        | false =>
          obtain ⟨hc, hk, f, p, HX, HP⟩ := hgo rfl
          clear hbad hgo
          have q2 := HS.out.c2
          obtain ⟨f', HF'⟩ : ∃ f', Hid (f = f' + 1) := ⟨f - 1, by have := HX.out.1; show _ = _; omega⟩
          by_cases hlt : k < s.size
          · have hlt' : (k : Int) < (s.size : Int) := by omega
            have HX1 : Hid (s.size - k < f' + 1 ∧ (if bt s k = 93 ∧ decide (0 < cnt) = true then (p, k + 1, false) else if (memberF s k p).2.2 = true then (noP, (memberF s k p).2.1, true) else memsF s f' (memberF s k p).2.1 true (memberF s k p).1) = V) := by
              have h := HX.out
              rw [HF'.out] at h
              unfold memsF at h
              rw [if_pos hlt] at h
              exact h
            clear HX HF'
            go_upto_region 11 with (go_at_call 120; refine (more_any _ R s k false (by exact HS.out) (by unfold maxLen; omega)).mono ?_; rintro e w' ⟨rfl, nm, rfl⟩)
            have HS1 : Hid (ScIn (wr.drewN nm) R s k false) := HS.out
            have HA1 : Hid (SetIn (wr.drewN nm) w.heap.size 138 noP) := HA.out
            have HP1 : Hid (SetIn (wr.drewN nm) (w.heap.size + 1) 138 p) := HP.out
            have HO1 : Hid (Only R w (wr.drewN nm)) := HO.out.drewN nm
            clear q2 HS HA HP HO
            generalize wr.drewN nm = w1 at HS1 HA1 HP1 HO1 ⊢
            have q0 := HS1.out.c0
            have q1 := HS1.out.c1
            by_cases h93 : s[k].toNat = 93
            · have t93 : ((s[k].toNat : Int) == 93) = true := beq_iff_eq.2 (by omega)
              have h93' : bt s k = 93 := by rw [bt_get s k hlt]; exact h93
              by_cases hc0 : 0 < cnt
              · have hc0' : (0 : Int) < (cnt : Int) := by omega
                have HVE : Hid (V = (p, k + 1, false)) := by show _ = _; rw [← HX1.out.2, if_pos ⟨h93', decide_eq_true hc0⟩]
                have HF : Hid (fin = ⟨if true = true then notP p else p, 0, false, k + 1, false⟩) := by show _ = _; rw [HF0.out, HVE.out]; rfl
                clear HVE HX1 h93 h93' HF0
                go_wp2_with fail
                go_quiet (fail)
                have HS2 : Hid (ScIn (w1.drewN nq) R s k false) := HS1.out
                have HA2 : Hid (SetIn (w1.drewN nq) w.heap.size 138 noP) := HA1.out
                have HP2 : Hid (SetIn (w1.drewN nq) (w.heap.size + 1) 138 p) := HP1.out
                have HO2 : Hid (Only R w (w1.drewN nq)) := HO1.out.drewN nq
                rw [show s[k].toNat = bt s k from (bt_get s k hlt).symm]
                generalize bt s k = c93
                clear q0 q1 t93 HS1 HA1 HP1 HO1
                generalize w1.drewN nq = w2 at HS2 HA2 HP2 HO2 ⊢
                have q1 := HS2.out.c1
                have f1 := HS2.out.free 1
                go_upto_region 13 with fail
                obtain ⟨k1, HK1⟩ : ∃ k1, Hid (k1 = k + 1) := ⟨_, rfl⟩
                rw [← HK1.out] at HF
                rw [show (k : Int) + 1 = (k1 : Int) by have := HK1.out; omega]
                have HS3 := Lib.hid (HS2.out.set1 k1)
                have HA3 := Lib.hid (HA2.out.other (Ne.symm hRG1) 1 (.int .i64 k1))
                have HP3 := Lib.hid (HP2.out.other (Ne.symm hRG2) 1 (.int .i64 k1))
                have HO3 := Lib.hid (HO2.out.set 1 (.int .i64 k1))
                clear q1 f1 HS2 HA2 HP2 HO2 HK1
                generalize w2.setCell ⟨R, 1, none⟩ (.int .i64 k1) = w3 at HS3 HA3 HP3 HO3 ⊢
                go_wp2_with (first
                  | (refine wpList_load_row rfl 138 (.tmp 3) rfl ((w.heap.size + 1)) rfl 138 (setC p).toArray (0, 0) _ HP3.out Tryd.underlying138 rfl (by rw [set_size, setC_size]) ?_)
                  | (go_at_call 127; refine (inverted_any p _).mono ?_; rintro e w4 ⟨rfl, hb4⟩)
                  | (refine wpList_store_row rfl 138 (.tmp 2) (.tmp 74) rfl (w.heap.size) (setC (notP p)).toArray rfl rfl 138 (setC noP).toArray (HA3.out.below hb4) (by rw [set_size, setC_size]) (by simp only [setC_size]) (setC_one _) ?_))
                exact bodyPost_ret (v := .agg (setC (notP p)).toArray) (res_set Tryd.results129 _ _ w.heap.size 138 (notP p) rfl ((HA3.out.below hb4).row (notP p))) rfl ⟨by (rw [HF.out] <;> rfl), by rw [HF.out]; exact (HS3.out.below hb4).keep (setRow_other _ _ _ _ hRG1), (HO3.out.bel hb4).rowNew (Nat.le_refl _) _⟩
              · have hc0' : ¬ (0 : Int) < (cnt : Int) := by omega
                have HX2 : Hid (s.size - k < f' + 1 ∧ (if (memberF s k p).2.2 = true then (noP, (memberF s k p).2.1, true) else memsF s f' (memberF s k p).2.1 true (memberF s k p).1) = V) := by
                  have h := HX1.out
                  rw [if_neg (fun e => hc0 (of_decide_eq_true e.2))] at h
                  exact h
                clear HX1 h93 h93'
                go_wp2_with fail
                go_quiet (fail)
                have HS2 : Hid (ScIn (w1.drewN nq) R s k false) := HS1.out
                have HA2 : Hid (SetIn (w1.drewN nq) w.heap.size 138 noP) := HA1.out
                have HP2 : Hid (SetIn (w1.drewN nq) (w.heap.size + 1) 138 p) := HP1.out
                have HO2 : Hid (Only R w (w1.drewN nq)) := HO1.out.drewN nq
                rw [show s[k].toNat = bt s k from (bt_get s k hlt).symm]
                generalize bt s k = c93
                clear q0 q1 t93 HS1 HA1 HP1 HO1
                generalize w1.drewN nq = w2 at HS2 HA2 HP2 HO2 ⊢
                have HM := Lib.hid (memberF_ok s k p hlt)
                have HE := Lib.hid (member_any w2 R (w.heap.size + 1) s k 138 p HS2.out HP2.out hRG2 hlt hs)
                obtain ⟨⟨pm, jm, bm⟩, HD⟩ : ∃ m, Hid (m = memberF s k p) := ⟨_, rfl⟩
                rw [← HD.out] at HX2 HM HE
                clear HD
                go_wp2_with (go_at_call 137; refine HE.out.mono ?_; rintro e w3 ⟨rfl, hp3, hs3, ht3⟩)
                have hA3 := HA2.out.two ht3 (Ne.symm hRG1) (by omega)
                have hO3 := HO2.out.two ht3 (by omega)
                refine ⟨⟨cnt + 1, jm, bm, by go_num, hs3, hA3, hO3, ?_, ?_⟩, by simp [intOf]; try omega⟩
                · intro hb
                  have hM : k < jm ∧ jm ≤ s.size := HM.out hb
                  have hX := HX2.out
                  have hb2 : bm = false := hb
                  subst hb2
                  rw [if_neg (fun e => Bool.false_ne_true e)] at hX
                  exact ⟨by omega, hM.2, f', pm, ⟨by omega, by rw [decide_eq_true (Nat.succ_pos cnt)]; exact hX.2⟩, hp3⟩
                · intro hb
                  have hX := HX2.out
                  have hb2 : bm = true := hb
                  subst hb2
                  rw [if_pos rfl] at hX
                  exact ⟨by omega, hX.2.symm⟩
            · have t93 : ((s[k].toNat : Int) == 93) = false := beq_eq_false_iff_ne.2 (by omega)
              have HX2 : Hid (s.size - k < f' + 1 ∧ (if (memberF s k p).2.2 = true then (noP, (memberF s k p).2.1, true) else memsF s f' (memberF s k p).2.1 true (memberF s k p).1) = V) := by
                have h := HX1.out
                rw [if_neg (fun e => h93 (by rw [← bt_get s k hlt]; exact e.1))] at h
                exact h
              clear HX1 h93
              go_wp2_with fail
              go_quiet (fail)
              have HS2 : Hid (ScIn (w1.drewN nq) R s k false) := HS1.out
              have HA2 : Hid (SetIn (w1.drewN nq) w.heap.size 138 noP) := HA1.out
              have HP2 : Hid (SetIn (w1.drewN nq) (w.heap.size + 1) 138 p) := HP1.out
              have HO2 : Hid (Only R w (w1.drewN nq)) := HO1.out.drewN nq
              rw [show s[k].toNat = bt s k from (bt_get s k hlt).symm]
              generalize bt s k = c93
              clear q0 q1 t93 HS1 HA1 HP1 HO1
              generalize w1.drewN nq = w2 at HS2 HA2 HP2 HO2 ⊢
              have HM := Lib.hid (memberF_ok s k p hlt)
              have HE := Lib.hid (member_any w2 R (w.heap.size + 1) s k 138 p HS2.out HP2.out hRG2 hlt hs)
              obtain ⟨⟨pm, jm, bm⟩, HD⟩ : ∃ m, Hid (m = memberF s k p) := ⟨_, rfl⟩
              rw [← HD.out] at HX2 HM HE
              clear HD
              go_wp2_with (go_at_call 137; refine HE.out.mono ?_; rintro e w3 ⟨rfl, hp3, hs3, ht3⟩)
              have hA3 := HA2.out.two ht3 (Ne.symm hRG1) (by omega)
              have hO3 := HO2.out.two ht3 (by omega)
              refine ⟨⟨cnt + 1, jm, bm, by go_num, hs3, hA3, hO3, ?_, ?_⟩, by simp [intOf]; try omega⟩
              · intro hb
                have hM : k < jm ∧ jm ≤ s.size := HM.out hb
                have hX := HX2.out
                have hb2 : bm = false := hb
                subst hb2
                rw [if_neg (fun e => Bool.false_ne_true e)] at hX
                exact ⟨by omega, hM.2, f', pm, ⟨by omega, by rw [decide_eq_true (Nat.succ_pos cnt)]; exact hX.2⟩, hp3⟩
              · intro hb
                have hX := HX2.out
                have hb2 : bm = true := hb
                subst hb2
                rw [if_pos rfl] at hX
                exact ⟨by omega, hX.2.symm⟩
          · have HVE : Hid (V = (noP, k, true)) := by
              have h := HX.out.2
              rw [HF'.out] at h
              unfold memsF at h
              rw [if_neg hlt] at h
              exact h.symm
            have HF : Hid (fin = badR k) := by show _ = _; rw [HF0.out, HVE.out]; rfl
            clear HVE HX HF' HF0
            go_upto_region 10 with (go_at_call 120; refine (more_any _ R s k false (by exact HS.out) (by unfold maxLen; omega)).mono ?_; rintro e w' ⟨rfl, nm, rfl⟩)
            have HS1 : Hid (ScIn (wr.drewN nm) R s k false) := HS.out
            have HA1 : Hid (SetIn (wr.drewN nm) w.heap.size 138 noP) := HA.out
            have HO1 : Hid (Only R w (wr.drewN nm)) := HO.out.drewN nm
            clear q2 HS HA HP HO
            generalize wr.drewN nm = w1 at HS1 HA1 HO1 ⊢
            have q1 := HS1.out.c1
            go_upto_region 17 with (go_at_call 132; refine (fail_any _ R s k false k (by exact HS1.out)).mono ?_; rintro e wf ⟨rfl, hsf, hof⟩)
            have HZf := Lib.hid (HA1.out.only hof (Ne.symm hRG1))
            have HOf := Lib.hid (HO1.out.trans hof)
            have HSf := Lib.hid hsf
            clear hsf hof q1 HS1 HA1 HO1
            go_wp2_with (refine wpList_store_row rfl 138 (.tmp 2) (.tmp 78) rfl (w.heap.size) zeroA rfl rfl 138 (setC noP).toArray HZf.out (by rw [set_size]; rfl) (by rw [setC_size]; rfl) zero_one ?_; rw [zero_eq])
            exact bodyPost_ret (v := .agg (setC noP).toArray) (res_set Tryd.results129 _ _ w.heap.size 138 noP rfl (HZf.out.row noP)) rfl ⟨by (rw [HF.out] <;> rfl), by rw [HF.out]; exact HSf.out.keep (setRow_other _ _ _ _ hRG1), HOf.out.rowNew (Nat.le_refl _) _⟩
    · have t94 : ((s[k1].toNat : Int) == 94) = false := beq_eq_false_iff_ne.2 (by omega)
      have HB : Hid (bracketsF s i = finishF false (memsF s (s.size + 1) k1 false noP)) := by
        show _ = _
        unfold bracketsF
        rw [← HK1.out, if_neg (fun e => h94 (by rw [← bt_get s _ hlt]; exact e.2))]
      clear h94
      go_wp2_with fail
      go_quiet ((go_at_call 120; first | exact more_quiet _ R s k1 false _ HS1.out (by unfold maxLen; omega) | exact more_quiet_add _ R s k1 false _ _ HS1.out (by unfold maxLen; omega)))
      have HS2 : Hid (ScIn (wb.drewN nq) R s k1 false) := HS1.out
      have HA2 : Hid (SetIn (wb.drewN nq) w.heap.size 138 noP) := HA1.out
      have HP2 : Hid (SetIn (wb.drewN nq) (w.heap.size + 1) 138 noP) := HP1.out
      have HO2 : Hid (Only R w (wb.drewN nq)) := HO1.out.drewN nq
      rw [show s[k1].toNat = bt s k1 from (bt_get s k1 hlt).symm]
      generalize bt s k1 = c94
      clear q0 q1 t94 HS1 HA1 HP1 HO1 HK1 hlt hlt'
      generalize wb.drewN nq = wc at HS2 HA2 HP2 HO2 ⊢
      obtain ⟨V, HV⟩ : ∃ V, Hid (V = memsF s (s.size + 1) k1 false noP) := ⟨_, rfl⟩
      have HF0 : Hid (fin = finishF false V) := by show _ = _; rw [← HFI.out, HV.out]; exact HB.out
      clear HB
      have HV0 : Hid (memsF s (s.size + 1) k1 (decide (0 < 0)) noP = V) := HV.out.symm
      clear HV
      go_wp2_with fail
      go_loopw [5] (fun kv wr => ∃ cnt k bad, kv = .int .i64 (cnt : Nat) ∧ Hid (ScIn wr R s k bad) ∧ Hid (SetIn wr w.heap.size 138 noP) ∧ Hid (Only R w wr) ∧ (bad = false → cnt ≤ k ∧ k ≤ s.size ∧ ∃ f p, Hid (s.size - k < f ∧ memsF s f k (decide (0 < cnt)) p = V) ∧ Hid (SetIn wr (w.heap.size + 1) 138 p)) ∧ (bad = true → cnt ≤ s.size + 1 ∧ Hid (V = (noP, k, true)))) (fun kv _ => s.size + 2 - (intOf kv).toNat)
      case atStart => exact ⟨0, k1, false, rfl, HS2.out, HA2.out, HO2.out, fun _ => ⟨by omega, by omega, s.size + 1, noP, ⟨by omega, HV0.out⟩, HP2.out⟩, fun h => absurd h Bool.false_ne_true⟩
      case round =>
        clear HS2 HA2 HP2 HO2 HV0
        obtain ⟨cnt, k, bad, rfl, HS, HA, HO, hgo, hbad⟩ := hrel
        cases bad with
        | true =>
          obtain ⟨hc, HX⟩ := hbad rfl
          have HF : Hid (fin = badR k) := by show _ = _; rw [HF0.out, HX.out]; rfl
          clear hbad hgo HX HF0
          have q2 := HS.out.c2
          go_wp2_with (refine wpList_store_row rfl 138 (.tmp 2) (.tmp 78) rfl (w.heap.size) zeroA rfl rfl 138 (setC noP).toArray HA.out (by rw [set_size]; rfl) (by rw [setC_size]; rfl) zero_one ?_; rw [zero_eq])
          exact bodyPost_ret (v := .agg (setC noP).toArray) (res_set Tryd.results129 _ _ w.heap.size 138 noP rfl (HA.out.row noP)) rfl ⟨by (rw [HF.out] <;> rfl), by rw [HF.out]; exact HS.out.keep (setRow_other _ _ _ _ hRG1), HO.out.rowNew (Nat.le_refl _) _⟩
        | false =>
          obtain ⟨hc, hk, f, p, HX, HP⟩ := hgo rfl
          clear hbad hgo
          have q2 := HS.out.c2
          obtain ⟨f', HF'⟩ : ∃ f', Hid (f = f' + 1) := ⟨f - 1, by have := HX.out.1; show _ = _; omega⟩
          by_cases hlt : k < s.size
          · have hlt' : (k : Int) < (s.size : Int) := by omega
            have HX1 : Hid (s.size - k < f' + 1 ∧ (if bt s k = 93 ∧ decide (0 < cnt) = true then (p, k + 1, false) else if (memberF s k p).2.2 = true then (noP, (memberF s k p).2.1, true) else memsF s f' (memberF s k p).2.1 true (memberF s k p).1) = V) := by
              have h := HX.out
              rw [HF'.out] at h
              unfold memsF at h
              rw [if_pos hlt] at h
              exact h
            clear HX HF'
            go_upto_region 11 with (go_at_call 120; refine (more_any _ R s k false (by exact HS.out) (by unfold maxLen; omega)).mono ?_; rintro e w' ⟨rfl, nm, rfl⟩)
            have HS1 : Hid (ScIn (wr.drewN nm) R s k false) := HS.out
            have HA1 : Hid (SetIn (wr.drewN nm) w.heap.size 138 noP) := HA.out
            have HP1 : Hid (SetIn (wr.drewN nm) (w.heap.size + 1) 138 p) := HP.out
            have HO1 : Hid (Only R w (wr.drewN nm)) := HO.out.drewN nm
            clear q2 HS HA HP HO
            generalize wr.drewN nm = w1 at HS1 HA1 HP1 HO1 ⊢
            have q0 := HS1.out.c0
            have q1 := HS1.out.c1
            by_cases h93 : s[k].toNat = 93
            · have t93 : ((s[k].toNat : Int) == 93) = true := beq_iff_eq.2 (by omega)
              have h93' : bt s k = 93 := by rw [bt_get s k hlt]; exact h93
              by_cases hc0 : 0 < cnt
              · have hc0' : (0 : Int) < (cnt : Int) := by omega
                have HVE : Hid (V = (p, k + 1, false)) := by show _ = _; rw [← HX1.out.2, if_pos ⟨h93', decide_eq_true hc0⟩]
                have HF : Hid (fin = ⟨if false = true then notP p else p, 0, false, k + 1, false⟩) := by show _ = _; rw [HF0.out, HVE.out]; rfl
                clear HVE HX1 h93 h93' HF0
                go_wp2_with fail
                go_quiet (fail)
                have HS2 : Hid (ScIn (w1.drewN nq) R s k false) := HS1.out
                have HA2 : Hid (SetIn (w1.drewN nq) w.heap.size 138 noP) := HA1.out
                have HP2 : Hid (SetIn (w1.drewN nq) (w.heap.size + 1) 138 p) := HP1.out
                have HO2 : Hid (Only R w (w1.drewN nq)) := HO1.out.drewN nq
                rw [show s[k].toNat = bt s k from (bt_get s k hlt).symm]
                generalize bt s k = c93
                clear q0 q1 t93 HS1 HA1 HP1 HO1
                generalize w1.drewN nq = w2 at HS2 HA2 HP2 HO2 ⊢
                have q1 := HS2.out.c1
                have f1 := HS2.out.free 1
                go_upto_region 13 with fail
                obtain ⟨k1, HK1⟩ : ∃ k1, Hid (k1 = k + 1) := ⟨_, rfl⟩
                rw [← HK1.out] at HF
                rw [show (k : Int) + 1 = (k1 : Int) by have := HK1.out; omega]
                have HS3 := Lib.hid (HS2.out.set1 k1)
                have HA3 := Lib.hid (HA2.out.other (Ne.symm hRG1) 1 (.int .i64 k1))
                have HP3 := Lib.hid (HP2.out.other (Ne.symm hRG2) 1 (.int .i64 k1))
                have HO3 := Lib.hid (HO2.out.set 1 (.int .i64 k1))
                clear q1 f1 HS2 HA2 HP2 HO2 HK1
                generalize w2.setCell ⟨R, 1, none⟩ (.int .i64 k1) = w3 at HS3 HA3 HP3 HO3 ⊢
                go_wp2_with (first
                  | (refine wpList_load_row rfl 138 (.tmp 3) rfl ((w.heap.size + 1)) rfl 138 (setC p).toArray (0, 0) _ HP3.out Tryd.underlying138 rfl (by rw [set_size, setC_size]) ?_)
                  | (refine wpList_store_row rfl 138 (.tmp 2) (.tmp 75) rfl (w.heap.size) (setC p).toArray rfl rfl 138 (setC noP).toArray HA3.out (by rw [set_size, setC_size]) (by simp only [setC_size]) (setC_one _) ?_))
                exact bodyPost_ret (v := .agg (setC p).toArray) (res_set Tryd.results129 _ _ w.heap.size 138 p rfl (HA3.out.row p)) rfl ⟨by (rw [HF.out] <;> rfl), by rw [HF.out]; exact HS3.out.keep (setRow_other _ _ _ _ hRG1), HO3.out.rowNew (Nat.le_refl _) _⟩
              · have hc0' : ¬ (0 : Int) < (cnt : Int) := by omega
                have HX2 : Hid (s.size - k < f' + 1 ∧ (if (memberF s k p).2.2 = true then (noP, (memberF s k p).2.1, true) else memsF s f' (memberF s k p).2.1 true (memberF s k p).1) = V) := by
                  have h := HX1.out
                  rw [if_neg (fun e => hc0 (of_decide_eq_true e.2))] at h
                  exact h
                clear HX1 h93 h93'
                go_wp2_with fail
                go_quiet (fail)
                have HS2 : Hid (ScIn (w1.drewN nq) R s k false) := HS1.out
                have HA2 : Hid (SetIn (w1.drewN nq) w.heap.size 138 noP) := HA1.out
                have HP2 : Hid (SetIn (w1.drewN nq) (w.heap.size + 1) 138 p) := HP1.out
                have HO2 : Hid (Only R w (w1.drewN nq)) := HO1.out.drewN nq
                rw [show s[k].toNat = bt s k from (bt_get s k hlt).symm]
                generalize bt s k = c93
                clear q0 q1 t93 HS1 HA1 HP1 HO1
                generalize w1.drewN nq = w2 at HS2 HA2 HP2 HO2 ⊢
                have HM := Lib.hid (memberF_ok s k p hlt)
                have HE := Lib.hid (member_any w2 R (w.heap.size + 1) s k 138 p HS2.out HP2.out hRG2 hlt hs)
                obtain ⟨⟨pm, jm, bm⟩, HD⟩ : ∃ m, Hid (m = memberF s k p) := ⟨_, rfl⟩
                rw [← HD.out] at HX2 HM HE
                clear HD
                go_wp2_with (go_at_call 137; refine HE.out.mono ?_; rintro e w3 ⟨rfl, hp3, hs3, ht3⟩)
                have hA3 := HA2.out.two ht3 (Ne.symm hRG1) (by omega)
                have hO3 := HO2.out.two ht3 (by omega)
                refine ⟨⟨cnt + 1, jm, bm, by go_num, hs3, hA3, hO3, ?_, ?_⟩, by simp [intOf]; try omega⟩
                · intro hb
                  have hM : k < jm ∧ jm ≤ s.size := HM.out hb
                  have hX := HX2.out
                  have hb2 : bm = false := hb
                  subst hb2
                  rw [if_neg (fun e => Bool.false_ne_true e)] at hX
                  exact ⟨by omega, hM.2, f', pm, ⟨by omega, by rw [decide_eq_true (Nat.succ_pos cnt)]; exact hX.2⟩, hp3⟩
                · intro hb
                  have hX := HX2.out
                  have hb2 : bm = true := hb
                  subst hb2
                  rw [if_pos rfl] at hX
                  exact ⟨by omega, hX.2.symm⟩
            · have t93 : ((s[k].toNat : Int) == 93) = false := beq_eq_false_iff_ne.2 (by omega)
              have HX2 : Hid (s.size - k < f' + 1 ∧ (if (memberF s k p).2.2 = true then (noP, (memberF s k p).2.1, true) else memsF s f' (memberF s k p).2.1 true (memberF s k p).1) = V) := by
                have h := HX1.out
                rw [if_neg (fun e => h93 (by rw [← bt_get s k hlt]; exact e.1))] at h
                exact h
              clear HX1 h93
              go_wp2_with fail
              go_quiet (fail)
              have HS2 : Hid (ScIn (w1.drewN nq) R s k false) := HS1.out
              have HA2 : Hid (SetIn (w1.drewN nq) w.heap.size 138 noP) := HA1.out
              have HP2 : Hid (SetIn (w1.drewN nq) (w.heap.size + 1) 138 p) := HP1.out
              have HO2 : Hid (Only R w (w1.drewN nq)) := HO1.out.drewN nq
              rw [show s[k].toNat = bt s k from (bt_get s k hlt).symm]
              generalize bt s k = c93
              clear q0 q1 t93 HS1 HA1 HP1 HO1
              generalize w1.drewN nq = w2 at HS2 HA2 HP2 HO2 ⊢
              have HM := Lib.hid (memberF_ok s k p hlt)
              have HE := Lib.hid (member_any w2 R (w.heap.size + 1) s k 138 p HS2.out HP2.out hRG2 hlt hs)
              obtain ⟨⟨pm, jm, bm⟩, HD⟩ : ∃ m, Hid (m = memberF s k p) := ⟨_, rfl⟩
              rw [← HD.out] at HX2 HM HE
              clear HD
              go_wp2_with (go_at_call 137; refine HE.out.mono ?_; rintro e w3 ⟨rfl, hp3, hs3, ht3⟩)
              have hA3 := HA2.out.two ht3 (Ne.symm hRG1) (by omega)
              have hO3 := HO2.out.two ht3 (by omega)
              refine ⟨⟨cnt + 1, jm, bm, by go_num, hs3, hA3, hO3, ?_, ?_⟩, by simp [intOf]; try omega⟩
              · intro hb
                have hM : k < jm ∧ jm ≤ s.size := HM.out hb
                have hX := HX2.out
                have hb2 : bm = false := hb
                subst hb2
                rw [if_neg (fun e => Bool.false_ne_true e)] at hX
                exact ⟨by omega, hM.2, f', pm, ⟨by omega, by rw [decide_eq_true (Nat.succ_pos cnt)]; exact hX.2⟩, hp3⟩
              · intro hb
                have hX := HX2.out
                have hb2 : bm = true := hb
                subst hb2
                rw [if_pos rfl] at hX
                exact ⟨by omega, hX.2.symm⟩
          · have HVE : Hid (V = (noP, k, true)) := by
              have h := HX.out.2
              rw [HF'.out] at h
              unfold memsF at h
              rw [if_neg hlt] at h
              exact h.symm
            have HF : Hid (fin = badR k) := by show _ = _; rw [HF0.out, HVE.out]; rfl
            clear HVE HX HF' HF0
            go_upto_region 10 with (go_at_call 120; refine (more_any _ R s k false (by exact HS.out) (by unfold maxLen; omega)).mono ?_; rintro e w' ⟨rfl, nm, rfl⟩)
            have HS1 : Hid (ScIn (wr.drewN nm) R s k false) := HS.out
            have HA1 : Hid (SetIn (wr.drewN nm) w.heap.size 138 noP) := HA.out
            have HO1 : Hid (Only R w (wr.drewN nm)) := HO.out.drewN nm
            clear q2 HS HA HP HO
            generalize wr.drewN nm = w1 at HS1 HA1 HO1 ⊢
            have q1 := HS1.out.c1
            go_upto_region 17 with (go_at_call 132; refine (fail_any _ R s k false k (by exact HS1.out)).mono ?_; rintro e wf ⟨rfl, hsf, hof⟩)
            have HZf := Lib.hid (HA1.out.only hof (Ne.symm hRG1))
            have HOf := Lib.hid (HO1.out.trans hof)
            have HSf := Lib.hid hsf
            clear hsf hof q1 HS1 HA1 HO1
            go_wp2_with (refine wpList_store_row rfl 138 (.tmp 2) (.tmp 78) rfl (w.heap.size) zeroA rfl rfl 138 (setC noP).toArray HZf.out (by rw [set_size]; rfl) (by rw [setC_size]; rfl) zero_one ?_; rw [zero_eq])
            exact bodyPost_ret (v := .agg (setC noP).toArray) (res_set Tryd.results129 _ _ w.heap.size 138 noP rfl (HZf.out.row noP)) rfl ⟨by (rw [HF.out] <;> rfl), by rw [HF.out]; exact HSf.out.keep (setRow_other _ _ _ _ hRG1), HOf.out.rowNew (Nat.le_refl _) _⟩
  · have HB : Hid (bracketsF s i = finishF false (memsF s (s.size + 1) k1 false noP)) := by
      show _ = _
      unfold bracketsF
      rw [← HK1.out, if_neg (fun e => hlt e.1)]
    have HD := Lib.hid (decide_eq_false hlt)
    clear hlt q0
    go_wp2_with fail
    go_quiet ((go_at_call 120; first | exact more_quietb _ R s k1 false _ HS1.out (by unfold maxLen; omega) HD.out | exact more_quietb_add _ R s k1 false _ _ HS1.out (by unfold maxLen; omega) HD.out))
    have HS2 : Hid (ScIn (wb.drewN nq) R s k1 false) := HS1.out
    have HA2 : Hid (SetIn (wb.drewN nq) w.heap.size 138 noP) := HA1.out
    have HP2 : Hid (SetIn (wb.drewN nq) (w.heap.size + 1) 138 noP) := HP1.out
    have HO2 : Hid (Only R w (wb.drewN nq)) := HO1.out.drewN nq
    clear q1 HS1 HA1 HP1 HO1 HK1 HD
    generalize wb.drewN nq = wc at HS2 HA2 HP2 HO2 ⊢
    obtain ⟨V, HV⟩ : ∃ V, Hid (V = memsF s (s.size + 1) k1 false noP) := ⟨_, rfl⟩
    have HF0 : Hid (fin = finishF false V) := by show _ = _; rw [← HFI.out, HV.out]; exact HB.out
    clear HB
    have HV0 : Hid (memsF s (s.size + 1) k1 (decide (0 < 0)) noP = V) := HV.out.symm
    clear HV
    go_wp2_with fail
    go_loopw [5] (fun kv wr => ∃ cnt k bad, kv = .int .i64 (cnt : Nat) ∧ Hid (ScIn wr R s k bad) ∧ Hid (SetIn wr w.heap.size 138 noP) ∧ Hid (Only R w wr) ∧ (bad = false → cnt ≤ k ∧ k ≤ s.size ∧ ∃ f p, Hid (s.size - k < f ∧ memsF s f k (decide (0 < cnt)) p = V) ∧ Hid (SetIn wr (w.heap.size + 1) 138 p)) ∧ (bad = true → cnt ≤ s.size + 1 ∧ Hid (V = (noP, k, true)))) (fun kv _ => s.size + 2 - (intOf kv).toNat)
    case atStart => exact ⟨0, k1, false, rfl, HS2.out, HA2.out, HO2.out, fun _ => ⟨by omega, by omega, s.size + 1, noP, ⟨by omega, HV0.out⟩, HP2.out⟩, fun h => absurd h Bool.false_ne_true⟩
    case round =>
      clear HS2 HA2 HP2 HO2 HV0
      obtain ⟨cnt, k, bad, rfl, HS, HA, HO, hgo, hbad⟩ := hrel
      cases bad with
      | true =>
        obtain ⟨hc, HX⟩ := hbad rfl
        have HF : Hid (fin = badR k) := by show _ = _; rw [HF0.out, HX.out]; rfl
        clear hbad hgo HX HF0
        have q2 := HS.out.c2
        go_wp2_with (refine wpList_store_row rfl 138 (.tmp 2) (.tmp 78) rfl (w.heap.size) zeroA rfl rfl 138 (setC noP).toArray HA.out (by rw [set_size]; rfl) (by rw [setC_size]; rfl) zero_one ?_; rw [zero_eq])
        exact bodyPost_ret (v := .agg (setC noP).toArray) (res_set Tryd.results129 _ _ w.heap.size 138 noP rfl (HA.out.row noP)) rfl ⟨by (rw [HF.out] <;> rfl), by rw [HF.out]; exact HS.out.keep (setRow_other _ _ _ _ hRG1), HO.out.rowNew (Nat.le_refl _) _⟩
      | false =>
        obtain ⟨hc, hk, f, p, HX, HP⟩ := hgo rfl
        clear hbad hgo
        have q2 := HS.out.c2
        obtain ⟨f', HF'⟩ : ∃ f', Hid (f = f' + 1) := ⟨f - 1, by have := HX.out.1; show _ = _; omega⟩
        by_cases hlt : k < s.size
        · have hlt' : (k : Int) < (s.size : Int) := by omega
          have HX1 : Hid (s.size - k < f' + 1 ∧ (if bt s k = 93 ∧ decide (0 < cnt) = true then (p, k + 1, false) else if (memberF s k p).2.2 = true then (noP, (memberF s k p).2.1, true) else memsF s f' (memberF s k p).2.1 true (memberF s k p).1) = V) := by
            have h := HX.out
            rw [HF'.out] at h
            unfold memsF at h
            rw [if_pos hlt] at h
            exact h
          clear HX HF'
          go_upto_region 11 with (go_at_call 120; refine (more_any _ R s k false (by exact HS.out) (by unfold maxLen; omega)).mono ?_; rintro e w' ⟨rfl, nm, rfl⟩)
          have HS1 : Hid (ScIn (wr.drewN nm) R s k false) := HS.out
          have HA1 : Hid (SetIn (wr.drewN nm) w.heap.size 138 noP) := HA.out
          have HP1 : Hid (SetIn (wr.drewN nm) (w.heap.size + 1) 138 p) := HP.out
          have HO1 : Hid (Only R w (wr.drewN nm)) := HO.out.drewN nm
          clear q2 HS HA HP HO
          generalize wr.drewN nm = w1 at HS1 HA1 HP1 HO1 ⊢
          have q0 := HS1.out.c0
          have q1 := HS1.out.c1
          by_cases h93 : s[k].toNat = 93
          · have t93 : ((s[k].toNat : Int) == 93) = true := beq_iff_eq.2 (by omega)
            have h93' : bt s k = 93 := by rw [bt_get s k hlt]; exact h93
            by_cases hc0 : 0 < cnt
            · have hc0' : (0 : Int) < (cnt : Int) := by omega
              have HVE : Hid (V = (p, k + 1, false)) := by show _ = _; rw [← HX1.out.2, if_pos ⟨h93', decide_eq_true hc0⟩]
              have HF : Hid (fin = ⟨if false = true then notP p else p, 0, false, k + 1, false⟩) := by show _ = _; rw [HF0.out, HVE.out]; rfl
              clear HVE HX1 h93 h93' HF0
              go_wp2_with fail
              go_quiet (fail)
              have HS2 : Hid (ScIn (w1.drewN nq) R s k false) := HS1.out
              have HA2 : Hid (SetIn (w1.drewN nq) w.heap.size 138 noP) := HA1.out
              have HP2 : Hid (SetIn (w1.drewN nq) (w.heap.size + 1) 138 p) := HP1.out
              have HO2 : Hid (Only R w (w1.drewN nq)) := HO1.out.drewN nq
              rw [show s[k].toNat = bt s k from (bt_get s k hlt).symm]
              generalize bt s k = c93
              clear q0 q1 t93 HS1 HA1 HP1 HO1
              generalize w1.drewN nq = w2 at HS2 HA2 HP2 HO2 ⊢
              have q1 := HS2.out.c1
              have f1 := HS2.out.free 1
              go_upto_region 13 with fail
              obtain ⟨k1, HK1⟩ : ∃ k1, Hid (k1 = k + 1) := ⟨_, rfl⟩
              rw [← HK1.out] at HF
              rw [show (k : Int) + 1 = (k1 : Int) by have := HK1.out; omega]
              have HS3 := Lib.hid (HS2.out.set1 k1)
              have HA3 := Lib.hid (HA2.out.other (Ne.symm hRG1) 1 (.int .i64 k1))
              have HP3 := Lib.hid (HP2.out.other (Ne.symm hRG2) 1 (.int .i64 k1))
              have HO3 := Lib.hid (HO2.out.set 1 (.int .i64 k1))
              clear q1 f1 HS2 HA2 HP2 HO2 HK1
              generalize w2.setCell ⟨R, 1, none⟩ (.int .i64 k1) = w3 at HS3 HA3 HP3 HO3 ⊢
              go_wp2_with (first
                | (refine wpList_load_row rfl 138 (.tmp 3) rfl ((w.heap.size + 1)) rfl 138 (setC p).toArray (0, 0) _ HP3.out Tryd.underlying138 rfl (by rw [set_size, setC_size]) ?_)
                | (refine wpList_store_row rfl 138 (.tmp 2) (.tmp 75) rfl (w.heap.size) (setC p).toArray rfl rfl 138 (setC noP).toArray HA3.out (by rw [set_size, setC_size]) (by simp only [setC_size]) (setC_one _) ?_))
              exact bodyPost_ret (v := .agg (setC p).toArray) (res_set Tryd.results129 _ _ w.heap.size 138 p rfl (HA3.out.row p)) rfl ⟨by (rw [HF.out] <;> rfl), by rw [HF.out]; exact HS3.out.keep (setRow_other _ _ _ _ hRG1), HO3.out.rowNew (Nat.le_refl _) _⟩
            · have hc0' : ¬ (0 : Int) < (cnt : Int) := by omega
              have HX2 : Hid (s.size - k < f' + 1 ∧ (if (memberF s k p).2.2 = true then (noP, (memberF s k p).2.1, true) else memsF s f' (memberF s k p).2.1 true (memberF s k p).1) = V) := by
                have h := HX1.out
                rw [if_neg (fun e => hc0 (of_decide_eq_true e.2))] at h
                exact h
              clear HX1 h93 h93'
              go_wp2_with fail
              go_quiet (fail)
              have HS2 : Hid (ScIn (w1.drewN nq) R s k false) := HS1.out
              have HA2 : Hid (SetIn (w1.drewN nq) w.heap.size 138 noP) := HA1.out
              have HP2 : Hid (SetIn (w1.drewN nq) (w.heap.size + 1) 138 p) := HP1.out
              have HO2 : Hid (Only R w (w1.drewN nq)) := HO1.out.drewN nq
              rw [show s[k].toNat = bt s k from (bt_get s k hlt).symm]
              generalize bt s k = c93
              clear q0 q1 t93 HS1 HA1 HP1 HO1
              generalize w1.drewN nq = w2 at HS2 HA2 HP2 HO2 ⊢
              have HM := Lib.hid (memberF_ok s k p hlt)
              have HE := Lib.hid (member_any w2 R (w.heap.size + 1) s k 138 p HS2.out HP2.out hRG2 hlt hs)
              obtain ⟨⟨pm, jm, bm⟩, HD⟩ : ∃ m, Hid (m = memberF s k p) := ⟨_, rfl⟩
              rw [← HD.out] at HX2 HM HE
              clear HD
              go_wp2_with (go_at_call 137; refine HE.out.mono ?_; rintro e w3 ⟨rfl, hp3, hs3, ht3⟩)
              have hA3 := HA2.out.two ht3 (Ne.symm hRG1) (by omega)
              have hO3 := HO2.out.two ht3 (by omega)
              refine ⟨⟨cnt + 1, jm, bm, by go_num, hs3, hA3, hO3, ?_, ?_⟩, by simp [intOf]; try omega⟩
              · intro hb
                have hM : k < jm ∧ jm ≤ s.size := HM.out hb
                have hX := HX2.out
                have hb2 : bm = false := hb
                subst hb2
                rw [if_neg (fun e => Bool.false_ne_true e)] at hX
                exact ⟨by omega, hM.2, f', pm, ⟨by omega, by rw [decide_eq_true (Nat.succ_pos cnt)]; exact hX.2⟩, hp3⟩
              · intro hb
                have hX := HX2.out
                have hb2 : bm = true := hb
                subst hb2
                rw [if_pos rfl] at hX
                exact ⟨by omega, hX.2.symm⟩
          · have t93 : ((s[k].toNat : Int) == 93) = false := beq_eq_false_iff_ne.2 (by omega)
            have HX2 : Hid (s.size - k < f' + 1 ∧ (if (memberF s k p).2.2 = true then (noP, (memberF s k p).2.1, true) else memsF s f' (memberF s k p).2.1 true (memberF s k p).1) = V) := by
              have h := HX1.out
              rw [if_neg (fun e => h93 (by rw [← bt_get s k hlt]; exact e.1))] at h
              exact h
            clear HX1 h93
            go_wp2_with fail
            go_quiet (fail)
            have HS2 : Hid (ScIn (w1.drewN nq) R s k false) := HS1.out
            have HA2 : Hid (SetIn (w1.drewN nq) w.heap.size 138 noP) := HA1.out
            have HP2 : Hid (SetIn (w1.drewN nq) (w.heap.size + 1) 138 p) := HP1.out
            have HO2 : Hid (Only R w (w1.drewN nq)) := HO1.out.drewN nq
            rw [show s[k].toNat = bt s k from (bt_get s k hlt).symm]
            generalize bt s k = c93
            clear q0 q1 t93 HS1 HA1 HP1 HO1
            generalize w1.drewN nq = w2 at HS2 HA2 HP2 HO2 ⊢
            have HM := Lib.hid (memberF_ok s k p hlt)
            have HE := Lib.hid (member_any w2 R (w.heap.size + 1) s k 138 p HS2.out HP2.out hRG2 hlt hs)
            obtain ⟨⟨pm, jm, bm⟩, HD⟩ : ∃ m, Hid (m = memberF s k p) := ⟨_, rfl⟩
            rw [← HD.out] at HX2 HM HE
            clear HD
            go_wp2_with (go_at_call 137; refine HE.out.mono ?_; rintro e w3 ⟨rfl, hp3, hs3, ht3⟩)
            have hA3 := HA2.out.two ht3 (Ne.symm hRG1) (by omega)
            have hO3 := HO2.out.two ht3 (by omega)
            refine ⟨⟨cnt + 1, jm, bm, by go_num, hs3, hA3, hO3, ?_, ?_⟩, by simp [intOf]; try omega⟩
            · intro hb
              have hM : k < jm ∧ jm ≤ s.size := HM.out hb
              have hX := HX2.out
              have hb2 : bm = false := hb
              subst hb2
              rw [if_neg (fun e => Bool.false_ne_true e)] at hX
              exact ⟨by omega, hM.2, f', pm, ⟨by omega, by rw [decide_eq_true (Nat.succ_pos cnt)]; exact hX.2⟩, hp3⟩
            · intro hb
              have hX := HX2.out
              have hb2 : bm = true := hb
              subst hb2
              rw [if_pos rfl] at hX
              exact ⟨by omega, hX.2.symm⟩
        · have HVE : Hid (V = (noP, k, true)) := by
            have h := HX.out.2
            rw [HF'.out] at h
            unfold memsF at h
            rw [if_neg hlt] at h
            exact h.symm
          have HF : Hid (fin = badR k) := by show _ = _; rw [HF0.out, HVE.out]; rfl
          clear HVE HX HF' HF0
          go_upto_region 10 with (go_at_call 120; refine (more_any _ R s k false (by exact HS.out) (by unfold maxLen; omega)).mono ?_; rintro e w' ⟨rfl, nm, rfl⟩)
          have HS1 : Hid (ScIn (wr.drewN nm) R s k false) := HS.out
          have HA1 : Hid (SetIn (wr.drewN nm) w.heap.size 138 noP) := HA.out
          have HO1 : Hid (Only R w (wr.drewN nm)) := HO.out.drewN nm
          clear q2 HS HA HP HO
          generalize wr.drewN nm = w1 at HS1 HA1 HO1 ⊢
          have q1 := HS1.out.c1
          go_upto_region 17 with (go_at_call 132; refine (fail_any _ R s k false k (by exact HS1.out)).mono ?_; rintro e wf ⟨rfl, hsf, hof⟩)
          have HZf := Lib.hid (HA1.out.only hof (Ne.symm hRG1))
          have HOf := Lib.hid (HO1.out.trans hof)
          have HSf := Lib.hid hsf
          clear hsf hof q1 HS1 HA1 HO1
          go_wp2_with (refine wpList_store_row rfl 138 (.tmp 2) (.tmp 78) rfl (w.heap.size) zeroA rfl rfl 138 (setC noP).toArray HZf.out (by rw [set_size]; rfl) (by rw [setC_size]; rfl) zero_one ?_; rw [zero_eq])
          exact bodyPost_ret (v := .agg (setC noP).toArray) (res_set Tryd.results129 _ _ w.heap.size 138 noP rfl (HZf.out.row noP)) rfl ⟨by (rw [HF.out] <;> rfl), by rw [HF.out]; exact HSf.out.keep (setRow_other _ _ _ _ hRG1), HOf.out.rowNew (Nat.le_refl _) _⟩

end Go.Proofs.YtpboaadjbkaidaaDoor
